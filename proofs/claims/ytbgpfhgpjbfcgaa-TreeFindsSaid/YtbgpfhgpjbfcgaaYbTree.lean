import Derived.Test.YtbgpfhgpjbfcgaaVlL
import Derived.KernelRfl
import Derived.Test.YtbgpfhgpjbfcgaaProg
namespace Go.Proofs.Ytb
open Go.Vl

def int' (n : Int) : AV := .v (.int .i64 n)
def u32' (n : Int) : AV := .v (.int .u32 n)
def bool' (b : Bool) : AV := .v (.bool b)
def u32s (l : List Int) : AV := slOf 1 u32' 0 l

/-- A node: leaf?, number, place, low, high. -/
structure Node where
  leaf : Bool
  num : Int
  place : Int
  low : Int
  high : Int
def nodeA (n : Node) : AV := .ag [bool' n.leaf, u32' n.num, int' n.place, int' n.low, int' n.high]
def node0 : Node := ⟨false, 0, 0, 0, 0⟩
def nodes (l : List Node) : AV := slOf 5 nodeA node0 l
def nodeF (l : List Node) (k : Nat) : AV := nodeA (l.getD k node0)
def nmd3 : Option Nat → Option Vl.Id
  | none => none
  | some k => some (3, k)
def treeH (s5 s6 s7 nx : Nat) (out : List Node) (oi : Option Nat) : Heap :=
  ⟨[((0, s5), .c [.os 5 out.length (nodeF out) (nmd3 oi)]), ((1, s6), .c [.fn (.func 23) [] [.bp (0, s5) 0]]), ((2, s7), .c [.fn (.func 24) [] [.bp (1, s6) 0, .bp (2, s7) 0]])], pmOf (nmd3 oi) (out.length * 5), nx, 4⟩
theorem f23_spec (s5 s6 s7 nx : Nat) (out : List Node) (oi : Option Nat) (n : Node) (h : out.length ≤ 100000) (h0 : oi = none → out = []) :
    ECall Try.prog 23 [nodeA n, .bp (0, s5) 0] (treeH s5 s6 s7 nx out oi) (fun r h' => r = int' out.length ∧ ∃ k nx', h' = treeH s5 s6 s7 nx' (out ++ [n]) (some k)) := by
  refine ecall_of_aw Try.func23 rfl rfl ?_
  rcases oi with _ | id
  · obtain rfl := h0 rfl
    (repeat ((conv => whnf); first | refine aw_seq ?_ | refine aw_region ?_ | refine aw_block ?_ | refine aw_skip ?_ | refine aw_true rfl ?_ | refine aw_false rfl ?_ | refine aw_exit ?_ | refine aw_label ?_ | refine And.intro rfl ?_ | refine And.intro trivial ?_ | refine And.intro (And.intro rfl (Nat.le_of_ble_eq_true rfl)) ?_ | refine And.intro (And.intro (by kernel_rfl) (by kernel_rfl)) ?_ | refine And.intro (by decide) ?_ | refine lit_true ?_ | refine lit_false ?_))
    refine ⟨oneRow_one rfl, by show (0 + 1) * 32 ≤ _; omega, by decide, ?_⟩
    (repeat ((conv => whnf); first | refine aw_seq ?_ | refine aw_region ?_ | refine aw_block ?_ | refine aw_skip ?_ | refine aw_true rfl ?_ | refine aw_false rfl ?_ | refine aw_exit ?_ | refine aw_label ?_ | refine And.intro rfl ?_ | refine And.intro trivial ?_ | refine And.intro (And.intro rfl (Nat.le_of_ble_eq_true rfl)) ?_ | refine And.intro (And.intro (by kernel_rfl) (by kernel_rfl)) ?_ | refine And.intro (by decide) ?_ | refine lit_true ?_ | refine lit_false ?_))
    refine AW.le (ele_tell (nn := 4) (L := [(3, int' 0)]) (bx := (treeH s5 s6 s7 nx [n] (some (nx + 1))).bx) (pm := [((3, nx + 1), 5)]) _ _ rfl rfl (.cons_cons _ (.cons_cons _ (.cons_cons _ (.cons _ .slnil)))) (.cons_cons _ .slnil) ?_ ?_ ?_) ?_
    · refine ⟨rfl, ⟨AVle.trans (b := .os 5 1 (nodeF [n]) _) (AVle.os_fun (appF_one (fun k hk => absurd hk (Nat.not_lt_zero _)) rfl)) (AVle.os_nm rfl), trivial⟩, rfl, OwnLe.refl _, rfl, OwnLe.refl _, trivial⟩
    · exact ⟨rfl, rfl, trivial⟩
    · exact ⟨le_int rfl, trivial⟩
    (repeat ((conv => whnf); first | refine aw_seq ?_ | refine aw_region ?_ | refine aw_block ?_ | refine aw_skip ?_ | refine aw_true rfl ?_ | refine aw_false rfl ?_ | refine aw_exit ?_ | refine aw_label ?_ | refine aw_ret ?_ | refine And.intro rfl ?_ | refine And.intro trivial ?_ | refine And.intro (And.intro rfl (Nat.le_of_ble_eq_true rfl)) ?_ | refine And.intro (And.intro (by kernel_rfl) (by kernel_rfl)) ?_ | refine And.intro (by decide) ?_ | refine lit_true ?_ | refine lit_false ?_))
    refine ret_is rfl ⟨rfl, nx + 1, _, rfl⟩
  · (repeat ((conv => whnf); first | refine aw_seq ?_ | refine aw_region ?_ | refine aw_block ?_ | refine aw_skip ?_ | refine aw_true rfl ?_ | refine aw_false rfl ?_ | refine aw_exit ?_ | refine aw_label ?_ | refine And.intro rfl ?_ | refine And.intro trivial ?_ | refine And.intro (And.intro rfl (Nat.le_of_ble_eq_true rfl)) ?_ | refine And.intro (And.intro (by kernel_rfl) (by kernel_rfl)) ?_ | refine And.intro (by decide) ?_ | refine lit_true ?_ | refine lit_false ?_))
    refine ⟨oneRow_one rfl, by show (out.length + 1) * 32 ≤ _; omega, by omega, ?_⟩
    (repeat ((conv => whnf); first | refine aw_seq ?_ | refine aw_region ?_ | refine aw_block ?_ | refine aw_skip ?_ | refine aw_true rfl ?_ | refine aw_false rfl ?_ | refine aw_exit ?_ | refine aw_label ?_ | refine And.intro rfl ?_ | refine And.intro trivial ?_ | refine And.intro (And.intro rfl (Nat.le_of_ble_eq_true rfl)) ?_ | refine And.intro (And.intro (by kernel_rfl) (by kernel_rfl)) ?_ | refine And.intro (by decide) ?_ | refine lit_true ?_ | refine lit_false ?_))
    refine AW.le (ele_tell (nn := 4) (L := [(3, int' out.length)]) (bx := (treeH s5 s6 s7 nx (out ++ [n]) (some (nx + 1))).bx) (pm := [((3, nx + 1), (out ++ [n]).length * 5)]) _ _ rfl rfl (.cons_cons _ (.cons_cons _ (.cons_cons _ (.cons _ .slnil)))) (.cons_cons _ .slnil) ?_ ?_ ?_) ?_
    · refine ⟨rfl, ⟨AVle.trans (b := .os 5 (out.length + 1) (nodeF (out ++ [n])) _) (AVle.os_fun (appF_one (fun k hk => ?_) ?_)) ?_, trivial⟩, rfl, OwnLe.refl _, rfl, OwnLe.refl _, trivial⟩
      · simp [nodeF, List.getD, List.getElem?_append_left hk, hk]
      · simp [nodeF, List.getD]; rfl
      · simp only [List.length_append, List.length_cons, List.length_nil]; exact AVle.os_nm rfl
    · exact ⟨rfl, by simp; rfl, trivial⟩
    · exact ⟨le_int ((wrap_id (by omega) (by omega)).trans (by omega)), trivial⟩
    (repeat ((conv => whnf); first | refine aw_seq ?_ | refine aw_region ?_ | refine aw_block ?_ | refine aw_skip ?_ | refine aw_true rfl ?_ | refine aw_false rfl ?_ | refine aw_exit ?_ | refine aw_label ?_ | refine aw_ret ?_ | refine And.intro rfl ?_ | refine And.intro trivial ?_ | refine And.intro (And.intro rfl (Nat.le_of_ble_eq_true rfl)) ?_ | refine And.intro (And.intro (by kernel_rfl) (by kernel_rfl)) ?_ | refine And.intro (by decide) ?_ | refine lit_true ?_ | refine lit_false ?_))
    refine ret_is rfl ⟨rfl, nx + 1, _, rfl⟩

/-- The nodes that a tree of some numbers adds, from a base on. -/
def tr (l : List Int) (at_ base : Nat) : List Node :=
  if h : l.length ≤ 1 then [⟨true, l.getD 0 0, at_, 0, 0⟩]
  else
    let half := l.length / 2
    let L := tr (l.take half) at_ base
    let H := tr (l.drop half) (at_ + half) (base + L.length)
    L ++ H ++ [⟨false, l.getD half 0, 0, base + L.length - 1, base + L.length + H.length - 1⟩]
termination_by l.length
decreasing_by
  · simp; omega
  · simp; omega
theorem tr_one {l : List Int} {a b : Nat} (h : l.length ≤ 1) : tr l a b = [⟨true, l.getD 0 0, a, 0, 0⟩] := by
  rw [tr, dif_pos h]
theorem tr_more {l : List Int} {a b : Nat} (h : ¬ l.length ≤ 1) : tr l a b = tr (l.take (l.length / 2)) a b ++ tr (l.drop (l.length / 2)) (a + l.length / 2) (b + (tr (l.take (l.length / 2)) a b).length) ++
    [⟨false, l.getD (l.length / 2) 0, 0, b + (tr (l.take (l.length / 2)) a b).length - 1, b + (tr (l.take (l.length / 2)) a b).length + (tr (l.drop (l.length / 2)) (a + l.length / 2) (b + (tr (l.take (l.length / 2)) a b).length)).length - 1⟩] := by
  rw [tr, dif_neg h]
theorem tr_length : ∀ (n : Nat) (l : List Int) (a b : Nat), l.length = n → 1 ≤ n → (tr l a b).length = 2 * n - 1 := by
  intro n
  induction n using Nat.strongRecOn with
  | _ n ih =>
    intro l a b hn h1
    by_cases h : l.length ≤ 1
    · rw [tr_one h]; simp; omega
    · rw [tr_more h]
      have e1 := ih (l.length / 2) (by omega) (l.take (l.length / 2)) a b (by simp; omega) (by omega)
      have e2 := ih (l.length - l.length / 2) (by omega) (l.drop (l.length / 2)) (a + l.length / 2) (b + (tr (l.take (l.length / 2)) a b).length) (by simp) (by omega)
      simp only [List.length_append, List.length_cons, List.length_nil, e1] at e2 ⊢
      rw [e2]
      omega
theorem f24_spec : ∀ (N : Nat) (s5 s6 s7 nx : Nat) (l : List Int) (a : Nat) (out : List Node) (oi : Option Nat), l.length = N → 1 ≤ N → out.length + 2 * N ≤ 50000 → a + N ≤ 50000 → (oi = none → out = []) →
    ECall Try.prog 24 [u32s l, int' a, .bp (1, s6) 0, .bp (2, s7) 0] (treeH s5 s6 s7 nx out oi) (fun r h' => r = int' (out.length + 2 * N - 2 : Nat) ∧ ∃ k nx', h' = treeH s5 s6 s7 nx' (out ++ tr l a out.length) (some k)) := by
  intro N
  induction N using Nat.strongRecOn with
  | _ N ih =>
    intro s5 s6 s7 nx l a out oi hN h1 hb ha h0
    refine ecall_of_aw Try.func24 rfl rfl ?_
    (repeat ((conv => whnf); first | refine aw_seq ?_ | refine aw_region ?_ | refine aw_block ?_ | refine aw_skip ?_ | refine aw_true rfl ?_ | refine aw_false rfl ?_ | refine aw_exit ?_ | refine aw_label ?_ | refine aw_ret ?_ | refine And.intro rfl ?_ | refine And.intro trivial ?_ | refine And.intro (And.intro rfl (Nat.le_of_ble_eq_true rfl)) ?_ | refine And.intro (And.intro (by kernel_rfl) (by kernel_rfl)) ?_ | refine And.intro (by decide) ?_ | refine lit_true ?_ | refine lit_false ?_))
    intro c h2; cases c
    · have h3 : ¬ l.length ≤ 1 := by have := not_of (p := (l.length : Int) = 1) (by simpa using h2); omega
      have hl1 : (l.take (l.length / 2)).length = l.length / 2 := by simp; omega
      have hl2 : (l.drop (l.length / 2)).length = l.length - l.length / 2 := by simp
      have ht := tr_length (l.length / 2) (l.take (l.length / 2)) a out.length hl1 (by omega)
      have hw : IntKind.i64.wrap ((l.length : Int).tdiv 2) = ((l.length / 2 : Nat) : Int) := by rw [Int.tdiv_eq_ediv_of_nonneg (by omega), wrap_id (by omega) (by omega)]; omega
      (repeat ((conv => whnf); first | refine aw_seq ?_ | refine aw_region ?_ | refine aw_block ?_ | refine aw_skip ?_ | refine aw_true rfl ?_ | refine aw_false rfl ?_ | refine aw_exit ?_ | refine aw_label ?_ | refine aw_ret ?_ | refine And.intro rfl ?_ | refine And.intro trivial ?_ | refine And.intro (And.intro rfl (Nat.le_of_ble_eq_true rfl)) ?_ | refine And.intro (And.intro (by kernel_rfl) (by kernel_rfl)) ?_ | refine And.intro (by decide) ?_ | refine lit_true ?_ | refine lit_false ?_))
      (refine aw_draw 6 ?_ ?_ ?_ ?_; (· kernel_rfl); (· kernel_rfl); (· kernel_rfl))
      (repeat ((conv => whnf); first | refine aw_seq ?_ | refine aw_region ?_ | refine aw_block ?_ | refine aw_skip ?_ | refine aw_true rfl ?_ | refine aw_false rfl ?_ | refine aw_exit ?_ | refine aw_label ?_ | refine aw_ret ?_ | refine And.intro rfl ?_ | refine And.intro trivial ?_ | refine And.intro (And.intro rfl (Nat.le_of_ble_eq_true rfl)) ?_ | refine And.intro (And.intro (by kernel_rfl) (by kernel_rfl)) ?_ | refine And.intro (by decide) ?_ | refine lit_true ?_ | refine lit_false ?_))
      rw [hw]
      refine ⟨⟨by omega, by omega, rfl⟩, ?_⟩
      (repeat ((conv => whnf); first | refine aw_seq ?_ | refine aw_region ?_ | refine aw_block ?_ | refine aw_skip ?_ | refine aw_true rfl ?_ | refine aw_false rfl ?_ | refine aw_exit ?_ | refine aw_label ?_ | refine aw_ret ?_ | refine And.intro rfl ?_ | refine And.intro trivial ?_ | refine And.intro (And.intro rfl (Nat.le_of_ble_eq_true rfl)) ?_ | refine And.intro (And.intro (by kernel_rfl) (by kernel_rfl)) ?_ | refine And.intro (by decide) ?_ | refine lit_true ?_ | refine lit_false ?_))
      refine aop_call rfl rfl (ECall.args (bs := [u32s (l.take (l.length / 2)), int' a, .bp (1, s6) 0, .bp (2, s7) 0]) ⟨?_, AVle.refl _, AVle.refl _, AVle.refl _, trivial⟩ (ih (l.length / 2) (by omega) s5 s6 s7 nx (l.take (l.length / 2)) a out oi hl1 (by omega) (by omega) (by omega) h0)) fun r h' hq => ?_
      · refine AVle.os_sl.trans ?_
        show AVle (.sl 1 (l.length / 2) _) (.sl 1 (l.take (l.length / 2)).length _)
        rw [hl1]
        refine AVle.sl_fun fun k hk => ?_
        simp [List.getD, List.getElem?_take, hk]
      obtain ⟨rfl, k, nx', rfl⟩ := hq
      refine Named.same ?_
      have hw2 : IntKind.i64.wrap ((a : Int) + ((l.length / 2 : Nat) : Int)) = ((a + l.length / 2 : Nat) : Int) := by rw [wrap_id (by omega) (by omega)]; omega
      (repeat ((conv => whnf); first | refine aw_seq ?_ | refine aw_region ?_ | refine aw_block ?_ | refine aw_skip ?_ | refine aw_true rfl ?_ | refine aw_false rfl ?_ | refine aw_exit ?_ | refine aw_label ?_ | refine aw_ret ?_ | refine And.intro rfl ?_ | refine And.intro trivial ?_ | refine And.intro (And.intro rfl (Nat.le_of_ble_eq_true rfl)) ?_ | refine And.intro (And.intro (by kernel_rfl) (by kernel_rfl)) ?_ | refine And.intro (by decide) ?_ | refine lit_true ?_ | refine lit_false ?_))
      (refine aw_draw 7 ?_ ?_ ?_ ?_; (· kernel_rfl); (· kernel_rfl); (· kernel_rfl))
      (repeat ((conv => whnf); first | refine aw_seq ?_ | refine aw_region ?_ | refine aw_block ?_ | refine aw_skip ?_ | refine aw_true rfl ?_ | refine aw_false rfl ?_ | refine aw_exit ?_ | refine aw_label ?_ | refine aw_ret ?_ | refine And.intro rfl ?_ | refine And.intro trivial ?_ | refine And.intro (And.intro rfl (Nat.le_of_ble_eq_true rfl)) ?_ | refine And.intro (And.intro (by kernel_rfl) (by kernel_rfl)) ?_ | refine And.intro (by decide) ?_ | refine lit_true ?_ | refine lit_false ?_))
      refine ⟨⟨by omega, by omega⟩, ?_⟩
      (repeat ((conv => whnf); first | refine aw_seq ?_ | refine aw_region ?_ | refine aw_block ?_ | refine aw_skip ?_ | refine aw_true rfl ?_ | refine aw_false rfl ?_ | refine aw_exit ?_ | refine aw_label ?_ | refine aw_ret ?_ | refine And.intro rfl ?_ | refine And.intro trivial ?_ | refine And.intro (And.intro rfl (Nat.le_of_ble_eq_true rfl)) ?_ | refine And.intro (And.intro (by kernel_rfl) (by kernel_rfl)) ?_ | refine And.intro (by decide) ?_ | refine lit_true ?_ | refine lit_false ?_))
      refine aop_call rfl rfl (ECall.args (bs := [u32s (l.drop (l.length / 2)), int' ((a + l.length / 2 : Nat) : Int), .bp (1, s6) 0, .bp (2, s7) 0]) ⟨?_, le_int hw2, AVle.refl _, AVle.refl _, trivial⟩
        (ih (l.length - l.length / 2) (by omega) s5 s6 s7 nx' (l.drop (l.length / 2)) (a + l.length / 2) (out ++ tr (l.take (l.length / 2)) a out.length) (some k) hl2 (by omega) (by rw [List.length_append, ht]; omega) (by omega) (fun h => by cases h))) fun r h' hq => ?_
      · show AVle (.sl 1 (l.length - l.length / 2) _) (.sl 1 (l.drop (l.length / 2)).length _)
        rw [hl2]
        refine AVle.sl_fun fun k hk => ?_
        show u32' (l.getD (l.length / 2 + k) 0) = u32' ((l.drop (l.length / 2)).getD k 0)
        simp only [List.getD_eq_getElem?_getD, List.getElem?_drop]
      obtain ⟨rfl, k2, nx2, rfl⟩ := hq
      refine Named.same ?_
      (repeat ((conv => whnf); first | refine aw_seq ?_ | refine aw_region ?_ | refine aw_block ?_ | refine aw_skip ?_ | refine aw_true rfl ?_ | refine aw_false rfl ?_ | refine aw_exit ?_ | refine aw_label ?_ | refine aw_ret ?_ | refine And.intro rfl ?_ | refine And.intro trivial ?_ | refine And.intro (And.intro rfl (Nat.le_of_ble_eq_true rfl)) ?_ | refine And.intro (And.intro (by kernel_rfl) (by kernel_rfl)) ?_ | refine And.intro (by decide) ?_ | refine lit_true ?_ | refine lit_false ?_))
      (refine aw_draw 8 ?_ ?_ ?_ ?_; (· kernel_rfl); (· kernel_rfl); (· kernel_rfl))
      (repeat ((conv => whnf); first | refine aw_seq ?_ | refine aw_region ?_ | refine aw_block ?_ | refine aw_skip ?_ | refine aw_true rfl ?_ | refine aw_false rfl ?_ | refine aw_exit ?_ | refine aw_label ?_ | refine aw_ret ?_ | refine And.intro rfl ?_ | refine And.intro trivial ?_ | refine And.intro (And.intro rfl (Nat.le_of_ble_eq_true rfl)) ?_ | refine And.intro (And.intro (by kernel_rfl) (by kernel_rfl)) ?_ | refine And.intro (by decide) ?_ | refine lit_true ?_ | refine lit_false ?_))
      refine ⟨⟨by omega, by omega⟩, ?_⟩
      (repeat ((conv => whnf); first | refine aw_seq ?_ | refine aw_region ?_ | refine aw_block ?_ | refine aw_skip ?_ | refine aw_true rfl ?_ | refine aw_false rfl ?_ | refine aw_exit ?_ | refine aw_label ?_ | refine aw_ret ?_ | refine And.intro rfl ?_ | refine And.intro trivial ?_ | refine And.intro (And.intro rfl (Nat.le_of_ble_eq_true rfl)) ?_ | refine And.intro (And.intro (by kernel_rfl) (by kernel_rfl)) ?_ | refine And.intro (by decide) ?_ | refine lit_true ?_ | refine lit_false ?_))
      have ht2 := tr_length (l.length - l.length / 2) (l.drop (l.length / 2)) (a + l.length / 2) (out ++ tr (l.take (l.length / 2)) a out.length).length hl2 (by omega)
      refine aop_call rfl rfl (ECall.args (bs := [nodeA ⟨false, l.getD (l.length / 2) 0, 0, (out.length + 2 * (l.length / 2) - 2 : Nat), ((out ++ tr (l.take (l.length / 2)) a out.length).length + 2 * (l.length - l.length / 2) - 2 : Nat)⟩, .bp (0, s5) 0]) ⟨AVle.refl _, AVle.refl _, trivial⟩
        (f23_spec s5 s6 s7 nx2 ((out ++ tr (l.take (l.length / 2)) a out.length) ++ tr (l.drop (l.length / 2)) (a + l.length / 2) (out ++ tr (l.take (l.length / 2)) a out.length).length) (some k2) _ (by simp only [List.length_append] at ht2 ⊢; omega) (fun h => by cases h))) fun r h' hq => ?_
      obtain ⟨rfl, k3, nx3, rfl⟩ := hq
      refine Named.same ?_
      (repeat ((conv => whnf); first | refine aw_seq ?_ | refine aw_region ?_ | refine aw_block ?_ | refine aw_skip ?_ | refine aw_true rfl ?_ | refine aw_false rfl ?_ | refine aw_exit ?_ | refine aw_label ?_ | refine aw_ret ?_ | refine And.intro rfl ?_ | refine And.intro trivial ?_ | refine And.intro (And.intro rfl (Nat.le_of_ble_eq_true rfl)) ?_ | refine And.intro (And.intro (by kernel_rfl) (by kernel_rfl)) ?_ | refine And.intro (by decide) ?_ | refine lit_true ?_ | refine lit_false ?_))
      refine ret_is rfl ⟨?_, k3, nx3, ?_⟩
      · rw [show out.length + 2 * N - 2 = ((out ++ tr (l.take (l.length / 2)) a out.length) ++ tr (l.drop (l.length / 2)) (a + l.length / 2) (out ++ tr (l.take (l.length / 2)) a out.length).length).length by
          rw [List.length_append, ht2, List.length_append, ht]; omega]
        rfl
      · have e : out ++ tr l a out.length = ((out ++ tr (l.take (l.length / 2)) a out.length) ++ tr (l.drop (l.length / 2)) (a + l.length / 2) (out ++ tr (l.take (l.length / 2)) a out.length).length) ++
            [⟨false, l.getD (l.length / 2) 0, 0, (out.length + 2 * (l.length / 2) - 2 : Nat), ((out ++ tr (l.take (l.length / 2)) a out.length).length + 2 * (l.length - l.length / 2) - 2 : Nat)⟩] := by
          rw [tr_more h3]
          simp only [List.length_append] at ht2 ⊢
          rw [ht2, ht]
          simp only [List.append_assoc]
          congr 5
          all_goals omega
        rw [e]; rfl
    · have h3 : l.length = 1 := by have := yes_of (p := (l.length : Int) = 1) (by simpa using h2); omega
      (repeat ((conv => whnf); first | refine aw_seq ?_ | refine aw_region ?_ | refine aw_block ?_ | refine aw_skip ?_ | refine aw_true rfl ?_ | refine aw_false rfl ?_ | refine aw_exit ?_ | refine aw_label ?_ | refine aw_ret ?_ | refine And.intro rfl ?_ | refine And.intro trivial ?_ | refine And.intro (And.intro rfl (Nat.le_of_ble_eq_true rfl)) ?_ | refine And.intro (And.intro (by kernel_rfl) (by kernel_rfl)) ?_ | refine And.intro (by decide) ?_ | refine lit_true ?_ | refine lit_false ?_))
      (refine aw_draw 6 ?_ ?_ ?_ ?_; (· kernel_rfl); (· kernel_rfl); (· kernel_rfl))
      (repeat ((conv => whnf); first | refine aw_seq ?_ | refine aw_region ?_ | refine aw_block ?_ | refine aw_skip ?_ | refine aw_true rfl ?_ | refine aw_false rfl ?_ | refine aw_exit ?_ | refine aw_label ?_ | refine aw_ret ?_ | refine And.intro rfl ?_ | refine And.intro trivial ?_ | refine And.intro (And.intro rfl (Nat.le_of_ble_eq_true rfl)) ?_ | refine And.intro (And.intro (by kernel_rfl) (by kernel_rfl)) ?_ | refine And.intro (by decide) ?_ | refine lit_true ?_ | refine lit_false ?_))
      refine ⟨⟨by omega, by omega⟩, ?_⟩
      (repeat ((conv => whnf); first | refine aw_seq ?_ | refine aw_region ?_ | refine aw_block ?_ | refine aw_skip ?_ | refine aw_true rfl ?_ | refine aw_false rfl ?_ | refine aw_exit ?_ | refine aw_label ?_ | refine aw_ret ?_ | refine And.intro rfl ?_ | refine And.intro trivial ?_ | refine And.intro (And.intro rfl (Nat.le_of_ble_eq_true rfl)) ?_ | refine And.intro (And.intro (by kernel_rfl) (by kernel_rfl)) ?_ | refine And.intro (by decide) ?_ | refine lit_true ?_ | refine lit_false ?_))
      refine aop_call rfl rfl (ECall.args (bs := [nodeA ⟨true, l.getD 0 0, a, 0, 0⟩, .bp (0, s5) 0]) ⟨AVle.refl _, AVle.refl _, trivial⟩ (f23_spec s5 s6 s7 nx out oi ⟨true, l.getD 0 0, a, 0, 0⟩ (by omega) h0)) fun r h' hq => ?_
      obtain ⟨rfl, k, nx', rfl⟩ := hq
      refine Named.same ?_
      (repeat ((conv => whnf); first | refine aw_seq ?_ | refine aw_region ?_ | refine aw_block ?_ | refine aw_skip ?_ | refine aw_true rfl ?_ | refine aw_false rfl ?_ | refine aw_exit ?_ | refine aw_label ?_ | refine aw_ret ?_ | refine And.intro rfl ?_ | refine And.intro trivial ?_ | refine And.intro (And.intro rfl (Nat.le_of_ble_eq_true rfl)) ?_ | refine And.intro (And.intro (by kernel_rfl) (by kernel_rfl)) ?_ | refine And.intro (by decide) ?_ | refine lit_true ?_ | refine lit_false ?_))
      refine ret_is rfl ⟨?_, k, nx', ?_⟩
      · rw [show out.length + 2 * N - 2 = out.length by omega]; rfl
      · rw [tr_one (by omega)]; rfl

/-- Do the numbers rise? -/
def rises (l : List Int) : Prop := ∀ i, 1 ≤ i → i < l.length → l.getD (i - 1) 0 < l.getD i 0
end Go.Proofs.Ytb

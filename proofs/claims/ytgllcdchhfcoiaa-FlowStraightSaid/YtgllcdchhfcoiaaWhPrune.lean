import Derived.Test.YtgllcdchhfcoiaaWgReach
namespace Go.Proofs.W
open Go.Vl
set_option maxRecDepth 100000

def insF (l : List Ins) (k : Nat) : AV := insA (l.getD k ins0)
def nm3 : Option Nat → Option Vl.Id
  | none => none
  | some k => some (3, k)
def prB (s0 s1 s2 : Nat) (at' : List Nat) (out : List Ins) (oi : Option Nat) : List (Vl.Id × Own) :=
  [((2, s2), .c [.os 4 out.length (insF out) (nm3 oi)]), ((1, s1), .c [.hs (0, s0) 0 at'.length at'.length]), ((0, s0), .c (at'.map intA))]
theorem c3 : Try.prog.cellsOf 3 = 1 := by kernel_rfl
def toI (at' : List Nat) (n k : Nat) : Int := IntKind.i64.wrap ((at'.getD (n + 1 + k) 0 : Nat) - (at'.getD (n + 1) 0 : Nat))
theorem to_spec (at' : List Nat) (n k : Nat) (hk : n + 1 + k < at'.length) (hl : at'.length ≤ 1000000) :
    Tells Try.prog 50 [int k, .rp [ints at'], .rp [int n]] (int (toI at' n k)) := by
  have w1 : IntKind.i64.wrap ((n : Int) + 1) = ((n + 1 : Nat) : Int) := wrap_succ (by omega)
  have w2 : IntKind.i64.wrap (((n + 1 : Nat) : Int) + (k : Int)) = ((n + 1 + k : Nat) : Int) := by rw [wrap_id (by omega) (by omega)]; omega
  refine tells_of_aw Try.func50 rfl rfl fun nx => ?_
  (repeat ((conv => whnf); first | refine aw_seq ?_ | refine aw_region ?_ | refine aw_block ?_ | refine aw_skip ?_ | refine aw_true rfl ?_ | refine aw_false rfl ?_ | refine aw_exit ?_ | refine aw_label ?_ | refine aw_ret ?_ | refine And.intro rfl ?_ | refine And.intro trivial ?_ | refine And.intro (And.intro rfl (Nat.le_of_ble_eq_true rfl)) ?_ | refine And.intro (And.intro (by kernel_rfl) (by kernel_rfl)) ?_ | refine And.intro (by decide) ?_ | refine lit_true ?_ | refine lit_false ?_))
  (refine aw_draw 13 ?_ ?_ ?_ ?_; (· kernel_rfl); (· kernel_rfl); (· kernel_rfl))
  (repeat ((conv => whnf); first | refine aw_seq ?_ | refine aw_region ?_ | refine aw_block ?_ | refine aw_skip ?_ | refine aw_true rfl ?_ | refine aw_false rfl ?_ | refine aw_exit ?_ | refine aw_label ?_ | refine aw_ret ?_ | refine And.intro rfl ?_ | refine And.intro trivial ?_ | refine And.intro (And.intro rfl (Nat.le_of_ble_eq_true rfl)) ?_ | refine And.intro (And.intro (by kernel_rfl) (by kernel_rfl)) ?_ | refine And.intro (by decide) ?_ | refine lit_true ?_ | refine lit_false ?_))
  (conv => whnf)
  rw [w1, w2]
  refine ⟨⟨by omega, by omega⟩, ?_⟩
  (repeat ((conv => whnf); first | refine aw_seq ?_ | refine aw_region ?_ | refine aw_block ?_ | refine aw_skip ?_ | refine aw_true rfl ?_ | refine aw_false rfl ?_ | refine aw_exit ?_ | refine aw_label ?_ | refine aw_ret ?_ | refine And.intro rfl ?_ | refine And.intro trivial ?_ | refine And.intro (And.intro rfl (Nat.le_of_ble_eq_true rfl)) ?_ | refine And.intro (And.intro (by kernel_rfl) (by kernel_rfl)) ?_ | refine And.intro (by decide) ?_ | refine lit_true ?_ | refine lit_false ?_))
  (conv => whnf)
  rw [w1]
  refine ⟨⟨by omega, by omega⟩, ?_⟩
  (repeat ((conv => whnf); first | refine aw_seq ?_ | refine aw_region ?_ | refine aw_block ?_ | refine aw_skip ?_ | refine aw_true rfl ?_ | refine aw_false rfl ?_ | refine aw_exit ?_ | refine aw_label ?_ | refine aw_ret ?_ | refine And.intro rfl ?_ | refine And.intro trivial ?_ | refine And.intro (And.intro rfl (Nat.le_of_ble_eq_true rfl)) ?_ | refine And.intro (And.intro (by kernel_rfl) (by kernel_rfl)) ?_ | refine And.intro (by decide) ?_ | refine lit_true ?_ | refine lit_false ?_))
  exact ret_tells rfl (AVle.refl _)
def prAt (at' : List Nat) (n : Nat) (i : Ins) (k : Nat) : Ins :=
  if k = 13 then { i with k := (toI at' n i.k).toNat } else if 25 ≤ k then { i with jt := (toI at' n i.jt).toNat, jf := (toI at' n i.jf).toNat } else i
theorem u32_wrap {x : Int} {b : Nat} (h : 0 ≤ x ∧ x ≤ b) (hb : b < 4294967296) : IntKind.u32.wrap x = (x.toNat : Int) := by
  rw [IntWalk.u32_in _ (by omega)]; omega
theorem u8_wrap {x : Int} {b : Nat} (h : 0 ≤ x ∧ x ≤ b) (hb : b < 256) : IntKind.u8.wrap x = (x.toNat : Int) := by
  rw [IntWalk.u8_in _ (by omega)]; omega
theorem frz_at {bs : List (Nat × Own)} {s0 : Nat} {l : List Nat} (hm : (s0, .c (l.map intA)) ∈ bs) : Frz bs (.hs (0, s0) 0 l.length l.length) (ints l) :=
  Frz.hs1 (cs := l.map intA) hm (Nat.le_refl _) (by rw [List.length_map]; exact Nat.le_refl _) (fun _ _ => rfl) fun k hk => by
    rw [List.getElem?_map, List.getElem?_eq_getElem hk]
    simp [List.getD, hk]; rfl
theorem leave_spec (s0 s1 s2 nx : Nat) (at' : List Nat) (out : List Ins) (oi : Option Nat) (i : Ins) (n k : Nat) (hi : i.ok) (hl : at'.length ≤ 1000000) (ho : out.length ≤ 100000) (h0 : oi = none → out = [])
    (h1 : k = 13 → n + 1 + i.k < at'.length) (h2 : 25 ≤ k → n + 1 + i.jt < at'.length ∧ n + 1 + i.jf < at'.length)
    (hm : ∀ x, n + 1 + x < at'.length → 0 ≤ toI at' n x ∧ toI at' n x ≤ x) :
    ECall Try.prog 49 [int n, insA i, int k, .bp (1, s1) 0, .bp (2, s2) 0] ⟨prB s0 s1 s2 at' out oi, pmOf (nm3 oi) (out.length * 4), nx, 4⟩
      fun _ h' => ∃ id nx' nn', h' = ⟨prB s0 s1 s2 at' (out ++ [prAt at' n i k]) (some id), pmOf (nm3 (some id)) ((out ++ [prAt at' n i k]).length * 4), nx', nn'⟩ := by
  obtain ⟨i1, i2, i3, i4⟩ := hi
  refine ECall.wk (ecall_of_aw Try.func49 rfl rfl ?_)
  (repeat ((conv => whnf); first | refine aw_seq ?_ | refine aw_region ?_ | refine aw_block ?_ | refine aw_skip ?_ | refine aw_true rfl ?_ | refine aw_false rfl ?_ | refine aw_exit ?_ | refine aw_label ?_ | refine aw_ret ?_ | refine And.intro rfl ?_ | refine And.intro trivial ?_ | refine And.intro (And.intro rfl (Nat.le_of_ble_eq_true rfl)) ?_ | refine And.intro (And.intro (by kernel_rfl) (by kernel_rfl)) ?_ | refine And.intro (by decide) ?_ | refine lit_true ?_ | refine lit_false ?_))
  intro c g1; cases c
  · have g1 := not_of g1
    (repeat ((conv => whnf); first | refine aw_seq ?_ | refine aw_region ?_ | refine aw_block ?_ | refine aw_skip ?_ | refine aw_true rfl ?_ | refine aw_false rfl ?_ | refine aw_exit ?_ | refine aw_label ?_ | refine aw_ret ?_ | refine And.intro rfl ?_ | refine And.intro trivial ?_ | refine And.intro (And.intro rfl (Nat.le_of_ble_eq_true rfl)) ?_ | refine And.intro (And.intro (by kernel_rfl) (by kernel_rfl)) ?_ | refine And.intro (by decide) ?_ | refine lit_true ?_ | refine lit_false ?_))
    intro c g2; cases c
    · have g2 := not_of g2
      have hX : insA (prAt at' n i k) = .ag [u16 i.code, u8 i.jt, u8 i.jf, u32 i.k] := by unfold prAt; rw [if_neg (by omega), if_neg (by omega)]; rfl
      (repeat ((conv => whnf); first | refine aw_seq ?_ | refine aw_block ?_ | refine aw_skip ?_ | refine aw_true rfl ?_ | refine aw_false rfl ?_ | refine aw_exit ?_ | refine aw_label ?_ | refine aw_ret ?_ | refine And.intro rfl ?_ | refine And.intro trivial ?_ | refine And.intro (And.intro rfl (Nat.le_of_ble_eq_true rfl)) ?_ | refine And.intro (And.intro (by kernel_rfl) (by kernel_rfl)) ?_ | refine And.intro (by decide) ?_ | refine lit_true ?_ | refine lit_false ?_))
      refine aw_region ?_
      rcases oi with _ | id
      · obtain rfl := h0 rfl
        (repeat ((conv => whnf); first | refine aw_seq ?_ | refine aw_region ?_ | refine aw_block ?_ | refine aw_skip ?_ | refine aw_true rfl ?_ | refine aw_false rfl ?_ | refine aw_exit ?_ | refine aw_label ?_ | refine aw_ret ?_ | refine And.intro rfl ?_ | refine And.intro trivial ?_ | refine And.intro (And.intro rfl (Nat.le_of_ble_eq_true rfl)) ?_ | refine And.intro (And.intro (by kernel_rfl) (by kernel_rfl)) ?_ | refine And.intro (by decide) ?_ | refine lit_true ?_ | refine lit_false ?_))
        refine ⟨oneRow_one rfl, by show (0 + 1) * 8 ≤ _; omega, by decide, ?_⟩
        (repeat ((conv => whnf); first | refine aw_seq ?_ | refine aw_region ?_ | refine aw_block ?_ | refine aw_skip ?_ | refine aw_true rfl ?_ | refine aw_false rfl ?_ | refine aw_exit ?_ | refine aw_label ?_ | refine aw_ret ?_ | refine And.intro rfl ?_ | refine And.intro trivial ?_ | refine And.intro (And.intro rfl (Nat.le_of_ble_eq_true rfl)) ?_ | refine And.intro (And.intro (by kernel_rfl) (by kernel_rfl)) ?_ | refine And.intro (by decide) ?_ | refine lit_true ?_ | refine lit_false ?_))
        refine ret_is rfl ⟨_, _, AVle.refl _, hle_tell (nn := 4) (bx := prB s0 s1 s2 at' [prAt at' n i k] (some (nx + 2))) (pm := [((3, nx + 2), 4)]) _ _ rfl (.cons _ (.cons _ (.cons_cons _ (.cons_cons _ (.cons_cons _ .slnil))))) (.cons_cons _ .slnil) ?_ ?_, nx + 2, _, 4, rfl⟩
        · exact ⟨rfl, ⟨AVle.trans (b := .os 4 1 (insF [prAt at' n i k]) _) (AVle.os_fun (appF_one (fun k hk => absurd hk (Nat.not_lt_zero _)) hX.symm)) (AVle.os_nm rfl), trivial⟩, rfl, OwnLe.refl _, rfl, OwnLe.refl _, trivial⟩
        · exact ⟨rfl, rfl, trivial⟩
      · (repeat ((conv => whnf); first | refine aw_seq ?_ | refine aw_region ?_ | refine aw_block ?_ | refine aw_skip ?_ | refine aw_true rfl ?_ | refine aw_false rfl ?_ | refine aw_exit ?_ | refine aw_label ?_ | refine aw_ret ?_ | refine And.intro rfl ?_ | refine And.intro trivial ?_ | refine And.intro (And.intro rfl (Nat.le_of_ble_eq_true rfl)) ?_ | refine And.intro (And.intro (by kernel_rfl) (by kernel_rfl)) ?_ | refine And.intro (by decide) ?_ | refine lit_true ?_ | refine lit_false ?_))
        refine ⟨oneRow_one rfl, by show (out.length + 1) * 8 ≤ _; omega, by omega, ?_⟩
        (repeat ((conv => whnf); first | refine aw_seq ?_ | refine aw_region ?_ | refine aw_block ?_ | refine aw_skip ?_ | refine aw_true rfl ?_ | refine aw_false rfl ?_ | refine aw_exit ?_ | refine aw_label ?_ | refine aw_ret ?_ | refine And.intro rfl ?_ | refine And.intro trivial ?_ | refine And.intro (And.intro rfl (Nat.le_of_ble_eq_true rfl)) ?_ | refine And.intro (And.intro (by kernel_rfl) (by kernel_rfl)) ?_ | refine And.intro (by decide) ?_ | refine lit_true ?_ | refine lit_false ?_))
        refine ret_is rfl ⟨_, _, AVle.refl _, hle_tell (nn := 4) (bx := prB s0 s1 s2 at' (out ++ [prAt at' n i k]) (some (nx + 2))) (pm := [((3, nx + 2), (out ++ [prAt at' n i k]).length * 4)]) _ _ rfl (.cons _ (.cons _ (.cons_cons _ (.cons_cons _ (.cons_cons _ .slnil))))) (.cons_cons _ .slnil) ?_ ?_, nx + 2, _, 4, rfl⟩
        · refine ⟨rfl, ⟨AVle.trans (b := .os 4 (out.length + 1) (insF (out ++ [prAt at' n i k])) _) (AVle.os_fun (appF_one (fun k hk => ?_) ?_)) ?_, trivial⟩, rfl, OwnLe.refl _, rfl, OwnLe.refl _, trivial⟩
          · simp [insF, List.getD, List.getElem?_append_left hk, hk]
          · simp [insF, List.getD]; exact hX.symm
          · simp only [List.length_append, List.length_cons, List.length_nil]; exact AVle.os_nm rfl
        · exact ⟨rfl, by simp; rfl, trivial⟩
    · have g2 := yes_of g2
      have hwk : IntKind.i64.wrap (i.jt : Int) = i.jt := wrap_id (by omega) (by omega)
      have hwf : IntKind.i64.wrap (i.jf : Int) = i.jf := wrap_id (by omega) (by omega)
      obtain ⟨j1, j2⟩ := h2 (by omega)
      have hX : insA (prAt at' n i k) = .ag [u16 i.code, u8 (IntKind.u8.wrap (toI at' n i.jt)), u8 (IntKind.u8.wrap (toI at' n i.jf)), u32 i.k] := by
        unfold prAt; rw [if_neg (by omega), if_pos (by omega), u8_wrap (hm i.jt j1) i2, u8_wrap (hm i.jf j2) i3]; rfl
      (repeat ((conv => whnf); first | refine aw_seq ?_ | refine aw_region ?_ | refine aw_block ?_ | refine aw_skip ?_ | refine aw_true rfl ?_ | refine aw_false rfl ?_ | refine aw_exit ?_ | refine aw_label ?_ | refine aw_ret ?_ | refine And.intro rfl ?_ | refine And.intro trivial ?_ | refine And.intro (And.intro rfl (Nat.le_of_ble_eq_true rfl)) ?_ | refine And.intro (And.intro (by kernel_rfl) (by kernel_rfl)) ?_ | refine And.intro (by decide) ?_ | refine lit_true ?_ | refine lit_false ?_))
      refine aw_drawZ (ds := .int .i64) (kd := .u8) 13 11 (by kernel_rfl) (by kernel_rfl) (by kernel_rfl) rfl rfl rfl (by kernel_rfl) (by kernel_rfl) (by decide) ?_
      (repeat ((conv => whnf); first | refine aw_seq ?_ | refine aw_region ?_ | refine aw_block ?_ | refine aw_skip ?_ | refine aw_true rfl ?_ | refine aw_false rfl ?_ | refine aw_exit ?_ | refine aw_label ?_ | refine aw_ret ?_ | refine And.intro rfl ?_ | refine And.intro trivial ?_ | refine And.intro (And.intro rfl (Nat.le_of_ble_eq_true rfl)) ?_ | refine And.intro (And.intro (by kernel_rfl) (by kernel_rfl)) ?_ | refine And.intro (by decide) ?_ | refine lit_true ?_ | refine lit_false ?_))
      refine ex_yields (yields_look rfl rfl (to_spec at' n i.jt j1 hl) ⟨Frz.of_le (le_int hwk), Frz.bpL (.tail _ (.tail _ (.tail _ (.head _)))) ⟨frz_at (.tail _ (.tail _ (.tail _ (.tail _ (.head _))))), trivial⟩, Frz.bpL (.tail _ (.head _)) ⟨Frz.refl _, trivial⟩, trivial⟩ (Flat.v _)) ?_
      (repeat ((conv => whnf); first | refine aw_seq ?_ | refine aw_region ?_ | refine aw_block ?_ | refine aw_skip ?_ | refine aw_true rfl ?_ | refine aw_false rfl ?_ | refine aw_exit ?_ | refine aw_label ?_ | refine aw_ret ?_ | refine And.intro rfl ?_ | refine And.intro trivial ?_ | refine And.intro (And.intro rfl (Nat.le_of_ble_eq_true rfl)) ?_ | refine And.intro (And.intro (by kernel_rfl) (by kernel_rfl)) ?_ | refine And.intro (by decide) ?_ | refine lit_true ?_ | refine lit_false ?_))
      refine ex_yields (yields_look rfl rfl (to_spec at' n i.jf j2 hl) ⟨Frz.of_le (le_int hwf), Frz.bpL (.tail _ (.tail _ (.tail _ (.head _)))) ⟨frz_at (.tail _ (.tail _ (.tail _ (.tail _ (.head _))))), trivial⟩, Frz.bpL (.tail _ (.head _)) ⟨Frz.refl _, trivial⟩, trivial⟩ (Flat.v _)) ?_
      (repeat ((conv => whnf); first | refine aw_seq ?_ | refine aw_region ?_ | refine aw_block ?_ | refine aw_skip ?_ | refine aw_true rfl ?_ | refine aw_false rfl ?_ | refine aw_exit ?_ | refine aw_label ?_ | refine aw_ret ?_ | refine And.intro rfl ?_ | refine And.intro trivial ?_ | refine And.intro (And.intro rfl (Nat.le_of_ble_eq_true rfl)) ?_ | refine And.intro (And.intro (by kernel_rfl) (by kernel_rfl)) ?_ | refine And.intro (by decide) ?_ | refine lit_true ?_ | refine lit_false ?_))
      refine ⟨⟨_, _, rfl⟩, ?_⟩
      (repeat ((conv => whnf); first | refine aw_seq ?_ | refine aw_block ?_ | refine aw_skip ?_ | refine aw_true rfl ?_ | refine aw_false rfl ?_ | refine aw_exit ?_ | refine aw_label ?_ | refine aw_ret ?_ | refine And.intro rfl ?_ | refine And.intro trivial ?_ | refine And.intro (And.intro rfl (Nat.le_of_ble_eq_true rfl)) ?_ | refine And.intro (And.intro (by kernel_rfl) (by kernel_rfl)) ?_ | refine And.intro (by decide) ?_ | refine lit_true ?_ | refine lit_false ?_))
      refine aw_region ?_
      rcases oi with _ | id
      · obtain rfl := h0 rfl
        (repeat ((conv => whnf); first | refine aw_seq ?_ | refine aw_region ?_ | refine aw_block ?_ | refine aw_skip ?_ | refine aw_true rfl ?_ | refine aw_false rfl ?_ | refine aw_exit ?_ | refine aw_label ?_ | refine aw_ret ?_ | refine And.intro rfl ?_ | refine And.intro trivial ?_ | refine And.intro (And.intro rfl (Nat.le_of_ble_eq_true rfl)) ?_ | refine And.intro (And.intro (by kernel_rfl) (by kernel_rfl)) ?_ | refine And.intro (by decide) ?_ | refine lit_true ?_ | refine lit_false ?_))
        refine ⟨oneRow_one rfl, by show (0 + 1) * 8 ≤ _; omega, by decide, ?_⟩
        (repeat ((conv => whnf); first | refine aw_seq ?_ | refine aw_region ?_ | refine aw_block ?_ | refine aw_skip ?_ | refine aw_true rfl ?_ | refine aw_false rfl ?_ | refine aw_exit ?_ | refine aw_label ?_ | refine aw_ret ?_ | refine And.intro rfl ?_ | refine And.intro trivial ?_ | refine And.intro (And.intro rfl (Nat.le_of_ble_eq_true rfl)) ?_ | refine And.intro (And.intro (by kernel_rfl) (by kernel_rfl)) ?_ | refine And.intro (by decide) ?_ | refine lit_true ?_ | refine lit_false ?_))
        refine ret_is rfl ⟨_, _, AVle.refl _, hle_tell (nn := 4) (bx := prB s0 s1 s2 at' [prAt at' n i k] (some (nx + 2))) (pm := [((3, nx + 2), 4)]) _ _ rfl (.cons _ (.cons _ (.cons_cons _ (.cons_cons _ (.cons_cons _ .slnil))))) (.cons_cons _ .slnil) ?_ ?_, nx + 2, _, 4, rfl⟩
        · exact ⟨rfl, ⟨AVle.trans (b := .os 4 1 (insF [prAt at' n i k]) _) (AVle.os_fun (appF_one (fun k hk => absurd hk (Nat.not_lt_zero _)) hX.symm)) (AVle.os_nm rfl), trivial⟩, rfl, OwnLe.refl _, rfl, OwnLe.refl _, trivial⟩
        · exact ⟨rfl, rfl, trivial⟩
      · (repeat ((conv => whnf); first | refine aw_seq ?_ | refine aw_region ?_ | refine aw_block ?_ | refine aw_skip ?_ | refine aw_true rfl ?_ | refine aw_false rfl ?_ | refine aw_exit ?_ | refine aw_label ?_ | refine aw_ret ?_ | refine And.intro rfl ?_ | refine And.intro trivial ?_ | refine And.intro (And.intro rfl (Nat.le_of_ble_eq_true rfl)) ?_ | refine And.intro (And.intro (by kernel_rfl) (by kernel_rfl)) ?_ | refine And.intro (by decide) ?_ | refine lit_true ?_ | refine lit_false ?_))
        refine ⟨oneRow_one rfl, by show (out.length + 1) * 8 ≤ _; omega, by omega, ?_⟩
        (repeat ((conv => whnf); first | refine aw_seq ?_ | refine aw_region ?_ | refine aw_block ?_ | refine aw_skip ?_ | refine aw_true rfl ?_ | refine aw_false rfl ?_ | refine aw_exit ?_ | refine aw_label ?_ | refine aw_ret ?_ | refine And.intro rfl ?_ | refine And.intro trivial ?_ | refine And.intro (And.intro rfl (Nat.le_of_ble_eq_true rfl)) ?_ | refine And.intro (And.intro (by kernel_rfl) (by kernel_rfl)) ?_ | refine And.intro (by decide) ?_ | refine lit_true ?_ | refine lit_false ?_))
        refine ret_is rfl ⟨_, _, AVle.refl _, hle_tell (nn := 4) (bx := prB s0 s1 s2 at' (out ++ [prAt at' n i k]) (some (nx + 2))) (pm := [((3, nx + 2), (out ++ [prAt at' n i k]).length * 4)]) _ _ rfl (.cons _ (.cons _ (.cons_cons _ (.cons_cons _ (.cons_cons _ .slnil))))) (.cons_cons _ .slnil) ?_ ?_, nx + 2, _, 4, rfl⟩
        · refine ⟨rfl, ⟨AVle.trans (b := .os 4 (out.length + 1) (insF (out ++ [prAt at' n i k])) _) (AVle.os_fun (appF_one (fun k hk => ?_) ?_)) ?_, trivial⟩, rfl, OwnLe.refl _, rfl, OwnLe.refl _, trivial⟩
          · simp [insF, List.getD, List.getElem?_append_left hk, hk]
          · simp [insF, List.getD]; exact hX.symm
          · simp only [List.length_append, List.length_cons, List.length_nil]; exact AVle.os_nm rfl
        · exact ⟨rfl, by simp; rfl, trivial⟩
  · have g1 := yes_of g1
    have hwk : IntKind.i64.wrap (i.k : Int) = i.k := wrap_id (by omega) (by omega)
    have hX : insA (prAt at' n i k) = .ag [u16 i.code, u8 i.jt, u8 i.jf, u32 (IntKind.u32.wrap (toI at' n i.k))] := by
      unfold prAt; rw [if_pos (by omega), u32_wrap (hm i.k (h1 (by omega))) i4]; rfl
    (repeat ((conv => whnf); first | refine aw_seq ?_ | refine aw_region ?_ | refine aw_block ?_ | refine aw_skip ?_ | refine aw_true rfl ?_ | refine aw_false rfl ?_ | refine aw_exit ?_ | refine aw_label ?_ | refine aw_ret ?_ | refine And.intro rfl ?_ | refine And.intro trivial ?_ | refine And.intro (And.intro rfl (Nat.le_of_ble_eq_true rfl)) ?_ | refine And.intro (And.intro (by kernel_rfl) (by kernel_rfl)) ?_ | refine And.intro (by decide) ?_ | refine lit_true ?_ | refine lit_false ?_))
    refine AOp.of_yields (yields_look rfl rfl (to_spec at' n i.k (h1 (by omega)) hl) ⟨Frz.of_le (le_int hwk), Frz.bpL (.tail _ (.tail _ (.tail _ (.head _)))) ⟨frz_at (.tail _ (.tail _ (.tail _ (.tail _ (.head _))))), trivial⟩, Frz.bpL (.tail _ (.head _)) ⟨Frz.refl _, trivial⟩, trivial⟩ (Flat.v _)) ?_
    (repeat ((conv => whnf); first | refine aw_seq ?_ | refine aw_block ?_ | refine aw_skip ?_ | refine aw_true rfl ?_ | refine aw_false rfl ?_ | refine aw_exit ?_ | refine aw_label ?_ | refine aw_ret ?_ | refine And.intro rfl ?_ | refine And.intro trivial ?_ | refine And.intro (And.intro rfl (Nat.le_of_ble_eq_true rfl)) ?_ | refine And.intro (And.intro (by kernel_rfl) (by kernel_rfl)) ?_ | refine And.intro (by decide) ?_ | refine lit_true ?_ | refine lit_false ?_))
    refine aw_region ?_
    rcases oi with _ | id
    · obtain rfl := h0 rfl
      (repeat ((conv => whnf); first | refine aw_seq ?_ | refine aw_region ?_ | refine aw_block ?_ | refine aw_skip ?_ | refine aw_true rfl ?_ | refine aw_false rfl ?_ | refine aw_exit ?_ | refine aw_label ?_ | refine aw_ret ?_ | refine And.intro rfl ?_ | refine And.intro trivial ?_ | refine And.intro (And.intro rfl (Nat.le_of_ble_eq_true rfl)) ?_ | refine And.intro (And.intro (by kernel_rfl) (by kernel_rfl)) ?_ | refine And.intro (by decide) ?_ | refine lit_true ?_ | refine lit_false ?_))
      refine ⟨oneRow_one rfl, by show (0 + 1) * 8 ≤ _; omega, by decide, ?_⟩
      (repeat ((conv => whnf); first | refine aw_seq ?_ | refine aw_region ?_ | refine aw_block ?_ | refine aw_skip ?_ | refine aw_true rfl ?_ | refine aw_false rfl ?_ | refine aw_exit ?_ | refine aw_label ?_ | refine aw_ret ?_ | refine And.intro rfl ?_ | refine And.intro trivial ?_ | refine And.intro (And.intro rfl (Nat.le_of_ble_eq_true rfl)) ?_ | refine And.intro (And.intro (by kernel_rfl) (by kernel_rfl)) ?_ | refine And.intro (by decide) ?_ | refine lit_true ?_ | refine lit_false ?_))
      refine ret_is rfl ⟨_, _, AVle.refl _, hle_tell (nn := 4) (bx := prB s0 s1 s2 at' [prAt at' n i k] (some (nx + 2))) (pm := [((3, nx + 2), 4)]) _ _ rfl (.cons _ (.cons _ (.cons_cons _ (.cons_cons _ (.cons_cons _ .slnil))))) (.cons_cons _ .slnil) ?_ ?_, nx + 2, _, 4, rfl⟩
      · exact ⟨rfl, ⟨AVle.trans (b := .os 4 1 (insF [prAt at' n i k]) _) (AVle.os_fun (appF_one (fun k hk => absurd hk (Nat.not_lt_zero _)) hX.symm)) (AVle.os_nm rfl), trivial⟩, rfl, OwnLe.refl _, rfl, OwnLe.refl _, trivial⟩
      · exact ⟨rfl, rfl, trivial⟩
    · (repeat ((conv => whnf); first | refine aw_seq ?_ | refine aw_region ?_ | refine aw_block ?_ | refine aw_skip ?_ | refine aw_true rfl ?_ | refine aw_false rfl ?_ | refine aw_exit ?_ | refine aw_label ?_ | refine aw_ret ?_ | refine And.intro rfl ?_ | refine And.intro trivial ?_ | refine And.intro (And.intro rfl (Nat.le_of_ble_eq_true rfl)) ?_ | refine And.intro (And.intro (by kernel_rfl) (by kernel_rfl)) ?_ | refine And.intro (by decide) ?_ | refine lit_true ?_ | refine lit_false ?_))
      refine ⟨oneRow_one rfl, by show (out.length + 1) * 8 ≤ _; omega, by omega, ?_⟩
      (repeat ((conv => whnf); first | refine aw_seq ?_ | refine aw_region ?_ | refine aw_block ?_ | refine aw_skip ?_ | refine aw_true rfl ?_ | refine aw_false rfl ?_ | refine aw_exit ?_ | refine aw_label ?_ | refine aw_ret ?_ | refine And.intro rfl ?_ | refine And.intro trivial ?_ | refine And.intro (And.intro rfl (Nat.le_of_ble_eq_true rfl)) ?_ | refine And.intro (And.intro (by kernel_rfl) (by kernel_rfl)) ?_ | refine And.intro (by decide) ?_ | refine lit_true ?_ | refine lit_false ?_))
      refine ret_is rfl ⟨_, _, AVle.refl _, hle_tell (nn := 4) (bx := prB s0 s1 s2 at' (out ++ [prAt at' n i k]) (some (nx + 2))) (pm := [((3, nx + 2), (out ++ [prAt at' n i k]).length * 4)]) _ _ rfl (.cons _ (.cons _ (.cons_cons _ (.cons_cons _ (.cons_cons _ .slnil))))) (.cons_cons _ .slnil) ?_ ?_, nx + 2, _, 4, rfl⟩
      · refine ⟨rfl, ⟨AVle.trans (b := .os 4 (out.length + 1) (insF (out ++ [prAt at' n i k])) _) (AVle.os_fun (appF_one (fun k hk => ?_) ?_)) ?_, trivial⟩, rfl, OwnLe.refl _, rfl, OwnLe.refl _, trivial⟩
        · simp [insF, List.getD, List.getElem?_append_left hk, hk]
        · simp [insF, List.getD]; exact hX.symm
        · simp only [List.length_append, List.length_cons, List.length_nil]; exact AVle.os_nm rfl
      · exact ⟨rfl, by simp; rfl, trivial⟩
end Go.Proofs.W

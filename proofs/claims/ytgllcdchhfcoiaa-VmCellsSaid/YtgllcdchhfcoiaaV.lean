import Derived.Test.YtgllcdchhfcoiaaR
set_option linter.unusedVariables false
set_option linter.unusedSimpArgs false
namespace Go.Proofs.W
open Go.Vl
set_option maxRecDepth 100000

def progC (a b i k : Nat) : List Ins := [⟨0, 0, 0, a⟩, ⟨2, 0, 0, i⟩, ⟨1, 0, 0, b⟩, ⟨3, 0, 0, k⟩, ⟨96, 0, 0, i⟩, ⟨22, 0, 0, 0⟩]
def progQ (a b : Nat) : List Ins := [⟨0, 0, 0, a⟩, ⟨1, 0, 0, b⟩, ⟨60, 0, 0, 0⟩, ⟨4, 0, 0, 1⟩, ⟨22, 0, 0, 0⟩]
def wantC (a b i k : Nat) : Nat := if i = k then b else a
def wantQ (a b : Nat) : Nat := if b = 0 then 0 else (a / b + 1) % 4294967296
theorem cells_formed {a b i k : Nat} (hi : i < 16) (hk : k < 16) : Formed (progC a b i k) := by
  refine ⟨by show 0 < 6; decide, by show 6 ≤ 4096; decide, fun n hn => ?_, .inr rfl⟩
  have hn : n < 6 := hn
  match n, hn with
  | 0, _ => rfl
  | 1, _ => show wrongI ⟨2, 0, 0, i⟩ 4 = 0; unfold wrongI; rw [show kof 2 = (8, false) from rfl]; simp; omega
  | 2, _ => rfl
  | 3, _ => show wrongI ⟨3, 0, 0, k⟩ 2 = 0; unfold wrongI; rw [show kof 3 = (9, false) from rfl]; simp; omega
  | 4, _ => show wrongI ⟨96, 0, 0, i⟩ 1 = 0; unfold wrongI; rw [show kof 96 = (3, false) from rfl]; simp; omega
  | 5, _ => rfl
theorem cells_right {a b i k : Nat} (hi : i < 16) (hk : k < 16) : Right (progC a b i k) := by
  refine ⟨cells_formed hi hk, fun n hn hkd hr => ?_⟩
  have hn : n < 6 := hn
  have key : ∀ m, Rch (progC a b i k) (stopC (progC a b i k) i) m → m ≤ 1 := by
    intro m hm
    induction hm with
    | zero => exact Nat.zero_le _
    | step m t h1 h2 h3 ih =>
      match m, ih with
      | 0, _ =>
        have : t ∈ [0 + 1] := h3
        have := List.mem_singleton.1 this
        omega
      | 1, _ =>
        have : stopC (progC a b i k) i 1 = true := by
          unfold stopC
          rw [Bool.and_eq_true]
          exact ⟨decide_eq_true (.inl rfl), decide_eq_true rfl⟩
        rw [this] at h2; cases h2
  match n, hn with
  | 0, _ => rcases hkd with h | h <;> cases h
  | 1, _ => rcases hkd with h | h <;> cases h
  | 2, _ => rcases hkd with h | h <;> cases h
  | 3, _ => rcases hkd with h | h <;> cases h
  | 4, _ => exact absurd (key 4 hr) (by decide)
  | 5, _ => rcases hkd with h | h <;> cases h
def rnC (at' a x steps : Nat) (cells : List Nat) : Rn := ⟨at', a, x, cells, steps, []⟩
theorem cells_run {a b i k : Nat} (hi : i < 16) (hk : k < 16) : (runI z64 (progC a b i k)).1 = wantC a b i k ∧ (runI z64 (progC a b i k)).2.steps = 6 := by
  have e0 : stepV z64 (progC a b i k) rn0 = (none, rnC 1 a 0 1 (List.replicate 16 0)) := rfl
  have e1 : stepV z64 (progC a b i k) (rnC 1 a 0 1 (List.replicate 16 0)) = (none, rnC 2 a 0 2 ((List.replicate 16 0).set i a)) := rfl
  have e2 : ∀ cs, stepV z64 (progC a b i k) (rnC 2 a 0 2 cs) = (none, rnC 3 a b 3 cs) := fun cs => rfl
  have e3 : ∀ cs, stepV z64 (progC a b i k) (rnC 3 a b 3 cs) = (none, rnC 4 a b 4 (cs.set k b)) := fun cs => rfl
  have e4 : ∀ cs, stepV z64 (progC a b i k) (rnC 4 a b 4 cs) = (none, rnC 5 (cs.getD i 0) b 5 cs) := fun cs => rfl
  have e5 : ∀ v cs, stepV z64 (progC a b i k) (rnC 5 v b 5 cs) = (some v, rnC 6 v b 6 cs) := fun v cs => rfl
  unfold runI
  show (runV z64 (progC a b i k) 6 rn0).1 = _ ∧ (runV z64 (progC a b i k) 6 rn0).2.steps = 6
  rw [run_step e0, run_step e1, run_step (e2 _), run_step (e3 _), run_step (e4 _), run_end (e5 _ _)]
  refine ⟨?_, rfl⟩
  show (((List.replicate 16 0).set i a).set k b).getD i 0 = _
  rw [getDL_set, getDL_set]
  unfold wantC
  by_cases h : k = i
  · rw [if_pos ⟨h, by simp; omega⟩, if_pos h.symm]
  · rw [if_neg (fun hh => h hh.1), if_pos ⟨rfl, by simp; omega⟩, if_neg (fun hh => h hh.symm)]
theorem quot_run (a b : Nat) : (runI z64 (progQ a b)).1 = wantQ a b ∧ (runI z64 (progQ a b)).2.steps = if b = 0 then 3 else 5 := by
  have e0 : stepV z64 (progQ a b) rn0 = (none, rnz 1 a 0 1) := rfl
  have e1 : stepV z64 (progQ a b) (rnz 1 a 0 1) = (none, rnz 2 a b 2) := rfl
  have e2 : stepV z64 (progQ a b) (rnz 2 a b 2) = doV z64 ⟨60, 0, 0, 0⟩ (rnz 3 a b 3) := rfl
  have e3 : ∀ v, stepV z64 (progQ a b) (rnz 3 v b 3) = doV z64 ⟨4, 0, 0, 1⟩ (rnz 4 v b 4) := fun v => rfl
  have e4 : ∀ v, stepV z64 (progQ a b) (rnz 4 v b 4) = (some v, rnz 5 v b 5) := fun v => rfl
  have hk : kof 60 = (19, true) := rfl
  have hk4 : kof 4 = (16, false) := rfl
  have halt : altV ⟨60, 0, 0, 0⟩ (rnz 3 a b 3) = b := by unfold altV; rw [hk]; rfl
  have halt4 : ∀ v, altV ⟨4, 0, 0, 1⟩ (rnz 4 v b 4) = 1 := fun v => by unfold altV; rw [hk4]; exact if_neg Bool.false_ne_true
  rw [doV_reck (by rw [hk]; decide) (by rw [hk]; decide), halt, hk] at e2
  have e2' : stepV z64 (progQ a b) (rnz 2 a b 2) = match reckV 19 a b with | some v => (none, rnz 3 v b 3) | none => (some 0, rnz 3 a b 3) := e2
  have e3' : ∀ v, stepV z64 (progQ a b) (rnz 3 v b 3) = (none, rnz 4 ((v + 1) % 4294967296) b 4) := fun v => by
    rw [e3 v, doV_reck (by rw [hk4]; decide) (by rw [hk4]; decide), halt4, hk4]; rfl
  unfold runI
  show (runV z64 (progQ a b) 5 rn0).1 = _ ∧ (runV z64 (progQ a b) 5 rn0).2.steps = _
  rw [run_step e0, run_step e1]
  unfold wantQ
  by_cases h : b = 0
  · have hr : reckV 19 a b = none := by simp only [reckV, if_pos h]
    rw [hr] at e2'
    rw [run_end e2', if_pos h, if_pos h]
    exact ⟨rfl, rfl⟩
  · have hr : reckV 19 a b = some (a / b) := by simp only [reckV, if_neg h]
    rw [hr] at e2'
    rw [run_step e2', run_step (e3' _), run_end (e4 _), if_neg h, if_neg h]
    exact ⟨rfl, rfl⟩
theorem quot_check (a b : Nat) : (checkI (progQ a b)).2 = 0 := by kernel_rfl
theorem okC {a b i k : Nat} (ha : a < 4294967296) (hb : b < 4294967296) (hi : i < 16) (hk : k < 16) : okL (progC a b i k) := by
  intro x hx
  simp only [progC, List.mem_cons, List.not_mem_nil, or_false] at hx
  rcases hx with rfl | rfl | rfl | rfl | rfl | rfl
  · exact ⟨by show 0 < 65536; decide, by show 0 < 256; decide, by show 0 < 256; decide, ha⟩
  · exact ⟨by show 2 < 65536; decide, by show 0 < 256; decide, by show 0 < 256; decide, by show i < 4294967296; omega⟩
  · exact ⟨by show 1 < 65536; decide, by show 0 < 256; decide, by show 0 < 256; decide, hb⟩
  · exact ⟨by show 3 < 65536; decide, by show 0 < 256; decide, by show 0 < 256; decide, by show k < 4294967296; omega⟩
  · exact ⟨by show 96 < 65536; decide, by show 0 < 256; decide, by show 0 < 256; decide, by show i < 4294967296; omega⟩
  · exact ⟨by show 22 < 65536; decide, by show 0 < 256; decide, by show 0 < 256; decide, by show 0 < 4294967296; decide⟩
theorem okQ {a b : Nat} (ha : a < 4294967296) (hb : b < 4294967296) : okL (progQ a b) := by
  intro x hx
  simp only [progQ, List.mem_cons, List.not_mem_nil, or_false] at hx
  rcases hx with rfl | rfl | rfl | rfl | rfl
  · exact ⟨by show 0 < 65536; decide, by show 0 < 256; decide, by show 0 < 256; decide, ha⟩
  · exact ⟨by show 1 < 65536; decide, by show 0 < 256; decide, by show 0 < 256; decide, hb⟩
  · exact ⟨by show 60 < 65536; decide, by show 0 < 256; decide, by show 0 < 256; decide, by show 0 < 4294967296; decide⟩
  · exact ⟨by show 4 < 65536; decide, by show 0 < 256; decide, by show 0 < 256; decide, by show 1 < 4294967296; decide⟩
  · exact ⟨by show 22 < 65536; decide, by show 0 < 256; decide, by show 0 < 256; decide, by show 0 < 4294967296; decide⟩
theorem vmC_spec {a b i k : Nat} (ha : a < 4294967296) (hb : b < 4294967296) (hi : i < 16) (hk : k < 16) : ∃ s : Rn, s.steps = 6 ∧ Tells Try.prog 33 [inss (progC a b i k), bytesA z64] (.tup [outA (wantC a b i k) s, int (0 : Nat)]) := by
  have hvm := vmrun_spec (progC a b i k) (okC ha hb hi hk) (by show 6 ≤ _; decide) z64 okz (by decide)
  obtain ⟨h1, h2⟩ := cells_run (a := a) (b := b) hi hk
  have hv : vmI (progC a b i k) z64 = (0, wantC a b i k, (runI z64 (progC a b i k)).2) := by
    unfold vmI
    rw [if_neg (by rw [check_iff.2 (cells_right hi hk)]; simp), if_neg (by decide), if_neg (by decide), ← h1]
  rw [hv] at hvm
  exact ⟨_, h2, hvm⟩
theorem vmQ_spec {a b : Nat} (ha : a < 4294967296) (hb : b < 4294967296) : ∃ s : Rn, (s.steps = if b = 0 then 3 else 5) ∧ Tells Try.prog 33 [inss (progQ a b), bytesA z64] (.tup [outA (wantQ a b) s, int (0 : Nat)]) := by
  have hvm := vmrun_spec (progQ a b) (okQ ha hb) (by show 5 ≤ _; decide) z64 okz (by decide)
  obtain ⟨h1, h2⟩ := quot_run a b
  have hv : vmI (progQ a b) z64 = (0, wantQ a b, (runI z64 (progQ a b)).2) := by
    unfold vmI
    rw [if_neg (by rw [quot_check]; simp), if_neg (by decide), if_neg (by decide), ← h1]
  rw [hv] at hvm
  exact ⟨_, h2, hvm⟩
theorem build6 (a i b k : Int) : abuildCells Try.prog 23 6 [(0, .ag [u16 0, u8 0, u8 0, .v (.int .u32 a)]), (1, .ag [u16 2, u8 0, u8 0, .v (.int .u32 i)]), (2, .ag [u16 1, u8 0, u8 0, .v (.int .u32 b)]), (3, .ag [u16 3, u8 0, u8 0, .v (.int .u32 k)]), (4, .ag [u16 96, u8 0, u8 0, .v (.int .u32 i)]), (5, .ag [u16 22, u8 0, u8 0, u32 0])] =
    some (51, [u16 0, u8 0, u8 0, .v (.int .u32 a), u16 2, u8 0, u8 0, .v (.int .u32 i), u16 1, u8 0, u8 0, .v (.int .u32 b), u16 3, u8 0, u8 0, .v (.int .u32 k), u16 96, u8 0, u8 0, .v (.int .u32 i), u16 22, u8 0, u8 0, u32 0]) := by kernel_rfl
theorem build5 (a b : Int) : abuildCells Try.prog 23 5 [(0, .ag [u16 0, u8 0, u8 0, .v (.int .u32 a)]), (1, .ag [u16 1, u8 0, u8 0, .v (.int .u32 b)]), (2, .ag [u16 60, u8 0, u8 0, u32 0]), (3, .ag [u16 4, u8 0, u8 0, u32 1]), (4, .ag [u16 22, u8 0, u8 0, u32 0])] =
    some (51, [u16 0, u8 0, u8 0, .v (.int .u32 a), u16 1, u8 0, u8 0, .v (.int .u32 b), u16 60, u8 0, u8 0, u32 0, u16 4, u8 0, u8 0, u32 1, u16 22, u8 0, u8 0, u32 0]) := by kernel_rfl
structure Cel where
  a : Nat
  b : Nat
  c : Nat
  d : Nat
def celA (z : Cel) : AV := .ag [u32 z.a, u32 z.b, u8 z.c, u8 z.d]
def Cel.ok (z : Cel) : Prop := z.a < 4294967296 ∧ z.b < 4294967296 ∧ z.c < 256 ∧ z.d < 256
set_option maxHeartbeats 4000000 in
theorem vmcells_spec (z : Cel) (hz : z.ok) : PCall Try.prog 13 [celA z] (fun r => r = .v (.bool true)) := by
  obtain ⟨a, b, c, d⟩ := z
  obtain ⟨ha, hb, hc, hd⟩ := hz
  dsimp only at ha hb hc hd
  obtain ⟨s, hs6, hvm⟩ := vmC_spec (i := c % 16) (k := d % 16) ha hb (Nat.mod_lt _ (by decide)) (Nat.mod_lt _ (by decide))
  obtain ⟨s', hs5, hvq⟩ := vmQ_spec ha hb
  have hci : (IntKind.u32.wrap (c : Int)).tmod 16 = ((c % 16 : Nat) : Int) := by rw [w32_id (by omega)]; rfl
  have hdi : (IntKind.u32.wrap (d : Int)).tmod 16 = ((d % 16 : Nat) : Int) := by rw [w32_id (by omega)]; rfl
  refine pcall_of_aw Try.func13 rfl rfl fun nx => ?_
  (repeat ((conv => whnf); first | refine aw_seq ?_ | refine aw_region ?_ | refine aw_block ?_ | refine aw_skip ?_ | refine aw_true rfl ?_ | refine aw_false rfl ?_ | refine aw_exit ?_ | refine aw_label ?_ | refine aw_ret ?_ | refine And.intro rfl ?_ | refine And.intro trivial ?_ | refine And.intro (And.intro rfl (Nat.le_of_ble_eq_true rfl)) ?_ | refine And.intro (And.intro (by kernel_rfl) (by kernel_rfl)) ?_ | refine And.intro (by decide) ?_ | refine lit_true ?_ | refine lit_false ?_))
  (refine aw_draw 12 ?_ ?_ ?_ ?_; (· kernel_rfl); (· kernel_rfl); (· kernel_rfl))
  (repeat ((conv => whnf); first | refine aw_seq ?_ | refine aw_region ?_ | refine aw_block ?_ | refine aw_skip ?_ | refine aw_true rfl ?_ | refine aw_false rfl ?_ | refine aw_exit ?_ | refine aw_label ?_ | refine aw_ret ?_ | refine And.intro rfl ?_ | refine And.intro trivial ?_ | refine And.intro (And.intro rfl (Nat.le_of_ble_eq_true rfl)) ?_ | refine And.intro (And.intro (by kernel_rfl) (by kernel_rfl)) ?_ | refine And.intro (by decide) ?_ | refine lit_true ?_ | refine lit_false ?_))
  intro c g; cases c
  · have g : c % 16 ≠ d % 16 := fun h => fct_b0.1 g (by rw [hci, hdi, h])
    (repeat ((conv => whnf); first | refine aw_seq ?_ | refine aw_block ?_ | refine aw_skip ?_ | refine aw_true rfl ?_ | refine aw_false rfl ?_ | refine aw_exit ?_ | refine aw_label ?_ | refine aw_ret ?_ | refine And.intro rfl ?_ | refine And.intro trivial ?_ | refine And.intro (And.intro rfl (Nat.le_of_ble_eq_true rfl)) ?_ | refine And.intro (And.intro (by kernel_rfl) (by kernel_rfl)) ?_ | refine And.intro (by decide) ?_ | refine lit_true ?_ | refine lit_false ?_))
    refine aw_reset (n := 104) (bx := []) (pm := []) (nx := nx + 1) (nn := 0) (df := some []) (L := [(2, boolA false), (3, u32 a), (4, u32 b), (7, u32 (c % 16 : Nat)), (8, u32 (d % 16 : Nat)), (9, u32 (wantC a b (c % 16) (d % 16) : Nat))]) rfl rfl rfl (List.nil_sublist _) (List.nil_sublist _) ⟨AVle.refl _, AVle.refl _, AVle.refl _, le_int hci, le_int hdi, le_int (by rw [wantC, if_neg g]), trivial⟩ ?_
    generalize wantC a b (c % 16) (d % 16) = w at hvm
    refine aw_regionY (fun n => match n with | 0 => true | 1 => true | _ => false) 13 ?_
    (repeat ((conv => whnf); first | refine aw_seq ?_ | refine aw_region ?_ | refine aw_block ?_ | refine aw_skip ?_ | refine aw_true rfl ?_ | refine aw_false rfl ?_ | refine aw_exit ?_ | refine aw_label ?_ | refine aw_ret ?_ | refine And.intro rfl ?_ | refine And.intro trivial ?_ | refine And.intro (And.intro rfl (Nat.le_of_ble_eq_true rfl)) ?_ | refine And.intro (And.intro (by kernel_rfl) (by kernel_rfl)) ?_ | refine And.intro (by decide) ?_ | refine lit_true ?_ | refine lit_false ?_))
    refine aop_build rfl (build6 _ _ _ _) ?_
    refine aop_makeF (xs := z64) (f := fun k : Nat => u8 k) rfl Try.underlying55 rfl rfl made64 (fun _ => rfl) bytes64 (by decide) ?_
    (repeat ((conv => whnf); first | refine aw_seq ?_ | refine aw_region ?_ | refine aw_block ?_ | refine aw_skip ?_ | refine aw_true rfl ?_ | refine aw_false rfl ?_ | refine aw_exit ?_ | refine aw_label ?_ | refine aw_ret ?_ | refine And.intro rfl ?_ | refine And.intro trivial ?_ | refine And.intro (And.intro rfl (Nat.le_of_ble_eq_true rfl)) ?_ | refine And.intro (And.intro (by kernel_rfl) (by kernel_rfl)) ?_ | refine And.intro (by decide) ?_ | refine lit_true ?_ | refine lit_false ?_))
    refine aop_tells rfl rfl hvm ⟨AVle.os_sl.trans (AVle.sl_fun (allK_use ⟨⟨⟨⟨⟨⟨trivial, rfl⟩, rfl⟩, rfl⟩, rfl⟩, rfl⟩, rfl⟩)), AVle.refl _, trivial⟩ fun nx2 => ?_
    ((repeat ((conv => whnf); first | refine aw_seq ?_ | refine aw_block ?_ | refine aw_skip ?_ | refine aw_true rfl ?_ | refine aw_false rfl ?_ | refine aw_exit ?_ | refine aw_label ?_ | refine aw_ret ?_ | refine And.intro rfl ?_ | refine And.intro trivial ?_ | refine And.intro (And.intro rfl (Nat.le_of_ble_eq_true rfl)) ?_ | refine And.intro (And.intro (by kernel_rfl) (by kernel_rfl)) ?_ | refine And.intro (by decide) ?_ | refine lit_true ?_ | refine lit_false ?_)))
    refine aw_reset (n := 104) (bx := [((0, nx2), .c [u32 w, int s.steps, ints s.loads])]) (pm := []) (nx := nx2 + 1) (nn := 1) (df := some []) (L := [(2, boolA false), (3, u32 a), (4, u32 b), (9, u32 w), (10, .bp (0, nx2) 0), (11, int 0)]) rfl rfl rfl (List.Sublist.refl _) (List.nil_sublist _) ⟨AVle.refl _, AVle.refl _, AVle.refl _, AVle.refl _, AVle.refl _, AVle.refl _, trivial⟩ ?_
    refine aw_regionY (fun n => match n with | 0 => true | 1 => true | _ => false) 9 ?_
    (repeat ((conv => whnf); first | refine aw_seq ?_ | refine aw_region ?_ | refine aw_block ?_ | refine aw_skip ?_ | refine aw_true rfl ?_ | refine aw_false rfl ?_ | refine aw_exit ?_ | refine aw_label ?_ | refine aw_ret ?_ | refine And.intro rfl ?_ | refine And.intro trivial ?_ | refine And.intro (And.intro rfl (Nat.le_of_ble_eq_true rfl)) ?_ | refine And.intro (And.intro (by kernel_rfl) (by kernel_rfl)) ?_ | refine And.intro (by decide) ?_ | refine lit_true ?_ | refine lit_false ?_))
    refine aop_build rfl (build5 _ _) ?_
    refine aop_makeF (xs := z64) (f := fun k : Nat => u8 k) rfl Try.underlying55 rfl rfl made64 (fun _ => rfl) bytes64 (by decide) ?_
    (repeat ((conv => whnf); first | refine aw_seq ?_ | refine aw_region ?_ | refine aw_block ?_ | refine aw_skip ?_ | refine aw_true rfl ?_ | refine aw_false rfl ?_ | refine aw_exit ?_ | refine aw_label ?_ | refine aw_ret ?_ | refine And.intro rfl ?_ | refine And.intro trivial ?_ | refine And.intro (And.intro rfl (Nat.le_of_ble_eq_true rfl)) ?_ | refine And.intro (And.intro (by kernel_rfl) (by kernel_rfl)) ?_ | refine And.intro (by decide) ?_ | refine lit_true ?_ | refine lit_false ?_))
    by_cases hb0 : b = 0
    · have hq0 : wantQ a b = 0 := if_pos hb0
      rw [hq0] at hvq
      rw [if_pos hb0] at hs5
      refine aop_tells rfl rfl hvq ⟨AVle.os_sl.trans (AVle.sl_fun (allK_use ⟨⟨⟨⟨⟨trivial, rfl⟩, rfl⟩, rfl⟩, rfl⟩, rfl⟩)), AVle.refl _, trivial⟩ fun nx3 => ?_
      (repeat ((conv => whnf); first | refine aw_seq ?_ | refine aw_region ?_ | refine aw_block ?_ | refine aw_skip ?_ | refine aw_true rfl ?_ | refine aw_false rfl ?_ | refine aw_exit ?_ | refine aw_label ?_ | refine aw_ret ?_ | refine And.intro rfl ?_ | refine And.intro trivial ?_ | refine And.intro (And.intro rfl (Nat.le_of_ble_eq_true rfl)) ?_ | refine And.intro (And.intro (by kernel_rfl) (by kernel_rfl)) ?_ | refine And.intro (by decide) ?_ | refine lit_true ?_ | refine lit_false ?_))
      intro c z; cases c
      · (repeat ((conv => whnf); first | refine aw_seq ?_ | refine aw_region ?_ | refine aw_block ?_ | refine aw_skip ?_ | refine aw_true rfl ?_ | refine aw_false rfl ?_ | refine aw_exit ?_ | refine aw_label ?_ | refine aw_ret ?_ | refine And.intro rfl ?_ | refine And.intro trivial ?_ | refine And.intro (And.intro rfl (Nat.le_of_ble_eq_true rfl)) ?_ | refine And.intro (And.intro (by kernel_rfl) (by kernel_rfl)) ?_ | refine And.intro (by decide) ?_ | refine lit_true ?_ | refine lit_false ?_))
        (intro c hc; obtain rfl : c = true := hc.trans (beq_self_eq_true _); (repeat ((conv => whnf); first | refine aw_seq ?_ | refine aw_region ?_ | refine aw_block ?_ | refine aw_skip ?_ | refine aw_true rfl ?_ | refine aw_false rfl ?_ | refine aw_exit ?_ | refine aw_label ?_ | refine aw_ret ?_ | refine And.intro rfl ?_ | refine And.intro trivial ?_ | refine And.intro (And.intro rfl (Nat.le_of_ble_eq_true rfl)) ?_ | refine And.intro (And.intro (by kernel_rfl) (by kernel_rfl)) ?_ | refine And.intro (by decide) ?_ | refine lit_true ?_ | refine lit_false ?_)))
        intro c6 h6
        obtain rfl : c6 = true := h6.trans (by rw [hs6]; rfl)
        (repeat ((conv => whnf); first | refine aw_seq ?_ | refine aw_region ?_ | refine aw_block ?_ | refine aw_skip ?_ | refine aw_true rfl ?_ | refine aw_false rfl ?_ | refine aw_exit ?_ | refine aw_label ?_ | refine aw_ret ?_ | refine And.intro rfl ?_ | refine And.intro trivial ?_ | refine And.intro (And.intro rfl (Nat.le_of_ble_eq_true rfl)) ?_ | refine And.intro (And.intro (by kernel_rfl) (by kernel_rfl)) ?_ | refine And.intro (by decide) ?_ | refine lit_true ?_ | refine lit_false ?_))
        intro c7 h7
        obtain rfl : c7 = true := h7.trans (by rw [hs5]; rfl)
        (repeat ((conv => whnf); first | refine aw_seq ?_ | refine aw_region ?_ | refine aw_block ?_ | refine aw_skip ?_ | refine aw_true rfl ?_ | refine aw_false rfl ?_ | refine aw_exit ?_ | refine aw_label ?_ | refine aw_ret ?_ | refine And.intro rfl ?_ | refine And.intro trivial ?_ | refine And.intro (And.intro rfl (Nat.le_of_ble_eq_true rfl)) ?_ | refine And.intro (And.intro (by kernel_rfl) (by kernel_rfl)) ?_ | refine And.intro (by decide) ?_ | refine lit_true ?_ | refine lit_false ?_))
        intro c8 h8
        obtain rfl : c8 = true := h8.trans (by simp; omega)
        (repeat ((conv => whnf); first | refine aw_seq ?_ | refine aw_region ?_ | refine aw_block ?_ | refine aw_skip ?_ | refine aw_true rfl ?_ | refine aw_false rfl ?_ | refine aw_exit ?_ | refine aw_label ?_ | refine aw_ret ?_ | refine And.intro rfl ?_ | refine And.intro trivial ?_ | refine And.intro (And.intro rfl (Nat.le_of_ble_eq_true rfl)) ?_ | refine And.intro (And.intro (by kernel_rfl) (by kernel_rfl)) ?_ | refine And.intro (by decide) ?_ | refine lit_true ?_ | refine lit_false ?_))
        refine aop_tells rfl rfl awake6_spec trivial fun nx4 => ?_
        (repeat ((conv => whnf); first | refine aw_seq ?_ | refine aw_region ?_ | refine aw_block ?_ | refine aw_skip ?_ | refine aw_true rfl ?_ | refine aw_false rfl ?_ | refine aw_exit ?_ | refine aw_label ?_ | refine aw_ret ?_ | refine And.intro rfl ?_ | refine And.intro trivial ?_ | refine And.intro (And.intro rfl (Nat.le_of_ble_eq_true rfl)) ?_ | refine And.intro (And.intro (by kernel_rfl) (by kernel_rfl)) ?_ | refine And.intro (by decide) ?_ | refine lit_true ?_ | refine lit_false ?_))
        refine ret_is rfl rfl
      · exact absurd hb0 (by have := bne_yes z; omega)
    · have hq0 : wantQ a b = (a / b + 1) % 4294967296 := if_neg hb0
      have hqv : IntKind.u32.wrap (IntKind.u32.wrap ((a : Int).tdiv b) + 1) = (((a / b + 1) % 4294967296 : Nat) : Int) := by rw [quo32 ha]; exact add32 (a / b) 1
      rw [hq0] at hvq
      rw [if_neg hb0] at hs5
      generalize (a / b + 1) % 4294967296 = q at hvq hqv
      refine aop_tells rfl rfl hvq ⟨AVle.os_sl.trans (AVle.sl_fun (allK_use ⟨⟨⟨⟨⟨trivial, rfl⟩, rfl⟩, rfl⟩, rfl⟩, rfl⟩)), AVle.refl _, trivial⟩ fun nx3 => ?_
      (repeat ((conv => whnf); first | refine aw_seq ?_ | refine aw_region ?_ | refine aw_block ?_ | refine aw_skip ?_ | refine aw_true rfl ?_ | refine aw_false rfl ?_ | refine aw_exit ?_ | refine aw_label ?_ | refine aw_ret ?_ | refine And.intro rfl ?_ | refine And.intro trivial ?_ | refine And.intro (And.intro rfl (Nat.le_of_ble_eq_true rfl)) ?_ | refine And.intro (And.intro (by kernel_rfl) (by kernel_rfl)) ?_ | refine And.intro (by decide) ?_ | refine lit_true ?_ | refine lit_false ?_))
      intro c z; cases c
      · exact absurd (show b = 0 by have := bne_no z; omega) hb0
      · (repeat ((conv => whnf); first | refine aw_seq ?_ | refine aw_region ?_ | refine aw_block ?_ | refine aw_skip ?_ | refine aw_true rfl ?_ | refine aw_false rfl ?_ | refine aw_exit ?_ | refine aw_label ?_ | refine aw_ret ?_ | refine And.intro rfl ?_ | refine And.intro trivial ?_ | refine And.intro (And.intro rfl (Nat.le_of_ble_eq_true rfl)) ?_ | refine And.intro (And.intro (by kernel_rfl) (by kernel_rfl)) ?_ | refine And.intro (by decide) ?_ | refine lit_true ?_ | refine lit_false ?_))
        refine ⟨bne_yes z, ?_⟩
        (repeat ((conv => whnf); first | refine aw_seq ?_ | refine aw_region ?_ | refine aw_block ?_ | refine aw_skip ?_ | refine aw_true rfl ?_ | refine aw_false rfl ?_ | refine aw_exit ?_ | refine aw_label ?_ | refine aw_ret ?_ | refine And.intro rfl ?_ | refine And.intro trivial ?_ | refine And.intro (And.intro rfl (Nat.le_of_ble_eq_true rfl)) ?_ | refine And.intro (And.intro (by kernel_rfl) (by kernel_rfl)) ?_ | refine And.intro (by decide) ?_ | refine lit_true ?_ | refine lit_false ?_))
        (intro c hc; obtain rfl : c = true := hc.trans (beq_self_eq_true _); (repeat ((conv => whnf); first | refine aw_seq ?_ | refine aw_region ?_ | refine aw_block ?_ | refine aw_skip ?_ | refine aw_true rfl ?_ | refine aw_false rfl ?_ | refine aw_exit ?_ | refine aw_label ?_ | refine aw_ret ?_ | refine And.intro rfl ?_ | refine And.intro trivial ?_ | refine And.intro (And.intro rfl (Nat.le_of_ble_eq_true rfl)) ?_ | refine And.intro (And.intro (by kernel_rfl) (by kernel_rfl)) ?_ | refine And.intro (by decide) ?_ | refine lit_true ?_ | refine lit_false ?_)))
        intro c6 h6
        obtain rfl : c6 = true := h6.trans (by rw [hs6]; rfl)
        (repeat ((conv => whnf); first | refine aw_seq ?_ | refine aw_region ?_ | refine aw_block ?_ | refine aw_skip ?_ | refine aw_true rfl ?_ | refine aw_false rfl ?_ | refine aw_exit ?_ | refine aw_label ?_ | refine aw_ret ?_ | refine And.intro rfl ?_ | refine And.intro trivial ?_ | refine And.intro (And.intro rfl (Nat.le_of_ble_eq_true rfl)) ?_ | refine And.intro (And.intro (by kernel_rfl) (by kernel_rfl)) ?_ | refine And.intro (by decide) ?_ | refine lit_true ?_ | refine lit_false ?_))
        intro c9 h9
        obtain rfl : c9 = true := h9.trans (by rw [hqv]; exact beq_self_eq_true _)
        (repeat ((conv => whnf); first | refine aw_seq ?_ | refine aw_region ?_ | refine aw_block ?_ | refine aw_skip ?_ | refine aw_true rfl ?_ | refine aw_false rfl ?_ | refine aw_exit ?_ | refine aw_label ?_ | refine aw_ret ?_ | refine And.intro rfl ?_ | refine And.intro trivial ?_ | refine And.intro (And.intro rfl (Nat.le_of_ble_eq_true rfl)) ?_ | refine And.intro (And.intro (by kernel_rfl) (by kernel_rfl)) ?_ | refine And.intro (by decide) ?_ | refine lit_true ?_ | refine lit_false ?_))
        intro c7 h7
        obtain rfl : c7 = false := h7.trans (by rw [hs5]; rfl)
        (repeat ((conv => whnf); first | refine aw_seq ?_ | refine aw_region ?_ | refine aw_block ?_ | refine aw_skip ?_ | refine aw_true rfl ?_ | refine aw_false rfl ?_ | refine aw_exit ?_ | refine aw_label ?_ | refine aw_ret ?_ | refine And.intro rfl ?_ | refine And.intro trivial ?_ | refine And.intro (And.intro rfl (Nat.le_of_ble_eq_true rfl)) ?_ | refine And.intro (And.intro (by kernel_rfl) (by kernel_rfl)) ?_ | refine And.intro (by decide) ?_ | refine lit_true ?_ | refine lit_false ?_))
        intro c8 h8
        obtain rfl : c8 = false := h8.trans (by simp; omega)
        (repeat ((conv => whnf); first | refine aw_seq ?_ | refine aw_region ?_ | refine aw_block ?_ | refine aw_skip ?_ | refine aw_true rfl ?_ | refine aw_false rfl ?_ | refine aw_exit ?_ | refine aw_label ?_ | refine aw_ret ?_ | refine And.intro rfl ?_ | refine And.intro trivial ?_ | refine And.intro (And.intro rfl (Nat.le_of_ble_eq_true rfl)) ?_ | refine And.intro (And.intro (by kernel_rfl) (by kernel_rfl)) ?_ | refine And.intro (by decide) ?_ | refine lit_true ?_ | refine lit_false ?_))
        refine aop_tells rfl rfl awake6_spec trivial fun nx4 => ?_
        (repeat ((conv => whnf); first | refine aw_seq ?_ | refine aw_region ?_ | refine aw_block ?_ | refine aw_skip ?_ | refine aw_true rfl ?_ | refine aw_false rfl ?_ | refine aw_exit ?_ | refine aw_label ?_ | refine aw_ret ?_ | refine And.intro rfl ?_ | refine And.intro trivial ?_ | refine And.intro (And.intro rfl (Nat.le_of_ble_eq_true rfl)) ?_ | refine And.intro (And.intro (by kernel_rfl) (by kernel_rfl)) ?_ | refine And.intro (by decide) ?_ | refine lit_true ?_ | refine lit_false ?_))
        refine ret_is rfl rfl
  · have g : c % 16 = d % 16 := by have := fct_b1.1 g; rw [hci, hdi] at this; omega
    (repeat ((conv => whnf); first | refine aw_seq ?_ | refine aw_block ?_ | refine aw_skip ?_ | refine aw_true rfl ?_ | refine aw_false rfl ?_ | refine aw_exit ?_ | refine aw_label ?_ | refine aw_ret ?_ | refine And.intro rfl ?_ | refine And.intro trivial ?_ | refine And.intro (And.intro rfl (Nat.le_of_ble_eq_true rfl)) ?_ | refine And.intro (And.intro (by kernel_rfl) (by kernel_rfl)) ?_ | refine And.intro (by decide) ?_ | refine lit_true ?_ | refine lit_false ?_))
    refine aw_region ?_
    (repeat ((conv => whnf); first | refine aw_seq ?_ | refine aw_block ?_ | refine aw_skip ?_ | refine aw_true rfl ?_ | refine aw_false rfl ?_ | refine aw_exit ?_ | refine aw_label ?_ | refine aw_ret ?_ | refine And.intro rfl ?_ | refine And.intro trivial ?_ | refine And.intro (And.intro rfl (Nat.le_of_ble_eq_true rfl)) ?_ | refine And.intro (And.intro (by kernel_rfl) (by kernel_rfl)) ?_ | refine And.intro (by decide) ?_ | refine lit_true ?_ | refine lit_false ?_))
    refine aw_reset (n := 104) (bx := []) (pm := []) (nx := nx + 1) (nn := 0) (df := some []) (L := [(2, boolA false), (3, u32 a), (4, u32 b), (7, u32 (c % 16 : Nat)), (8, u32 (d % 16 : Nat)), (9, u32 (wantC a b (c % 16) (d % 16) : Nat))]) rfl rfl rfl (List.nil_sublist _) (List.nil_sublist _) ⟨AVle.refl _, AVle.refl _, AVle.refl _, le_int hci, le_int hdi, le_int (by rw [wantC, if_pos g]), trivial⟩ ?_
    generalize wantC a b (c % 16) (d % 16) = w at hvm
    refine aw_regionY (fun n => match n with | 0 => true | 1 => true | _ => false) 13 ?_
    (repeat ((conv => whnf); first | refine aw_seq ?_ | refine aw_region ?_ | refine aw_block ?_ | refine aw_skip ?_ | refine aw_true rfl ?_ | refine aw_false rfl ?_ | refine aw_exit ?_ | refine aw_label ?_ | refine aw_ret ?_ | refine And.intro rfl ?_ | refine And.intro trivial ?_ | refine And.intro (And.intro rfl (Nat.le_of_ble_eq_true rfl)) ?_ | refine And.intro (And.intro (by kernel_rfl) (by kernel_rfl)) ?_ | refine And.intro (by decide) ?_ | refine lit_true ?_ | refine lit_false ?_))
    refine aop_build rfl (build6 _ _ _ _) ?_
    refine aop_makeF (xs := z64) (f := fun k : Nat => u8 k) rfl Try.underlying55 rfl rfl made64 (fun _ => rfl) bytes64 (by decide) ?_
    (repeat ((conv => whnf); first | refine aw_seq ?_ | refine aw_region ?_ | refine aw_block ?_ | refine aw_skip ?_ | refine aw_true rfl ?_ | refine aw_false rfl ?_ | refine aw_exit ?_ | refine aw_label ?_ | refine aw_ret ?_ | refine And.intro rfl ?_ | refine And.intro trivial ?_ | refine And.intro (And.intro rfl (Nat.le_of_ble_eq_true rfl)) ?_ | refine And.intro (And.intro (by kernel_rfl) (by kernel_rfl)) ?_ | refine And.intro (by decide) ?_ | refine lit_true ?_ | refine lit_false ?_))
    refine aop_tells rfl rfl hvm ⟨AVle.os_sl.trans (AVle.sl_fun (allK_use ⟨⟨⟨⟨⟨⟨trivial, rfl⟩, rfl⟩, rfl⟩, rfl⟩, rfl⟩, rfl⟩)), AVle.refl _, trivial⟩ fun nx2 => ?_
    ((repeat ((conv => whnf); first | refine aw_seq ?_ | refine aw_block ?_ | refine aw_skip ?_ | refine aw_true rfl ?_ | refine aw_false rfl ?_ | refine aw_exit ?_ | refine aw_label ?_ | refine aw_ret ?_ | refine And.intro rfl ?_ | refine And.intro trivial ?_ | refine And.intro (And.intro rfl (Nat.le_of_ble_eq_true rfl)) ?_ | refine And.intro (And.intro (by kernel_rfl) (by kernel_rfl)) ?_ | refine And.intro (by decide) ?_ | refine lit_true ?_ | refine lit_false ?_)))
    refine aw_reset (n := 104) (bx := [((0, nx2), .c [u32 w, int s.steps, ints s.loads])]) (pm := []) (nx := nx2 + 1) (nn := 1) (df := some []) (L := [(2, boolA false), (3, u32 a), (4, u32 b), (9, u32 w), (10, .bp (0, nx2) 0), (11, int 0)]) rfl rfl rfl (List.Sublist.refl _) (List.nil_sublist _) ⟨AVle.refl _, AVle.refl _, AVle.refl _, AVle.refl _, AVle.refl _, AVle.refl _, trivial⟩ ?_
    refine aw_regionY (fun n => match n with | 0 => true | 1 => true | _ => false) 9 ?_
    (repeat ((conv => whnf); first | refine aw_seq ?_ | refine aw_region ?_ | refine aw_block ?_ | refine aw_skip ?_ | refine aw_true rfl ?_ | refine aw_false rfl ?_ | refine aw_exit ?_ | refine aw_label ?_ | refine aw_ret ?_ | refine And.intro rfl ?_ | refine And.intro trivial ?_ | refine And.intro (And.intro rfl (Nat.le_of_ble_eq_true rfl)) ?_ | refine And.intro (And.intro (by kernel_rfl) (by kernel_rfl)) ?_ | refine And.intro (by decide) ?_ | refine lit_true ?_ | refine lit_false ?_))
    refine aop_build rfl (build5 _ _) ?_
    refine aop_makeF (xs := z64) (f := fun k : Nat => u8 k) rfl Try.underlying55 rfl rfl made64 (fun _ => rfl) bytes64 (by decide) ?_
    (repeat ((conv => whnf); first | refine aw_seq ?_ | refine aw_region ?_ | refine aw_block ?_ | refine aw_skip ?_ | refine aw_true rfl ?_ | refine aw_false rfl ?_ | refine aw_exit ?_ | refine aw_label ?_ | refine aw_ret ?_ | refine And.intro rfl ?_ | refine And.intro trivial ?_ | refine And.intro (And.intro rfl (Nat.le_of_ble_eq_true rfl)) ?_ | refine And.intro (And.intro (by kernel_rfl) (by kernel_rfl)) ?_ | refine And.intro (by decide) ?_ | refine lit_true ?_ | refine lit_false ?_))
    by_cases hb0 : b = 0
    · have hq0 : wantQ a b = 0 := if_pos hb0
      rw [hq0] at hvq
      rw [if_pos hb0] at hs5
      refine aop_tells rfl rfl hvq ⟨AVle.os_sl.trans (AVle.sl_fun (allK_use ⟨⟨⟨⟨⟨trivial, rfl⟩, rfl⟩, rfl⟩, rfl⟩, rfl⟩)), AVle.refl _, trivial⟩ fun nx3 => ?_
      (repeat ((conv => whnf); first | refine aw_seq ?_ | refine aw_region ?_ | refine aw_block ?_ | refine aw_skip ?_ | refine aw_true rfl ?_ | refine aw_false rfl ?_ | refine aw_exit ?_ | refine aw_label ?_ | refine aw_ret ?_ | refine And.intro rfl ?_ | refine And.intro trivial ?_ | refine And.intro (And.intro rfl (Nat.le_of_ble_eq_true rfl)) ?_ | refine And.intro (And.intro (by kernel_rfl) (by kernel_rfl)) ?_ | refine And.intro (by decide) ?_ | refine lit_true ?_ | refine lit_false ?_))
      intro c z; cases c
      · (repeat ((conv => whnf); first | refine aw_seq ?_ | refine aw_region ?_ | refine aw_block ?_ | refine aw_skip ?_ | refine aw_true rfl ?_ | refine aw_false rfl ?_ | refine aw_exit ?_ | refine aw_label ?_ | refine aw_ret ?_ | refine And.intro rfl ?_ | refine And.intro trivial ?_ | refine And.intro (And.intro rfl (Nat.le_of_ble_eq_true rfl)) ?_ | refine And.intro (And.intro (by kernel_rfl) (by kernel_rfl)) ?_ | refine And.intro (by decide) ?_ | refine lit_true ?_ | refine lit_false ?_))
        (intro c hc; obtain rfl : c = true := hc.trans (beq_self_eq_true _); (repeat ((conv => whnf); first | refine aw_seq ?_ | refine aw_region ?_ | refine aw_block ?_ | refine aw_skip ?_ | refine aw_true rfl ?_ | refine aw_false rfl ?_ | refine aw_exit ?_ | refine aw_label ?_ | refine aw_ret ?_ | refine And.intro rfl ?_ | refine And.intro trivial ?_ | refine And.intro (And.intro rfl (Nat.le_of_ble_eq_true rfl)) ?_ | refine And.intro (And.intro (by kernel_rfl) (by kernel_rfl)) ?_ | refine And.intro (by decide) ?_ | refine lit_true ?_ | refine lit_false ?_)))
        intro c6 h6
        obtain rfl : c6 = true := h6.trans (by rw [hs6]; rfl)
        (repeat ((conv => whnf); first | refine aw_seq ?_ | refine aw_region ?_ | refine aw_block ?_ | refine aw_skip ?_ | refine aw_true rfl ?_ | refine aw_false rfl ?_ | refine aw_exit ?_ | refine aw_label ?_ | refine aw_ret ?_ | refine And.intro rfl ?_ | refine And.intro trivial ?_ | refine And.intro (And.intro rfl (Nat.le_of_ble_eq_true rfl)) ?_ | refine And.intro (And.intro (by kernel_rfl) (by kernel_rfl)) ?_ | refine And.intro (by decide) ?_ | refine lit_true ?_ | refine lit_false ?_))
        intro c7 h7
        obtain rfl : c7 = true := h7.trans (by rw [hs5]; rfl)
        (repeat ((conv => whnf); first | refine aw_seq ?_ | refine aw_region ?_ | refine aw_block ?_ | refine aw_skip ?_ | refine aw_true rfl ?_ | refine aw_false rfl ?_ | refine aw_exit ?_ | refine aw_label ?_ | refine aw_ret ?_ | refine And.intro rfl ?_ | refine And.intro trivial ?_ | refine And.intro (And.intro rfl (Nat.le_of_ble_eq_true rfl)) ?_ | refine And.intro (And.intro (by kernel_rfl) (by kernel_rfl)) ?_ | refine And.intro (by decide) ?_ | refine lit_true ?_ | refine lit_false ?_))
        intro c8 h8
        obtain rfl : c8 = true := h8.trans (by simp; omega)
        (repeat ((conv => whnf); first | refine aw_seq ?_ | refine aw_region ?_ | refine aw_block ?_ | refine aw_skip ?_ | refine aw_true rfl ?_ | refine aw_false rfl ?_ | refine aw_exit ?_ | refine aw_label ?_ | refine aw_ret ?_ | refine And.intro rfl ?_ | refine And.intro trivial ?_ | refine And.intro (And.intro rfl (Nat.le_of_ble_eq_true rfl)) ?_ | refine And.intro (And.intro (by kernel_rfl) (by kernel_rfl)) ?_ | refine And.intro (by decide) ?_ | refine lit_true ?_ | refine lit_false ?_))
        refine aop_tells rfl rfl awake6_spec trivial fun nx4 => ?_
        (repeat ((conv => whnf); first | refine aw_seq ?_ | refine aw_region ?_ | refine aw_block ?_ | refine aw_skip ?_ | refine aw_true rfl ?_ | refine aw_false rfl ?_ | refine aw_exit ?_ | refine aw_label ?_ | refine aw_ret ?_ | refine And.intro rfl ?_ | refine And.intro trivial ?_ | refine And.intro (And.intro rfl (Nat.le_of_ble_eq_true rfl)) ?_ | refine And.intro (And.intro (by kernel_rfl) (by kernel_rfl)) ?_ | refine And.intro (by decide) ?_ | refine lit_true ?_ | refine lit_false ?_))
        refine ret_is rfl rfl
      · exact absurd hb0 (by have := bne_yes z; omega)
    · have hq0 : wantQ a b = (a / b + 1) % 4294967296 := if_neg hb0
      have hqv : IntKind.u32.wrap (IntKind.u32.wrap ((a : Int).tdiv b) + 1) = (((a / b + 1) % 4294967296 : Nat) : Int) := by rw [quo32 ha]; exact add32 (a / b) 1
      rw [hq0] at hvq
      rw [if_neg hb0] at hs5
      generalize (a / b + 1) % 4294967296 = q at hvq hqv
      refine aop_tells rfl rfl hvq ⟨AVle.os_sl.trans (AVle.sl_fun (allK_use ⟨⟨⟨⟨⟨trivial, rfl⟩, rfl⟩, rfl⟩, rfl⟩, rfl⟩)), AVle.refl _, trivial⟩ fun nx3 => ?_
      (repeat ((conv => whnf); first | refine aw_seq ?_ | refine aw_region ?_ | refine aw_block ?_ | refine aw_skip ?_ | refine aw_true rfl ?_ | refine aw_false rfl ?_ | refine aw_exit ?_ | refine aw_label ?_ | refine aw_ret ?_ | refine And.intro rfl ?_ | refine And.intro trivial ?_ | refine And.intro (And.intro rfl (Nat.le_of_ble_eq_true rfl)) ?_ | refine And.intro (And.intro (by kernel_rfl) (by kernel_rfl)) ?_ | refine And.intro (by decide) ?_ | refine lit_true ?_ | refine lit_false ?_))
      intro c z; cases c
      · exact absurd (show b = 0 by have := bne_no z; omega) hb0
      · (repeat ((conv => whnf); first | refine aw_seq ?_ | refine aw_region ?_ | refine aw_block ?_ | refine aw_skip ?_ | refine aw_true rfl ?_ | refine aw_false rfl ?_ | refine aw_exit ?_ | refine aw_label ?_ | refine aw_ret ?_ | refine And.intro rfl ?_ | refine And.intro trivial ?_ | refine And.intro (And.intro rfl (Nat.le_of_ble_eq_true rfl)) ?_ | refine And.intro (And.intro (by kernel_rfl) (by kernel_rfl)) ?_ | refine And.intro (by decide) ?_ | refine lit_true ?_ | refine lit_false ?_))
        refine ⟨bne_yes z, ?_⟩
        (repeat ((conv => whnf); first | refine aw_seq ?_ | refine aw_region ?_ | refine aw_block ?_ | refine aw_skip ?_ | refine aw_true rfl ?_ | refine aw_false rfl ?_ | refine aw_exit ?_ | refine aw_label ?_ | refine aw_ret ?_ | refine And.intro rfl ?_ | refine And.intro trivial ?_ | refine And.intro (And.intro rfl (Nat.le_of_ble_eq_true rfl)) ?_ | refine And.intro (And.intro (by kernel_rfl) (by kernel_rfl)) ?_ | refine And.intro (by decide) ?_ | refine lit_true ?_ | refine lit_false ?_))
        (intro c hc; obtain rfl : c = true := hc.trans (beq_self_eq_true _); (repeat ((conv => whnf); first | refine aw_seq ?_ | refine aw_region ?_ | refine aw_block ?_ | refine aw_skip ?_ | refine aw_true rfl ?_ | refine aw_false rfl ?_ | refine aw_exit ?_ | refine aw_label ?_ | refine aw_ret ?_ | refine And.intro rfl ?_ | refine And.intro trivial ?_ | refine And.intro (And.intro rfl (Nat.le_of_ble_eq_true rfl)) ?_ | refine And.intro (And.intro (by kernel_rfl) (by kernel_rfl)) ?_ | refine And.intro (by decide) ?_ | refine lit_true ?_ | refine lit_false ?_)))
        intro c6 h6
        obtain rfl : c6 = true := h6.trans (by rw [hs6]; rfl)
        (repeat ((conv => whnf); first | refine aw_seq ?_ | refine aw_region ?_ | refine aw_block ?_ | refine aw_skip ?_ | refine aw_true rfl ?_ | refine aw_false rfl ?_ | refine aw_exit ?_ | refine aw_label ?_ | refine aw_ret ?_ | refine And.intro rfl ?_ | refine And.intro trivial ?_ | refine And.intro (And.intro rfl (Nat.le_of_ble_eq_true rfl)) ?_ | refine And.intro (And.intro (by kernel_rfl) (by kernel_rfl)) ?_ | refine And.intro (by decide) ?_ | refine lit_true ?_ | refine lit_false ?_))
        intro c9 h9
        obtain rfl : c9 = true := h9.trans (by rw [hqv]; exact beq_self_eq_true _)
        (repeat ((conv => whnf); first | refine aw_seq ?_ | refine aw_region ?_ | refine aw_block ?_ | refine aw_skip ?_ | refine aw_true rfl ?_ | refine aw_false rfl ?_ | refine aw_exit ?_ | refine aw_label ?_ | refine aw_ret ?_ | refine And.intro rfl ?_ | refine And.intro trivial ?_ | refine And.intro (And.intro rfl (Nat.le_of_ble_eq_true rfl)) ?_ | refine And.intro (And.intro (by kernel_rfl) (by kernel_rfl)) ?_ | refine And.intro (by decide) ?_ | refine lit_true ?_ | refine lit_false ?_))
        intro c7 h7
        obtain rfl : c7 = false := h7.trans (by rw [hs5]; rfl)
        (repeat ((conv => whnf); first | refine aw_seq ?_ | refine aw_region ?_ | refine aw_block ?_ | refine aw_skip ?_ | refine aw_true rfl ?_ | refine aw_false rfl ?_ | refine aw_exit ?_ | refine aw_label ?_ | refine aw_ret ?_ | refine And.intro rfl ?_ | refine And.intro trivial ?_ | refine And.intro (And.intro rfl (Nat.le_of_ble_eq_true rfl)) ?_ | refine And.intro (And.intro (by kernel_rfl) (by kernel_rfl)) ?_ | refine And.intro (by decide) ?_ | refine lit_true ?_ | refine lit_false ?_))
        intro c8 h8
        obtain rfl : c8 = false := h8.trans (by simp; omega)
        (repeat ((conv => whnf); first | refine aw_seq ?_ | refine aw_region ?_ | refine aw_block ?_ | refine aw_skip ?_ | refine aw_true rfl ?_ | refine aw_false rfl ?_ | refine aw_exit ?_ | refine aw_label ?_ | refine aw_ret ?_ | refine And.intro rfl ?_ | refine And.intro trivial ?_ | refine And.intro (And.intro rfl (Nat.le_of_ble_eq_true rfl)) ?_ | refine And.intro (And.intro (by kernel_rfl) (by kernel_rfl)) ?_ | refine And.intro (by decide) ?_ | refine lit_true ?_ | refine lit_false ?_))
        refine aop_tells rfl rfl awake6_spec trivial fun nx4 => ?_
        (repeat ((conv => whnf); first | refine aw_seq ?_ | refine aw_region ?_ | refine aw_block ?_ | refine aw_skip ?_ | refine aw_true rfl ?_ | refine aw_false rfl ?_ | refine aw_exit ?_ | refine aw_label ?_ | refine aw_ret ?_ | refine And.intro rfl ?_ | refine And.intro trivial ?_ | refine And.intro (And.intro rfl (Nat.le_of_ble_eq_true rfl)) ?_ | refine And.intro (And.intro (by kernel_rfl) (by kernel_rfl)) ?_ | refine And.intro (by decide) ?_ | refine lit_true ?_ | refine lit_false ?_))
        refine ret_is rfl rfl
end Go.Proofs.W

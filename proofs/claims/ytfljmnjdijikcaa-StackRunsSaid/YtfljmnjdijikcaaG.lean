import Derived.Test.YtfljmnjdijikcaaF
import Derived.Test.YtfljmnjdijikcaaC
set_option linter.unusedVariables false
set_option linter.unusedSimpArgs false
namespace Go.Proofs.W
open Go.Vl
set_option maxRecDepth 100000

def insss (ps : List (List Ins)) : AV := slOf 1 inss [] ps
def n0O (o : Option (Nat × Nat)) : Option Vl.Id := match o with | none => none | some p => some (0, p.1)
def n1O (o : Option (Nat × Nat)) : Option Vl.Id := match o with | none => none | some p => some (1, p.2)
def pm2O (o : Option (Nat × Nat)) (i : Nat) : List (Vl.Id × Nat) := match o with | none => [] | some p => [((1, p.2), i * 2), ((0, p.1), i * 1)]
def badI (m e i : Nat) : Nat := if i ≤ m then 0 else e
theorem u32_int {v : Nat} (h : v < 4294967296) : IntKind.i64.wrap (v : Int) = (v : Int) := wrap_id (by omega) (by omega)
theorem srun_nil (b : List Nat) : Tells Try.prog 11 [progs [], bytesA b] (.tup [u32 0, int 4]) := by
  refine tells_of_aw Try.func11 rfl rfl fun nx => ?_
  (repeat ((conv=>whnf);first|refine ω0 ?_|refine ω1 ?_|refine ω2 ?_|refine ω3 ?_|refine ω4 rfl ?_|refine ω5 rfl ?_|refine ω6 ?_|refine ω7 ?_|refine ω8 ?_|refine ⟨rfl,?_⟩|refine ⟨trivial,?_⟩|refine ⟨⟨rfl,Nat.le_of_ble_eq_true rfl⟩,?_⟩|refine ⟨⟨by kernel_rfl,by kernel_rfl⟩,?_⟩|refine ⟨by decide,?_⟩|refine lit_true ?_|refine lit_false ?_))
  exact ret_tells rfl (AVle.refl _)
theorem fromQ_tell {b : List Nat} {l : List Ins} : (∃ k x : Nat, fromQ (valI l b) = (((k + 1 : Nat) : Int), (x : Int)) ∧ tellA b l = (((k + 1 : Nat) : Int), (x : Int))) ∨ (fromQ (valI l b) = (0, 0) ∧ tellA b l = (1, 0)) := by
  cases h : fromI (valI l b) with
  | some k => exact .inl ⟨k, valI l b - kb k, by unfold fromQ; rw [h], (tellA_some h).1⟩
  | none => exact .inr ⟨by unfold fromQ; rw [h], (tellA_none h).1⟩
def lawE (ps : List (List Ins)) (b : List Nat) (m e : Nat) (s : Nat × Option (Nat × Nat) × Nat) : Env :=
  mk 119 [(0, insss ps), (3, .rp (b.map fun k : Nat => u8 k)), (4, boolA false), (5, .os 1 s.1 (fun k => bytesA (writeB (ps.getD k []))) (n0O s.2.1)), (6, .os 2 s.1 (fun k => actP (tellA b (ps.getD k []))) (n1O s.2.1)), (7, int (badI m e s.1 : Nat)), (8, int s.1)]
    ⟨[], pm2O s.2.1 s.1, s.2.2, 2⟩
set_option maxHeartbeats 4000000 in
theorem stackruns_spec (ps : List (List Ins)) (hok : ∀ l ∈ ps, okL l) (hlm : ∀ l ∈ ps, l.length ≤ maxLen) (hl0 : ps.length ≤ maxLen) (b : List Nat) (hb : okB b) (hbl : b.length = 64) (m e : Nat) (hm : m ≤ ps.length) (hbf : ∀ j, j < m → (checkI (ps.getD j [])).2 = 0)
    (hbad : m < ps.length → e = (checkI (ps.getD m [])).2 ∧ e ≠ 0) : Tells Try.prog 3 [insss ps, b64A b] (boolA true) := by
  refine tells_of_aw Try.func3 rfl rfl fun nx => ?_
  have h1 : ∀ c ∈ b.map (fun k : Nat => u8 k), isCell c = true := by simp [u8, isCell]
  (repeat ((conv=>whnf);first|refine ω0 ?_|refine ω2 ?_|refine ω3 ?_|refine ω4 rfl ?_|refine ω5 rfl ?_|refine ω6 ?_|refine ω7 ?_|refine ω8 ?_|refine ⟨rfl,?_⟩|refine ⟨trivial,?_⟩|refine ⟨⟨rfl,Nat.le_of_ble_eq_true rfl⟩,?_⟩|refine ⟨⟨by kernel_rfl,by kernel_rfl⟩,?_⟩|refine ⟨by decide,?_⟩|refine lit_true ?_|refine lit_false ?_))
  refine aw_regionX 1 ?_
  refine aop_boxK rfl ?_ ?_
  · show okCell (AV.ag (b.map fun k : Nat => u8 k)) = true
    simp [okCell, u8, isCell]
  (repeat ((conv=>whnf);first|refine ω0 ?_|refine ω2 ?_|refine ω3 ?_|refine ω4 rfl ?_|refine ω5 rfl ?_|refine ω6 ?_|refine ω7 ?_|refine ω8 ?_|refine ⟨rfl,?_⟩|refine ⟨trivial,?_⟩|refine ⟨⟨rfl,Nat.le_of_ble_eq_true rfl⟩,?_⟩|refine ⟨⟨by kernel_rfl,by kernel_rfl⟩,?_⟩|refine ⟨by decide,?_⟩|refine lit_true ?_|refine lit_false ?_))
  refine aw_freeze (n := 119) (nx := nx + 1) (nn := 2) (pm := []) (bx := []) (L := [(0, insss ps), (3, .rp (b.map fun k : Nat => u8 k)), (4, boolA false)]) (df := some []) [((0, nx), .c (b.map fun k : Nat => u8 k))] rfl rfl rfl (List.Perm.refl _) (List.Sublist.refl _) ⟨Frz.refl _, Frz.bp (.head _) rfl, Frz.refl _, trivial⟩ ?_
  (repeat ((conv=>whnf);first|refine ω0 ?_|refine ω1 ?_|refine ω2 ?_|refine ω3 ?_|refine ω4 rfl ?_|refine ω5 rfl ?_|refine ω6 ?_|refine ω7 ?_|refine ω8 ?_|refine ⟨rfl,?_⟩|refine ⟨trivial,?_⟩|refine ⟨⟨rfl,Nat.le_of_ble_eq_true rfl⟩,?_⟩|refine ⟨⟨by kernel_rfl,by kernel_rfl⟩,?_⟩|refine ⟨by decide,?_⟩|refine lit_true ?_|refine lit_false ?_))
  intro c g1; cases c
  rotate_left
  · (repeat ((conv=>whnf);first|refine ω0 ?_|refine ω1 ?_|refine ω2 ?_|refine ω3 ?_|refine ω4 rfl ?_|refine ω5 rfl ?_|refine ω6 ?_|refine ω7 ?_|refine ω8 ?_|refine ⟨rfl,?_⟩|refine ⟨trivial,?_⟩|refine ⟨⟨rfl,Nat.le_of_ble_eq_true rfl⟩,?_⟩|refine ⟨⟨by kernel_rfl,by kernel_rfl⟩,?_⟩|refine ⟨by decide,?_⟩|refine lit_true ?_|refine lit_false ?_))
    exact ret_tells rfl (AVle.refl _)
  have g1 := not_of g1
  have hl5 : ps.length ≤ 5 := by omega
  have hm' : m = ps.length ∨ m < ps.length := by omega
  (repeat ((conv=>whnf);first|refine ω0 ?_|refine ω1 ?_|refine ω2 ?_|refine ω3 ?_|refine ω4 rfl ?_|refine ω5 rfl ?_|refine ω6 ?_|refine ω7 ?_|refine ω8 ?_|refine ⟨rfl,?_⟩|refine ⟨trivial,?_⟩|refine ⟨⟨rfl,Nat.le_of_ble_eq_true rfl⟩,?_⟩|refine ⟨⟨by kernel_rfl,by kernel_rfl⟩,?_⟩|refine ⟨by decide,?_⟩|refine lit_true ?_|refine lit_false ?_))
  refine aw_loop (lawE ps b m e) (fun s => s.1 ≤ ps.length ∧ (s.2.1 = none → s.1 = 0) ∧ ∀ j, j < s.1 → (ps.getD j []).length ≤ 60) (fun s => ps.length - s.1) ?_ ?_
  · exact ⟨(0, none, nx + 1), ⟨Nat.zero_le _, (fun _ => rfl), (fun j h => absurd h (Nat.not_lt_zero j))⟩, ele_tell (pm := []) [] [] rfl rfl (List.Sublist.refl _) (List.Sublist.refl _) trivial trivial ⟨AVle.refl _, AVle.refl _, AVle.refl _, AVle.os_nil, AVle.os_nil, le_int (by show (0 : Int) = ((badI m e 0 : Nat) : Int); rw [badI, if_pos (Nat.zero_le m)]; rfl), AVle.refl _, trivial⟩⟩
  · rintro ⟨i, oi, nx2⟩ ⟨h3, h4, h60⟩
    dsimp only at h3 h4 h60
    unfold lawE
    by_cases hil : i < ps.length
    rotate_left
    · obtain rfl : i = ps.length := by omega
      have hps : okPs ps := fun l hl => by
        refine ⟨hok l hl, ?_⟩
        obtain ⟨j, hj, rfl⟩ := List.getElem_of_mem hl
        have := h60 j hj
        simp [List.getD, hj] at this
        omega
      by_cases h0 : ps.length = 0
      · obtain rfl : ps = [] := List.length_eq_zero_iff.1 h0
        ((repeat ((conv=>whnf);first|refine ω0 ?_|refine ω2 ?_|refine ω3 ?_|refine ω4 rfl ?_|refine ω5 rfl ?_|refine ω6 ?_|refine ω7 ?_|refine ω8 ?_|refine ⟨rfl,?_⟩|refine ⟨trivial,?_⟩|refine ⟨⟨rfl,Nat.le_of_ble_eq_true rfl⟩,?_⟩|refine ⟨⟨by kernel_rfl,by kernel_rfl⟩,?_⟩|refine ⟨by decide,?_⟩|refine lit_true ?_|refine lit_false ?_)); refine aw_region ?_; (repeat ((conv=>whnf);first|refine ω0 ?_|refine ω2 ?_|refine ω3 ?_|refine ω4 rfl ?_|refine ω5 rfl ?_|refine ω6 ?_|refine ω7 ?_|refine ω8 ?_|refine ⟨rfl,?_⟩|refine ⟨trivial,?_⟩|refine ⟨⟨rfl,Nat.le_of_ble_eq_true rfl⟩,?_⟩|refine ⟨⟨by kernel_rfl,by kernel_rfl⟩,?_⟩|refine ⟨by decide,?_⟩|refine lit_true ?_|refine lit_false ?_)))
        refine aw_regionY (fun n => match n with | 0 => true | _ => false) 2 ?_
        (repeat ((conv=>whnf);first|refine ω0 ?_|refine ω1 ?_|refine ω2 ?_|refine ω3 ?_|refine ω4 rfl ?_|refine ω5 rfl ?_|refine ω6 ?_|refine ω7 ?_|refine ω8 ?_|refine ⟨rfl,?_⟩|refine ⟨trivial,?_⟩|refine ⟨⟨rfl,Nat.le_of_ble_eq_true rfl⟩,?_⟩|refine ⟨⟨by kernel_rfl,by kernel_rfl⟩,?_⟩|refine ⟨by decide,?_⟩|refine lit_true ?_|refine lit_false ?_))
        refine aop_arr (n := 64) (e := 5) rfl rfl rfl Try.underlying23 Try.underlying5 rfl (by kernel_rfl) hbl (fun _ => rfl) ?_
        (repeat ((conv=>whnf);first|refine ω0 ?_|refine ω1 ?_|refine ω2 ?_|refine ω3 ?_|refine ω4 rfl ?_|refine ω5 rfl ?_|refine ω6 ?_|refine ω7 ?_|refine ω8 ?_|refine ⟨rfl,?_⟩|refine ⟨trivial,?_⟩|refine ⟨⟨rfl,Nat.le_of_ble_eq_true rfl⟩,?_⟩|refine ⟨⟨by kernel_rfl,by kernel_rfl⟩,?_⟩|refine ⟨by decide,?_⟩|refine lit_true ?_|refine lit_false ?_))
        refine aop_tells rfl rfl (srun_nil b) ⟨AVle.os_sl, AVle.refl _, trivial⟩ fun nx3 => ?_
        (repeat ((conv=>whnf);first|refine ω0 ?_|refine ω1 ?_|refine ω2 ?_|refine ω3 ?_|refine ω4 rfl ?_|refine ω5 rfl ?_|refine ω6 ?_|refine ω7 ?_|refine ω8 ?_|refine ⟨rfl,?_⟩|refine ⟨trivial,?_⟩|refine ⟨⟨rfl,Nat.le_of_ble_eq_true rfl⟩,?_⟩|refine ⟨⟨by kernel_rfl,by kernel_rfl⟩,?_⟩|refine ⟨by decide,?_⟩|refine lit_true ?_|refine lit_false ?_))
        refine aop_tells rfl rfl f10_spec trivial fun nx4 => ?_
        (repeat ((conv=>whnf);first|refine ω0 ?_|refine ω1 ?_|refine ω2 ?_|refine ω3 ?_|refine ω4 rfl ?_|refine ω5 rfl ?_|refine ω6 ?_|refine ω7 ?_|refine ω8 ?_|refine ⟨rfl,?_⟩|refine ⟨trivial,?_⟩|refine ⟨⟨rfl,Nat.le_of_ble_eq_true rfl⟩,?_⟩|refine ⟨⟨by kernel_rfl,by kernel_rfl⟩,?_⟩|refine ⟨by decide,?_⟩|refine lit_true ?_|refine lit_false ?_))
        exact ret_tells rfl (AVle.refl _)
      · by_cases hml : m < ps.length
        · obtain ⟨e1, e2⟩ := hbad hml
          have hs := srun_spec ps hps (by omega) b hb hbl m hm h0 hbf 0 e (fun _ => ⟨rfl, e1, e2⟩) (fun h => absurd h (by omega))
          have hb1 : badI m e ps.length = e := by rw [badI, if_neg (by omega)]
          (repeat ((conv=>whnf);first|refine ω0 ?_|refine ω1 ?_|refine ω2 ?_|refine ω3 ?_|refine ω4 rfl ?_|refine ω5 rfl ?_|refine ω6 ?_|refine ω7 ?_|refine ω8 ?_|refine ⟨rfl,?_⟩|refine ⟨trivial,?_⟩|refine ⟨⟨rfl,Nat.le_of_ble_eq_true rfl⟩,?_⟩|refine ⟨⟨by kernel_rfl,by kernel_rfl⟩,?_⟩|refine ⟨by decide,?_⟩|refine lit_true ?_|refine lit_false ?_))
          intro c hc
          obtain rfl : c = false := hc.trans (decide_eq_false (by dsimp only; omega))
          (repeat ((conv=>whnf);first|refine ω0 ?_|refine ω2 ?_|refine ω3 ?_|refine ω4 rfl ?_|refine ω5 rfl ?_|refine ω6 ?_|refine ω7 ?_|refine ω8 ?_|refine ⟨rfl,?_⟩|refine ⟨trivial,?_⟩|refine ⟨⟨rfl,Nat.le_of_ble_eq_true rfl⟩,?_⟩|refine ⟨⟨by kernel_rfl,by kernel_rfl⟩,?_⟩|refine ⟨by decide,?_⟩|refine lit_true ?_|refine lit_false ?_))
          refine aw_regionY (fun n => match n with | 0 => true | _ => false) 2 ?_
          (repeat ((conv=>whnf);first|refine ω0 ?_|refine ω1 ?_|refine ω2 ?_|refine ω3 ?_|refine ω4 rfl ?_|refine ω5 rfl ?_|refine ω6 ?_|refine ω7 ?_|refine ω8 ?_|refine ⟨rfl,?_⟩|refine ⟨trivial,?_⟩|refine ⟨⟨rfl,Nat.le_of_ble_eq_true rfl⟩,?_⟩|refine ⟨⟨by kernel_rfl,by kernel_rfl⟩,?_⟩|refine ⟨by decide,?_⟩|refine lit_true ?_|refine lit_false ?_))
          refine aop_arr (n := 64) (e := 5) rfl rfl rfl Try.underlying23 Try.underlying5 rfl (by kernel_rfl) hbl (fun _ => rfl) ?_
          (repeat ((conv=>whnf);first|refine ω0 ?_|refine ω1 ?_|refine ω2 ?_|refine ω3 ?_|refine ω4 rfl ?_|refine ω5 rfl ?_|refine ω6 ?_|refine ω7 ?_|refine ω8 ?_|refine ⟨rfl,?_⟩|refine ⟨trivial,?_⟩|refine ⟨⟨rfl,Nat.le_of_ble_eq_true rfl⟩,?_⟩|refine ⟨⟨by kernel_rfl,by kernel_rfl⟩,?_⟩|refine ⟨by decide,?_⟩|refine lit_true ?_|refine lit_false ?_))
          refine aop_tells rfl rfl hs ⟨AVle.os_sl, AVle.refl _, trivial⟩ fun nx3 => ?_
          (repeat ((conv=>whnf);first|refine ω0 ?_|refine ω1 ?_|refine ω2 ?_|refine ω3 ?_|refine ω4 rfl ?_|refine ω5 rfl ?_|refine ω6 ?_|refine ω7 ?_|refine ω8 ?_|refine ⟨rfl,?_⟩|refine ⟨trivial,?_⟩|refine ⟨⟨rfl,Nat.le_of_ble_eq_true rfl⟩,?_⟩|refine ⟨⟨by kernel_rfl,by kernel_rfl⟩,?_⟩|refine ⟨by decide,?_⟩|refine lit_true ?_|refine lit_false ?_))
          intro c hc
          obtain rfl : c = false := hc.trans (beq_eq_false_iff_ne.2 (by omega))
          (repeat ((conv=>whnf);first|refine ω0 ?_|refine ω1 ?_|refine ω2 ?_|refine ω3 ?_|refine ω4 rfl ?_|refine ω5 rfl ?_|refine ω6 ?_|refine ω7 ?_|refine ω8 ?_|refine ⟨rfl,?_⟩|refine ⟨trivial,?_⟩|refine ⟨⟨rfl,Nat.le_of_ble_eq_true rfl⟩,?_⟩|refine ⟨⟨by kernel_rfl,by kernel_rfl⟩,?_⟩|refine ⟨by decide,?_⟩|refine lit_true ?_|refine lit_false ?_))
          intro c hc
          obtain rfl : c = true := hc.trans (by rw [hb1]; simp; exact e2)
          (repeat ((conv=>whnf);first|refine ω0 ?_|refine ω1 ?_|refine ω2 ?_|refine ω3 ?_|refine ω4 rfl ?_|refine ω5 rfl ?_|refine ω6 ?_|refine ω7 ?_|refine ω8 ?_|refine ⟨rfl,?_⟩|refine ⟨trivial,?_⟩|refine ⟨⟨rfl,Nat.le_of_ble_eq_true rfl⟩,?_⟩|refine ⟨⟨by kernel_rfl,by kernel_rfl⟩,?_⟩|refine ⟨by decide,?_⟩|refine lit_true ?_|refine lit_false ?_))
          intro c hc
          obtain rfl : c = true := hc.trans (by rw [hb1]; exact beq_self_eq_true _)
          (repeat ((conv=>whnf);first|refine ω0 ?_|refine ω1 ?_|refine ω2 ?_|refine ω3 ?_|refine ω4 rfl ?_|refine ω5 rfl ?_|refine ω6 ?_|refine ω7 ?_|refine ω8 ?_|refine ⟨rfl,?_⟩|refine ⟨trivial,?_⟩|refine ⟨⟨rfl,Nat.le_of_ble_eq_true rfl⟩,?_⟩|refine ⟨⟨by kernel_rfl,by kernel_rfl⟩,?_⟩|refine ⟨by decide,?_⟩|refine lit_true ?_|refine lit_false ?_))
          refine aop_tells rfl rfl f10_spec trivial fun nx4 => ?_
          (repeat ((conv=>whnf);first|refine ω0 ?_|refine ω1 ?_|refine ω2 ?_|refine ω3 ?_|refine ω4 rfl ?_|refine ω5 rfl ?_|refine ω6 ?_|refine ω7 ?_|refine ω8 ?_|refine ⟨rfl,?_⟩|refine ⟨trivial,?_⟩|refine ⟨⟨rfl,Nat.le_of_ble_eq_true rfl⟩,?_⟩|refine ⟨⟨by kernel_rfl,by kernel_rfl⟩,?_⟩|refine ⟨by decide,?_⟩|refine lit_true ?_|refine lit_false ?_))
          exact ret_tells rfl (AVle.refl _)
        · obtain rfl : m = ps.length := by omega
          obtain ⟨a, r, har⟩ : ∃ a r, ps.map (tellA b) = a :: r := by
            cases hps2 : ps.map (tellA b) with
            | nil => simp at hps2; subst hps2; simp at h0
            | cons a r => exact ⟨a, r, rfl⟩
          have hform : ∀ x ∈ a :: r, form9 x := by
            rw [← har]
            intro x hx
            obtain ⟨l, _, rfl⟩ := List.mem_map.1 hx
            exact fromA_form _
          have hs := srun_spec ps hps (by omega) b hb hbl ps.length hm h0 hbf (codeI (strict a r)) 0 (fun h => absurd h (by omega)) (fun _ => ⟨a, r, har, rfl, rfl⟩)
          have hb1 : badI ps.length e ps.length = 0 := by rw [badI, if_pos (Nat.le_refl _)]
          obtain ⟨_, hc2, hc3⟩ := code_form (strict_form hform)
          have hst := f11_spec a r (by have := congrArg List.length har; simp at this; omega)
          (repeat ((conv=>whnf);first|refine ω0 ?_|refine ω1 ?_|refine ω2 ?_|refine ω3 ?_|refine ω4 rfl ?_|refine ω5 rfl ?_|refine ω6 ?_|refine ω7 ?_|refine ω8 ?_|refine ⟨rfl,?_⟩|refine ⟨trivial,?_⟩|refine ⟨⟨rfl,Nat.le_of_ble_eq_true rfl⟩,?_⟩|refine ⟨⟨by kernel_rfl,by kernel_rfl⟩,?_⟩|refine ⟨by decide,?_⟩|refine lit_true ?_|refine lit_false ?_))
          intro c hc
          obtain rfl : c = false := hc.trans (decide_eq_false (by dsimp only; omega))
          (repeat ((conv=>whnf);first|refine ω0 ?_|refine ω2 ?_|refine ω3 ?_|refine ω4 rfl ?_|refine ω5 rfl ?_|refine ω6 ?_|refine ω7 ?_|refine ω8 ?_|refine ⟨rfl,?_⟩|refine ⟨trivial,?_⟩|refine ⟨⟨rfl,Nat.le_of_ble_eq_true rfl⟩,?_⟩|refine ⟨⟨by kernel_rfl,by kernel_rfl⟩,?_⟩|refine ⟨by decide,?_⟩|refine lit_true ?_|refine lit_false ?_))
          refine aw_regionY (fun n => match n with | 0 => true | _ => false) 2 ?_
          (repeat ((conv=>whnf);first|refine ω0 ?_|refine ω1 ?_|refine ω2 ?_|refine ω3 ?_|refine ω4 rfl ?_|refine ω5 rfl ?_|refine ω6 ?_|refine ω7 ?_|refine ω8 ?_|refine ⟨rfl,?_⟩|refine ⟨trivial,?_⟩|refine ⟨⟨rfl,Nat.le_of_ble_eq_true rfl⟩,?_⟩|refine ⟨⟨by kernel_rfl,by kernel_rfl⟩,?_⟩|refine ⟨by decide,?_⟩|refine lit_true ?_|refine lit_false ?_))
          refine aop_arr (n := 64) (e := 5) rfl rfl rfl Try.underlying23 Try.underlying5 rfl (by kernel_rfl) hbl (fun _ => rfl) ?_
          (repeat ((conv=>whnf);first|refine ω0 ?_|refine ω1 ?_|refine ω2 ?_|refine ω3 ?_|refine ω4 rfl ?_|refine ω5 rfl ?_|refine ω6 ?_|refine ω7 ?_|refine ω8 ?_|refine ⟨rfl,?_⟩|refine ⟨trivial,?_⟩|refine ⟨⟨rfl,Nat.le_of_ble_eq_true rfl⟩,?_⟩|refine ⟨⟨by kernel_rfl,by kernel_rfl⟩,?_⟩|refine ⟨by decide,?_⟩|refine lit_true ?_|refine lit_false ?_))
          refine aop_tells rfl rfl hs ⟨AVle.os_sl, AVle.refl _, trivial⟩ fun nx3 => ?_
          (repeat ((conv=>whnf);first|refine ω0 ?_|refine ω1 ?_|refine ω2 ?_|refine ω3 ?_|refine ω4 rfl ?_|refine ω5 rfl ?_|refine ω6 ?_|refine ω7 ?_|refine ω8 ?_|refine ⟨rfl,?_⟩|refine ⟨trivial,?_⟩|refine ⟨⟨rfl,Nat.le_of_ble_eq_true rfl⟩,?_⟩|refine ⟨⟨by kernel_rfl,by kernel_rfl⟩,?_⟩|refine ⟨by decide,?_⟩|refine lit_true ?_|refine lit_false ?_))
          intro c hc
          obtain rfl : c = false := hc.trans (beq_eq_false_iff_ne.2 (by omega))
          (repeat ((conv=>whnf);first|refine ω0 ?_|refine ω1 ?_|refine ω2 ?_|refine ω3 ?_|refine ω4 rfl ?_|refine ω5 rfl ?_|refine ω6 ?_|refine ω7 ?_|refine ω8 ?_|refine ⟨rfl,?_⟩|refine ⟨trivial,?_⟩|refine ⟨⟨rfl,Nat.le_of_ble_eq_true rfl⟩,?_⟩|refine ⟨⟨by kernel_rfl,by kernel_rfl⟩,?_⟩|refine ⟨by decide,?_⟩|refine lit_true ?_|refine lit_false ?_))
          intro c hc
          obtain rfl : c = false := hc.trans (by rw [hb1]; rfl)
          (repeat ((conv=>whnf);first|refine ω0 ?_|refine ω1 ?_|refine ω2 ?_|refine ω3 ?_|refine ω4 rfl ?_|refine ω5 rfl ?_|refine ω6 ?_|refine ω7 ?_|refine ω8 ?_|refine ⟨rfl,?_⟩|refine ⟨trivial,?_⟩|refine ⟨⟨rfl,Nat.le_of_ble_eq_true rfl⟩,?_⟩|refine ⟨⟨by kernel_rfl,by kernel_rfl⟩,?_⟩|refine ⟨by decide,?_⟩|refine lit_true ?_|refine lit_false ?_))
          refine aop_tells rfl rfl hst ⟨AVle.os_sl.trans ?_, trivial⟩ fun nx4 => ?_
          · rw [← har]
            unfold acts slOf
            rw [List.length_map]
            exact AVle.sl_fun fun k hk => by simp [List.getD, hk]
          (repeat ((conv=>whnf);first|refine ω0 ?_|refine ω1 ?_|refine ω2 ?_|refine ω3 ?_|refine ω4 rfl ?_|refine ω5 rfl ?_|refine ω6 ?_|refine ω7 ?_|refine ω8 ?_|refine ⟨rfl,?_⟩|refine ⟨trivial,?_⟩|refine ⟨⟨rfl,Nat.le_of_ble_eq_true rfl⟩,?_⟩|refine ⟨⟨by kernel_rfl,by kernel_rfl⟩,?_⟩|refine ⟨by decide,?_⟩|refine lit_true ?_|refine lit_false ?_))
          refine aop_tells rfl rfl hc2 ⟨AVle.refl _, trivial⟩ fun nx5 => ?_
          (repeat ((conv=>whnf);first|refine ω0 ?_|refine ω1 ?_|refine ω2 ?_|refine ω3 ?_|refine ω4 rfl ?_|refine ω5 rfl ?_|refine ω6 ?_|refine ω7 ?_|refine ω8 ?_|refine ⟨rfl,?_⟩|refine ⟨trivial,?_⟩|refine ⟨⟨rfl,Nat.le_of_ble_eq_true rfl⟩,?_⟩|refine ⟨⟨by kernel_rfl,by kernel_rfl⟩,?_⟩|refine ⟨by decide,?_⟩|refine lit_true ?_|refine lit_false ?_))
          intro c hc
          obtain rfl : c = true := hc.trans (by rw [u32_int hc3]; exact beq_self_eq_true _)
          (repeat ((conv=>whnf);first|refine ω0 ?_|refine ω1 ?_|refine ω2 ?_|refine ω3 ?_|refine ω4 rfl ?_|refine ω5 rfl ?_|refine ω6 ?_|refine ω7 ?_|refine ω8 ?_|refine ⟨rfl,?_⟩|refine ⟨trivial,?_⟩|refine ⟨⟨rfl,Nat.le_of_ble_eq_true rfl⟩,?_⟩|refine ⟨⟨by kernel_rfl,by kernel_rfl⟩,?_⟩|refine ⟨by decide,?_⟩|refine lit_true ?_|refine lit_false ?_))
          refine aop_tells rfl rfl f10_spec trivial fun nx6 => ?_
          (repeat ((conv=>whnf);first|refine ω0 ?_|refine ω1 ?_|refine ω2 ?_|refine ω3 ?_|refine ω4 rfl ?_|refine ω5 rfl ?_|refine ω6 ?_|refine ω7 ?_|refine ω8 ?_|refine ⟨rfl,?_⟩|refine ⟨trivial,?_⟩|refine ⟨⟨rfl,Nat.le_of_ble_eq_true rfl⟩,?_⟩|refine ⟨⟨by kernel_rfl,by kernel_rfl⟩,?_⟩|refine ⟨by decide,?_⟩|refine lit_true ?_|refine lit_false ?_))
          exact ret_tells rfl (AVle.refl _)
    · have hmem : ps.getD i [] ∈ ps := by simp [List.getD, hil]
      have hoki := hok _ hmem
      have hlmi := hlm _ hmem
      rcases oi with _ | ⟨st1, st2⟩
      · have hi0 : i = 0 := h4 rfl
        cases hi0
        (repeat ((conv=>whnf);first|refine ω0 ?_|refine ω1 ?_|refine ω2 ?_|refine ω3 ?_|refine ω4 rfl ?_|refine ω5 rfl ?_|refine ω6 ?_|refine ω7 ?_|refine ω8 ?_|refine ⟨rfl,?_⟩|refine ⟨trivial,?_⟩|refine ⟨⟨rfl,Nat.le_of_ble_eq_true rfl⟩,?_⟩|refine ⟨⟨by kernel_rfl,by kernel_rfl⟩,?_⟩|refine ⟨by decide,?_⟩|refine lit_true ?_|refine lit_false ?_))
        intro c hc
        obtain rfl : c = true := hc.trans (decide_eq_true (by dsimp only; omega))
        (repeat ((conv=>whnf);first|refine ω0 ?_|refine ω1 ?_|refine ω2 ?_|refine ω3 ?_|refine ω4 rfl ?_|refine ω5 rfl ?_|refine ω6 ?_|refine ω7 ?_|refine ω8 ?_|refine ⟨rfl,?_⟩|refine ⟨trivial,?_⟩|refine ⟨⟨rfl,Nat.le_of_ble_eq_true rfl⟩,?_⟩|refine ⟨⟨by kernel_rfl,by kernel_rfl⟩,?_⟩|refine ⟨by decide,?_⟩|refine lit_true ?_|refine lit_false ?_))
        refine ⟨⟨by dsimp only; omega, by dsimp only; omega⟩, ?_⟩
        (repeat ((conv=>whnf);first|refine ω0 ?_|refine ω1 ?_|refine ω2 ?_|refine ω3 ?_|refine ω4 rfl ?_|refine ω5 rfl ?_|refine ω6 ?_|refine ω7 ?_|refine ω8 ?_|refine ⟨rfl,?_⟩|refine ⟨trivial,?_⟩|refine ⟨⟨rfl,Nat.le_of_ble_eq_true rfl⟩,?_⟩|refine ⟨⟨by kernel_rfl,by kernel_rfl⟩,?_⟩|refine ⟨by decide,?_⟩|refine lit_true ?_|refine lit_false ?_))
        intro c g3; cases c
        rotate_left
        · (repeat ((conv=>whnf);first|refine ω0 ?_|refine ω1 ?_|refine ω2 ?_|refine ω3 ?_|refine ω4 rfl ?_|refine ω5 rfl ?_|refine ω6 ?_|refine ω7 ?_|refine ω8 ?_|refine ⟨rfl,?_⟩|refine ⟨trivial,?_⟩|refine ⟨⟨rfl,Nat.le_of_ble_eq_true rfl⟩,?_⟩|refine ⟨⟨by kernel_rfl,by kernel_rfl⟩,?_⟩|refine ⟨by decide,?_⟩|refine lit_true ?_|refine lit_false ?_))
          exact ret_tells rfl (AVle.refl _)
        have g3 := not_of g3
        have hl60 : (ps.getD 0 []).length ≤ 60 := by
          have : ¬ (((ps.getD 0 []).length : Nat) : Int) > 60 := g3
          omega
        have h60' : ∀ j, j < 0 + 1 → (ps.getD j []).length ≤ 60 := fun j hj => by
          rcases Nat.lt_or_ge j 0 with h | h
          · exact h60 j h
          · obtain rfl : j = 0 := by omega
            exact hl60
        have hbr := brun_spec _ hoki (by omega) b hb hbl
        obtain ⟨s, n, f, hrr⟩ := rrun_spec _ hoki (by omega) b hb hbl
        have hv := valI_lt (l := ps.getD 0 []) (b := b) hoki hb
        have hrf := rfrom_spec (valI (ps.getD 0 []) b) hv
        have hq : (∃ k x : Nat, fromQ (valI (ps.getD 0 []) b) = (((k + 1 : Nat) : Int), (x : Int)) ∧ tellA b (ps.getD 0 []) = (((k + 1 : Nat) : Int), (x : Int))) ∨ (fromQ (valI (ps.getD 0 []) b) = (0, 0) ∧ tellA b (ps.getD 0 []) = (1, 0)) := fromQ_tell
        (repeat ((conv=>whnf);first|refine ω0 ?_|refine ω1 ?_|refine ω2 ?_|refine ω3 ?_|refine ω4 rfl ?_|refine ω5 rfl ?_|refine ω6 ?_|refine ω7 ?_|refine ω8 ?_|refine ⟨rfl,?_⟩|refine ⟨trivial,?_⟩|refine ⟨⟨rfl,Nat.le_of_ble_eq_true rfl⟩,?_⟩|refine ⟨⟨by kernel_rfl,by kernel_rfl⟩,?_⟩|refine ⟨by decide,?_⟩|refine lit_true ?_|refine lit_false ?_))
        refine ⟨⟨by dsimp only; omega, by dsimp only; omega⟩, ?_⟩
        (repeat ((conv=>whnf);first|refine ω0 ?_|refine ω1 ?_|refine ω2 ?_|refine ω3 ?_|refine ω4 rfl ?_|refine ω5 rfl ?_|refine ω6 ?_|refine ω7 ?_|refine ω8 ?_|refine ⟨rfl,?_⟩|refine ⟨trivial,?_⟩|refine ⟨⟨rfl,Nat.le_of_ble_eq_true rfl⟩,?_⟩|refine ⟨⟨by kernel_rfl,by kernel_rfl⟩,?_⟩|refine ⟨by decide,?_⟩|refine lit_true ?_|refine lit_false ?_))
        refine aop_tells rfl rfl (write_spec (ps.getD 0 []) hoki (by omega)) ⟨AVle.refl _, trivial⟩ fun nx3 => ?_
        (repeat ((conv=>whnf);first|refine ω0 ?_|refine ω1 ?_|refine ω2 ?_|refine ω3 ?_|refine ω4 rfl ?_|refine ω5 rfl ?_|refine ω6 ?_|refine ω7 ?_|refine ω8 ?_|refine ⟨rfl,?_⟩|refine ⟨trivial,?_⟩|refine ⟨⟨rfl,Nat.le_of_ble_eq_true rfl⟩,?_⟩|refine ⟨⟨by kernel_rfl,by kernel_rfl⟩,?_⟩|refine ⟨by decide,?_⟩|refine lit_true ?_|refine lit_false ?_))
        refine ⟨oneRow_one rfl, by show (0 + 1) * 24 ≤ _; omega, by dsimp only; omega, ?_⟩
        (repeat ((conv=>whnf);first|refine ω0 ?_|refine ω2 ?_|refine ω3 ?_|refine ω4 rfl ?_|refine ω5 rfl ?_|refine ω6 ?_|refine ω7 ?_|refine ω8 ?_|refine ⟨rfl,?_⟩|refine ⟨trivial,?_⟩|refine ⟨⟨rfl,Nat.le_of_ble_eq_true rfl⟩,?_⟩|refine ⟨⟨by kernel_rfl,by kernel_rfl⟩,?_⟩|refine ⟨by decide,?_⟩|refine lit_true ?_|refine lit_false ?_))
        refine aw_regionY (fun n => match n with | 0 => true | _ => false) 2 ?_
        (repeat ((conv=>whnf);first|refine ω0 ?_|refine ω1 ?_|refine ω2 ?_|refine ω3 ?_|refine ω4 rfl ?_|refine ω5 rfl ?_|refine ω6 ?_|refine ω7 ?_|refine ω8 ?_|refine ⟨rfl,?_⟩|refine ⟨trivial,?_⟩|refine ⟨⟨rfl,Nat.le_of_ble_eq_true rfl⟩,?_⟩|refine ⟨⟨by kernel_rfl,by kernel_rfl⟩,?_⟩|refine ⟨by decide,?_⟩|refine lit_true ?_|refine lit_false ?_))
        refine aop_arr (n := 64) (e := 5) rfl rfl rfl Try.underlying23 Try.underlying5 rfl (by kernel_rfl) hbl (fun _ => rfl) ?_
        (repeat ((conv=>whnf);first|refine ω0 ?_|refine ω1 ?_|refine ω2 ?_|refine ω3 ?_|refine ω4 rfl ?_|refine ω5 rfl ?_|refine ω6 ?_|refine ω7 ?_|refine ω8 ?_|refine ⟨rfl,?_⟩|refine ⟨trivial,?_⟩|refine ⟨⟨rfl,Nat.le_of_ble_eq_true rfl⟩,?_⟩|refine ⟨⟨by kernel_rfl,by kernel_rfl⟩,?_⟩|refine ⟨by decide,?_⟩|refine lit_true ?_|refine lit_false ?_))
        refine aop_tells rfl rfl hbr ⟨AVle.refl _, AVle.refl _, trivial⟩ fun nx4 => ?_
        (repeat ((conv=>whnf);first|refine ω0 ?_|refine ω2 ?_|refine ω3 ?_|refine ω4 rfl ?_|refine ω5 rfl ?_|refine ω6 ?_|refine ω7 ?_|refine ω8 ?_|refine ⟨rfl,?_⟩|refine ⟨trivial,?_⟩|refine ⟨⟨rfl,Nat.le_of_ble_eq_true rfl⟩,?_⟩|refine ⟨⟨by kernel_rfl,by kernel_rfl⟩,?_⟩|refine ⟨by decide,?_⟩|refine lit_true ?_|refine lit_false ?_))
        refine AW.le (ele_tell (n := 119) (nx := nx4) (nn := 2) (bx := []) (pm := [((0, nx3), (0 + 1) * 1)]) (L := [(0, insss ps), (3, .rp (b.map fun k : Nat => u8 k)), (4, boolA false), (5, .os 1 (0 + 1) (fun k => bytesA (writeB (ps.getD k []))) (some (0, nx3))), (6, .os 2 0 (fun k => actP (tellA b (ps.getD k []))) none), (7, int (badI m e 0 : Nat)), (8, int 0), (9, bytesA (writeB (ps.getD 0 []))), (11, int (checkI (ps.getD 0 [])).2)])
          [] _ rfl rfl (List.Sublist.refl _) (List.Sublist.refl _) trivial ⟨rfl, rfl, trivial⟩ ⟨AVle.refl _, AVle.refl _, AVle.refl _, (AVle.os_fun (appF_one (fun k h => absurd h (Nat.not_lt_zero k)) ?_)).trans (AVle.os_nm rfl), AVle.refl _, AVle.refl _, AVle.refl _, AVle.refl _, AVle.refl _, trivial⟩) ?_
        · rfl
        (repeat ((conv=>whnf);first|refine ω0 ?_|refine ω1 ?_|refine ω2 ?_|refine ω3 ?_|refine ω4 rfl ?_|refine ω5 rfl ?_|refine ω6 ?_|refine ω7 ?_|refine ω8 ?_|refine ⟨rfl,?_⟩|refine ⟨trivial,?_⟩|refine ⟨⟨rfl,Nat.le_of_ble_eq_true rfl⟩,?_⟩|refine ⟨⟨by kernel_rfl,by kernel_rfl⟩,?_⟩|refine ⟨by decide,?_⟩|refine lit_true ?_|refine lit_false ?_))
        intro c t1; cases c
        · have t1 : (checkI (ps.getD 0 [])).2 = 0 := Int.ofNat_inj.1 (fct_n0.1 t1)
          have hnew : badI m e 0 = badI m e (0 + 1) := by
            unfold badI
            rcases Nat.lt_trichotomy 0 m with h | h | h
            · rw [if_pos (by omega), if_pos (by omega)]
            · subst h; have := hbad hil; omega
            · rw [if_neg (by omega), if_neg (by omega)]
          (repeat ((conv=>whnf);first|refine ω0 ?_|refine ω2 ?_|refine ω3 ?_|refine ω4 rfl ?_|refine ω5 rfl ?_|refine ω6 ?_|refine ω7 ?_|refine ω8 ?_|refine ⟨rfl,?_⟩|refine ⟨trivial,?_⟩|refine ⟨⟨rfl,Nat.le_of_ble_eq_true rfl⟩,?_⟩|refine ⟨⟨by kernel_rfl,by kernel_rfl⟩,?_⟩|refine ⟨by decide,?_⟩|refine lit_true ?_|refine lit_false ?_))
          refine AW.le (ele_mk (n := 119) (h := ⟨[], [((0, nx3), (0 + 1) * 1)], nx4, 2⟩) (L := [(0, insss ps), (3, .rp (b.map fun k : Nat => u8 k)), (4, boolA false), (5, .os 1 (0 + 1) (fun k => bytesA (writeB (ps.getD k []))) (some (0, nx3))), (6, .os 2 0 (fun k => actP (tellA b (ps.getD k []))) none), (7, int (badI m e (0 + 1) : Nat)), (8, int 0), (9, bytesA (writeB (ps.getD 0 [])))]) rfl rfl ⟨AVle.refl _, AVle.refl _, AVle.refl _, AVle.refl _, AVle.refl _, le_int (by rw [hnew]), AVle.refl _, AVle.refl _, trivial⟩) ?_
          rcases hq with ⟨k, x, q1, q2⟩ | ⟨q1, q2⟩
          · rw [q1] at hrf
            refine aw_regionY (fun n => match n with | 0 => true | _ => false) 2 ?_
            (repeat ((conv=>whnf);first|refine ω0 ?_|refine ω1 ?_|refine ω2 ?_|refine ω3 ?_|refine ω4 rfl ?_|refine ω5 rfl ?_|refine ω6 ?_|refine ω7 ?_|refine ω8 ?_|refine ⟨rfl,?_⟩|refine ⟨trivial,?_⟩|refine ⟨⟨rfl,Nat.le_of_ble_eq_true rfl⟩,?_⟩|refine ⟨⟨by kernel_rfl,by kernel_rfl⟩,?_⟩|refine ⟨by decide,?_⟩|refine lit_true ?_|refine lit_false ?_))
            refine aop_arr (n := 64) (e := 5) rfl rfl rfl Try.underlying23 Try.underlying5 rfl (by kernel_rfl) hbl (fun _ => rfl) ?_
            (repeat ((conv=>whnf);first|refine ω0 ?_|refine ω1 ?_|refine ω2 ?_|refine ω3 ?_|refine ω4 rfl ?_|refine ω5 rfl ?_|refine ω6 ?_|refine ω7 ?_|refine ω8 ?_|refine ⟨rfl,?_⟩|refine ⟨trivial,?_⟩|refine ⟨⟨rfl,Nat.le_of_ble_eq_true rfl⟩,?_⟩|refine ⟨⟨by kernel_rfl,by kernel_rfl⟩,?_⟩|refine ⟨by decide,?_⟩|refine lit_true ?_|refine lit_false ?_))
            refine aop_tells rfl rfl hrr ⟨AVle.refl _, AVle.refl _, trivial⟩ fun nx5 => ?_
            intro cf hcf
            (repeat ((conv=>whnf);first|refine ω0 ?_|refine ω1 ?_|refine ω2 ?_|refine ω3 ?_|refine ω4 rfl ?_|refine ω5 rfl ?_|refine ω6 ?_|refine ω7 ?_|refine ω8 ?_|refine ⟨rfl,?_⟩|refine ⟨trivial,?_⟩|refine ⟨⟨rfl,Nat.le_of_ble_eq_true rfl⟩,?_⟩|refine ⟨⟨by kernel_rfl,by kernel_rfl⟩,?_⟩|refine ⟨by decide,?_⟩|refine lit_true ?_|refine lit_false ?_))
            refine aop_tells rfl rfl hrf ⟨le_int (u32_int hv), trivial⟩ fun nx6 => ?_
            (repeat ((conv=>whnf);first|refine ω0 ?_|refine ω1 ?_|refine ω2 ?_|refine ω3 ?_|refine ω4 rfl ?_|refine ω5 rfl ?_|refine ω6 ?_|refine ω7 ?_|refine ω8 ?_|refine ⟨rfl,?_⟩|refine ⟨trivial,?_⟩|refine ⟨⟨rfl,Nat.le_of_ble_eq_true rfl⟩,?_⟩|refine ⟨⟨by kernel_rfl,by kernel_rfl⟩,?_⟩|refine ⟨by decide,?_⟩|refine lit_true ?_|refine lit_false ?_))
            (conv => whnf)
            refine ⟨oneRow_one rfl, by show (0 + 1) * 16 ≤ _; omega, by first | omega | (dsimp only; omega), ?_⟩
            (repeat ((conv=>whnf);first|refine ω0 ?_|refine ω1 ?_|refine ω2 ?_|refine ω3 ?_|refine ω4 rfl ?_|refine ω5 rfl ?_|refine ω6 ?_|refine ω7 ?_|refine ω8 ?_|refine ⟨rfl,?_⟩|refine ⟨trivial,?_⟩|refine ⟨⟨rfl,Nat.le_of_ble_eq_true rfl⟩,?_⟩|refine ⟨⟨by kernel_rfl,by kernel_rfl⟩,?_⟩|refine ⟨by decide,?_⟩|refine lit_true ?_|refine lit_false ?_))
            refine back (0 + 1, some (nx3, nx6 + 1), nx6 + 2) ⟨by first | omega | (dsimp only; omega), (fun h => by cases h), h60'⟩ (by first | omega | (dsimp only; omega)) (ele_tell (pm := [((1, nx6 + 1), (0 + 1) * 2), ((0, nx3), (0 + 1) * 1)]) [] _ rfl rfl (.cons _ (.cons _ .slnil)) (List.Sublist.refl _) trivial ⟨rfl, rfl, rfl, rfl, trivial⟩ ⟨AVle.refl _, AVle.refl _, AVle.refl _, AVle.refl _, (AVle.os_fun (appF_one (fun k h => absurd h (Nat.not_lt_zero k)) ?_)).trans (AVle.os_nm rfl), AVle.refl _, le_int (wrap_succ (by first | omega | (dsimp only; omega))), trivial⟩)
            exact (congrArg actP q2).symm
          · rw [q1] at hrf
            refine aw_regionY (fun n => match n with | 0 => true | _ => false) 2 ?_
            (repeat ((conv=>whnf);first|refine ω0 ?_|refine ω1 ?_|refine ω2 ?_|refine ω3 ?_|refine ω4 rfl ?_|refine ω5 rfl ?_|refine ω6 ?_|refine ω7 ?_|refine ω8 ?_|refine ⟨rfl,?_⟩|refine ⟨trivial,?_⟩|refine ⟨⟨rfl,Nat.le_of_ble_eq_true rfl⟩,?_⟩|refine ⟨⟨by kernel_rfl,by kernel_rfl⟩,?_⟩|refine ⟨by decide,?_⟩|refine lit_true ?_|refine lit_false ?_))
            refine aop_arr (n := 64) (e := 5) rfl rfl rfl Try.underlying23 Try.underlying5 rfl (by kernel_rfl) hbl (fun _ => rfl) ?_
            (repeat ((conv=>whnf);first|refine ω0 ?_|refine ω1 ?_|refine ω2 ?_|refine ω3 ?_|refine ω4 rfl ?_|refine ω5 rfl ?_|refine ω6 ?_|refine ω7 ?_|refine ω8 ?_|refine ⟨rfl,?_⟩|refine ⟨trivial,?_⟩|refine ⟨⟨rfl,Nat.le_of_ble_eq_true rfl⟩,?_⟩|refine ⟨⟨by kernel_rfl,by kernel_rfl⟩,?_⟩|refine ⟨by decide,?_⟩|refine lit_true ?_|refine lit_false ?_))
            refine aop_tells rfl rfl hrr ⟨AVle.refl _, AVle.refl _, trivial⟩ fun nx5 => ?_
            intro cf hcf
            (repeat ((conv=>whnf);first|refine ω0 ?_|refine ω1 ?_|refine ω2 ?_|refine ω3 ?_|refine ω4 rfl ?_|refine ω5 rfl ?_|refine ω6 ?_|refine ω7 ?_|refine ω8 ?_|refine ⟨rfl,?_⟩|refine ⟨trivial,?_⟩|refine ⟨⟨rfl,Nat.le_of_ble_eq_true rfl⟩,?_⟩|refine ⟨⟨by kernel_rfl,by kernel_rfl⟩,?_⟩|refine ⟨by decide,?_⟩|refine lit_true ?_|refine lit_false ?_))
            refine aop_tells rfl rfl hrf ⟨le_int (u32_int hv), trivial⟩ fun nx6 => ?_
            (repeat ((conv=>whnf);first|refine ω0 ?_|refine ω1 ?_|refine ω2 ?_|refine ω3 ?_|refine ω4 rfl ?_|refine ω5 rfl ?_|refine ω6 ?_|refine ω7 ?_|refine ω8 ?_|refine ⟨rfl,?_⟩|refine ⟨trivial,?_⟩|refine ⟨⟨rfl,Nat.le_of_ble_eq_true rfl⟩,?_⟩|refine ⟨⟨by kernel_rfl,by kernel_rfl⟩,?_⟩|refine ⟨by decide,?_⟩|refine lit_true ?_|refine lit_false ?_))
            (conv => whnf)
            refine ⟨oneRow_one rfl, by show (0 + 1) * 16 ≤ _; omega, by first | omega | (dsimp only; omega), ?_⟩
            (repeat ((conv=>whnf);first|refine ω0 ?_|refine ω1 ?_|refine ω2 ?_|refine ω3 ?_|refine ω4 rfl ?_|refine ω5 rfl ?_|refine ω6 ?_|refine ω7 ?_|refine ω8 ?_|refine ⟨rfl,?_⟩|refine ⟨trivial,?_⟩|refine ⟨⟨rfl,Nat.le_of_ble_eq_true rfl⟩,?_⟩|refine ⟨⟨by kernel_rfl,by kernel_rfl⟩,?_⟩|refine ⟨by decide,?_⟩|refine lit_true ?_|refine lit_false ?_))
            refine back (0 + 1, some (nx3, nx6 + 1), nx6 + 2) ⟨by first | omega | (dsimp only; omega), (fun h => by cases h), h60'⟩ (by first | omega | (dsimp only; omega)) (ele_tell (pm := [((1, nx6 + 1), (0 + 1) * 2), ((0, nx3), (0 + 1) * 1)]) [] _ rfl rfl (.cons _ (.cons _ .slnil)) (List.Sublist.refl _) trivial ⟨rfl, rfl, rfl, rfl, trivial⟩ ⟨AVle.refl _, AVle.refl _, AVle.refl _, AVle.refl _, (AVle.os_fun (appF_one (fun k h => absurd h (Nat.not_lt_zero k)) ?_)).trans (AVle.os_nm rfl), AVle.refl _, le_int (wrap_succ (by first | omega | (dsimp only; omega))), trivial⟩)
            exact (congrArg actP q2).symm
        · have t1 : (checkI (ps.getD 0 [])).2 ≠ 0 := fun h => fct_n1.1 t1 (by rw [h]; rfl)
          (repeat ((conv=>whnf);first|refine ω0 ?_|refine ω2 ?_|refine ω3 ?_|refine ω4 rfl ?_|refine ω5 rfl ?_|refine ω6 ?_|refine ω7 ?_|refine ω8 ?_|refine ⟨rfl,?_⟩|refine ⟨trivial,?_⟩|refine ⟨⟨rfl,Nat.le_of_ble_eq_true rfl⟩,?_⟩|refine ⟨⟨by kernel_rfl,by kernel_rfl⟩,?_⟩|refine ⟨by decide,?_⟩|refine lit_true ?_|refine lit_false ?_))
          have hnew : (checkI (ps.getD 0 [])).2 = badI m e (0 + 1) := by
            unfold badI
            rcases Nat.lt_trichotomy 0 m with h | h | h
            · exact absurd (hbf 0 h) t1
            · subst h; rw [if_neg (by omega)]; exact (hbad hil).1.symm
            · omega
          refine aw_region ?_
          (repeat ((conv=>whnf);first|refine ω0 ?_|refine ω2 ?_|refine ω3 ?_|refine ω4 rfl ?_|refine ω5 rfl ?_|refine ω6 ?_|refine ω7 ?_|refine ω8 ?_|refine ⟨rfl,?_⟩|refine ⟨trivial,?_⟩|refine ⟨⟨rfl,Nat.le_of_ble_eq_true rfl⟩,?_⟩|refine ⟨⟨by kernel_rfl,by kernel_rfl⟩,?_⟩|refine ⟨by decide,?_⟩|refine lit_true ?_|refine lit_false ?_))
          refine AW.le (ele_mk (n := 119) (h := ⟨[], [((0, nx3), (0 + 1) * 1)], nx4, 2⟩) (L := [(0, insss ps), (3, .rp (b.map fun k : Nat => u8 k)), (4, boolA false), (5, .os 1 (0 + 1) (fun k => bytesA (writeB (ps.getD k []))) (some (0, nx3))), (6, .os 2 0 (fun k => actP (tellA b (ps.getD k []))) none), (7, int (badI m e (0 + 1) : Nat)), (8, int 0), (9, bytesA (writeB (ps.getD 0 [])))]) rfl rfl ⟨AVle.refl _, AVle.refl _, AVle.refl _, AVle.refl _, AVle.refl _, le_int (by rw [hnew]), AVle.refl _, AVle.refl _, trivial⟩) ?_
          rcases hq with ⟨k, x, q1, q2⟩ | ⟨q1, q2⟩
          · rw [q1] at hrf
            refine aw_regionY (fun n => match n with | 0 => true | _ => false) 2 ?_
            (repeat ((conv=>whnf);first|refine ω0 ?_|refine ω1 ?_|refine ω2 ?_|refine ω3 ?_|refine ω4 rfl ?_|refine ω5 rfl ?_|refine ω6 ?_|refine ω7 ?_|refine ω8 ?_|refine ⟨rfl,?_⟩|refine ⟨trivial,?_⟩|refine ⟨⟨rfl,Nat.le_of_ble_eq_true rfl⟩,?_⟩|refine ⟨⟨by kernel_rfl,by kernel_rfl⟩,?_⟩|refine ⟨by decide,?_⟩|refine lit_true ?_|refine lit_false ?_))
            refine aop_arr (n := 64) (e := 5) rfl rfl rfl Try.underlying23 Try.underlying5 rfl (by kernel_rfl) hbl (fun _ => rfl) ?_
            (repeat ((conv=>whnf);first|refine ω0 ?_|refine ω1 ?_|refine ω2 ?_|refine ω3 ?_|refine ω4 rfl ?_|refine ω5 rfl ?_|refine ω6 ?_|refine ω7 ?_|refine ω8 ?_|refine ⟨rfl,?_⟩|refine ⟨trivial,?_⟩|refine ⟨⟨rfl,Nat.le_of_ble_eq_true rfl⟩,?_⟩|refine ⟨⟨by kernel_rfl,by kernel_rfl⟩,?_⟩|refine ⟨by decide,?_⟩|refine lit_true ?_|refine lit_false ?_))
            refine aop_tells rfl rfl hrr ⟨AVle.refl _, AVle.refl _, trivial⟩ fun nx5 => ?_
            intro cf hcf
            (repeat ((conv=>whnf);first|refine ω0 ?_|refine ω1 ?_|refine ω2 ?_|refine ω3 ?_|refine ω4 rfl ?_|refine ω5 rfl ?_|refine ω6 ?_|refine ω7 ?_|refine ω8 ?_|refine ⟨rfl,?_⟩|refine ⟨trivial,?_⟩|refine ⟨⟨rfl,Nat.le_of_ble_eq_true rfl⟩,?_⟩|refine ⟨⟨by kernel_rfl,by kernel_rfl⟩,?_⟩|refine ⟨by decide,?_⟩|refine lit_true ?_|refine lit_false ?_))
            refine aop_tells rfl rfl hrf ⟨le_int (u32_int hv), trivial⟩ fun nx6 => ?_
            (repeat ((conv=>whnf);first|refine ω0 ?_|refine ω1 ?_|refine ω2 ?_|refine ω3 ?_|refine ω4 rfl ?_|refine ω5 rfl ?_|refine ω6 ?_|refine ω7 ?_|refine ω8 ?_|refine ⟨rfl,?_⟩|refine ⟨trivial,?_⟩|refine ⟨⟨rfl,Nat.le_of_ble_eq_true rfl⟩,?_⟩|refine ⟨⟨by kernel_rfl,by kernel_rfl⟩,?_⟩|refine ⟨by decide,?_⟩|refine lit_true ?_|refine lit_false ?_))
            (conv => whnf)
            refine ⟨oneRow_one rfl, by show (0 + 1) * 16 ≤ _; omega, by first | omega | (dsimp only; omega), ?_⟩
            (repeat ((conv=>whnf);first|refine ω0 ?_|refine ω1 ?_|refine ω2 ?_|refine ω3 ?_|refine ω4 rfl ?_|refine ω5 rfl ?_|refine ω6 ?_|refine ω7 ?_|refine ω8 ?_|refine ⟨rfl,?_⟩|refine ⟨trivial,?_⟩|refine ⟨⟨rfl,Nat.le_of_ble_eq_true rfl⟩,?_⟩|refine ⟨⟨by kernel_rfl,by kernel_rfl⟩,?_⟩|refine ⟨by decide,?_⟩|refine lit_true ?_|refine lit_false ?_))
            refine back (0 + 1, some (nx3, nx6 + 1), nx6 + 2) ⟨by first | omega | (dsimp only; omega), (fun h => by cases h), h60'⟩ (by first | omega | (dsimp only; omega)) (ele_tell (pm := [((1, nx6 + 1), (0 + 1) * 2), ((0, nx3), (0 + 1) * 1)]) [] _ rfl rfl (.cons _ (.cons _ .slnil)) (List.Sublist.refl _) trivial ⟨rfl, rfl, rfl, rfl, trivial⟩ ⟨AVle.refl _, AVle.refl _, AVle.refl _, AVle.refl _, (AVle.os_fun (appF_one (fun k h => absurd h (Nat.not_lt_zero k)) ?_)).trans (AVle.os_nm rfl), AVle.refl _, le_int (wrap_succ (by first | omega | (dsimp only; omega))), trivial⟩)
            exact (congrArg actP q2).symm
          · rw [q1] at hrf
            refine aw_regionY (fun n => match n with | 0 => true | _ => false) 2 ?_
            (repeat ((conv=>whnf);first|refine ω0 ?_|refine ω1 ?_|refine ω2 ?_|refine ω3 ?_|refine ω4 rfl ?_|refine ω5 rfl ?_|refine ω6 ?_|refine ω7 ?_|refine ω8 ?_|refine ⟨rfl,?_⟩|refine ⟨trivial,?_⟩|refine ⟨⟨rfl,Nat.le_of_ble_eq_true rfl⟩,?_⟩|refine ⟨⟨by kernel_rfl,by kernel_rfl⟩,?_⟩|refine ⟨by decide,?_⟩|refine lit_true ?_|refine lit_false ?_))
            refine aop_arr (n := 64) (e := 5) rfl rfl rfl Try.underlying23 Try.underlying5 rfl (by kernel_rfl) hbl (fun _ => rfl) ?_
            (repeat ((conv=>whnf);first|refine ω0 ?_|refine ω1 ?_|refine ω2 ?_|refine ω3 ?_|refine ω4 rfl ?_|refine ω5 rfl ?_|refine ω6 ?_|refine ω7 ?_|refine ω8 ?_|refine ⟨rfl,?_⟩|refine ⟨trivial,?_⟩|refine ⟨⟨rfl,Nat.le_of_ble_eq_true rfl⟩,?_⟩|refine ⟨⟨by kernel_rfl,by kernel_rfl⟩,?_⟩|refine ⟨by decide,?_⟩|refine lit_true ?_|refine lit_false ?_))
            refine aop_tells rfl rfl hrr ⟨AVle.refl _, AVle.refl _, trivial⟩ fun nx5 => ?_
            intro cf hcf
            (repeat ((conv=>whnf);first|refine ω0 ?_|refine ω1 ?_|refine ω2 ?_|refine ω3 ?_|refine ω4 rfl ?_|refine ω5 rfl ?_|refine ω6 ?_|refine ω7 ?_|refine ω8 ?_|refine ⟨rfl,?_⟩|refine ⟨trivial,?_⟩|refine ⟨⟨rfl,Nat.le_of_ble_eq_true rfl⟩,?_⟩|refine ⟨⟨by kernel_rfl,by kernel_rfl⟩,?_⟩|refine ⟨by decide,?_⟩|refine lit_true ?_|refine lit_false ?_))
            refine aop_tells rfl rfl hrf ⟨le_int (u32_int hv), trivial⟩ fun nx6 => ?_
            (repeat ((conv=>whnf);first|refine ω0 ?_|refine ω1 ?_|refine ω2 ?_|refine ω3 ?_|refine ω4 rfl ?_|refine ω5 rfl ?_|refine ω6 ?_|refine ω7 ?_|refine ω8 ?_|refine ⟨rfl,?_⟩|refine ⟨trivial,?_⟩|refine ⟨⟨rfl,Nat.le_of_ble_eq_true rfl⟩,?_⟩|refine ⟨⟨by kernel_rfl,by kernel_rfl⟩,?_⟩|refine ⟨by decide,?_⟩|refine lit_true ?_|refine lit_false ?_))
            (conv => whnf)
            refine ⟨oneRow_one rfl, by show (0 + 1) * 16 ≤ _; omega, by first | omega | (dsimp only; omega), ?_⟩
            (repeat ((conv=>whnf);first|refine ω0 ?_|refine ω1 ?_|refine ω2 ?_|refine ω3 ?_|refine ω4 rfl ?_|refine ω5 rfl ?_|refine ω6 ?_|refine ω7 ?_|refine ω8 ?_|refine ⟨rfl,?_⟩|refine ⟨trivial,?_⟩|refine ⟨⟨rfl,Nat.le_of_ble_eq_true rfl⟩,?_⟩|refine ⟨⟨by kernel_rfl,by kernel_rfl⟩,?_⟩|refine ⟨by decide,?_⟩|refine lit_true ?_|refine lit_false ?_))
            refine back (0 + 1, some (nx3, nx6 + 1), nx6 + 2) ⟨by first | omega | (dsimp only; omega), (fun h => by cases h), h60'⟩ (by first | omega | (dsimp only; omega)) (ele_tell (pm := [((1, nx6 + 1), (0 + 1) * 2), ((0, nx3), (0 + 1) * 1)]) [] _ rfl rfl (.cons _ (.cons _ .slnil)) (List.Sublist.refl _) trivial ⟨rfl, rfl, rfl, rfl, trivial⟩ ⟨AVle.refl _, AVle.refl _, AVle.refl _, AVle.refl _, (AVle.os_fun (appF_one (fun k h => absurd h (Nat.not_lt_zero k)) ?_)).trans (AVle.os_nm rfl), AVle.refl _, le_int (wrap_succ (by first | omega | (dsimp only; omega))), trivial⟩)
            exact (congrArg actP q2).symm
      · (repeat ((conv=>whnf);first|refine ω0 ?_|refine ω1 ?_|refine ω2 ?_|refine ω3 ?_|refine ω4 rfl ?_|refine ω5 rfl ?_|refine ω6 ?_|refine ω7 ?_|refine ω8 ?_|refine ⟨rfl,?_⟩|refine ⟨trivial,?_⟩|refine ⟨⟨rfl,Nat.le_of_ble_eq_true rfl⟩,?_⟩|refine ⟨⟨by kernel_rfl,by kernel_rfl⟩,?_⟩|refine ⟨by decide,?_⟩|refine lit_true ?_|refine lit_false ?_))
        intro c hc
        obtain rfl : c = true := hc.trans (decide_eq_true (by dsimp only; omega))
        (repeat ((conv=>whnf);first|refine ω0 ?_|refine ω1 ?_|refine ω2 ?_|refine ω3 ?_|refine ω4 rfl ?_|refine ω5 rfl ?_|refine ω6 ?_|refine ω7 ?_|refine ω8 ?_|refine ⟨rfl,?_⟩|refine ⟨trivial,?_⟩|refine ⟨⟨rfl,Nat.le_of_ble_eq_true rfl⟩,?_⟩|refine ⟨⟨by kernel_rfl,by kernel_rfl⟩,?_⟩|refine ⟨by decide,?_⟩|refine lit_true ?_|refine lit_false ?_))
        refine ⟨⟨by dsimp only; omega, by dsimp only; omega⟩, ?_⟩
        (repeat ((conv=>whnf);first|refine ω0 ?_|refine ω1 ?_|refine ω2 ?_|refine ω3 ?_|refine ω4 rfl ?_|refine ω5 rfl ?_|refine ω6 ?_|refine ω7 ?_|refine ω8 ?_|refine ⟨rfl,?_⟩|refine ⟨trivial,?_⟩|refine ⟨⟨rfl,Nat.le_of_ble_eq_true rfl⟩,?_⟩|refine ⟨⟨by kernel_rfl,by kernel_rfl⟩,?_⟩|refine ⟨by decide,?_⟩|refine lit_true ?_|refine lit_false ?_))
        intro c g3; cases c
        rotate_left
        · (repeat ((conv=>whnf);first|refine ω0 ?_|refine ω1 ?_|refine ω2 ?_|refine ω3 ?_|refine ω4 rfl ?_|refine ω5 rfl ?_|refine ω6 ?_|refine ω7 ?_|refine ω8 ?_|refine ⟨rfl,?_⟩|refine ⟨trivial,?_⟩|refine ⟨⟨rfl,Nat.le_of_ble_eq_true rfl⟩,?_⟩|refine ⟨⟨by kernel_rfl,by kernel_rfl⟩,?_⟩|refine ⟨by decide,?_⟩|refine lit_true ?_|refine lit_false ?_))
          exact ret_tells rfl (AVle.refl _)
        have g3 := not_of g3
        have hl60 : (ps.getD i []).length ≤ 60 := by
          have : ¬ (((ps.getD i []).length : Nat) : Int) > 60 := g3
          omega
        have h60' : ∀ j, j < i + 1 → (ps.getD j []).length ≤ 60 := fun j hj => by
          rcases Nat.lt_or_ge j i with h | h
          · exact h60 j h
          · obtain rfl : j = i := by omega
            exact hl60
        have hbr := brun_spec _ hoki (by omega) b hb hbl
        obtain ⟨s, n, f, hrr⟩ := rrun_spec _ hoki (by omega) b hb hbl
        have hv := valI_lt (l := ps.getD i []) (b := b) hoki hb
        have hrf := rfrom_spec (valI (ps.getD i []) b) hv
        have hq : (∃ k x : Nat, fromQ (valI (ps.getD i []) b) = (((k + 1 : Nat) : Int), (x : Int)) ∧ tellA b (ps.getD i []) = (((k + 1 : Nat) : Int), (x : Int))) ∨ (fromQ (valI (ps.getD i []) b) = (0, 0) ∧ tellA b (ps.getD i []) = (1, 0)) := fromQ_tell
        (repeat ((conv=>whnf);first|refine ω0 ?_|refine ω1 ?_|refine ω2 ?_|refine ω3 ?_|refine ω4 rfl ?_|refine ω5 rfl ?_|refine ω6 ?_|refine ω7 ?_|refine ω8 ?_|refine ⟨rfl,?_⟩|refine ⟨trivial,?_⟩|refine ⟨⟨rfl,Nat.le_of_ble_eq_true rfl⟩,?_⟩|refine ⟨⟨by kernel_rfl,by kernel_rfl⟩,?_⟩|refine ⟨by decide,?_⟩|refine lit_true ?_|refine lit_false ?_))
        refine ⟨⟨by dsimp only; omega, by dsimp only; omega⟩, ?_⟩
        (repeat ((conv=>whnf);first|refine ω0 ?_|refine ω1 ?_|refine ω2 ?_|refine ω3 ?_|refine ω4 rfl ?_|refine ω5 rfl ?_|refine ω6 ?_|refine ω7 ?_|refine ω8 ?_|refine ⟨rfl,?_⟩|refine ⟨trivial,?_⟩|refine ⟨⟨rfl,Nat.le_of_ble_eq_true rfl⟩,?_⟩|refine ⟨⟨by kernel_rfl,by kernel_rfl⟩,?_⟩|refine ⟨by decide,?_⟩|refine lit_true ?_|refine lit_false ?_))
        refine aop_tells rfl rfl (write_spec (ps.getD i []) hoki (by omega)) ⟨AVle.refl _, trivial⟩ fun nx3 => ?_
        (repeat ((conv=>whnf);first|refine ω0 ?_|refine ω1 ?_|refine ω2 ?_|refine ω3 ?_|refine ω4 rfl ?_|refine ω5 rfl ?_|refine ω6 ?_|refine ω7 ?_|refine ω8 ?_|refine ⟨rfl,?_⟩|refine ⟨trivial,?_⟩|refine ⟨⟨rfl,Nat.le_of_ble_eq_true rfl⟩,?_⟩|refine ⟨⟨by kernel_rfl,by kernel_rfl⟩,?_⟩|refine ⟨by decide,?_⟩|refine lit_true ?_|refine lit_false ?_))
        refine ⟨oneRow_one rfl, by show (i + 1) * 24 ≤ _; omega, by dsimp only; omega, ?_⟩
        (repeat ((conv=>whnf);first|refine ω0 ?_|refine ω2 ?_|refine ω3 ?_|refine ω4 rfl ?_|refine ω5 rfl ?_|refine ω6 ?_|refine ω7 ?_|refine ω8 ?_|refine ⟨rfl,?_⟩|refine ⟨trivial,?_⟩|refine ⟨⟨rfl,Nat.le_of_ble_eq_true rfl⟩,?_⟩|refine ⟨⟨by kernel_rfl,by kernel_rfl⟩,?_⟩|refine ⟨by decide,?_⟩|refine lit_true ?_|refine lit_false ?_))
        refine aw_regionY (fun n => match n with | 0 => true | _ => false) 2 ?_
        (repeat ((conv=>whnf);first|refine ω0 ?_|refine ω1 ?_|refine ω2 ?_|refine ω3 ?_|refine ω4 rfl ?_|refine ω5 rfl ?_|refine ω6 ?_|refine ω7 ?_|refine ω8 ?_|refine ⟨rfl,?_⟩|refine ⟨trivial,?_⟩|refine ⟨⟨rfl,Nat.le_of_ble_eq_true rfl⟩,?_⟩|refine ⟨⟨by kernel_rfl,by kernel_rfl⟩,?_⟩|refine ⟨by decide,?_⟩|refine lit_true ?_|refine lit_false ?_))
        refine aop_arr (n := 64) (e := 5) rfl rfl rfl Try.underlying23 Try.underlying5 rfl (by kernel_rfl) hbl (fun _ => rfl) ?_
        (repeat ((conv=>whnf);first|refine ω0 ?_|refine ω1 ?_|refine ω2 ?_|refine ω3 ?_|refine ω4 rfl ?_|refine ω5 rfl ?_|refine ω6 ?_|refine ω7 ?_|refine ω8 ?_|refine ⟨rfl,?_⟩|refine ⟨trivial,?_⟩|refine ⟨⟨rfl,Nat.le_of_ble_eq_true rfl⟩,?_⟩|refine ⟨⟨by kernel_rfl,by kernel_rfl⟩,?_⟩|refine ⟨by decide,?_⟩|refine lit_true ?_|refine lit_false ?_))
        refine aop_tells rfl rfl hbr ⟨AVle.refl _, AVle.refl _, trivial⟩ fun nx4 => ?_
        (repeat ((conv=>whnf);first|refine ω0 ?_|refine ω2 ?_|refine ω3 ?_|refine ω4 rfl ?_|refine ω5 rfl ?_|refine ω6 ?_|refine ω7 ?_|refine ω8 ?_|refine ⟨rfl,?_⟩|refine ⟨trivial,?_⟩|refine ⟨⟨rfl,Nat.le_of_ble_eq_true rfl⟩,?_⟩|refine ⟨⟨by kernel_rfl,by kernel_rfl⟩,?_⟩|refine ⟨by decide,?_⟩|refine lit_true ?_|refine lit_false ?_))
        refine AW.le (ele_tell (n := 119) (nx := nx4) (nn := 2) (bx := []) (pm := [((0, nx3), (i + 1) * 1), ((1, st2), i * 2)]) (L := [(0, insss ps), (3, .rp (b.map fun k : Nat => u8 k)), (4, boolA false), (5, .os 1 (i + 1) (fun k => bytesA (writeB (ps.getD k []))) (some (0, nx3))), (6, .os 2 i (fun k => actP (tellA b (ps.getD k []))) (some (1, st2))), (7, int (badI m e i : Nat)), (8, int i), (9, bytesA (writeB (ps.getD i []))), (11, int (checkI (ps.getD i [])).2)])
          [] _ rfl rfl (List.Sublist.refl _) (List.Sublist.refl _) trivial ⟨rfl, rfl, rfl, rfl, trivial⟩ ⟨AVle.refl _, AVle.refl _, AVle.refl _, (AVle.os_fun (appF_one (fun k hk => rfl) ?_)).trans (AVle.os_nm rfl), AVle.refl _, AVle.refl _, AVle.refl _, AVle.refl _, AVle.refl _, trivial⟩) ?_
        · rfl
        (repeat ((conv=>whnf);first|refine ω0 ?_|refine ω1 ?_|refine ω2 ?_|refine ω3 ?_|refine ω4 rfl ?_|refine ω5 rfl ?_|refine ω6 ?_|refine ω7 ?_|refine ω8 ?_|refine ⟨rfl,?_⟩|refine ⟨trivial,?_⟩|refine ⟨⟨rfl,Nat.le_of_ble_eq_true rfl⟩,?_⟩|refine ⟨⟨by kernel_rfl,by kernel_rfl⟩,?_⟩|refine ⟨by decide,?_⟩|refine lit_true ?_|refine lit_false ?_))
        intro c t1; cases c
        · have t1 : (checkI (ps.getD i [])).2 = 0 := Int.ofNat_inj.1 (fct_n0.1 t1)
          have hnew : badI m e i = badI m e (i + 1) := by
            unfold badI
            rcases Nat.lt_trichotomy i m with h | h | h
            · rw [if_pos (by omega), if_pos (by omega)]
            · subst h; have := hbad hil; omega
            · rw [if_neg (by omega), if_neg (by omega)]
          (repeat ((conv=>whnf);first|refine ω0 ?_|refine ω2 ?_|refine ω3 ?_|refine ω4 rfl ?_|refine ω5 rfl ?_|refine ω6 ?_|refine ω7 ?_|refine ω8 ?_|refine ⟨rfl,?_⟩|refine ⟨trivial,?_⟩|refine ⟨⟨rfl,Nat.le_of_ble_eq_true rfl⟩,?_⟩|refine ⟨⟨by kernel_rfl,by kernel_rfl⟩,?_⟩|refine ⟨by decide,?_⟩|refine lit_true ?_|refine lit_false ?_))
          refine AW.le (ele_mk (n := 119) (h := ⟨[], [((0, nx3), (i + 1) * 1), ((1, st2), i * 2)], nx4, 2⟩) (L := [(0, insss ps), (3, .rp (b.map fun k : Nat => u8 k)), (4, boolA false), (5, .os 1 (i + 1) (fun k => bytesA (writeB (ps.getD k []))) (some (0, nx3))), (6, .os 2 i (fun k => actP (tellA b (ps.getD k []))) (some (1, st2))), (7, int (badI m e (i + 1) : Nat)), (8, int i), (9, bytesA (writeB (ps.getD i [])))]) rfl rfl ⟨AVle.refl _, AVle.refl _, AVle.refl _, AVle.refl _, AVle.refl _, le_int (by rw [hnew]), AVle.refl _, AVle.refl _, trivial⟩) ?_
          rcases hq with ⟨k, x, q1, q2⟩ | ⟨q1, q2⟩
          · rw [q1] at hrf
            refine aw_regionY (fun n => match n with | 0 => true | _ => false) 2 ?_
            (repeat ((conv=>whnf);first|refine ω0 ?_|refine ω1 ?_|refine ω2 ?_|refine ω3 ?_|refine ω4 rfl ?_|refine ω5 rfl ?_|refine ω6 ?_|refine ω7 ?_|refine ω8 ?_|refine ⟨rfl,?_⟩|refine ⟨trivial,?_⟩|refine ⟨⟨rfl,Nat.le_of_ble_eq_true rfl⟩,?_⟩|refine ⟨⟨by kernel_rfl,by kernel_rfl⟩,?_⟩|refine ⟨by decide,?_⟩|refine lit_true ?_|refine lit_false ?_))
            refine aop_arr (n := 64) (e := 5) rfl rfl rfl Try.underlying23 Try.underlying5 rfl (by kernel_rfl) hbl (fun _ => rfl) ?_
            (repeat ((conv=>whnf);first|refine ω0 ?_|refine ω1 ?_|refine ω2 ?_|refine ω3 ?_|refine ω4 rfl ?_|refine ω5 rfl ?_|refine ω6 ?_|refine ω7 ?_|refine ω8 ?_|refine ⟨rfl,?_⟩|refine ⟨trivial,?_⟩|refine ⟨⟨rfl,Nat.le_of_ble_eq_true rfl⟩,?_⟩|refine ⟨⟨by kernel_rfl,by kernel_rfl⟩,?_⟩|refine ⟨by decide,?_⟩|refine lit_true ?_|refine lit_false ?_))
            refine aop_tells rfl rfl hrr ⟨AVle.refl _, AVle.refl _, trivial⟩ fun nx5 => ?_
            intro cf hcf
            (repeat ((conv=>whnf);first|refine ω0 ?_|refine ω1 ?_|refine ω2 ?_|refine ω3 ?_|refine ω4 rfl ?_|refine ω5 rfl ?_|refine ω6 ?_|refine ω7 ?_|refine ω8 ?_|refine ⟨rfl,?_⟩|refine ⟨trivial,?_⟩|refine ⟨⟨rfl,Nat.le_of_ble_eq_true rfl⟩,?_⟩|refine ⟨⟨by kernel_rfl,by kernel_rfl⟩,?_⟩|refine ⟨by decide,?_⟩|refine lit_true ?_|refine lit_false ?_))
            refine aop_tells rfl rfl hrf ⟨le_int (u32_int hv), trivial⟩ fun nx6 => ?_
            (repeat ((conv=>whnf);first|refine ω0 ?_|refine ω1 ?_|refine ω2 ?_|refine ω3 ?_|refine ω4 rfl ?_|refine ω5 rfl ?_|refine ω6 ?_|refine ω7 ?_|refine ω8 ?_|refine ⟨rfl,?_⟩|refine ⟨trivial,?_⟩|refine ⟨⟨rfl,Nat.le_of_ble_eq_true rfl⟩,?_⟩|refine ⟨⟨by kernel_rfl,by kernel_rfl⟩,?_⟩|refine ⟨by decide,?_⟩|refine lit_true ?_|refine lit_false ?_))
            (conv => whnf)
            refine ⟨oneRow_one rfl, by show (i + 1) * 16 ≤ _; omega, by first | omega | (dsimp only; omega), ?_⟩
            (repeat ((conv=>whnf);first|refine ω0 ?_|refine ω1 ?_|refine ω2 ?_|refine ω3 ?_|refine ω4 rfl ?_|refine ω5 rfl ?_|refine ω6 ?_|refine ω7 ?_|refine ω8 ?_|refine ⟨rfl,?_⟩|refine ⟨trivial,?_⟩|refine ⟨⟨rfl,Nat.le_of_ble_eq_true rfl⟩,?_⟩|refine ⟨⟨by kernel_rfl,by kernel_rfl⟩,?_⟩|refine ⟨by decide,?_⟩|refine lit_true ?_|refine lit_false ?_))
            refine back (i + 1, some (nx3, nx6 + 1), nx6 + 2) ⟨by first | omega | (dsimp only; omega), (fun h => by cases h), h60'⟩ (by first | omega | (dsimp only; omega)) (ele_tell (pm := [((1, nx6 + 1), (i + 1) * 2), ((0, nx3), (i + 1) * 1)]) [] _ rfl rfl (.cons _ (.cons _ .slnil)) (List.Sublist.refl _) trivial ⟨rfl, rfl, rfl, rfl, trivial⟩ ⟨AVle.refl _, AVle.refl _, AVle.refl _, AVle.refl _, (AVle.os_fun (appF_one (fun k hk => rfl) ?_)).trans (AVle.os_nm rfl), AVle.refl _, le_int (wrap_succ (by first | omega | (dsimp only; omega))), trivial⟩)
            exact (congrArg actP q2).symm
          · rw [q1] at hrf
            refine aw_regionY (fun n => match n with | 0 => true | _ => false) 2 ?_
            (repeat ((conv=>whnf);first|refine ω0 ?_|refine ω1 ?_|refine ω2 ?_|refine ω3 ?_|refine ω4 rfl ?_|refine ω5 rfl ?_|refine ω6 ?_|refine ω7 ?_|refine ω8 ?_|refine ⟨rfl,?_⟩|refine ⟨trivial,?_⟩|refine ⟨⟨rfl,Nat.le_of_ble_eq_true rfl⟩,?_⟩|refine ⟨⟨by kernel_rfl,by kernel_rfl⟩,?_⟩|refine ⟨by decide,?_⟩|refine lit_true ?_|refine lit_false ?_))
            refine aop_arr (n := 64) (e := 5) rfl rfl rfl Try.underlying23 Try.underlying5 rfl (by kernel_rfl) hbl (fun _ => rfl) ?_
            (repeat ((conv=>whnf);first|refine ω0 ?_|refine ω1 ?_|refine ω2 ?_|refine ω3 ?_|refine ω4 rfl ?_|refine ω5 rfl ?_|refine ω6 ?_|refine ω7 ?_|refine ω8 ?_|refine ⟨rfl,?_⟩|refine ⟨trivial,?_⟩|refine ⟨⟨rfl,Nat.le_of_ble_eq_true rfl⟩,?_⟩|refine ⟨⟨by kernel_rfl,by kernel_rfl⟩,?_⟩|refine ⟨by decide,?_⟩|refine lit_true ?_|refine lit_false ?_))
            refine aop_tells rfl rfl hrr ⟨AVle.refl _, AVle.refl _, trivial⟩ fun nx5 => ?_
            intro cf hcf
            (repeat ((conv=>whnf);first|refine ω0 ?_|refine ω1 ?_|refine ω2 ?_|refine ω3 ?_|refine ω4 rfl ?_|refine ω5 rfl ?_|refine ω6 ?_|refine ω7 ?_|refine ω8 ?_|refine ⟨rfl,?_⟩|refine ⟨trivial,?_⟩|refine ⟨⟨rfl,Nat.le_of_ble_eq_true rfl⟩,?_⟩|refine ⟨⟨by kernel_rfl,by kernel_rfl⟩,?_⟩|refine ⟨by decide,?_⟩|refine lit_true ?_|refine lit_false ?_))
            refine aop_tells rfl rfl hrf ⟨le_int (u32_int hv), trivial⟩ fun nx6 => ?_
            (repeat ((conv=>whnf);first|refine ω0 ?_|refine ω1 ?_|refine ω2 ?_|refine ω3 ?_|refine ω4 rfl ?_|refine ω5 rfl ?_|refine ω6 ?_|refine ω7 ?_|refine ω8 ?_|refine ⟨rfl,?_⟩|refine ⟨trivial,?_⟩|refine ⟨⟨rfl,Nat.le_of_ble_eq_true rfl⟩,?_⟩|refine ⟨⟨by kernel_rfl,by kernel_rfl⟩,?_⟩|refine ⟨by decide,?_⟩|refine lit_true ?_|refine lit_false ?_))
            (conv => whnf)
            refine ⟨oneRow_one rfl, by show (i + 1) * 16 ≤ _; omega, by first | omega | (dsimp only; omega), ?_⟩
            (repeat ((conv=>whnf);first|refine ω0 ?_|refine ω1 ?_|refine ω2 ?_|refine ω3 ?_|refine ω4 rfl ?_|refine ω5 rfl ?_|refine ω6 ?_|refine ω7 ?_|refine ω8 ?_|refine ⟨rfl,?_⟩|refine ⟨trivial,?_⟩|refine ⟨⟨rfl,Nat.le_of_ble_eq_true rfl⟩,?_⟩|refine ⟨⟨by kernel_rfl,by kernel_rfl⟩,?_⟩|refine ⟨by decide,?_⟩|refine lit_true ?_|refine lit_false ?_))
            refine back (i + 1, some (nx3, nx6 + 1), nx6 + 2) ⟨by first | omega | (dsimp only; omega), (fun h => by cases h), h60'⟩ (by first | omega | (dsimp only; omega)) (ele_tell (pm := [((1, nx6 + 1), (i + 1) * 2), ((0, nx3), (i + 1) * 1)]) [] _ rfl rfl (.cons _ (.cons _ .slnil)) (List.Sublist.refl _) trivial ⟨rfl, rfl, rfl, rfl, trivial⟩ ⟨AVle.refl _, AVle.refl _, AVle.refl _, AVle.refl _, (AVle.os_fun (appF_one (fun k hk => rfl) ?_)).trans (AVle.os_nm rfl), AVle.refl _, le_int (wrap_succ (by first | omega | (dsimp only; omega))), trivial⟩)
            exact (congrArg actP q2).symm
        · have t1 : (checkI (ps.getD i [])).2 ≠ 0 := fun h => fct_n1.1 t1 (by rw [h]; rfl)
          (repeat ((conv=>whnf);first|refine ω0 ?_|refine ω1 ?_|refine ω2 ?_|refine ω3 ?_|refine ω4 rfl ?_|refine ω5 rfl ?_|refine ω6 ?_|refine ω7 ?_|refine ω8 ?_|refine ⟨rfl,?_⟩|refine ⟨trivial,?_⟩|refine ⟨⟨rfl,Nat.le_of_ble_eq_true rfl⟩,?_⟩|refine ⟨⟨by kernel_rfl,by kernel_rfl⟩,?_⟩|refine ⟨by decide,?_⟩|refine lit_true ?_|refine lit_false ?_))
          intro c t2; cases c
          · have t2 : badI m e i ≠ 0 := fun h => fct_b0.1 t2 (by rw [h]; rfl)
            have hnew : badI m e i = badI m e (i + 1) := by
              unfold badI at *
              split at t2
              · exact absurd rfl t2
              · rw [if_neg (by assumption), if_neg (by omega)]
            (repeat ((conv=>whnf);first|refine ω0 ?_|refine ω2 ?_|refine ω3 ?_|refine ω4 rfl ?_|refine ω5 rfl ?_|refine ω6 ?_|refine ω7 ?_|refine ω8 ?_|refine ⟨rfl,?_⟩|refine ⟨trivial,?_⟩|refine ⟨⟨rfl,Nat.le_of_ble_eq_true rfl⟩,?_⟩|refine ⟨⟨by kernel_rfl,by kernel_rfl⟩,?_⟩|refine ⟨by decide,?_⟩|refine lit_true ?_|refine lit_false ?_))
            refine AW.le (ele_mk (n := 119) (h := ⟨[], [((0, nx3), (i + 1) * 1), ((1, st2), i * 2)], nx4, 2⟩) (L := [(0, insss ps), (3, .rp (b.map fun k : Nat => u8 k)), (4, boolA false), (5, .os 1 (i + 1) (fun k => bytesA (writeB (ps.getD k []))) (some (0, nx3))), (6, .os 2 i (fun k => actP (tellA b (ps.getD k []))) (some (1, st2))), (7, int (badI m e (i + 1) : Nat)), (8, int i), (9, bytesA (writeB (ps.getD i [])))]) rfl rfl ⟨AVle.refl _, AVle.refl _, AVle.refl _, AVle.refl _, AVle.refl _, le_int (by rw [hnew]), AVle.refl _, AVle.refl _, trivial⟩) ?_
            rcases hq with ⟨k, x, q1, q2⟩ | ⟨q1, q2⟩
            · rw [q1] at hrf
              refine aw_regionY (fun n => match n with | 0 => true | _ => false) 2 ?_
              (repeat ((conv=>whnf);first|refine ω0 ?_|refine ω1 ?_|refine ω2 ?_|refine ω3 ?_|refine ω4 rfl ?_|refine ω5 rfl ?_|refine ω6 ?_|refine ω7 ?_|refine ω8 ?_|refine ⟨rfl,?_⟩|refine ⟨trivial,?_⟩|refine ⟨⟨rfl,Nat.le_of_ble_eq_true rfl⟩,?_⟩|refine ⟨⟨by kernel_rfl,by kernel_rfl⟩,?_⟩|refine ⟨by decide,?_⟩|refine lit_true ?_|refine lit_false ?_))
              refine aop_arr (n := 64) (e := 5) rfl rfl rfl Try.underlying23 Try.underlying5 rfl (by kernel_rfl) hbl (fun _ => rfl) ?_
              (repeat ((conv=>whnf);first|refine ω0 ?_|refine ω1 ?_|refine ω2 ?_|refine ω3 ?_|refine ω4 rfl ?_|refine ω5 rfl ?_|refine ω6 ?_|refine ω7 ?_|refine ω8 ?_|refine ⟨rfl,?_⟩|refine ⟨trivial,?_⟩|refine ⟨⟨rfl,Nat.le_of_ble_eq_true rfl⟩,?_⟩|refine ⟨⟨by kernel_rfl,by kernel_rfl⟩,?_⟩|refine ⟨by decide,?_⟩|refine lit_true ?_|refine lit_false ?_))
              refine aop_tells rfl rfl hrr ⟨AVle.refl _, AVle.refl _, trivial⟩ fun nx5 => ?_
              intro cf hcf
              (repeat ((conv=>whnf);first|refine ω0 ?_|refine ω1 ?_|refine ω2 ?_|refine ω3 ?_|refine ω4 rfl ?_|refine ω5 rfl ?_|refine ω6 ?_|refine ω7 ?_|refine ω8 ?_|refine ⟨rfl,?_⟩|refine ⟨trivial,?_⟩|refine ⟨⟨rfl,Nat.le_of_ble_eq_true rfl⟩,?_⟩|refine ⟨⟨by kernel_rfl,by kernel_rfl⟩,?_⟩|refine ⟨by decide,?_⟩|refine lit_true ?_|refine lit_false ?_))
              refine aop_tells rfl rfl hrf ⟨le_int (u32_int hv), trivial⟩ fun nx6 => ?_
              (repeat ((conv=>whnf);first|refine ω0 ?_|refine ω1 ?_|refine ω2 ?_|refine ω3 ?_|refine ω4 rfl ?_|refine ω5 rfl ?_|refine ω6 ?_|refine ω7 ?_|refine ω8 ?_|refine ⟨rfl,?_⟩|refine ⟨trivial,?_⟩|refine ⟨⟨rfl,Nat.le_of_ble_eq_true rfl⟩,?_⟩|refine ⟨⟨by kernel_rfl,by kernel_rfl⟩,?_⟩|refine ⟨by decide,?_⟩|refine lit_true ?_|refine lit_false ?_))
              (conv => whnf)
              refine ⟨oneRow_one rfl, by show (i + 1) * 16 ≤ _; omega, by first | omega | (dsimp only; omega), ?_⟩
              (repeat ((conv=>whnf);first|refine ω0 ?_|refine ω1 ?_|refine ω2 ?_|refine ω3 ?_|refine ω4 rfl ?_|refine ω5 rfl ?_|refine ω6 ?_|refine ω7 ?_|refine ω8 ?_|refine ⟨rfl,?_⟩|refine ⟨trivial,?_⟩|refine ⟨⟨rfl,Nat.le_of_ble_eq_true rfl⟩,?_⟩|refine ⟨⟨by kernel_rfl,by kernel_rfl⟩,?_⟩|refine ⟨by decide,?_⟩|refine lit_true ?_|refine lit_false ?_))
              refine back (i + 1, some (nx3, nx6 + 1), nx6 + 2) ⟨by first | omega | (dsimp only; omega), (fun h => by cases h), h60'⟩ (by first | omega | (dsimp only; omega)) (ele_tell (pm := [((1, nx6 + 1), (i + 1) * 2), ((0, nx3), (i + 1) * 1)]) [] _ rfl rfl (.cons _ (.cons _ .slnil)) (List.Sublist.refl _) trivial ⟨rfl, rfl, rfl, rfl, trivial⟩ ⟨AVle.refl _, AVle.refl _, AVle.refl _, AVle.refl _, (AVle.os_fun (appF_one (fun k hk => rfl) ?_)).trans (AVle.os_nm rfl), AVle.refl _, le_int (wrap_succ (by first | omega | (dsimp only; omega))), trivial⟩)
              exact (congrArg actP q2).symm
            · rw [q1] at hrf
              refine aw_regionY (fun n => match n with | 0 => true | _ => false) 2 ?_
              (repeat ((conv=>whnf);first|refine ω0 ?_|refine ω1 ?_|refine ω2 ?_|refine ω3 ?_|refine ω4 rfl ?_|refine ω5 rfl ?_|refine ω6 ?_|refine ω7 ?_|refine ω8 ?_|refine ⟨rfl,?_⟩|refine ⟨trivial,?_⟩|refine ⟨⟨rfl,Nat.le_of_ble_eq_true rfl⟩,?_⟩|refine ⟨⟨by kernel_rfl,by kernel_rfl⟩,?_⟩|refine ⟨by decide,?_⟩|refine lit_true ?_|refine lit_false ?_))
              refine aop_arr (n := 64) (e := 5) rfl rfl rfl Try.underlying23 Try.underlying5 rfl (by kernel_rfl) hbl (fun _ => rfl) ?_
              (repeat ((conv=>whnf);first|refine ω0 ?_|refine ω1 ?_|refine ω2 ?_|refine ω3 ?_|refine ω4 rfl ?_|refine ω5 rfl ?_|refine ω6 ?_|refine ω7 ?_|refine ω8 ?_|refine ⟨rfl,?_⟩|refine ⟨trivial,?_⟩|refine ⟨⟨rfl,Nat.le_of_ble_eq_true rfl⟩,?_⟩|refine ⟨⟨by kernel_rfl,by kernel_rfl⟩,?_⟩|refine ⟨by decide,?_⟩|refine lit_true ?_|refine lit_false ?_))
              refine aop_tells rfl rfl hrr ⟨AVle.refl _, AVle.refl _, trivial⟩ fun nx5 => ?_
              intro cf hcf
              (repeat ((conv=>whnf);first|refine ω0 ?_|refine ω1 ?_|refine ω2 ?_|refine ω3 ?_|refine ω4 rfl ?_|refine ω5 rfl ?_|refine ω6 ?_|refine ω7 ?_|refine ω8 ?_|refine ⟨rfl,?_⟩|refine ⟨trivial,?_⟩|refine ⟨⟨rfl,Nat.le_of_ble_eq_true rfl⟩,?_⟩|refine ⟨⟨by kernel_rfl,by kernel_rfl⟩,?_⟩|refine ⟨by decide,?_⟩|refine lit_true ?_|refine lit_false ?_))
              refine aop_tells rfl rfl hrf ⟨le_int (u32_int hv), trivial⟩ fun nx6 => ?_
              (repeat ((conv=>whnf);first|refine ω0 ?_|refine ω1 ?_|refine ω2 ?_|refine ω3 ?_|refine ω4 rfl ?_|refine ω5 rfl ?_|refine ω6 ?_|refine ω7 ?_|refine ω8 ?_|refine ⟨rfl,?_⟩|refine ⟨trivial,?_⟩|refine ⟨⟨rfl,Nat.le_of_ble_eq_true rfl⟩,?_⟩|refine ⟨⟨by kernel_rfl,by kernel_rfl⟩,?_⟩|refine ⟨by decide,?_⟩|refine lit_true ?_|refine lit_false ?_))
              (conv => whnf)
              refine ⟨oneRow_one rfl, by show (i + 1) * 16 ≤ _; omega, by first | omega | (dsimp only; omega), ?_⟩
              (repeat ((conv=>whnf);first|refine ω0 ?_|refine ω1 ?_|refine ω2 ?_|refine ω3 ?_|refine ω4 rfl ?_|refine ω5 rfl ?_|refine ω6 ?_|refine ω7 ?_|refine ω8 ?_|refine ⟨rfl,?_⟩|refine ⟨trivial,?_⟩|refine ⟨⟨rfl,Nat.le_of_ble_eq_true rfl⟩,?_⟩|refine ⟨⟨by kernel_rfl,by kernel_rfl⟩,?_⟩|refine ⟨by decide,?_⟩|refine lit_true ?_|refine lit_false ?_))
              refine back (i + 1, some (nx3, nx6 + 1), nx6 + 2) ⟨by first | omega | (dsimp only; omega), (fun h => by cases h), h60'⟩ (by first | omega | (dsimp only; omega)) (ele_tell (pm := [((1, nx6 + 1), (i + 1) * 2), ((0, nx3), (i + 1) * 1)]) [] _ rfl rfl (.cons _ (.cons _ .slnil)) (List.Sublist.refl _) trivial ⟨rfl, rfl, rfl, rfl, trivial⟩ ⟨AVle.refl _, AVle.refl _, AVle.refl _, AVle.refl _, (AVle.os_fun (appF_one (fun k hk => rfl) ?_)).trans (AVle.os_nm rfl), AVle.refl _, le_int (wrap_succ (by first | omega | (dsimp only; omega))), trivial⟩)
              exact (congrArg actP q2).symm
          · have t2 : badI m e i = 0 := Int.ofNat_inj.1 (fct_b1.1 t2)
            have hnew : (checkI (ps.getD i [])).2 = badI m e (i + 1) := by
              unfold badI at *
              rcases Nat.lt_trichotomy i m with h | h | h
              · exact absurd (hbf i h) t1
              · subst h; rw [if_neg (by omega)]; exact (hbad hil).1.symm
              · rw [if_neg (by omega)] at t2
                have := hbad (by omega)
                omega
            (repeat ((conv=>whnf);first|refine ω0 ?_|refine ω2 ?_|refine ω3 ?_|refine ω4 rfl ?_|refine ω5 rfl ?_|refine ω6 ?_|refine ω7 ?_|refine ω8 ?_|refine ⟨rfl,?_⟩|refine ⟨trivial,?_⟩|refine ⟨⟨rfl,Nat.le_of_ble_eq_true rfl⟩,?_⟩|refine ⟨⟨by kernel_rfl,by kernel_rfl⟩,?_⟩|refine ⟨by decide,?_⟩|refine lit_true ?_|refine lit_false ?_))
            refine aw_region ?_
            (repeat ((conv=>whnf);first|refine ω0 ?_|refine ω2 ?_|refine ω3 ?_|refine ω4 rfl ?_|refine ω5 rfl ?_|refine ω6 ?_|refine ω7 ?_|refine ω8 ?_|refine ⟨rfl,?_⟩|refine ⟨trivial,?_⟩|refine ⟨⟨rfl,Nat.le_of_ble_eq_true rfl⟩,?_⟩|refine ⟨⟨by kernel_rfl,by kernel_rfl⟩,?_⟩|refine ⟨by decide,?_⟩|refine lit_true ?_|refine lit_false ?_))
            refine AW.le (ele_mk (n := 119) (h := ⟨[], [((0, nx3), (i + 1) * 1), ((1, st2), i * 2)], nx4, 2⟩) (L := [(0, insss ps), (3, .rp (b.map fun k : Nat => u8 k)), (4, boolA false), (5, .os 1 (i + 1) (fun k => bytesA (writeB (ps.getD k []))) (some (0, nx3))), (6, .os 2 i (fun k => actP (tellA b (ps.getD k []))) (some (1, st2))), (7, int (badI m e (i + 1) : Nat)), (8, int i), (9, bytesA (writeB (ps.getD i [])))]) rfl rfl ⟨AVle.refl _, AVle.refl _, AVle.refl _, AVle.refl _, AVle.refl _, le_int (by rw [hnew]), AVle.refl _, AVle.refl _, trivial⟩) ?_
            rcases hq with ⟨k, x, q1, q2⟩ | ⟨q1, q2⟩
            · rw [q1] at hrf
              refine aw_regionY (fun n => match n with | 0 => true | _ => false) 2 ?_
              (repeat ((conv=>whnf);first|refine ω0 ?_|refine ω1 ?_|refine ω2 ?_|refine ω3 ?_|refine ω4 rfl ?_|refine ω5 rfl ?_|refine ω6 ?_|refine ω7 ?_|refine ω8 ?_|refine ⟨rfl,?_⟩|refine ⟨trivial,?_⟩|refine ⟨⟨rfl,Nat.le_of_ble_eq_true rfl⟩,?_⟩|refine ⟨⟨by kernel_rfl,by kernel_rfl⟩,?_⟩|refine ⟨by decide,?_⟩|refine lit_true ?_|refine lit_false ?_))
              refine aop_arr (n := 64) (e := 5) rfl rfl rfl Try.underlying23 Try.underlying5 rfl (by kernel_rfl) hbl (fun _ => rfl) ?_
              (repeat ((conv=>whnf);first|refine ω0 ?_|refine ω1 ?_|refine ω2 ?_|refine ω3 ?_|refine ω4 rfl ?_|refine ω5 rfl ?_|refine ω6 ?_|refine ω7 ?_|refine ω8 ?_|refine ⟨rfl,?_⟩|refine ⟨trivial,?_⟩|refine ⟨⟨rfl,Nat.le_of_ble_eq_true rfl⟩,?_⟩|refine ⟨⟨by kernel_rfl,by kernel_rfl⟩,?_⟩|refine ⟨by decide,?_⟩|refine lit_true ?_|refine lit_false ?_))
              refine aop_tells rfl rfl hrr ⟨AVle.refl _, AVle.refl _, trivial⟩ fun nx5 => ?_
              intro cf hcf
              (repeat ((conv=>whnf);first|refine ω0 ?_|refine ω1 ?_|refine ω2 ?_|refine ω3 ?_|refine ω4 rfl ?_|refine ω5 rfl ?_|refine ω6 ?_|refine ω7 ?_|refine ω8 ?_|refine ⟨rfl,?_⟩|refine ⟨trivial,?_⟩|refine ⟨⟨rfl,Nat.le_of_ble_eq_true rfl⟩,?_⟩|refine ⟨⟨by kernel_rfl,by kernel_rfl⟩,?_⟩|refine ⟨by decide,?_⟩|refine lit_true ?_|refine lit_false ?_))
              refine aop_tells rfl rfl hrf ⟨le_int (u32_int hv), trivial⟩ fun nx6 => ?_
              (repeat ((conv=>whnf);first|refine ω0 ?_|refine ω1 ?_|refine ω2 ?_|refine ω3 ?_|refine ω4 rfl ?_|refine ω5 rfl ?_|refine ω6 ?_|refine ω7 ?_|refine ω8 ?_|refine ⟨rfl,?_⟩|refine ⟨trivial,?_⟩|refine ⟨⟨rfl,Nat.le_of_ble_eq_true rfl⟩,?_⟩|refine ⟨⟨by kernel_rfl,by kernel_rfl⟩,?_⟩|refine ⟨by decide,?_⟩|refine lit_true ?_|refine lit_false ?_))
              (conv => whnf)
              refine ⟨oneRow_one rfl, by show (i + 1) * 16 ≤ _; omega, by first | omega | (dsimp only; omega), ?_⟩
              (repeat ((conv=>whnf);first|refine ω0 ?_|refine ω1 ?_|refine ω2 ?_|refine ω3 ?_|refine ω4 rfl ?_|refine ω5 rfl ?_|refine ω6 ?_|refine ω7 ?_|refine ω8 ?_|refine ⟨rfl,?_⟩|refine ⟨trivial,?_⟩|refine ⟨⟨rfl,Nat.le_of_ble_eq_true rfl⟩,?_⟩|refine ⟨⟨by kernel_rfl,by kernel_rfl⟩,?_⟩|refine ⟨by decide,?_⟩|refine lit_true ?_|refine lit_false ?_))
              refine back (i + 1, some (nx3, nx6 + 1), nx6 + 2) ⟨by first | omega | (dsimp only; omega), (fun h => by cases h), h60'⟩ (by first | omega | (dsimp only; omega)) (ele_tell (pm := [((1, nx6 + 1), (i + 1) * 2), ((0, nx3), (i + 1) * 1)]) [] _ rfl rfl (.cons _ (.cons _ .slnil)) (List.Sublist.refl _) trivial ⟨rfl, rfl, rfl, rfl, trivial⟩ ⟨AVle.refl _, AVle.refl _, AVle.refl _, AVle.refl _, (AVle.os_fun (appF_one (fun k hk => rfl) ?_)).trans (AVle.os_nm rfl), AVle.refl _, le_int (wrap_succ (by first | omega | (dsimp only; omega))), trivial⟩)
              exact (congrArg actP q2).symm
            · rw [q1] at hrf
              refine aw_regionY (fun n => match n with | 0 => true | _ => false) 2 ?_
              (repeat ((conv=>whnf);first|refine ω0 ?_|refine ω1 ?_|refine ω2 ?_|refine ω3 ?_|refine ω4 rfl ?_|refine ω5 rfl ?_|refine ω6 ?_|refine ω7 ?_|refine ω8 ?_|refine ⟨rfl,?_⟩|refine ⟨trivial,?_⟩|refine ⟨⟨rfl,Nat.le_of_ble_eq_true rfl⟩,?_⟩|refine ⟨⟨by kernel_rfl,by kernel_rfl⟩,?_⟩|refine ⟨by decide,?_⟩|refine lit_true ?_|refine lit_false ?_))
              refine aop_arr (n := 64) (e := 5) rfl rfl rfl Try.underlying23 Try.underlying5 rfl (by kernel_rfl) hbl (fun _ => rfl) ?_
              (repeat ((conv=>whnf);first|refine ω0 ?_|refine ω1 ?_|refine ω2 ?_|refine ω3 ?_|refine ω4 rfl ?_|refine ω5 rfl ?_|refine ω6 ?_|refine ω7 ?_|refine ω8 ?_|refine ⟨rfl,?_⟩|refine ⟨trivial,?_⟩|refine ⟨⟨rfl,Nat.le_of_ble_eq_true rfl⟩,?_⟩|refine ⟨⟨by kernel_rfl,by kernel_rfl⟩,?_⟩|refine ⟨by decide,?_⟩|refine lit_true ?_|refine lit_false ?_))
              refine aop_tells rfl rfl hrr ⟨AVle.refl _, AVle.refl _, trivial⟩ fun nx5 => ?_
              intro cf hcf
              (repeat ((conv=>whnf);first|refine ω0 ?_|refine ω1 ?_|refine ω2 ?_|refine ω3 ?_|refine ω4 rfl ?_|refine ω5 rfl ?_|refine ω6 ?_|refine ω7 ?_|refine ω8 ?_|refine ⟨rfl,?_⟩|refine ⟨trivial,?_⟩|refine ⟨⟨rfl,Nat.le_of_ble_eq_true rfl⟩,?_⟩|refine ⟨⟨by kernel_rfl,by kernel_rfl⟩,?_⟩|refine ⟨by decide,?_⟩|refine lit_true ?_|refine lit_false ?_))
              refine aop_tells rfl rfl hrf ⟨le_int (u32_int hv), trivial⟩ fun nx6 => ?_
              (repeat ((conv=>whnf);first|refine ω0 ?_|refine ω1 ?_|refine ω2 ?_|refine ω3 ?_|refine ω4 rfl ?_|refine ω5 rfl ?_|refine ω6 ?_|refine ω7 ?_|refine ω8 ?_|refine ⟨rfl,?_⟩|refine ⟨trivial,?_⟩|refine ⟨⟨rfl,Nat.le_of_ble_eq_true rfl⟩,?_⟩|refine ⟨⟨by kernel_rfl,by kernel_rfl⟩,?_⟩|refine ⟨by decide,?_⟩|refine lit_true ?_|refine lit_false ?_))
              (conv => whnf)
              refine ⟨oneRow_one rfl, by show (i + 1) * 16 ≤ _; omega, by first | omega | (dsimp only; omega), ?_⟩
              (repeat ((conv=>whnf);first|refine ω0 ?_|refine ω1 ?_|refine ω2 ?_|refine ω3 ?_|refine ω4 rfl ?_|refine ω5 rfl ?_|refine ω6 ?_|refine ω7 ?_|refine ω8 ?_|refine ⟨rfl,?_⟩|refine ⟨trivial,?_⟩|refine ⟨⟨rfl,Nat.le_of_ble_eq_true rfl⟩,?_⟩|refine ⟨⟨by kernel_rfl,by kernel_rfl⟩,?_⟩|refine ⟨by decide,?_⟩|refine lit_true ?_|refine lit_false ?_))
              refine back (i + 1, some (nx3, nx6 + 1), nx6 + 2) ⟨by first | omega | (dsimp only; omega), (fun h => by cases h), h60'⟩ (by first | omega | (dsimp only; omega)) (ele_tell (pm := [((1, nx6 + 1), (i + 1) * 2), ((0, nx3), (i + 1) * 1)]) [] _ rfl rfl (.cons _ (.cons _ .slnil)) (List.Sublist.refl _) trivial ⟨rfl, rfl, rfl, rfl, trivial⟩ ⟨AVle.refl _, AVle.refl _, AVle.refl _, AVle.refl _, (AVle.os_fun (appF_one (fun k hk => rfl) ?_)).trans (AVle.os_nm rfl), AVle.refl _, le_int (wrap_succ (by first | omega | (dsimp only; omega))), trivial⟩)
              exact (congrArg actP q2).symm
theorem first_bad (ps : List (List Ins)) : ∃ m, m ≤ ps.length ∧ (∀ j, j < m → (checkI (ps.getD j [])).2 = 0) ∧ (m < ps.length → (checkI (ps.getD m [])).2 ≠ 0) := by
  cases h : (List.range ps.length).find? (fun j => decide ((checkI (ps.getD j [])).2 ≠ 0)) with
  | none =>
    rw [List.find?_range_eq_none] at h
    exact ⟨ps.length, Nat.le_refl _, fun j hj => by simpa using h j hj, fun h => absurd h (Nat.lt_irrefl _)⟩
  | some m =>
    rw [List.find?_range_eq_some] at h
    obtain ⟨h1, h2, h3⟩ := h
    exact ⟨m, by simp at h2; omega, fun j hj => by simpa using h3 j hj, fun _ => by simpa using h1⟩
theorem stackruns_law (ps : List (List Ins)) (hok : ∀ l ∈ ps, okL l) (hlm : ∀ l ∈ ps, l.length ≤ maxLen) (hl0 : ps.length ≤ maxLen) (b : List Nat) (hb : okB b) (hbl : b.length = 64) : Tells Try.prog 3 [insss ps, b64A b] (boolA true) := by
  obtain ⟨m, h1, h2, h3⟩ := first_bad ps
  exact stackruns_spec ps hok hlm hl0 b hb hbl m _ h1 h2 (fun h => ⟨rfl, h3 h⟩)
end Go.Proofs.W

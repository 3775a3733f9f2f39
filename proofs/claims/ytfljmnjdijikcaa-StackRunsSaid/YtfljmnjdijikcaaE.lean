import Derived.Test.YtfljmnjdijikcaaD
import Derived.Test.YtfljmnjdijikcaaC
set_option linter.unusedVariables false
set_option linter.unusedSimpArgs false
namespace Go.Proofs.W
open Go.Vl
set_option maxRecDepth 100000

def u32A (n : Nat) : AV := u32 n
def natF (l : List Nat) (k : Nat) : AV := int (l.getD k 0 : Nat)
def runC (b : List Nat) (s : Rn) (oi : Option Nat) : List AV := [bytesA b, int s.at', u32 s.a, u32 s.x] ++ s.cells.map u32A ++ [u32 0, int s.steps, .os 1 s.loads.length (natF s.loads) (nmN 1 oi)]
def opA (i : Ins) (f : AV) : AV := .ag [u16 i.code, u8 i.jt, u8 i.jf, u32 i.k, f, int (kof i.code).1, boolA (kof i.code).2]
def vmH (b : List Nat) (s0 : Nat) (s : Rn) (oi : Option Nat) (nx nn : Nat) : Heap := ⟨[((0, s0), .c (runC b s oi))], pmOf (nmN 1 oi) (s.loads.length * 1), nx, nn⟩
def overA (v : Nat) : AV := .ifc 190 (.ag [u32 v])
def doQ (b : List Nat) (s0 : Nat) (o : Option Nat × Rn) : Res → Heap → Prop
  | .ret _, h' => ∃ oi' nx' nn', o.1 = none ∧ (oi' = none → o.2.loads = []) ∧ h' = vmH b s0 o.2 oi' nx' nn'
  | .pan x, h' => ∃ v oi' nx' nn', o.1 = some v ∧ x = overA v ∧ (oi' = none → o.2.loads = []) ∧ h' = vmH b s0 o.2 oi' nx' nn'
def wkR (Q : Res → Heap → Prop) : Res → Heap → Prop
  | .ret r, h => ∃ r' h', AVle r r' ∧ HLe h h' ∧ Q (.ret r') h'
  | .pan x, h => ∃ x' h', AVle x x' ∧ HLe h h' ∧ Q (.pan x') h'
theorem ecallR_wk {P : Program} {f : FuncId} {xs : List AV} {h : Heap} {Q : Res → Heap → Prop} (hc : ECallR P f xs h (wkR Q)) : ECallR P f xs h Q := by
  refine ⟨hc.1, fun X w g vs h1 h2 h3 h4 => ?_⟩
  refine (fnWay P f).mono (hc.2 X w g vs h1 h2 h3 h4) fun e w' ⟨r, h', g', a1, a2, a3, a4, a5, a7, a8⟩ => ?_
  cases r with
  | pan x =>
    obtain ⟨x', h'', q1, q2, q3⟩ := a2
    obtain ⟨u, rfl, a1⟩ := a1
    exact ⟨.pan x', h'', g', ⟨u, rfl, q1 _ _ _ _ (a1.stays (Stays.less (q2.ex X g')))⟩, q3, a3, q2.ok _ _ _ a4, fun b o hx i hi => a5 b o hx i (q2.ids i hi), a7, fun b o hx hb => a8 b o (q2.ex none2 g' b o hx) hb⟩
  | ret r =>
    obtain ⟨r', h'', q1, q2, q3⟩ := a2
    obtain ⟨u, rfl, a1⟩ := a1
    exact ⟨.ret r', h'', g', ⟨u, rfl, q1 _ _ _ _ (a1.stays (Stays.less (q2.ex X g')))⟩, q3, a3, q2.ok _ _ _ a4, fun b o hx i hi => a5 b o hx i (q2.ids i hi), a7, fun b o hx hb => a8 b o (q2.ex none2 g' b o hx) hb⟩
theorem doRet {b : List Nat} {s0 : Nat} {o : Option Nat × Rn} {r : AV} {h : Heap} (s' : Rn) (oi' : Option Nat) (nx' nn' : Nat) (hd : o = (none, s')) (ho : oi' = none → s'.loads = []) (hl : HLe h (vmH b s0 s' oi' nx' nn')) : wkR (doQ b s0 o) (.ret r) h := by
  subst hd
  exact ⟨r, _, AVle.refl _, hl, oi', nx', nn', rfl, ho, rfl⟩
theorem doPan {b : List Nat} {s0 : Nat} {o : Option Nat × Rn} {h : Heap} {x : AV} (v : Nat) (s' : Rn) (oi' : Option Nat) (nx' nn' : Nat) (hd : o = (some v, s')) (hx : AVle x (overA v)) (ho : oi' = none → s'.loads = []) (hl : HLe h (vmH b s0 s' oi' nx' nn')) : wkR (doQ b s0 o) (.pan x) h := by
  subst hd
  exact ⟨_, _, hx, hl, v, oi', nx', nn', rfl, rfl, ho, rfl⟩
theorem cells16 {l : List Nat} (h : l.length = 16) : ∃ c0 c1 c2 c3 c4 c5 c6 c7 c8 c9 c10 c11 c12 c13 c14 c15, l = [c0, c1, c2, c3, c4, c5, c6, c7, c8, c9, c10, c11, c12, c13, c14, c15] := by
  match l, h with
  | [c0, c1, c2, c3, c4, c5, c6, c7, c8, c9, c10, c11, c12, c13, c14, c15], _ => exact ⟨c0, c1, c2, c3, c4, c5, c6, c7, c8, c9, c10, c11, c12, c13, c14, c15, rfl⟩
theorem runC_get {b : List Nat} {at' a x steps k : Nat} {loads : List Nat} {oi : Option Nat} {c0 c1 c2 c3 c4 c5 c6 c7 c8 c9 c10 c11 c12 c13 c14 c15 : Nat} (hk : k < 16) :
    (runC b ⟨at', a, x, [c0, c1, c2, c3, c4, c5, c6, c7, c8, c9, c10, c11, c12, c13, c14, c15], steps, loads⟩ oi).getD (4 + k) .any = u32 ([c0, c1, c2, c3, c4, c5, c6, c7, c8, c9, c10, c11, c12, c13, c14, c15].getD k 0 : Nat) := by
  match k, hk with
  | 0, _ => rfl
  | 1, _ => rfl
  | 2, _ => rfl
  | 3, _ => rfl
  | 4, _ => rfl
  | 5, _ => rfl
  | 6, _ => rfl
  | 7, _ => rfl
  | 8, _ => rfl
  | 9, _ => rfl
  | 10, _ => rfl
  | 11, _ => rfl
  | 12, _ => rfl
  | 13, _ => rfl
  | 14, _ => rfl
  | 15, _ => rfl
  | n + 16, h => omega
theorem runC_set {b : List Nat} {at' a x steps k v : Nat} {loads : List Nat} {oi : Option Nat} {c0 c1 c2 c3 c4 c5 c6 c7 c8 c9 c10 c11 c12 c13 c14 c15 : Nat} (hk : k < 16) :
    splice (runC b ⟨at', a, x, [c0, c1, c2, c3, c4, c5, c6, c7, c8, c9, c10, c11, c12, c13, c14, c15], steps, loads⟩ oi) (4 + k) [u32 v] = runC b ⟨at', a, x, ([c0, c1, c2, c3, c4, c5, c6, c7, c8, c9, c10, c11, c12, c13, c14, c15]).set k v, steps, loads⟩ oi := by
  match k, hk with
  | 0, _ => rfl
  | 1, _ => rfl
  | 2, _ => rfl
  | 3, _ => rfl
  | 4, _ => rfl
  | 5, _ => rfl
  | 6, _ => rfl
  | 7, _ => rfl
  | 8, _ => rfl
  | 9, _ => rfl
  | 10, _ => rfl
  | 11, _ => rfl
  | 12, _ => rfl
  | 13, _ => rfl
  | 14, _ => rfl
  | 15, _ => rfl
  | n + 16, h => omega
theorem vimm_spec (b : List Nat) (i : Ins) (hk : (kof i.code).1 = 2) (s0 : Nat) (s : Rn) (oi : Option Nat) (h0 : oi = none → s.loads = []) (hs : s.ok) (nx : Nat) :
    ECallR Try.prog 136 [.bp (0, s0) 0, opA i .any] (vmH b s0 s oi nx 2) (doQ b s0 (doV b i s)) := by
  obtain ⟨at', a, x, cells, steps, loads⟩ := s
  obtain ⟨c0, c1, c2, c3, c4, c5, c6, c7, c8, c9, c10, c11, c12, c13, c14, c15, rfl⟩ := cells16 hs.n
  refine ecallR_wk (ecallR_of_aw Try.func136 rfl rfl ?_)
  (repeat ((conv=>whnf);first|refine ω0 ?_|refine ω1 ?_|refine ω2 ?_|refine ω3 ?_|refine ω4 rfl ?_|refine ω5 rfl ?_|refine ω6 ?_|refine ω7 ?_|refine ω8 ?_|refine ⟨rfl,?_⟩|refine ⟨trivial,?_⟩|refine ⟨⟨rfl,Nat.le_of_ble_eq_true rfl⟩,?_⟩|refine ⟨⟨by kernel_rfl,by kernel_rfl⟩,?_⟩|refine ⟨by decide,?_⟩|refine lit_true ?_|refine lit_false ?_))
  exact ret_is rfl (doRet ⟨at', i.k, x, _, steps, loads⟩ oi _ 2 (by unfold doV; rw [hk]; rfl) h0 (hle_tell _ _ rfl (.cons _ (List.Sublist.refl _)) (List.Sublist.refl _) ⟨rfl, OwnLe.refl _, trivial⟩ (PmEq.refl _)))
theorem vlenA_spec (b : List Nat) (i : Ins) (hk : (kof i.code).1 = 4) (s0 : Nat) (s : Rn) (oi : Option Nat) (h0 : oi = none → s.loads = []) (hs : s.ok) (nx : Nat) :
    ECallR Try.prog 138 [.bp (0, s0) 0, opA i .any] (vmH b s0 s oi nx 2) (doQ b s0 (doV b i s)) := by
  obtain ⟨at', a, x, cells, steps, loads⟩ := s
  obtain ⟨c0, c1, c2, c3, c4, c5, c6, c7, c8, c9, c10, c11, c12, c13, c14, c15, rfl⟩ := cells16 hs.n
  refine ecallR_wk (ecallR_of_aw Try.func138 rfl rfl ?_)
  (repeat ((conv=>whnf);first|refine ω0 ?_|refine ω1 ?_|refine ω2 ?_|refine ω3 ?_|refine ω4 rfl ?_|refine ω5 rfl ?_|refine ω6 ?_|refine ω7 ?_|refine ω8 ?_|refine ⟨rfl,?_⟩|refine ⟨trivial,?_⟩|refine ⟨⟨rfl,Nat.le_of_ble_eq_true rfl⟩,?_⟩|refine ⟨⟨by kernel_rfl,by kernel_rfl⟩,?_⟩|refine ⟨by decide,?_⟩|refine lit_true ?_|refine lit_false ?_))
  exact ret_is rfl (doRet ⟨at', 64, x, _, steps, loads⟩ oi _ 2 (by unfold doV; rw [hk]; rfl) h0 (hle_tell _ _ rfl (.cons _ (List.Sublist.refl _)) (List.Sublist.refl _) ⟨rfl, OwnLe.refl _, trivial⟩ (PmEq.refl _)))
theorem vimmX_spec (b : List Nat) (i : Ins) (hk : (kof i.code).1 = 5) (s0 : Nat) (s : Rn) (oi : Option Nat) (h0 : oi = none → s.loads = []) (hs : s.ok) (nx : Nat) :
    ECallR Try.prog 139 [.bp (0, s0) 0, opA i .any] (vmH b s0 s oi nx 2) (doQ b s0 (doV b i s)) := by
  obtain ⟨at', a, x, cells, steps, loads⟩ := s
  obtain ⟨c0, c1, c2, c3, c4, c5, c6, c7, c8, c9, c10, c11, c12, c13, c14, c15, rfl⟩ := cells16 hs.n
  refine ecallR_wk (ecallR_of_aw Try.func139 rfl rfl ?_)
  (repeat ((conv=>whnf);first|refine ω0 ?_|refine ω1 ?_|refine ω2 ?_|refine ω3 ?_|refine ω4 rfl ?_|refine ω5 rfl ?_|refine ω6 ?_|refine ω7 ?_|refine ω8 ?_|refine ⟨rfl,?_⟩|refine ⟨trivial,?_⟩|refine ⟨⟨rfl,Nat.le_of_ble_eq_true rfl⟩,?_⟩|refine ⟨⟨by kernel_rfl,by kernel_rfl⟩,?_⟩|refine ⟨by decide,?_⟩|refine lit_true ?_|refine lit_false ?_))
  exact ret_is rfl (doRet ⟨at', a, i.k, _, steps, loads⟩ oi _ 2 (by unfold doV; rw [hk]; rfl) h0 (hle_tell _ _ rfl (.cons _ (List.Sublist.refl _)) (List.Sublist.refl _) ⟨rfl, OwnLe.refl _, trivial⟩ (PmEq.refl _)))
theorem vlenX_spec (b : List Nat) (i : Ins) (hk : (kof i.code).1 = 7) (s0 : Nat) (s : Rn) (oi : Option Nat) (h0 : oi = none → s.loads = []) (hs : s.ok) (nx : Nat) :
    ECallR Try.prog 141 [.bp (0, s0) 0, opA i .any] (vmH b s0 s oi nx 2) (doQ b s0 (doV b i s)) := by
  obtain ⟨at', a, x, cells, steps, loads⟩ := s
  obtain ⟨c0, c1, c2, c3, c4, c5, c6, c7, c8, c9, c10, c11, c12, c13, c14, c15, rfl⟩ := cells16 hs.n
  refine ecallR_wk (ecallR_of_aw Try.func141 rfl rfl ?_)
  (repeat ((conv=>whnf);first|refine ω0 ?_|refine ω1 ?_|refine ω2 ?_|refine ω3 ?_|refine ω4 rfl ?_|refine ω5 rfl ?_|refine ω6 ?_|refine ω7 ?_|refine ω8 ?_|refine ⟨rfl,?_⟩|refine ⟨trivial,?_⟩|refine ⟨⟨rfl,Nat.le_of_ble_eq_true rfl⟩,?_⟩|refine ⟨⟨by kernel_rfl,by kernel_rfl⟩,?_⟩|refine ⟨by decide,?_⟩|refine lit_true ?_|refine lit_false ?_))
  exact ret_is rfl (doRet ⟨at', a, 64, _, steps, loads⟩ oi _ 2 (by unfold doV; rw [hk]; rfl) h0 (hle_tell _ _ rfl (.cons _ (List.Sublist.refl _)) (List.Sublist.refl _) ⟨rfl, OwnLe.refl _, trivial⟩ (PmEq.refl _)))
theorem vtoX_spec (b : List Nat) (i : Ins) (hk : (kof i.code).1 = 10) (s0 : Nat) (s : Rn) (oi : Option Nat) (h0 : oi = none → s.loads = []) (hs : s.ok) (nx : Nat) :
    ECallR Try.prog 144 [.bp (0, s0) 0, opA i .any] (vmH b s0 s oi nx 2) (doQ b s0 (doV b i s)) := by
  obtain ⟨at', a, x, cells, steps, loads⟩ := s
  obtain ⟨c0, c1, c2, c3, c4, c5, c6, c7, c8, c9, c10, c11, c12, c13, c14, c15, rfl⟩ := cells16 hs.n
  refine ecallR_wk (ecallR_of_aw Try.func144 rfl rfl ?_)
  (repeat ((conv=>whnf);first|refine ω0 ?_|refine ω1 ?_|refine ω2 ?_|refine ω3 ?_|refine ω4 rfl ?_|refine ω5 rfl ?_|refine ω6 ?_|refine ω7 ?_|refine ω8 ?_|refine ⟨rfl,?_⟩|refine ⟨trivial,?_⟩|refine ⟨⟨rfl,Nat.le_of_ble_eq_true rfl⟩,?_⟩|refine ⟨⟨by kernel_rfl,by kernel_rfl⟩,?_⟩|refine ⟨by decide,?_⟩|refine lit_true ?_|refine lit_false ?_))
  exact ret_is rfl (doRet ⟨at', a, a, _, steps, loads⟩ oi _ 2 (by unfold doV; rw [hk]; rfl) h0 (hle_tell _ _ rfl (.cons _ (List.Sublist.refl _)) (List.Sublist.refl _) ⟨rfl, OwnLe.refl _, trivial⟩ (PmEq.refl _)))
theorem vtoA_spec (b : List Nat) (i : Ins) (hk : (kof i.code).1 = 11) (s0 : Nat) (s : Rn) (oi : Option Nat) (h0 : oi = none → s.loads = []) (hs : s.ok) (nx : Nat) :
    ECallR Try.prog 145 [.bp (0, s0) 0, opA i .any] (vmH b s0 s oi nx 2) (doQ b s0 (doV b i s)) := by
  obtain ⟨at', a, x, cells, steps, loads⟩ := s
  obtain ⟨c0, c1, c2, c3, c4, c5, c6, c7, c8, c9, c10, c11, c12, c13, c14, c15, rfl⟩ := cells16 hs.n
  refine ecallR_wk (ecallR_of_aw Try.func145 rfl rfl ?_)
  (repeat ((conv=>whnf);first|refine ω0 ?_|refine ω1 ?_|refine ω2 ?_|refine ω3 ?_|refine ω4 rfl ?_|refine ω5 rfl ?_|refine ω6 ?_|refine ω7 ?_|refine ω8 ?_|refine ⟨rfl,?_⟩|refine ⟨trivial,?_⟩|refine ⟨⟨rfl,Nat.le_of_ble_eq_true rfl⟩,?_⟩|refine ⟨⟨by kernel_rfl,by kernel_rfl⟩,?_⟩|refine ⟨by decide,?_⟩|refine lit_true ?_|refine lit_false ?_))
  exact ret_is rfl (doRet ⟨at', x, x, _, steps, loads⟩ oi _ 2 (by unfold doV; rw [hk]; rfl) h0 (hle_tell _ _ rfl (.cons _ (List.Sublist.refl _)) (List.Sublist.refl _) ⟨rfl, OwnLe.refl _, trivial⟩ (PmEq.refl _)))
theorem vcellA_spec (b : List Nat) (i : Ins) (hk : (kof i.code).1 = 3) (h16 : i.k < 16) (s0 : Nat) (s : Rn) (oi : Option Nat) (h0 : oi = none → s.loads = []) (hs : s.ok) (nx : Nat) :
    ECallR Try.prog 137 [.bp (0, s0) 0, opA i .any] (vmH b s0 s oi nx 2) (doQ b s0 (doV b i s)) := by
  obtain ⟨at', a, x, cells, steps, loads⟩ := s
  obtain ⟨c0, c1, c2, c3, c4, c5, c6, c7, c8, c9, c10, c11, c12, c13, c14, c15, rfl⟩ := cells16 hs.n
  refine ecallR_wk (ecallR_of_aw Try.func137 rfl rfl ?_)
  (repeat ((conv=>whnf);first|refine ω0 ?_|refine ω1 ?_|refine ω2 ?_|refine ω3 ?_|refine ω4 rfl ?_|refine ω5 rfl ?_|refine ω6 ?_|refine ω7 ?_|refine ω8 ?_|refine ⟨rfl,?_⟩|refine ⟨trivial,?_⟩|refine ⟨⟨rfl,Nat.le_of_ble_eq_true rfl⟩,?_⟩|refine ⟨⟨by kernel_rfl,by kernel_rfl⟩,?_⟩|refine ⟨by decide,?_⟩|refine lit_true ?_|refine lit_false ?_))
  (refine aw_draw 9 ?_ ?_ ?_ ?_; (· kernel_rfl); (· kernel_rfl); (· kernel_rfl))
  (repeat ((conv=>whnf);first|refine ω0 ?_|refine ω1 ?_|refine ω2 ?_|refine ω3 ?_|refine ω4 rfl ?_|refine ω5 rfl ?_|refine ω6 ?_|refine ω7 ?_|refine ω8 ?_|refine ⟨rfl,?_⟩|refine ⟨trivial,?_⟩|refine ⟨⟨rfl,Nat.le_of_ble_eq_true rfl⟩,?_⟩|refine ⟨⟨by kernel_rfl,by kernel_rfl⟩,?_⟩|refine ⟨by decide,?_⟩|refine lit_true ?_|refine lit_false ?_))
  refine ⟨⟨by omega, by omega⟩, splitO_eq (b := .bp (0, s0) (4 + i.k)) (congrArg (AV.bp (0, s0)) (by rw [show Try.prog.cellsOf 30 = 1 by kernel_rfl, Nat.mul_one]; rfl)) ?_⟩
  (conv => whnf)
  refine ⟨⟨rfl, by show 4 + i.k < 23; omega⟩, splitO_eq (runC_get h16) ?_⟩
  (repeat ((conv=>whnf);first|refine ω0 ?_|refine ω1 ?_|refine ω2 ?_|refine ω3 ?_|refine ω4 rfl ?_|refine ω5 rfl ?_|refine ω6 ?_|refine ω7 ?_|refine ω8 ?_|refine ⟨rfl,?_⟩|refine ⟨trivial,?_⟩|refine ⟨⟨rfl,Nat.le_of_ble_eq_true rfl⟩,?_⟩|refine ⟨⟨by kernel_rfl,by kernel_rfl⟩,?_⟩|refine ⟨by decide,?_⟩|refine lit_true ?_|refine lit_false ?_))
  exact ret_is rfl (doRet ⟨at', ([c0, c1, c2, c3, c4, c5, c6, c7, c8, c9, c10, c11, c12, c13, c14, c15]).getD i.k 0, x, _, steps, loads⟩ oi _ 2 (by unfold doV; rw [hk]; rfl) h0 (hle_tell _ _ rfl (.cons _ (List.Sublist.refl _)) (List.Sublist.refl _) ⟨rfl, OwnLe.refl _, trivial⟩ (PmEq.refl _)))
theorem vcellX_spec (b : List Nat) (i : Ins) (hk : (kof i.code).1 = 6) (h16 : i.k < 16) (s0 : Nat) (s : Rn) (oi : Option Nat) (h0 : oi = none → s.loads = []) (hs : s.ok) (nx : Nat) :
    ECallR Try.prog 140 [.bp (0, s0) 0, opA i .any] (vmH b s0 s oi nx 2) (doQ b s0 (doV b i s)) := by
  obtain ⟨at', a, x, cells, steps, loads⟩ := s
  obtain ⟨c0, c1, c2, c3, c4, c5, c6, c7, c8, c9, c10, c11, c12, c13, c14, c15, rfl⟩ := cells16 hs.n
  refine ecallR_wk (ecallR_of_aw Try.func140 rfl rfl ?_)
  (repeat ((conv=>whnf);first|refine ω0 ?_|refine ω1 ?_|refine ω2 ?_|refine ω3 ?_|refine ω4 rfl ?_|refine ω5 rfl ?_|refine ω6 ?_|refine ω7 ?_|refine ω8 ?_|refine ⟨rfl,?_⟩|refine ⟨trivial,?_⟩|refine ⟨⟨rfl,Nat.le_of_ble_eq_true rfl⟩,?_⟩|refine ⟨⟨by kernel_rfl,by kernel_rfl⟩,?_⟩|refine ⟨by decide,?_⟩|refine lit_true ?_|refine lit_false ?_))
  (refine aw_draw 9 ?_ ?_ ?_ ?_; (· kernel_rfl); (· kernel_rfl); (· kernel_rfl))
  (repeat ((conv=>whnf);first|refine ω0 ?_|refine ω1 ?_|refine ω2 ?_|refine ω3 ?_|refine ω4 rfl ?_|refine ω5 rfl ?_|refine ω6 ?_|refine ω7 ?_|refine ω8 ?_|refine ⟨rfl,?_⟩|refine ⟨trivial,?_⟩|refine ⟨⟨rfl,Nat.le_of_ble_eq_true rfl⟩,?_⟩|refine ⟨⟨by kernel_rfl,by kernel_rfl⟩,?_⟩|refine ⟨by decide,?_⟩|refine lit_true ?_|refine lit_false ?_))
  refine ⟨⟨by omega, by omega⟩, splitO_eq (b := .bp (0, s0) (4 + i.k)) (congrArg (AV.bp (0, s0)) (by rw [show Try.prog.cellsOf 30 = 1 by kernel_rfl, Nat.mul_one]; rfl)) ?_⟩
  (conv => whnf)
  refine ⟨⟨rfl, by show 4 + i.k < 23; omega⟩, splitO_eq (runC_get h16) ?_⟩
  (repeat ((conv=>whnf);first|refine ω0 ?_|refine ω1 ?_|refine ω2 ?_|refine ω3 ?_|refine ω4 rfl ?_|refine ω5 rfl ?_|refine ω6 ?_|refine ω7 ?_|refine ω8 ?_|refine ⟨rfl,?_⟩|refine ⟨trivial,?_⟩|refine ⟨⟨rfl,Nat.le_of_ble_eq_true rfl⟩,?_⟩|refine ⟨⟨by kernel_rfl,by kernel_rfl⟩,?_⟩|refine ⟨by decide,?_⟩|refine lit_true ?_|refine lit_false ?_))
  exact ret_is rfl (doRet ⟨at', a, ([c0, c1, c2, c3, c4, c5, c6, c7, c8, c9, c10, c11, c12, c13, c14, c15]).getD i.k 0, _, steps, loads⟩ oi _ 2 (by unfold doV; rw [hk]; rfl) h0 (hle_tell _ _ rfl (.cons _ (List.Sublist.refl _)) (List.Sublist.refl _) ⟨rfl, OwnLe.refl _, trivial⟩ (PmEq.refl _)))
theorem vstoreA_spec (b : List Nat) (i : Ins) (hk : (kof i.code).1 = 8) (h16 : i.k < 16) (s0 : Nat) (s : Rn) (oi : Option Nat) (h0 : oi = none → s.loads = []) (hs : s.ok) (nx : Nat) :
    ECallR Try.prog 142 [.bp (0, s0) 0, opA i .any] (vmH b s0 s oi nx 2) (doQ b s0 (doV b i s)) := by
  obtain ⟨at', a, x, cells, steps, loads⟩ := s
  obtain ⟨c0, c1, c2, c3, c4, c5, c6, c7, c8, c9, c10, c11, c12, c13, c14, c15, rfl⟩ := cells16 hs.n
  refine ecallR_wk (ecallR_of_aw Try.func142 rfl rfl ?_)
  (repeat ((conv=>whnf);first|refine ω0 ?_|refine ω1 ?_|refine ω2 ?_|refine ω3 ?_|refine ω4 rfl ?_|refine ω5 rfl ?_|refine ω6 ?_|refine ω7 ?_|refine ω8 ?_|refine ⟨rfl,?_⟩|refine ⟨trivial,?_⟩|refine ⟨⟨rfl,Nat.le_of_ble_eq_true rfl⟩,?_⟩|refine ⟨⟨by kernel_rfl,by kernel_rfl⟩,?_⟩|refine ⟨by decide,?_⟩|refine lit_true ?_|refine lit_false ?_))
  (refine aw_draw 10 ?_ ?_ ?_ ?_; (· kernel_rfl); (· kernel_rfl); (· kernel_rfl))
  (repeat ((conv=>whnf);first|refine ω0 ?_|refine ω1 ?_|refine ω2 ?_|refine ω3 ?_|refine ω4 rfl ?_|refine ω5 rfl ?_|refine ω6 ?_|refine ω7 ?_|refine ω8 ?_|refine ⟨rfl,?_⟩|refine ⟨trivial,?_⟩|refine ⟨⟨rfl,Nat.le_of_ble_eq_true rfl⟩,?_⟩|refine ⟨⟨by kernel_rfl,by kernel_rfl⟩,?_⟩|refine ⟨by decide,?_⟩|refine lit_true ?_|refine lit_false ?_))
  refine ⟨⟨by omega, by omega⟩, splitO_eq (b := .bp (0, s0) (4 + i.k)) (congrArg (AV.bp (0, s0)) (by rw [show Try.prog.cellsOf 30 = 1 by kernel_rfl, Nat.mul_one]; rfl)) ?_⟩
  (conv => whnf)
  refine ⟨⟨rfl, by show 4 + i.k + 1 ≤ 23; omega⟩, ?_⟩
  (repeat ((conv=>whnf);first|refine ω0 ?_|refine ω1 ?_|refine ω2 ?_|refine ω3 ?_|refine ω4 rfl ?_|refine ω5 rfl ?_|refine ω6 ?_|refine ω7 ?_|refine ω8 ?_|refine ⟨rfl,?_⟩|refine ⟨trivial,?_⟩|refine ⟨⟨rfl,Nat.le_of_ble_eq_true rfl⟩,?_⟩|refine ⟨⟨by kernel_rfl,by kernel_rfl⟩,?_⟩|refine ⟨by decide,?_⟩|refine lit_true ?_|refine lit_false ?_))
  exact ret_is rfl (doRet ⟨at', a, x, ([c0, c1, c2, c3, c4, c5, c6, c7, c8, c9, c10, c11, c12, c13, c14, c15]).set i.k a, steps, loads⟩ oi _ 2 (by unfold doV; rw [hk]; rfl) h0 (hle_tell _ _ rfl (.cons _ (List.Sublist.refl _)) (List.Sublist.refl _) ⟨rfl, OwnLe.of_eq (congrArg Own.c (runC_set h16)), trivial⟩ (PmEq.refl _)))
theorem vstoreX_spec (b : List Nat) (i : Ins) (hk : (kof i.code).1 = 9) (h16 : i.k < 16) (s0 : Nat) (s : Rn) (oi : Option Nat) (h0 : oi = none → s.loads = []) (hs : s.ok) (nx : Nat) :
    ECallR Try.prog 143 [.bp (0, s0) 0, opA i .any] (vmH b s0 s oi nx 2) (doQ b s0 (doV b i s)) := by
  obtain ⟨at', a, x, cells, steps, loads⟩ := s
  obtain ⟨c0, c1, c2, c3, c4, c5, c6, c7, c8, c9, c10, c11, c12, c13, c14, c15, rfl⟩ := cells16 hs.n
  refine ecallR_wk (ecallR_of_aw Try.func143 rfl rfl ?_)
  (repeat ((conv=>whnf);first|refine ω0 ?_|refine ω1 ?_|refine ω2 ?_|refine ω3 ?_|refine ω4 rfl ?_|refine ω5 rfl ?_|refine ω6 ?_|refine ω7 ?_|refine ω8 ?_|refine ⟨rfl,?_⟩|refine ⟨trivial,?_⟩|refine ⟨⟨rfl,Nat.le_of_ble_eq_true rfl⟩,?_⟩|refine ⟨⟨by kernel_rfl,by kernel_rfl⟩,?_⟩|refine ⟨by decide,?_⟩|refine lit_true ?_|refine lit_false ?_))
  (refine aw_draw 10 ?_ ?_ ?_ ?_; (· kernel_rfl); (· kernel_rfl); (· kernel_rfl))
  (repeat ((conv=>whnf);first|refine ω0 ?_|refine ω1 ?_|refine ω2 ?_|refine ω3 ?_|refine ω4 rfl ?_|refine ω5 rfl ?_|refine ω6 ?_|refine ω7 ?_|refine ω8 ?_|refine ⟨rfl,?_⟩|refine ⟨trivial,?_⟩|refine ⟨⟨rfl,Nat.le_of_ble_eq_true rfl⟩,?_⟩|refine ⟨⟨by kernel_rfl,by kernel_rfl⟩,?_⟩|refine ⟨by decide,?_⟩|refine lit_true ?_|refine lit_false ?_))
  refine ⟨⟨by omega, by omega⟩, splitO_eq (b := .bp (0, s0) (4 + i.k)) (congrArg (AV.bp (0, s0)) (by rw [show Try.prog.cellsOf 30 = 1 by kernel_rfl, Nat.mul_one]; rfl)) ?_⟩
  (conv => whnf)
  refine ⟨⟨rfl, by show 4 + i.k + 1 ≤ 23; omega⟩, ?_⟩
  (repeat ((conv=>whnf);first|refine ω0 ?_|refine ω1 ?_|refine ω2 ?_|refine ω3 ?_|refine ω4 rfl ?_|refine ω5 rfl ?_|refine ω6 ?_|refine ω7 ?_|refine ω8 ?_|refine ⟨rfl,?_⟩|refine ⟨trivial,?_⟩|refine ⟨⟨rfl,Nat.le_of_ble_eq_true rfl⟩,?_⟩|refine ⟨⟨by kernel_rfl,by kernel_rfl⟩,?_⟩|refine ⟨by decide,?_⟩|refine lit_true ?_|refine lit_false ?_))
  exact ret_is rfl (doRet ⟨at', a, x, ([c0, c1, c2, c3, c4, c5, c6, c7, c8, c9, c10, c11, c12, c13, c14, c15]).set i.k x, steps, loads⟩ oi _ 2 (by unfold doV; rw [hk]; rfl) h0 (hle_tell _ _ rfl (.cons _ (List.Sublist.refl _)) (List.Sublist.refl _) ⟨rfl, OwnLe.of_eq (congrArg Own.c (runC_set h16)), trivial⟩ (PmEq.refl _)))
theorem vneg_spec (b : List Nat) (i : Ins) (hk : (kof i.code).1 = 12) (s0 : Nat) (s : Rn) (oi : Option Nat) (h0 : oi = none → s.loads = []) (hs : s.ok) (nx : Nat) :
    ECallR Try.prog 146 [.bp (0, s0) 0, opA i .any] (vmH b s0 s oi nx 2) (doQ b s0 (doV b i s)) := by
  obtain ⟨at', a, x, cells, steps, loads⟩ := s
  obtain ⟨c0, c1, c2, c3, c4, c5, c6, c7, c8, c9, c10, c11, c12, c13, c14, c15, rfl⟩ := cells16 hs.n
  refine ecallR_wk (ecallR_of_aw Try.func146 rfl rfl ?_)
  (repeat ((conv=>whnf);first|refine ω0 ?_|refine ω1 ?_|refine ω2 ?_|refine ω3 ?_|refine ω4 rfl ?_|refine ω5 rfl ?_|refine ω6 ?_|refine ω7 ?_|refine ω8 ?_|refine ⟨rfl,?_⟩|refine ⟨trivial,?_⟩|refine ⟨⟨rfl,Nat.le_of_ble_eq_true rfl⟩,?_⟩|refine ⟨⟨by kernel_rfl,by kernel_rfl⟩,?_⟩|refine ⟨by decide,?_⟩|refine lit_true ?_|refine lit_false ?_))
  have hv : IntKind.u32.wrap (0 - (a : Int)) = (((4294967296 - a) % 4294967296 : Nat) : Int) := by
    have := hs.a
    dsimp only at this
    show (0 - (a : Int)) % 4294967296 = _
    omega
  exact ret_is rfl (doRet ⟨at', (4294967296 - a) % 4294967296, x, _, steps, loads⟩ oi _ 2 (by unfold doV; rw [hk]; rfl) h0 (hle_tell _ _ rfl (.cons _ (List.Sublist.refl _)) (List.Sublist.refl _) ⟨rfl, ⟨AVle.refl _, AVle.refl _, le_int hv, LeL.refl _⟩, trivial⟩ (PmEq.refl _)))
theorem vjump_spec (b : List Nat) (i : Ins) (hk : (kof i.code).1 = 13) (s0 : Nat) (s : Rn) (oi : Option Nat) (h0 : oi = none → s.loads = []) (hs : s.ok) (hj : s.at' + i.k ≤ 1000000) (nx : Nat) :
    ECallR Try.prog 147 [.bp (0, s0) 0, opA i .any] (vmH b s0 s oi nx 2) (doQ b s0 (doV b i s)) := by
  obtain ⟨at', a, x, cells, steps, loads⟩ := s
  obtain ⟨c0, c1, c2, c3, c4, c5, c6, c7, c8, c9, c10, c11, c12, c13, c14, c15, rfl⟩ := cells16 hs.n
  refine ecallR_wk (ecallR_of_aw Try.func147 rfl rfl ?_)
  (repeat ((conv=>whnf);first|refine ω0 ?_|refine ω1 ?_|refine ω2 ?_|refine ω3 ?_|refine ω4 rfl ?_|refine ω5 rfl ?_|refine ω6 ?_|refine ω7 ?_|refine ω8 ?_|refine ⟨rfl,?_⟩|refine ⟨trivial,?_⟩|refine ⟨⟨rfl,Nat.le_of_ble_eq_true rfl⟩,?_⟩|refine ⟨⟨by kernel_rfl,by kernel_rfl⟩,?_⟩|refine ⟨by decide,?_⟩|refine lit_true ?_|refine lit_false ?_))
  (refine aw_draw 9 ?_ ?_ ?_ ?_; (· kernel_rfl); (· kernel_rfl); (· kernel_rfl))
  (repeat ((conv=>whnf);first|refine ω0 ?_|refine ω1 ?_|refine ω2 ?_|refine ω3 ?_|refine ω4 rfl ?_|refine ω5 rfl ?_|refine ω6 ?_|refine ω7 ?_|refine ω8 ?_|refine ⟨rfl,?_⟩|refine ⟨trivial,?_⟩|refine ⟨⟨rfl,Nat.le_of_ble_eq_true rfl⟩,?_⟩|refine ⟨⟨by kernel_rfl,by kernel_rfl⟩,?_⟩|refine ⟨by decide,?_⟩|refine lit_true ?_|refine lit_false ?_))
  have hv : IntKind.i64.wrap ((at' : Int) + IntKind.i64.wrap (i.k : Int)) = ((at' + i.k : Nat) : Int) := by
    dsimp only at hj
    rw [show IntKind.i64.wrap (i.k : Int) = i.k from wrap_id (by omega) (by omega), wrap_id (by omega) (by omega)]; omega
  exact ret_is rfl (doRet ⟨at' + i.k, a, x, _, steps, loads⟩ oi _ 2 (by unfold doV; rw [hk]; rfl) h0 (hle_tell _ _ rfl (.cons _ (List.Sublist.refl _)) (List.Sublist.refl _) ⟨rfl, ⟨AVle.refl _, le_int hv, AVle.refl _, LeL.refl _⟩, trivial⟩ (PmEq.refl _)))
theorem vretK_spec (b : List Nat) (i : Ins) (hk : (kof i.code).1 = 14) (s0 : Nat) (s : Rn) (oi : Option Nat) (h0 : oi = none → s.loads = []) (hs : s.ok) (nx : Nat) :
    ECallR Try.prog 148 [.bp (0, s0) 0, opA i .any] (vmH b s0 s oi nx 2) (doQ b s0 (doV b i s)) := by
  obtain ⟨at', a, x, cells, steps, loads⟩ := s
  obtain ⟨c0, c1, c2, c3, c4, c5, c6, c7, c8, c9, c10, c11, c12, c13, c14, c15, rfl⟩ := cells16 hs.n
  refine ecallR_wk (ecallR_of_aw Try.func148 rfl rfl ?_)
  (repeat ((conv=>whnf);first|refine ω0 ?_|refine ω1 ?_|refine ω2 ?_|refine ω3 ?_|refine ω4 rfl ?_|refine ω5 rfl ?_|refine ω6 ?_|refine ω7 ?_|refine ω8 ?_|refine ⟨rfl,?_⟩|refine ⟨trivial,?_⟩|refine ⟨⟨rfl,Nat.le_of_ble_eq_true rfl⟩,?_⟩|refine ⟨⟨by kernel_rfl,by kernel_rfl⟩,?_⟩|refine ⟨by decide,?_⟩|refine lit_true ?_|refine lit_false ?_))
  exact doPan i.k ⟨at', a, x, _, steps, loads⟩ oi _ 2 (by unfold doV; rw [hk]; rfl) (AVle.refl _) h0 (hle_tell _ _ rfl (.cons _ (List.Sublist.refl _)) (List.Sublist.refl _) ⟨rfl, OwnLe.refl _, trivial⟩ (PmEq.refl _))
theorem vretA_spec (b : List Nat) (i : Ins) (hk : (kof i.code).1 = 15) (s0 : Nat) (s : Rn) (oi : Option Nat) (h0 : oi = none → s.loads = []) (hs : s.ok) (nx : Nat) :
    ECallR Try.prog 149 [.bp (0, s0) 0, opA i .any] (vmH b s0 s oi nx 2) (doQ b s0 (doV b i s)) := by
  obtain ⟨at', a, x, cells, steps, loads⟩ := s
  obtain ⟨c0, c1, c2, c3, c4, c5, c6, c7, c8, c9, c10, c11, c12, c13, c14, c15, rfl⟩ := cells16 hs.n
  refine ecallR_wk (ecallR_of_aw Try.func149 rfl rfl ?_)
  (repeat ((conv=>whnf);first|refine ω0 ?_|refine ω1 ?_|refine ω2 ?_|refine ω3 ?_|refine ω4 rfl ?_|refine ω5 rfl ?_|refine ω6 ?_|refine ω7 ?_|refine ω8 ?_|refine ⟨rfl,?_⟩|refine ⟨trivial,?_⟩|refine ⟨⟨rfl,Nat.le_of_ble_eq_true rfl⟩,?_⟩|refine ⟨⟨by kernel_rfl,by kernel_rfl⟩,?_⟩|refine ⟨by decide,?_⟩|refine lit_true ?_|refine lit_false ?_))
  exact doPan a ⟨at', a, x, _, steps, loads⟩ oi _ 2 (by unfold doV; rw [hk]; rfl) (AVle.refl _) h0 (hle_tell _ _ rfl (.cons _ (List.Sublist.refl _)) (List.Sublist.refl _) ⟨rfl, OwnLe.refl _, trivial⟩ (PmEq.refl _))
theorem snoc_row {l : List Nat} {x : Int} {v s c : Nat} {f' : Nat → AV} (hx : x = (v : Nat)) (hf : f' 0 = int x) : AVle (.os 1 (l.length + 1) (appF l.length (natF l) f') (some (c, s))) (.os 1 (l ++ [v]).length (natF (l ++ [v])) (some (1, s))) := by
  refine AVle.trans (b := .os 1 (l.length + 1) (natF (l ++ [v])) (some (c, s))) (AVle.os_fun (appF_one (fun k hk => ?_) ?_)) ?_
  · simp [natF, List.getD, List.getElem?_append_left hk, hk]
  · rw [hf, hx]; simp [natF, List.getD]
  · rw [List.length_append]; exact AVle.os_nm rfl
theorem le_load {b : List Nat} {at' a x steps a' : Nat} {loads loads' : List Nat} {oi oi' : Option Nat} {c0 c1 c2 c3 c4 c5 c6 c7 c8 c9 c10 c11 c12 c13 c14 c15 : Nat} {V X : AV} (hV : AVle V (u32 a')) (hX : AVle X (.os 1 loads'.length (natF loads') (nmN 1 oi'))) :
    OwnLe (.c (splice (splice (runC b ⟨at', a, x, [c0, c1, c2, c3, c4, c5, c6, c7, c8, c9, c10, c11, c12, c13, c14, c15], steps, loads⟩ oi) 2 [V]) 22 [X])) (.c (runC b ⟨at', a', x, [c0, c1, c2, c3, c4, c5, c6, c7, c8, c9, c10, c11, c12, c13, c14, c15], steps, loads'⟩ oi')) := by
  show LeL [bytesA b, int at', V, u32 x, u32A c0, u32A c1, u32A c2, u32A c3, u32A c4, u32A c5, u32A c6, u32A c7, u32A c8, u32A c9, u32A c10, u32A c11, u32A c12, u32A c13, u32A c14, u32A c15, u32 0, int steps, X] [bytesA b, int at', u32 a', u32 x, u32A c0, u32A c1, u32A c2, u32A c3, u32A c4, u32A c5, u32A c6, u32A c7, u32A c8, u32A c9, u32A c10, u32A c11, u32A c12, u32A c13, u32A c14, u32A c15, u32 0, int steps, .os 1 loads'.length (natF loads') (nmN 1 oi')]
  exact ⟨AVle.refl _, AVle.refl _, hV, AVle.refl _, AVle.refl _, AVle.refl _, AVle.refl _, AVle.refl _, AVle.refl _, AVle.refl _, AVle.refl _, AVle.refl _, AVle.refl _, AVle.refl _, AVle.refl _, AVle.refl _, AVle.refl _, AVle.refl _, AVle.refl _, AVle.refl _, AVle.refl _, AVle.refl _, hX, trivial⟩
theorem vload_spec (b : List Nat) (hb : okB b) (hbl : b.length = 64) (i : Ins) (hk : (kof i.code).1 = 1) (h60 : i.k ≤ 60) (s0 : Nat) (s : Rn) (oi : Option Nat) (h0 : oi = none → s.loads = []) (hs : s.ok) (hl : s.loads.length ≤ 1000000) (nx : Nat) :
    ECallR Try.prog 135 [.bp (0, s0) 0, opA i .any] (vmH b s0 s oi nx 2) (doQ b s0 (doV b i s)) := by
  obtain ⟨at', a, x, cells, steps, loads⟩ := s
  obtain ⟨c0, c1, c2, c3, c4, c5, c6, c7, c8, c9, c10, c11, c12, c13, c14, c15, rfl⟩ := cells16 hs.n
  have hwk : IntKind.i64.wrap (i.k : Int) = (i.k : Nat) := wrap_id (by omega) (by omega)
  have hz : thereI b.length (i.k : Int) 4 = 0 := by unfold thereI; rw [if_pos ⟨by omega, by omega⟩]
  have hg := get_spec b hb (by omega) (i.k : Int) ⟨by omega, by omega⟩ 4 (.inr (.inr (.inl rfl))) false
  rw [if_pos hz, hz] at hg
  have hg : Tells Try.prog 67 [bytesA b, int i.k, int 4, boolA false] (.tup [u64 (wordL b i.k : Nat), int 0]) := hg
  have hw := wordL_lt hb i.k
  have hl2 : loads.length ≤ 1000000 := hl
  have hwv : IntKind.u32.wrap (wordL b i.k : Nat) = (wordL b i.k : Nat) := by show ((wordL b i.k : Nat) : Int) % 4294967296 = _; omega
  refine ecallR_wk (ecallR_of_aw Try.func135 rfl rfl ?_)
  (repeat ((conv=>whnf);first|refine ω0 ?_|refine ω1 ?_|refine ω2 ?_|refine ω3 ?_|refine ω4 rfl ?_|refine ω5 rfl ?_|refine ω6 ?_|refine ω7 ?_|refine ω8 ?_|refine ⟨rfl,?_⟩|refine ⟨trivial,?_⟩|refine ⟨⟨rfl,Nat.le_of_ble_eq_true rfl⟩,?_⟩|refine ⟨⟨by kernel_rfl,by kernel_rfl⟩,?_⟩|refine ⟨by decide,?_⟩|refine lit_true ?_|refine lit_false ?_))
  (refine aw_draw 14 ?_ ?_ ?_ ?_; (· kernel_rfl); (· kernel_rfl); (· kernel_rfl))
  (repeat ((conv=>whnf);first|refine ω0 ?_|refine ω1 ?_|refine ω2 ?_|refine ω3 ?_|refine ω4 rfl ?_|refine ω5 rfl ?_|refine ω6 ?_|refine ω7 ?_|refine ω8 ?_|refine ⟨rfl,?_⟩|refine ⟨trivial,?_⟩|refine ⟨⟨rfl,Nat.le_of_ble_eq_true rfl⟩,?_⟩|refine ⟨⟨by kernel_rfl,by kernel_rfl⟩,?_⟩|refine ⟨by decide,?_⟩|refine lit_true ?_|refine lit_false ?_))
  refine ex_yields (yields_tells rfl rfl hg ⟨AVle.refl _, le_int hwk, AVle.refl _, AVle.refl _, trivial⟩ (NoId.tup fun c hc => ?_)) ?_
  · simp at hc; rcases hc with rfl | rfl <;> exact NoId.v _
  (repeat ((conv=>whnf);first|refine ω0 ?_|refine ω1 ?_|refine ω2 ?_|refine ω3 ?_|refine ω4 rfl ?_|refine ω5 rfl ?_|refine ω6 ?_|refine ω7 ?_|refine ω8 ?_|refine ⟨rfl,?_⟩|refine ⟨trivial,?_⟩|refine ⟨⟨rfl,Nat.le_of_ble_eq_true rfl⟩,?_⟩|refine ⟨⟨by kernel_rfl,by kernel_rfl⟩,?_⟩|refine ⟨by decide,?_⟩|refine lit_true ?_|refine lit_false ?_))
  refine aw_mix 12 _ (fun i => match i with | 11 => true | _ => false) [0, 1, 2, 3, 4, 5, 6, 7, 8, 9, 10, 11] (by kernel_rfl) (by kernel_rfl) (HB.refl _) ?_
  (repeat ((conv=>whnf);first|refine ω0 ?_|refine ω1 ?_|refine ω2 ?_|refine ω3 ?_|refine ω4 rfl ?_|refine ω5 rfl ?_|refine ω6 ?_|refine ω7 ?_|refine ω8 ?_|refine ⟨rfl,?_⟩|refine ⟨trivial,?_⟩|refine ⟨⟨rfl,Nat.le_of_ble_eq_true rfl⟩,?_⟩|refine ⟨⟨by kernel_rfl,by kernel_rfl⟩,?_⟩|refine ⟨by decide,?_⟩|refine lit_true ?_|refine lit_false ?_))
  refine ⟨_, eff_append1 (e := 3) (c := 1) (pm := []) (HB.refl _) rfl rfl rfl (.inr ⟨_, rfl⟩) (by kernel_rfl) (by kernel_rfl) (by kernel_rfl) (.inr rfl) (by kernel_rfl) (List.append_nil _).symm (oneRow_one rfl) (by show (loads.length + 1) * 8 ≤ _; omega) (by show loads.length + 1 ≤ _; omega), fun r h' hr => ?_⟩
  obtain ⟨rfl, rfl⟩ := hr
  (repeat ((conv=>whnf);first|refine ω0 ?_|refine ω1 ?_|refine ω2 ?_|refine ω3 ?_|refine ω4 rfl ?_|refine ω5 rfl ?_|refine ω6 ?_|refine ω7 ?_|refine ω8 ?_|refine ⟨rfl,?_⟩|refine ⟨trivial,?_⟩|refine ⟨⟨rfl,Nat.le_of_ble_eq_true rfl⟩,?_⟩|refine ⟨⟨by kernel_rfl,by kernel_rfl⟩,?_⟩|refine ⟨by decide,?_⟩|refine lit_true ?_|refine lit_false ?_))
  exact ret_is rfl (doRet ⟨at', wordL b i.k, x, _, steps, loads ++ [i.k]⟩ (some _) _ 2 (by unfold doV; rw [hk]; rfl) (fun h => by cases h) (hle_tell _ _ rfl (.cons _ (List.Sublist.refl _)) (List.Sublist.refl _) ⟨rfl, le_load (le_int hwv) (snoc_row hwk rfl), trivial⟩ ⟨rfl, by simp, trivial⟩))
end Go.Proofs.W

namespace Go.Proofs.W
open Go.Vl
set_option maxRecDepth 100000

theorem other_spec (b : List Nat) (i : Ins) (s : Rn) (oi : Option Nat) : Tells Try.prog 150 [.rp (runC b s oi), opA i .any] (u32 (altV i s : Nat)) := by
  refine tells_of_aw Try.func150 rfl rfl fun nx => ?_
  (repeat ((conv=>whnf);first|refine ω0 ?_|refine ω1 ?_|refine ω2 ?_|refine ω3 ?_|refine ω4 rfl ?_|refine ω5 rfl ?_|refine ω6 ?_|refine ω7 ?_|refine ω8 ?_|refine ⟨rfl,?_⟩|refine ⟨trivial,?_⟩|refine ⟨⟨rfl,Nat.le_of_ble_eq_true rfl⟩,?_⟩|refine ⟨⟨by kernel_rfl,by kernel_rfl⟩,?_⟩|refine ⟨by decide,?_⟩|refine lit_true ?_|refine lit_false ?_))
  intro c hc
  (repeat ((conv=>whnf);first|refine ω0 ?_|refine ω1 ?_|refine ω2 ?_|refine ω3 ?_|refine ω4 rfl ?_|refine ω5 rfl ?_|refine ω6 ?_|refine ω7 ?_|refine ω8 ?_|refine ⟨rfl,?_⟩|refine ⟨trivial,?_⟩|refine ⟨⟨rfl,Nat.le_of_ble_eq_true rfl⟩,?_⟩|refine ⟨⟨by kernel_rfl,by kernel_rfl⟩,?_⟩|refine ⟨by decide,?_⟩|refine lit_true ?_|refine lit_false ?_))
  cases c
  · (repeat ((conv=>whnf);first|refine ω0 ?_|refine ω1 ?_|refine ω2 ?_|refine ω3 ?_|refine ω4 rfl ?_|refine ω5 rfl ?_|refine ω6 ?_|refine ω7 ?_|refine ω8 ?_|refine ⟨rfl,?_⟩|refine ⟨trivial,?_⟩|refine ⟨⟨rfl,Nat.le_of_ble_eq_true rfl⟩,?_⟩|refine ⟨⟨by kernel_rfl,by kernel_rfl⟩,?_⟩|refine ⟨by decide,?_⟩|refine lit_true ?_|refine lit_false ?_))
    refine ret_tells rfl (le_int ?_)
    unfold altV; rw [← hc]; rfl
  · (repeat ((conv=>whnf);first|refine ω0 ?_|refine ω1 ?_|refine ω2 ?_|refine ω3 ?_|refine ω4 rfl ?_|refine ω5 rfl ?_|refine ω6 ?_|refine ω7 ?_|refine ω8 ?_|refine ⟨rfl,?_⟩|refine ⟨trivial,?_⟩|refine ⟨⟨rfl,Nat.le_of_ble_eq_true rfl⟩,?_⟩|refine ⟨⟨by kernel_rfl,by kernel_rfl⟩,?_⟩|refine ⟨by decide,?_⟩|refine lit_true ?_|refine lit_false ?_))
    refine ret_tells rfl (le_int ?_)
    unfold altV; rw [← hc]; rfl
theorem w32 {n : Nat} : IntKind.u32.wrap (n : Int) = ((n % 4294967296 : Nat) : Int) := by show (n : Int) % 4294967296 = _; omega
theorem w32_id {n : Nat} (h : n < 4294967296) : IntKind.u32.wrap (n : Int) = (n : Int) := by rw [w32, Nat.mod_eq_of_lt h]
theorem bits_xor {a b : Nat} (ha : a < 4294967296) (hb : b < 4294967296) : bitsI .xor .u32 a b = ((a ^^^ b : Nat) : Int) := by
  have hx : a ^^^ b < 2 ^ 32 := Nat.xor_lt_two_pow (n := 32) ha hb
  unfold bitsI
  simp only [BitVec.toNat_xor]
  rw [ofInt_nat (by exact ha), ofInt_nat (by exact hb)]
  exact w32_id hx
theorem u32_or' {a b : Nat} (ha : a < 4294967296) (hb : b < 4294967296) : bitsI .or .u32 a b = ((a ||| b : Nat) : Int) := by
  have hx : a ||| b < 2 ^ 32 := Nat.or_lt_two_pow (n := 32) ha hb
  exact bits_or (k := .u32) ha hb (w32_id hx)
theorem add32 (a n : Nat) : IntKind.u32.wrap ((a : Int) + n) = (((a + n) % 4294967296 : Nat) : Int) := by
  rw [← w32]; rfl
theorem sub32 {a n : Nat} (hn : n < 4294967296) : IntKind.u32.wrap ((a : Int) - n) = (((a + 4294967296 - n) % 4294967296 : Nat) : Int) := by
  show ((a : Int) - n) % 4294967296 = _; omega
theorem mul32 (a n : Nat) : IntKind.u32.wrap ((a : Int) * n) = ((a * n % 4294967296 : Nat) : Int) := by
  rw [← w32]; rfl
theorem quo32 {a n : Nat} (ha : a < 4294967296) : IntKind.u32.wrap ((a : Int).tdiv n) = ((a / n : Nat) : Int) := by
  have : (a : Int).tdiv n = ((a / n : Nat) : Int) := rfl
  rw [this, w32_id (Nat.lt_of_le_of_lt (Nat.div_le_self _ _) ha)]
theorem rem32 (n : Nat) : Int.toNat ((n : Int).tmod 32) = n % 32 := rfl
theorem shl32 (a n : Nat) : IntKind.u32.wrap ((a : Int) * 2 ^ (min (Int.toNat ((n : Int).tmod 32)) IntKind.u32.bits)) = ((a * 2 ^ (n % 32) % 4294967296 : Nat) : Int) := by
  have hm : min (Int.toNat ((n : Int).tmod 32)) IntKind.u32.bits = n % 32 := by
    rw [rem32]; show min (n % 32) 32 = _; omega
  rw [hm, ← w32]
  push_cast
  rfl
theorem shr32 (a n : Nat) : (a : Int).fdiv (2 ^ (min (Int.toNat ((n : Int).tmod 32)) IntKind.u32.bits)) = ((a / 2 ^ (n % 32) : Nat) : Int) := by
  have hm : min (Int.toNat ((n : Int).tmod 32)) IntKind.u32.bits = n % 32 := by
    rw [rem32]; show min (n % 32) 32 = _; omega
  rw [hm, Int.fdiv_eq_ediv_of_nonneg _ (by exact_mod_cast Nat.zero_le _)]
  simp
theorem reckon_spec (b : List Nat) (i : Ins) (hi : i.ok) (h16 : 16 ≤ (kof i.code).1) (h25 : (kof i.code).1 < 25) (s0 : Nat) (s : Rn) (oi : Option Nat) (h0 : oi = none → s.loads = []) (hs : s.ok) (nx : Nat) :
    ECallR Try.prog 113 [.bp (0, s0) 0, opA i .any] (vmH b s0 s oi nx 2) (doQ b s0 (doV b i s)) := by
  have hn := altV_lt hi hs
  have ha := hs.a
  have hoth := other_spec b i s oi
  have hd : doV b i s = (match reckV (kof i.code).1 s.a (altV i s) with | some v => (none, { s with a := v }) | none => (some 0, s)) := by
    unfold doV
    split <;> first | (exfalso; omega) | skip
    rw [if_pos h25]
    try rfl
  generalize altV i s = n at *
  obtain ⟨at', a, x, cells, steps, loads⟩ := s
  obtain ⟨c0, c1, c2, c3, c4, c5, c6, c7, c8, c9, c10, c11, c12, c13, c14, c15, rfl⟩ := cells16 hs.n
  dsimp only at ha
  rw [hd]
  have hk := h16
  generalize hK : (kof i.code).1 = K at *
  refine ecallR_wk (ecallR_of_aw Try.func113 rfl rfl ?_)
  (repeat ((conv=>whnf);first|refine ω0 ?_|refine ω1 ?_|refine ω2 ?_|refine ω3 ?_|refine ω4 rfl ?_|refine ω5 rfl ?_|refine ω6 ?_|refine ω7 ?_|refine ω8 ?_|refine ⟨rfl,?_⟩|refine ⟨trivial,?_⟩|refine ⟨⟨rfl,Nat.le_of_ble_eq_true rfl⟩,?_⟩|refine ⟨⟨by kernel_rfl,by kernel_rfl⟩,?_⟩|refine ⟨by decide,?_⟩|refine lit_true ?_|refine lit_false ?_))
  refine AOp.of_yields (yields_look rfl rfl hoth ⟨Frz.bp (.tail _ (.head _)) rfl, Frz.refl _, trivial⟩ (Flat.v _)) ?_
  (repeat ((conv=>whnf);first|refine ω0 ?_|refine ω1 ?_|refine ω2 ?_|refine ω3 ?_|refine ω4 rfl ?_|refine ω5 rfl ?_|refine ω6 ?_|refine ω7 ?_|refine ω8 ?_|refine ⟨rfl,?_⟩|refine ⟨trivial,?_⟩|refine ⟨⟨rfl,Nat.le_of_ble_eq_true rfl⟩,?_⟩|refine ⟨⟨by kernel_rfl,by kernel_rfl⟩,?_⟩|refine ⟨by decide,?_⟩|refine lit_true ?_|refine lit_false ?_))
  intro c t16; cases c
  · have t16 := fct_b0.1 t16
    (repeat ((conv=>whnf);first|refine ω0 ?_|refine ω1 ?_|refine ω2 ?_|refine ω3 ?_|refine ω4 rfl ?_|refine ω5 rfl ?_|refine ω6 ?_|refine ω7 ?_|refine ω8 ?_|refine ⟨rfl,?_⟩|refine ⟨trivial,?_⟩|refine ⟨⟨rfl,Nat.le_of_ble_eq_true rfl⟩,?_⟩|refine ⟨⟨by kernel_rfl,by kernel_rfl⟩,?_⟩|refine ⟨by decide,?_⟩|refine lit_true ?_|refine lit_false ?_))
    intro c t17; cases c
    · have t17 := fct_b0.1 t17
      (repeat ((conv=>whnf);first|refine ω0 ?_|refine ω1 ?_|refine ω2 ?_|refine ω3 ?_|refine ω4 rfl ?_|refine ω5 rfl ?_|refine ω6 ?_|refine ω7 ?_|refine ω8 ?_|refine ⟨rfl,?_⟩|refine ⟨trivial,?_⟩|refine ⟨⟨rfl,Nat.le_of_ble_eq_true rfl⟩,?_⟩|refine ⟨⟨by kernel_rfl,by kernel_rfl⟩,?_⟩|refine ⟨by decide,?_⟩|refine lit_true ?_|refine lit_false ?_))
      intro c t18; cases c
      · have t18 := fct_b0.1 t18
        (repeat ((conv=>whnf);first|refine ω0 ?_|refine ω1 ?_|refine ω2 ?_|refine ω3 ?_|refine ω4 rfl ?_|refine ω5 rfl ?_|refine ω6 ?_|refine ω7 ?_|refine ω8 ?_|refine ⟨rfl,?_⟩|refine ⟨trivial,?_⟩|refine ⟨⟨rfl,Nat.le_of_ble_eq_true rfl⟩,?_⟩|refine ⟨⟨by kernel_rfl,by kernel_rfl⟩,?_⟩|refine ⟨by decide,?_⟩|refine lit_true ?_|refine lit_false ?_))
        intro c t19; cases c
        · have t19 := fct_b0.1 t19
          (repeat ((conv=>whnf);first|refine ω0 ?_|refine ω1 ?_|refine ω2 ?_|refine ω3 ?_|refine ω4 rfl ?_|refine ω5 rfl ?_|refine ω6 ?_|refine ω7 ?_|refine ω8 ?_|refine ⟨rfl,?_⟩|refine ⟨trivial,?_⟩|refine ⟨⟨rfl,Nat.le_of_ble_eq_true rfl⟩,?_⟩|refine ⟨⟨by kernel_rfl,by kernel_rfl⟩,?_⟩|refine ⟨by decide,?_⟩|refine lit_true ?_|refine lit_false ?_))
          intro c t20; cases c
          · have t20 := fct_b0.1 t20
            (repeat ((conv=>whnf);first|refine ω0 ?_|refine ω1 ?_|refine ω2 ?_|refine ω3 ?_|refine ω4 rfl ?_|refine ω5 rfl ?_|refine ω6 ?_|refine ω7 ?_|refine ω8 ?_|refine ⟨rfl,?_⟩|refine ⟨trivial,?_⟩|refine ⟨⟨rfl,Nat.le_of_ble_eq_true rfl⟩,?_⟩|refine ⟨⟨by kernel_rfl,by kernel_rfl⟩,?_⟩|refine ⟨by decide,?_⟩|refine lit_true ?_|refine lit_false ?_))
            intro c t21; cases c
            · have t21 := fct_b0.1 t21
              (repeat ((conv=>whnf);first|refine ω0 ?_|refine ω1 ?_|refine ω2 ?_|refine ω3 ?_|refine ω4 rfl ?_|refine ω5 rfl ?_|refine ω6 ?_|refine ω7 ?_|refine ω8 ?_|refine ⟨rfl,?_⟩|refine ⟨trivial,?_⟩|refine ⟨⟨rfl,Nat.le_of_ble_eq_true rfl⟩,?_⟩|refine ⟨⟨by kernel_rfl,by kernel_rfl⟩,?_⟩|refine ⟨by decide,?_⟩|refine lit_true ?_|refine lit_false ?_))
              intro c t22; cases c
              · have t22 := fct_b0.1 t22
                (repeat ((conv=>whnf);first|refine ω0 ?_|refine ω1 ?_|refine ω2 ?_|refine ω3 ?_|refine ω4 rfl ?_|refine ω5 rfl ?_|refine ω6 ?_|refine ω7 ?_|refine ω8 ?_|refine ⟨rfl,?_⟩|refine ⟨trivial,?_⟩|refine ⟨⟨rfl,Nat.le_of_ble_eq_true rfl⟩,?_⟩|refine ⟨⟨by kernel_rfl,by kernel_rfl⟩,?_⟩|refine ⟨by decide,?_⟩|refine lit_true ?_|refine lit_false ?_))
                intro c t23; cases c
                · have t23 := fct_b0.1 t23
                  (repeat ((conv=>whnf);first|refine ω0 ?_|refine ω1 ?_|refine ω2 ?_|refine ω3 ?_|refine ω4 rfl ?_|refine ω5 rfl ?_|refine ω6 ?_|refine ω7 ?_|refine ω8 ?_|refine ⟨rfl,?_⟩|refine ⟨trivial,?_⟩|refine ⟨⟨rfl,Nat.le_of_ble_eq_true rfl⟩,?_⟩|refine ⟨⟨by kernel_rfl,by kernel_rfl⟩,?_⟩|refine ⟨by decide,?_⟩|refine lit_true ?_|refine lit_false ?_))
                  obtain rfl : K = 24 := by omega
                  (repeat ((conv=>whnf);first|refine ω0 ?_|refine ω1 ?_|refine ω2 ?_|refine ω3 ?_|refine ω4 rfl ?_|refine ω5 rfl ?_|refine ω6 ?_|refine ω7 ?_|refine ω8 ?_|refine ⟨rfl,?_⟩|refine ⟨trivial,?_⟩|refine ⟨⟨rfl,Nat.le_of_ble_eq_true rfl⟩,?_⟩|refine ⟨⟨by kernel_rfl,by kernel_rfl⟩,?_⟩|refine ⟨by decide,?_⟩|refine lit_true ?_|refine lit_false ?_))
                  exact ret_is rfl (doRet ⟨at', a ^^^ n, x, _, steps, loads⟩ oi _ 2 rfl h0 (hle_tell _ _ rfl (.cons _ (List.Sublist.refl _)) (List.Sublist.refl _) ⟨rfl, ⟨AVle.refl _, AVle.refl _, le_int (bits_xor ha hn), LeL.refl _⟩, trivial⟩ (PmEq.refl _)))
                · have t23 := fct_b1.1 t23
                  obtain rfl : K = 23 := by omega
                  (repeat ((conv=>whnf);first|refine ω0 ?_|refine ω1 ?_|refine ω2 ?_|refine ω3 ?_|refine ω4 rfl ?_|refine ω5 rfl ?_|refine ω6 ?_|refine ω7 ?_|refine ω8 ?_|refine ⟨rfl,?_⟩|refine ⟨trivial,?_⟩|refine ⟨⟨rfl,Nat.le_of_ble_eq_true rfl⟩,?_⟩|refine ⟨⟨by kernel_rfl,by kernel_rfl⟩,?_⟩|refine ⟨by decide,?_⟩|refine lit_true ?_|refine lit_false ?_))
                  refine ⟨Int.natCast_nonneg _, ?_⟩
                  (repeat ((conv=>whnf);first|refine ω0 ?_|refine ω1 ?_|refine ω2 ?_|refine ω3 ?_|refine ω4 rfl ?_|refine ω5 rfl ?_|refine ω6 ?_|refine ω7 ?_|refine ω8 ?_|refine ⟨rfl,?_⟩|refine ⟨trivial,?_⟩|refine ⟨⟨rfl,Nat.le_of_ble_eq_true rfl⟩,?_⟩|refine ⟨⟨by kernel_rfl,by kernel_rfl⟩,?_⟩|refine ⟨by decide,?_⟩|refine lit_true ?_|refine lit_false ?_))
                  exact ret_is rfl (doRet ⟨at', a / 2 ^ (n % 32), x, _, steps, loads⟩ oi _ 2 rfl h0 (hle_tell _ _ rfl (.cons _ (List.Sublist.refl _)) (List.Sublist.refl _) ⟨rfl, ⟨AVle.refl _, AVle.refl _, le_int (shr32 a n), LeL.refl _⟩, trivial⟩ (PmEq.refl _)))
              · have t22 := fct_b1.1 t22
                obtain rfl : K = 22 := by omega
                (repeat ((conv=>whnf);first|refine ω0 ?_|refine ω1 ?_|refine ω2 ?_|refine ω3 ?_|refine ω4 rfl ?_|refine ω5 rfl ?_|refine ω6 ?_|refine ω7 ?_|refine ω8 ?_|refine ⟨rfl,?_⟩|refine ⟨trivial,?_⟩|refine ⟨⟨rfl,Nat.le_of_ble_eq_true rfl⟩,?_⟩|refine ⟨⟨by kernel_rfl,by kernel_rfl⟩,?_⟩|refine ⟨by decide,?_⟩|refine lit_true ?_|refine lit_false ?_))
                refine ⟨Int.natCast_nonneg _, ?_⟩
                (repeat ((conv=>whnf);first|refine ω0 ?_|refine ω1 ?_|refine ω2 ?_|refine ω3 ?_|refine ω4 rfl ?_|refine ω5 rfl ?_|refine ω6 ?_|refine ω7 ?_|refine ω8 ?_|refine ⟨rfl,?_⟩|refine ⟨trivial,?_⟩|refine ⟨⟨rfl,Nat.le_of_ble_eq_true rfl⟩,?_⟩|refine ⟨⟨by kernel_rfl,by kernel_rfl⟩,?_⟩|refine ⟨by decide,?_⟩|refine lit_true ?_|refine lit_false ?_))
                exact ret_is rfl (doRet ⟨at', a * 2 ^ (n % 32) % 4294967296, x, _, steps, loads⟩ oi _ 2 rfl h0 (hle_tell _ _ rfl (.cons _ (List.Sublist.refl _)) (List.Sublist.refl _) ⟨rfl, ⟨AVle.refl _, AVle.refl _, le_int (shl32 a n), LeL.refl _⟩, trivial⟩ (PmEq.refl _)))
            · have t21 := fct_b1.1 t21
              obtain rfl : K = 21 := by omega
              (repeat ((conv=>whnf);first|refine ω0 ?_|refine ω1 ?_|refine ω2 ?_|refine ω3 ?_|refine ω4 rfl ?_|refine ω5 rfl ?_|refine ω6 ?_|refine ω7 ?_|refine ω8 ?_|refine ⟨rfl,?_⟩|refine ⟨trivial,?_⟩|refine ⟨⟨rfl,Nat.le_of_ble_eq_true rfl⟩,?_⟩|refine ⟨⟨by kernel_rfl,by kernel_rfl⟩,?_⟩|refine ⟨by decide,?_⟩|refine lit_true ?_|refine lit_false ?_))
              exact ret_is rfl (doRet ⟨at', a &&& n, x, _, steps, loads⟩ oi _ 2 rfl h0 (hle_tell _ _ rfl (.cons _ (List.Sublist.refl _)) (List.Sublist.refl _) ⟨rfl, ⟨AVle.refl _, AVle.refl _, le_int (u32_and ha hn), LeL.refl _⟩, trivial⟩ (PmEq.refl _)))
          · have t20 := fct_b1.1 t20
            obtain rfl : K = 20 := by omega
            (repeat ((conv=>whnf);first|refine ω0 ?_|refine ω1 ?_|refine ω2 ?_|refine ω3 ?_|refine ω4 rfl ?_|refine ω5 rfl ?_|refine ω6 ?_|refine ω7 ?_|refine ω8 ?_|refine ⟨rfl,?_⟩|refine ⟨trivial,?_⟩|refine ⟨⟨rfl,Nat.le_of_ble_eq_true rfl⟩,?_⟩|refine ⟨⟨by kernel_rfl,by kernel_rfl⟩,?_⟩|refine ⟨by decide,?_⟩|refine lit_true ?_|refine lit_false ?_))
            exact ret_is rfl (doRet ⟨at', a ||| n, x, _, steps, loads⟩ oi _ 2 rfl h0 (hle_tell _ _ rfl (.cons _ (List.Sublist.refl _)) (List.Sublist.refl _) ⟨rfl, ⟨AVle.refl _, AVle.refl _, le_int (u32_or' ha hn), LeL.refl _⟩, trivial⟩ (PmEq.refl _)))
        · have t19 := fct_b1.1 t19
          obtain rfl : K = 19 := by omega
          (repeat ((conv=>whnf);first|refine ω0 ?_|refine ω1 ?_|refine ω2 ?_|refine ω3 ?_|refine ω4 rfl ?_|refine ω5 rfl ?_|refine ω6 ?_|refine ω7 ?_|refine ω8 ?_|refine ⟨rfl,?_⟩|refine ⟨trivial,?_⟩|refine ⟨⟨rfl,Nat.le_of_ble_eq_true rfl⟩,?_⟩|refine ⟨⟨by kernel_rfl,by kernel_rfl⟩,?_⟩|refine ⟨by decide,?_⟩|refine lit_true ?_|refine lit_false ?_))
          intro c z; cases c
          · have z := fct_b0.1 z
            (repeat ((conv=>whnf);first|refine ω0 ?_|refine ω1 ?_|refine ω2 ?_|refine ω3 ?_|refine ω4 rfl ?_|refine ω5 rfl ?_|refine ω6 ?_|refine ω7 ?_|refine ω8 ?_|refine ⟨rfl,?_⟩|refine ⟨trivial,?_⟩|refine ⟨⟨rfl,Nat.le_of_ble_eq_true rfl⟩,?_⟩|refine ⟨⟨by kernel_rfl,by kernel_rfl⟩,?_⟩|refine ⟨by decide,?_⟩|refine lit_true ?_|refine lit_false ?_))
            refine ⟨z, ?_⟩
            (repeat ((conv=>whnf);first|refine ω0 ?_|refine ω1 ?_|refine ω2 ?_|refine ω3 ?_|refine ω4 rfl ?_|refine ω5 rfl ?_|refine ω6 ?_|refine ω7 ?_|refine ω8 ?_|refine ⟨rfl,?_⟩|refine ⟨trivial,?_⟩|refine ⟨⟨rfl,Nat.le_of_ble_eq_true rfl⟩,?_⟩|refine ⟨⟨by kernel_rfl,by kernel_rfl⟩,?_⟩|refine ⟨by decide,?_⟩|refine lit_true ?_|refine lit_false ?_))
            have hr : reckV 19 a n = some (a / n) := by unfold reckV; exact if_neg (by omega)
            rw [hr]
            exact ret_is rfl (doRet ⟨at', a / n, x, _, steps, loads⟩ oi _ 2 rfl h0 (hle_tell _ _ rfl (.cons _ (List.Sublist.refl _)) (List.Sublist.refl _) ⟨rfl, ⟨AVle.refl _, AVle.refl _, le_int (quo32 ha), LeL.refl _⟩, trivial⟩ (PmEq.refl _)))
          · have z := fct_b1.1 z
            obtain rfl : n = 0 := by omega
            (repeat ((conv=>whnf);first|refine ω0 ?_|refine ω1 ?_|refine ω2 ?_|refine ω3 ?_|refine ω4 rfl ?_|refine ω5 rfl ?_|refine ω6 ?_|refine ω7 ?_|refine ω8 ?_|refine ⟨rfl,?_⟩|refine ⟨trivial,?_⟩|refine ⟨⟨rfl,Nat.le_of_ble_eq_true rfl⟩,?_⟩|refine ⟨⟨by kernel_rfl,by kernel_rfl⟩,?_⟩|refine ⟨by decide,?_⟩|refine lit_true ?_|refine lit_false ?_))
            exact doPan 0 ⟨at', a, x, _, steps, loads⟩ oi _ 2 rfl (AVle.refl _) h0 (hle_tell _ _ rfl (.cons _ (List.Sublist.refl _)) (List.Sublist.refl _) ⟨rfl, OwnLe.refl _, trivial⟩ (PmEq.refl _))
      · have t18 := fct_b1.1 t18
        obtain rfl : K = 18 := by omega
        (repeat ((conv=>whnf);first|refine ω0 ?_|refine ω1 ?_|refine ω2 ?_|refine ω3 ?_|refine ω4 rfl ?_|refine ω5 rfl ?_|refine ω6 ?_|refine ω7 ?_|refine ω8 ?_|refine ⟨rfl,?_⟩|refine ⟨trivial,?_⟩|refine ⟨⟨rfl,Nat.le_of_ble_eq_true rfl⟩,?_⟩|refine ⟨⟨by kernel_rfl,by kernel_rfl⟩,?_⟩|refine ⟨by decide,?_⟩|refine lit_true ?_|refine lit_false ?_))
        exact ret_is rfl (doRet ⟨at', a * n % 4294967296, x, _, steps, loads⟩ oi _ 2 rfl h0 (hle_tell _ _ rfl (.cons _ (List.Sublist.refl _)) (List.Sublist.refl _) ⟨rfl, ⟨AVle.refl _, AVle.refl _, le_int (mul32 a n), LeL.refl _⟩, trivial⟩ (PmEq.refl _)))
    · have t17 := fct_b1.1 t17
      obtain rfl : K = 17 := by omega
      (repeat ((conv=>whnf);first|refine ω0 ?_|refine ω1 ?_|refine ω2 ?_|refine ω3 ?_|refine ω4 rfl ?_|refine ω5 rfl ?_|refine ω6 ?_|refine ω7 ?_|refine ω8 ?_|refine ⟨rfl,?_⟩|refine ⟨trivial,?_⟩|refine ⟨⟨rfl,Nat.le_of_ble_eq_true rfl⟩,?_⟩|refine ⟨⟨by kernel_rfl,by kernel_rfl⟩,?_⟩|refine ⟨by decide,?_⟩|refine lit_true ?_|refine lit_false ?_))
      exact ret_is rfl (doRet ⟨at', (a + 4294967296 - n) % 4294967296, x, _, steps, loads⟩ oi _ 2 rfl h0 (hle_tell _ _ rfl (.cons _ (List.Sublist.refl _)) (List.Sublist.refl _) ⟨rfl, ⟨AVle.refl _, AVle.refl _, le_int (sub32 hn), LeL.refl _⟩, trivial⟩ (PmEq.refl _)))
  · have t16 := fct_b1.1 t16
    obtain rfl : K = 16 := by omega
    (repeat ((conv=>whnf);first|refine ω0 ?_|refine ω1 ?_|refine ω2 ?_|refine ω3 ?_|refine ω4 rfl ?_|refine ω5 rfl ?_|refine ω6 ?_|refine ω7 ?_|refine ω8 ?_|refine ⟨rfl,?_⟩|refine ⟨trivial,?_⟩|refine ⟨⟨rfl,Nat.le_of_ble_eq_true rfl⟩,?_⟩|refine ⟨⟨by kernel_rfl,by kernel_rfl⟩,?_⟩|refine ⟨by decide,?_⟩|refine lit_true ?_|refine lit_false ?_))
    exact ret_is rfl (doRet ⟨at', (a + n) % 4294967296, x, _, steps, loads⟩ oi _ 2 rfl h0 (hle_tell _ _ rfl (.cons _ (List.Sublist.refl _)) (List.Sublist.refl _) ⟨rfl, ⟨AVle.refl _, AVle.refl _, le_int (add32 a n), LeL.refl _⟩, trivial⟩ (PmEq.refl _)))
theorem vbranch_spec (b : List Nat) (i : Ins) (hi : i.ok) (h25 : 25 ≤ (kof i.code).1) (s0 : Nat) (s : Rn) (oi : Option Nat) (h0 : oi = none → s.loads = []) (hs : s.ok) (hj : s.at' ≤ 1000000) (nx : Nat) :
    ECallR Try.prog 112 [.bp (0, s0) 0, opA i .any] (vmH b s0 s oi nx 2) (doQ b s0 (doV b i s)) := by
  have hn := altV_lt hi hs
  have ha := hs.a
  have hoth := other_spec b i s oi
  have hle := kof_le i.code
  have hd : doV b i s = (none, { s with at' := s.at' + if branchV (kof i.code).1 s.a (altV i s) then i.jt else i.jf }) := by
    unfold doV
    split <;> first | (exfalso; omega) | skip
    rw [if_neg (by omega)]
  generalize altV i s = n at *
  obtain ⟨at', a, x, cells, steps, loads⟩ := s
  obtain ⟨c0, c1, c2, c3, c4, c5, c6, c7, c8, c9, c10, c11, c12, c13, c14, c15, rfl⟩ := cells16 hs.n
  dsimp only at ha hj
  rw [hd]
  have hv : ∀ j : Nat, j < 256 → IntKind.i64.wrap ((at' : Int) + IntKind.i64.wrap (j : Int)) = ((at' + j : Nat) : Int) := fun j hj2 => by
    rw [show IntKind.i64.wrap (j : Int) = j from wrap_id (by omega) (by omega), wrap_id (by omega) (by omega)]; omega
  have hand : bitsI .and .u32 (a : Int) (n : Int) = ((a &&& n : Nat) : Int) := u32_and ha hn
  generalize hK : (kof i.code).1 = K at *
  refine ecallR_wk (ecallR_of_aw Try.func112 rfl rfl ?_)
  (repeat ((conv=>whnf);first|refine ω0 ?_|refine ω1 ?_|refine ω2 ?_|refine ω3 ?_|refine ω4 rfl ?_|refine ω5 rfl ?_|refine ω6 ?_|refine ω7 ?_|refine ω8 ?_|refine ⟨rfl,?_⟩|refine ⟨trivial,?_⟩|refine ⟨⟨rfl,Nat.le_of_ble_eq_true rfl⟩,?_⟩|refine ⟨⟨by kernel_rfl,by kernel_rfl⟩,?_⟩|refine ⟨by decide,?_⟩|refine lit_true ?_|refine lit_false ?_))
  refine AOp.of_yields (yields_look rfl rfl hoth ⟨Frz.bp (.tail _ (.head _)) rfl, Frz.refl _, trivial⟩ (Flat.v _)) ?_
  (repeat ((conv=>whnf);first|refine ω0 ?_|refine ω1 ?_|refine ω2 ?_|refine ω3 ?_|refine ω4 rfl ?_|refine ω5 rfl ?_|refine ω6 ?_|refine ω7 ?_|refine ω8 ?_|refine ⟨rfl,?_⟩|refine ⟨trivial,?_⟩|refine ⟨⟨rfl,Nat.le_of_ble_eq_true rfl⟩,?_⟩|refine ⟨⟨by kernel_rfl,by kernel_rfl⟩,?_⟩|refine ⟨by decide,?_⟩|refine lit_true ?_|refine lit_false ?_))
  intro c t25; cases c
  · have t25 := fct_b0.1 t25
    (repeat ((conv=>whnf);first|refine ω0 ?_|refine ω1 ?_|refine ω2 ?_|refine ω3 ?_|refine ω4 rfl ?_|refine ω5 rfl ?_|refine ω6 ?_|refine ω7 ?_|refine ω8 ?_|refine ⟨rfl,?_⟩|refine ⟨trivial,?_⟩|refine ⟨⟨rfl,Nat.le_of_ble_eq_true rfl⟩,?_⟩|refine ⟨⟨by kernel_rfl,by kernel_rfl⟩,?_⟩|refine ⟨by decide,?_⟩|refine lit_true ?_|refine lit_false ?_))
    intro c t26; cases c
    · have t26 := fct_b0.1 t26
      (repeat ((conv=>whnf);first|refine ω0 ?_|refine ω1 ?_|refine ω2 ?_|refine ω3 ?_|refine ω4 rfl ?_|refine ω5 rfl ?_|refine ω6 ?_|refine ω7 ?_|refine ω8 ?_|refine ⟨rfl,?_⟩|refine ⟨trivial,?_⟩|refine ⟨⟨rfl,Nat.le_of_ble_eq_true rfl⟩,?_⟩|refine ⟨⟨by kernel_rfl,by kernel_rfl⟩,?_⟩|refine ⟨by decide,?_⟩|refine lit_true ?_|refine lit_false ?_))
      intro c t27; cases c
      · have t27 := fct_b0.1 t27
        (repeat ((conv=>whnf);first|refine ω0 ?_|refine ω1 ?_|refine ω2 ?_|refine ω3 ?_|refine ω4 rfl ?_|refine ω5 rfl ?_|refine ω6 ?_|refine ω7 ?_|refine ω8 ?_|refine ⟨rfl,?_⟩|refine ⟨trivial,?_⟩|refine ⟨⟨rfl,Nat.le_of_ble_eq_true rfl⟩,?_⟩|refine ⟨⟨by kernel_rfl,by kernel_rfl⟩,?_⟩|refine ⟨by decide,?_⟩|refine lit_true ?_|refine lit_false ?_))
        (repeat ((conv=>whnf);first|refine ω0 ?_|refine ω1 ?_|refine ω2 ?_|refine ω3 ?_|refine ω4 rfl ?_|refine ω5 rfl ?_|refine ω6 ?_|refine ω7 ?_|refine ω8 ?_|refine ⟨rfl,?_⟩|refine ⟨trivial,?_⟩|refine ⟨⟨rfl,Nat.le_of_ble_eq_true rfl⟩,?_⟩|refine ⟨⟨by kernel_rfl,by kernel_rfl⟩,?_⟩|refine ⟨by decide,?_⟩|refine lit_true ?_|refine lit_false ?_))
        intro c hc
        have hKK : K = 28 := by omega
        have hb : branchV K a n = c := by subst hKK; rw [hc]; unfold branchV; rw [hand, Bool.eq_iff_iff]; simp
        (repeat ((conv=>whnf);first|refine ω0 ?_|refine ω1 ?_|refine ω2 ?_|refine ω3 ?_|refine ω4 rfl ?_|refine ω5 rfl ?_|refine ω6 ?_|refine ω7 ?_|refine ω8 ?_|refine ⟨rfl,?_⟩|refine ⟨trivial,?_⟩|refine ⟨⟨rfl,Nat.le_of_ble_eq_true rfl⟩,?_⟩|refine ⟨⟨by kernel_rfl,by kernel_rfl⟩,?_⟩|refine ⟨by decide,?_⟩|refine lit_true ?_|refine lit_false ?_))
        cases c
        · (repeat ((conv=>whnf);first|refine ω0 ?_|refine ω1 ?_|refine ω2 ?_|refine ω3 ?_|refine ω4 rfl ?_|refine ω5 rfl ?_|refine ω6 ?_|refine ω7 ?_|refine ω8 ?_|refine ⟨rfl,?_⟩|refine ⟨trivial,?_⟩|refine ⟨⟨rfl,Nat.le_of_ble_eq_true rfl⟩,?_⟩|refine ⟨⟨by kernel_rfl,by kernel_rfl⟩,?_⟩|refine ⟨by decide,?_⟩|refine lit_true ?_|refine lit_false ?_))
          (refine aw_draw 9 ?_ ?_ ?_ ?_; (· kernel_rfl); (· kernel_rfl); (· kernel_rfl))
          (repeat ((conv=>whnf);first|refine ω0 ?_|refine ω1 ?_|refine ω2 ?_|refine ω3 ?_|refine ω4 rfl ?_|refine ω5 rfl ?_|refine ω6 ?_|refine ω7 ?_|refine ω8 ?_|refine ⟨rfl,?_⟩|refine ⟨trivial,?_⟩|refine ⟨⟨rfl,Nat.le_of_ble_eq_true rfl⟩,?_⟩|refine ⟨⟨by kernel_rfl,by kernel_rfl⟩,?_⟩|refine ⟨by decide,?_⟩|refine lit_true ?_|refine lit_false ?_))
          have e : (if branchV K a n then i.jt else i.jf) = i.jf := by rw [hb]; rfl
          exact ret_is rfl (doRet ⟨at' + i.jf, a, x, _, steps, loads⟩ oi _ 2 (by dsimp only; rw [e]) h0 (hle_tell _ _ rfl (.cons _ (List.Sublist.refl _)) (List.Sublist.refl _) ⟨rfl, ⟨AVle.refl _, le_int (hv i.jf hi.2.2.1), AVle.refl _, LeL.refl _⟩, trivial⟩ (PmEq.refl _)))
        · (repeat ((conv=>whnf);first|refine ω0 ?_|refine ω1 ?_|refine ω2 ?_|refine ω3 ?_|refine ω4 rfl ?_|refine ω5 rfl ?_|refine ω6 ?_|refine ω7 ?_|refine ω8 ?_|refine ⟨rfl,?_⟩|refine ⟨trivial,?_⟩|refine ⟨⟨rfl,Nat.le_of_ble_eq_true rfl⟩,?_⟩|refine ⟨⟨by kernel_rfl,by kernel_rfl⟩,?_⟩|refine ⟨by decide,?_⟩|refine lit_true ?_|refine lit_false ?_))
          (refine aw_draw 9 ?_ ?_ ?_ ?_; (· kernel_rfl); (· kernel_rfl); (· kernel_rfl))
          (repeat ((conv=>whnf);first|refine ω0 ?_|refine ω1 ?_|refine ω2 ?_|refine ω3 ?_|refine ω4 rfl ?_|refine ω5 rfl ?_|refine ω6 ?_|refine ω7 ?_|refine ω8 ?_|refine ⟨rfl,?_⟩|refine ⟨trivial,?_⟩|refine ⟨⟨rfl,Nat.le_of_ble_eq_true rfl⟩,?_⟩|refine ⟨⟨by kernel_rfl,by kernel_rfl⟩,?_⟩|refine ⟨by decide,?_⟩|refine lit_true ?_|refine lit_false ?_))
          have e : (if branchV K a n then i.jt else i.jf) = i.jt := by rw [hb]; rfl
          exact ret_is rfl (doRet ⟨at' + i.jt, a, x, _, steps, loads⟩ oi _ 2 (by dsimp only; rw [e]) h0 (hle_tell _ _ rfl (.cons _ (List.Sublist.refl _)) (List.Sublist.refl _) ⟨rfl, ⟨AVle.refl _, le_int (hv i.jt hi.2.1), AVle.refl _, LeL.refl _⟩, trivial⟩ (PmEq.refl _)))
      · have t27 := fct_b1.1 t27
        (repeat ((conv=>whnf);first|refine ω0 ?_|refine ω1 ?_|refine ω2 ?_|refine ω3 ?_|refine ω4 rfl ?_|refine ω5 rfl ?_|refine ω6 ?_|refine ω7 ?_|refine ω8 ?_|refine ⟨rfl,?_⟩|refine ⟨trivial,?_⟩|refine ⟨⟨rfl,Nat.le_of_ble_eq_true rfl⟩,?_⟩|refine ⟨⟨by kernel_rfl,by kernel_rfl⟩,?_⟩|refine ⟨by decide,?_⟩|refine lit_true ?_|refine lit_false ?_))
        intro c hc
        have hKK : K = 27 := by omega
        have hb : branchV K a n = c := by subst hKK; rw [hc]; unfold branchV; rw [Bool.eq_iff_iff]; simp
        (repeat ((conv=>whnf);first|refine ω0 ?_|refine ω1 ?_|refine ω2 ?_|refine ω3 ?_|refine ω4 rfl ?_|refine ω5 rfl ?_|refine ω6 ?_|refine ω7 ?_|refine ω8 ?_|refine ⟨rfl,?_⟩|refine ⟨trivial,?_⟩|refine ⟨⟨rfl,Nat.le_of_ble_eq_true rfl⟩,?_⟩|refine ⟨⟨by kernel_rfl,by kernel_rfl⟩,?_⟩|refine ⟨by decide,?_⟩|refine lit_true ?_|refine lit_false ?_))
        cases c
        · (repeat ((conv=>whnf);first|refine ω0 ?_|refine ω1 ?_|refine ω2 ?_|refine ω3 ?_|refine ω4 rfl ?_|refine ω5 rfl ?_|refine ω6 ?_|refine ω7 ?_|refine ω8 ?_|refine ⟨rfl,?_⟩|refine ⟨trivial,?_⟩|refine ⟨⟨rfl,Nat.le_of_ble_eq_true rfl⟩,?_⟩|refine ⟨⟨by kernel_rfl,by kernel_rfl⟩,?_⟩|refine ⟨by decide,?_⟩|refine lit_true ?_|refine lit_false ?_))
          (refine aw_draw 9 ?_ ?_ ?_ ?_; (· kernel_rfl); (· kernel_rfl); (· kernel_rfl))
          (repeat ((conv=>whnf);first|refine ω0 ?_|refine ω1 ?_|refine ω2 ?_|refine ω3 ?_|refine ω4 rfl ?_|refine ω5 rfl ?_|refine ω6 ?_|refine ω7 ?_|refine ω8 ?_|refine ⟨rfl,?_⟩|refine ⟨trivial,?_⟩|refine ⟨⟨rfl,Nat.le_of_ble_eq_true rfl⟩,?_⟩|refine ⟨⟨by kernel_rfl,by kernel_rfl⟩,?_⟩|refine ⟨by decide,?_⟩|refine lit_true ?_|refine lit_false ?_))
          have e : (if branchV K a n then i.jt else i.jf) = i.jf := by rw [hb]; rfl
          exact ret_is rfl (doRet ⟨at' + i.jf, a, x, _, steps, loads⟩ oi _ 2 (by dsimp only; rw [e]) h0 (hle_tell _ _ rfl (.cons _ (List.Sublist.refl _)) (List.Sublist.refl _) ⟨rfl, ⟨AVle.refl _, le_int (hv i.jf hi.2.2.1), AVle.refl _, LeL.refl _⟩, trivial⟩ (PmEq.refl _)))
        · (repeat ((conv=>whnf);first|refine ω0 ?_|refine ω1 ?_|refine ω2 ?_|refine ω3 ?_|refine ω4 rfl ?_|refine ω5 rfl ?_|refine ω6 ?_|refine ω7 ?_|refine ω8 ?_|refine ⟨rfl,?_⟩|refine ⟨trivial,?_⟩|refine ⟨⟨rfl,Nat.le_of_ble_eq_true rfl⟩,?_⟩|refine ⟨⟨by kernel_rfl,by kernel_rfl⟩,?_⟩|refine ⟨by decide,?_⟩|refine lit_true ?_|refine lit_false ?_))
          (refine aw_draw 9 ?_ ?_ ?_ ?_; (· kernel_rfl); (· kernel_rfl); (· kernel_rfl))
          (repeat ((conv=>whnf);first|refine ω0 ?_|refine ω1 ?_|refine ω2 ?_|refine ω3 ?_|refine ω4 rfl ?_|refine ω5 rfl ?_|refine ω6 ?_|refine ω7 ?_|refine ω8 ?_|refine ⟨rfl,?_⟩|refine ⟨trivial,?_⟩|refine ⟨⟨rfl,Nat.le_of_ble_eq_true rfl⟩,?_⟩|refine ⟨⟨by kernel_rfl,by kernel_rfl⟩,?_⟩|refine ⟨by decide,?_⟩|refine lit_true ?_|refine lit_false ?_))
          have e : (if branchV K a n then i.jt else i.jf) = i.jt := by rw [hb]; rfl
          exact ret_is rfl (doRet ⟨at' + i.jt, a, x, _, steps, loads⟩ oi _ 2 (by dsimp only; rw [e]) h0 (hle_tell _ _ rfl (.cons _ (List.Sublist.refl _)) (List.Sublist.refl _) ⟨rfl, ⟨AVle.refl _, le_int (hv i.jt hi.2.1), AVle.refl _, LeL.refl _⟩, trivial⟩ (PmEq.refl _)))
    · have t26 := fct_b1.1 t26
      (repeat ((conv=>whnf);first|refine ω0 ?_|refine ω1 ?_|refine ω2 ?_|refine ω3 ?_|refine ω4 rfl ?_|refine ω5 rfl ?_|refine ω6 ?_|refine ω7 ?_|refine ω8 ?_|refine ⟨rfl,?_⟩|refine ⟨trivial,?_⟩|refine ⟨⟨rfl,Nat.le_of_ble_eq_true rfl⟩,?_⟩|refine ⟨⟨by kernel_rfl,by kernel_rfl⟩,?_⟩|refine ⟨by decide,?_⟩|refine lit_true ?_|refine lit_false ?_))
      intro c hc
      have hKK : K = 26 := by omega
      have hb : branchV K a n = c := by subst hKK; rw [hc]; unfold branchV; rw [Bool.eq_iff_iff]; simp
      (repeat ((conv=>whnf);first|refine ω0 ?_|refine ω1 ?_|refine ω2 ?_|refine ω3 ?_|refine ω4 rfl ?_|refine ω5 rfl ?_|refine ω6 ?_|refine ω7 ?_|refine ω8 ?_|refine ⟨rfl,?_⟩|refine ⟨trivial,?_⟩|refine ⟨⟨rfl,Nat.le_of_ble_eq_true rfl⟩,?_⟩|refine ⟨⟨by kernel_rfl,by kernel_rfl⟩,?_⟩|refine ⟨by decide,?_⟩|refine lit_true ?_|refine lit_false ?_))
      cases c
      · (repeat ((conv=>whnf);first|refine ω0 ?_|refine ω1 ?_|refine ω2 ?_|refine ω3 ?_|refine ω4 rfl ?_|refine ω5 rfl ?_|refine ω6 ?_|refine ω7 ?_|refine ω8 ?_|refine ⟨rfl,?_⟩|refine ⟨trivial,?_⟩|refine ⟨⟨rfl,Nat.le_of_ble_eq_true rfl⟩,?_⟩|refine ⟨⟨by kernel_rfl,by kernel_rfl⟩,?_⟩|refine ⟨by decide,?_⟩|refine lit_true ?_|refine lit_false ?_))
        (refine aw_draw 9 ?_ ?_ ?_ ?_; (· kernel_rfl); (· kernel_rfl); (· kernel_rfl))
        (repeat ((conv=>whnf);first|refine ω0 ?_|refine ω1 ?_|refine ω2 ?_|refine ω3 ?_|refine ω4 rfl ?_|refine ω5 rfl ?_|refine ω6 ?_|refine ω7 ?_|refine ω8 ?_|refine ⟨rfl,?_⟩|refine ⟨trivial,?_⟩|refine ⟨⟨rfl,Nat.le_of_ble_eq_true rfl⟩,?_⟩|refine ⟨⟨by kernel_rfl,by kernel_rfl⟩,?_⟩|refine ⟨by decide,?_⟩|refine lit_true ?_|refine lit_false ?_))
        have e : (if branchV K a n then i.jt else i.jf) = i.jf := by rw [hb]; rfl
        exact ret_is rfl (doRet ⟨at' + i.jf, a, x, _, steps, loads⟩ oi _ 2 (by dsimp only; rw [e]) h0 (hle_tell _ _ rfl (.cons _ (List.Sublist.refl _)) (List.Sublist.refl _) ⟨rfl, ⟨AVle.refl _, le_int (hv i.jf hi.2.2.1), AVle.refl _, LeL.refl _⟩, trivial⟩ (PmEq.refl _)))
      · (repeat ((conv=>whnf);first|refine ω0 ?_|refine ω1 ?_|refine ω2 ?_|refine ω3 ?_|refine ω4 rfl ?_|refine ω5 rfl ?_|refine ω6 ?_|refine ω7 ?_|refine ω8 ?_|refine ⟨rfl,?_⟩|refine ⟨trivial,?_⟩|refine ⟨⟨rfl,Nat.le_of_ble_eq_true rfl⟩,?_⟩|refine ⟨⟨by kernel_rfl,by kernel_rfl⟩,?_⟩|refine ⟨by decide,?_⟩|refine lit_true ?_|refine lit_false ?_))
        (refine aw_draw 9 ?_ ?_ ?_ ?_; (· kernel_rfl); (· kernel_rfl); (· kernel_rfl))
        (repeat ((conv=>whnf);first|refine ω0 ?_|refine ω1 ?_|refine ω2 ?_|refine ω3 ?_|refine ω4 rfl ?_|refine ω5 rfl ?_|refine ω6 ?_|refine ω7 ?_|refine ω8 ?_|refine ⟨rfl,?_⟩|refine ⟨trivial,?_⟩|refine ⟨⟨rfl,Nat.le_of_ble_eq_true rfl⟩,?_⟩|refine ⟨⟨by kernel_rfl,by kernel_rfl⟩,?_⟩|refine ⟨by decide,?_⟩|refine lit_true ?_|refine lit_false ?_))
        have e : (if branchV K a n then i.jt else i.jf) = i.jt := by rw [hb]; rfl
        exact ret_is rfl (doRet ⟨at' + i.jt, a, x, _, steps, loads⟩ oi _ 2 (by dsimp only; rw [e]) h0 (hle_tell _ _ rfl (.cons _ (List.Sublist.refl _)) (List.Sublist.refl _) ⟨rfl, ⟨AVle.refl _, le_int (hv i.jt hi.2.1), AVle.refl _, LeL.refl _⟩, trivial⟩ (PmEq.refl _)))
  · have t25 := fct_b1.1 t25
    (repeat ((conv=>whnf);first|refine ω0 ?_|refine ω1 ?_|refine ω2 ?_|refine ω3 ?_|refine ω4 rfl ?_|refine ω5 rfl ?_|refine ω6 ?_|refine ω7 ?_|refine ω8 ?_|refine ⟨rfl,?_⟩|refine ⟨trivial,?_⟩|refine ⟨⟨rfl,Nat.le_of_ble_eq_true rfl⟩,?_⟩|refine ⟨⟨by kernel_rfl,by kernel_rfl⟩,?_⟩|refine ⟨by decide,?_⟩|refine lit_true ?_|refine lit_false ?_))
    intro c hc
    have hKK : K = 25 := by omega
    have hb : branchV K a n = c := by subst hKK; rw [hc]; unfold branchV; rw [Bool.eq_iff_iff]; simp; omega
    (repeat ((conv=>whnf);first|refine ω0 ?_|refine ω1 ?_|refine ω2 ?_|refine ω3 ?_|refine ω4 rfl ?_|refine ω5 rfl ?_|refine ω6 ?_|refine ω7 ?_|refine ω8 ?_|refine ⟨rfl,?_⟩|refine ⟨trivial,?_⟩|refine ⟨⟨rfl,Nat.le_of_ble_eq_true rfl⟩,?_⟩|refine ⟨⟨by kernel_rfl,by kernel_rfl⟩,?_⟩|refine ⟨by decide,?_⟩|refine lit_true ?_|refine lit_false ?_))
    cases c
    · (repeat ((conv=>whnf);first|refine ω0 ?_|refine ω1 ?_|refine ω2 ?_|refine ω3 ?_|refine ω4 rfl ?_|refine ω5 rfl ?_|refine ω6 ?_|refine ω7 ?_|refine ω8 ?_|refine ⟨rfl,?_⟩|refine ⟨trivial,?_⟩|refine ⟨⟨rfl,Nat.le_of_ble_eq_true rfl⟩,?_⟩|refine ⟨⟨by kernel_rfl,by kernel_rfl⟩,?_⟩|refine ⟨by decide,?_⟩|refine lit_true ?_|refine lit_false ?_))
      (refine aw_draw 9 ?_ ?_ ?_ ?_; (· kernel_rfl); (· kernel_rfl); (· kernel_rfl))
      (repeat ((conv=>whnf);first|refine ω0 ?_|refine ω1 ?_|refine ω2 ?_|refine ω3 ?_|refine ω4 rfl ?_|refine ω5 rfl ?_|refine ω6 ?_|refine ω7 ?_|refine ω8 ?_|refine ⟨rfl,?_⟩|refine ⟨trivial,?_⟩|refine ⟨⟨rfl,Nat.le_of_ble_eq_true rfl⟩,?_⟩|refine ⟨⟨by kernel_rfl,by kernel_rfl⟩,?_⟩|refine ⟨by decide,?_⟩|refine lit_true ?_|refine lit_false ?_))
      have e : (if branchV K a n then i.jt else i.jf) = i.jf := by rw [hb]; rfl
      exact ret_is rfl (doRet ⟨at' + i.jf, a, x, _, steps, loads⟩ oi _ 2 (by dsimp only; rw [e]) h0 (hle_tell _ _ rfl (.cons _ (List.Sublist.refl _)) (List.Sublist.refl _) ⟨rfl, ⟨AVle.refl _, le_int (hv i.jf hi.2.2.1), AVle.refl _, LeL.refl _⟩, trivial⟩ (PmEq.refl _)))
    · (repeat ((conv=>whnf);first|refine ω0 ?_|refine ω1 ?_|refine ω2 ?_|refine ω3 ?_|refine ω4 rfl ?_|refine ω5 rfl ?_|refine ω6 ?_|refine ω7 ?_|refine ω8 ?_|refine ⟨rfl,?_⟩|refine ⟨trivial,?_⟩|refine ⟨⟨rfl,Nat.le_of_ble_eq_true rfl⟩,?_⟩|refine ⟨⟨by kernel_rfl,by kernel_rfl⟩,?_⟩|refine ⟨by decide,?_⟩|refine lit_true ?_|refine lit_false ?_))
      (refine aw_draw 9 ?_ ?_ ?_ ?_; (· kernel_rfl); (· kernel_rfl); (· kernel_rfl))
      (repeat ((conv=>whnf);first|refine ω0 ?_|refine ω1 ?_|refine ω2 ?_|refine ω3 ?_|refine ω4 rfl ?_|refine ω5 rfl ?_|refine ω6 ?_|refine ω7 ?_|refine ω8 ?_|refine ⟨rfl,?_⟩|refine ⟨trivial,?_⟩|refine ⟨⟨rfl,Nat.le_of_ble_eq_true rfl⟩,?_⟩|refine ⟨⟨by kernel_rfl,by kernel_rfl⟩,?_⟩|refine ⟨by decide,?_⟩|refine lit_true ?_|refine lit_false ?_))
      have e : (if branchV K a n then i.jt else i.jf) = i.jt := by rw [hb]; rfl
      exact ret_is rfl (doRet ⟨at' + i.jt, a, x, _, steps, loads⟩ oi _ 2 (by dsimp only; rw [e]) h0 (hle_tell _ _ rfl (.cons _ (List.Sublist.refl _)) (List.Sublist.refl _) ⟨rfl, ⟨AVle.refl _, le_int (hv i.jt hi.2.1), AVle.refl _, LeL.refl _⟩, trivial⟩ (PmEq.refl _)))
end Go.Proofs.W

namespace Go.Proofs.W
open Go.Vl
set_option maxRecDepth 100000

def fnL : List (Nat × FuncId) := [(1, 135), (2, 136), (3, 137), (4, 138), (5, 139), (6, 140), (7, 141), (8, 142), (9, 143), (10, 144), (11, 145), (12, 146), (13, 147), (14, 148), (15, 149)]
/-- What is done, by kinds. -/
def doF (k : Nat) : FuncId := if k < 16 then (lk fnL k).getD 0 else if k < 25 then 113 else 112
def fnM (l : List (Nat × FuncId)) : List (Value × AV) := l.map fun p => (.int .i64 (p.1 : Nat), .fn (.func p.2) [] [])
theorem alook_fn (l : List (Nat × FuncId)) (c : Nat) : alook (.int .i64 (c : Nat)) (fnM l) = (lk l c).map fun k => AV.fn (.func k) [] [] := by
  induction l with
  | nil => rfl
  | cons p l ih =>
    unfold fnM at ih ⊢
    simp only [List.map_cons, alook]
    unfold lk at ih ⊢
    rw [List.find?_cons]
    have : keyIs (.int .i64 (c : Nat)) (.int .i64 (p.1 : Nat)) = (p.1 == c) := by
      simp only [keyIs, kindEq, Bool.true_and]
      rw [Bool.eq_iff_iff]; simp; omega
    rw [this]
    cases h : p.1 == c
    · simpa using ih
    · simp
theorem deeds_spec : Tells Try.prog 111 [] (.fm (fnM fnL)) := by
  refine tells_of_aw Try.func111 rfl rfl fun nx => ?_
  (repeat ((conv=>whnf);first|refine ω0 ?_|refine ω1 ?_|refine ω2 ?_|refine ω3 ?_|refine ω4 rfl ?_|refine ω5 rfl ?_|refine ω6 ?_|refine ω7 ?_|refine ⟨rfl,?_⟩|refine ⟨trivial,?_⟩|refine ⟨⟨rfl,Nat.le_of_ble_eq_true rfl⟩,?_⟩|refine ⟨⟨by kernel_rfl,by kernel_rfl⟩,?_⟩|refine ⟨by decide,?_⟩|refine lit_true ?_|refine lit_false ?_))
  refine AW.le (ele_freeze (L := [(0, .fm (fnM fnL))]) (bx := []) (pm := []) (nn := 0) [((0, nx), .mp (fnM fnL))] rfl rfl (List.Sublist.refl _) .slnil ⟨Frz.om (.head _), trivial⟩) ?_
  (repeat ((conv=>whnf);first|refine ω0 ?_|refine ω1 ?_|refine ω2 ?_|refine ω3 ?_|refine ω4 rfl ?_|refine ω5 rfl ?_|refine ω6 ?_|refine ω7 ?_|refine ω8 ?_|refine ⟨rfl,?_⟩|refine ⟨trivial,?_⟩|refine ⟨⟨rfl,Nat.le_of_ble_eq_true rfl⟩,?_⟩|refine ⟨⟨by kernel_rfl,by kernel_rfl⟩,?_⟩|refine ⟨by decide,?_⟩|refine lit_true ?_|refine lit_false ?_))
  refine ret_tells rfl (AVle.refl _)
theorem lk_low : ∀ k, k < 16 → k ≠ 0 → lk fnL k = some (doF k) := by decide
theorem lk_high : ∀ k, k < 29 → 16 ≤ k → lk fnL k = none := by decide
theorem do_spec (b : List Nat) (hb : okB b) (hbl : b.length = 64) (i : Ins) (hi : i.ok) (r : Nat) (hw : wrongI i r = 0) (s0 : Nat) (s : Rn) (oi : Option Nat) (h0 : oi = none → s.loads = []) (hs : s.ok) (ha : s.at' ≤ 500000) (hr : r ≤ 5000) (hl : s.loads.length ≤ 1000000) (nx : Nat) :
    ECallR Try.prog (doF (kof i.code).1) [.bp (0, s0) 0, opA i .any] (vmH b s0 s oi nx 2) (doQ b s0 (doV b i s)) := by
  have hle := kof_le i.code
  obtain ⟨w1, w2, w3, w4⟩ := wrong_parts hw
  by_cases h16 : 16 ≤ (kof i.code).1
  · by_cases h25 : (kof i.code).1 < 25
    · rw [show doF (kof i.code).1 = 113 by unfold doF; rw [if_neg (by omega), if_pos h25]]
      exact reckon_spec b i hi h16 h25 s0 s oi h0 hs nx
    · rw [show doF (kof i.code).1 = 112 by unfold doF; rw [if_neg (by omega), if_neg h25]]
      exact vbranch_spec b i hi (by omega) s0 s oi h0 hs (by omega) nx
  by_cases hk : (kof i.code).1 = 1
  · rw [show doF (kof i.code).1 = 135 by rw [hk]; rfl]
    exact vload_spec b hb hbl i hk (by omega) s0 s oi h0 hs hl nx
  by_cases hk : (kof i.code).1 = 2
  · rw [show doF (kof i.code).1 = 136 by rw [hk]; rfl]
    exact vimm_spec b i hk s0 s oi h0 hs nx
  by_cases hk : (kof i.code).1 = 3
  · rw [show doF (kof i.code).1 = 137 by rw [hk]; rfl]
    exact vcellA_spec b i hk (by omega) s0 s oi h0 hs nx
  by_cases hk : (kof i.code).1 = 4
  · rw [show doF (kof i.code).1 = 138 by rw [hk]; rfl]
    exact vlenA_spec b i hk s0 s oi h0 hs nx
  by_cases hk : (kof i.code).1 = 5
  · rw [show doF (kof i.code).1 = 139 by rw [hk]; rfl]
    exact vimmX_spec b i hk s0 s oi h0 hs nx
  by_cases hk : (kof i.code).1 = 6
  · rw [show doF (kof i.code).1 = 140 by rw [hk]; rfl]
    exact vcellX_spec b i hk (by omega) s0 s oi h0 hs nx
  by_cases hk : (kof i.code).1 = 7
  · rw [show doF (kof i.code).1 = 141 by rw [hk]; rfl]
    exact vlenX_spec b i hk s0 s oi h0 hs nx
  by_cases hk : (kof i.code).1 = 8
  · rw [show doF (kof i.code).1 = 142 by rw [hk]; rfl]
    exact vstoreA_spec b i hk (by omega) s0 s oi h0 hs nx
  by_cases hk : (kof i.code).1 = 9
  · rw [show doF (kof i.code).1 = 143 by rw [hk]; rfl]
    exact vstoreX_spec b i hk (by omega) s0 s oi h0 hs nx
  by_cases hk : (kof i.code).1 = 10
  · rw [show doF (kof i.code).1 = 144 by rw [hk]; rfl]
    exact vtoX_spec b i hk s0 s oi h0 hs nx
  by_cases hk : (kof i.code).1 = 11
  · rw [show doF (kof i.code).1 = 145 by rw [hk]; rfl]
    exact vtoA_spec b i hk s0 s oi h0 hs nx
  by_cases hk : (kof i.code).1 = 12
  · rw [show doF (kof i.code).1 = 146 by rw [hk]; rfl]
    exact vneg_spec b i hk s0 s oi h0 hs nx
  by_cases hk : (kof i.code).1 = 13
  · rw [show doF (kof i.code).1 = 147 by rw [hk]; rfl]
    exact vjump_spec b i hk s0 s oi h0 hs (by omega) nx
  by_cases hk : (kof i.code).1 = 14
  · rw [show doF (kof i.code).1 = 148 by rw [hk]; rfl]
    exact vretK_spec b i hk s0 s oi h0 hs nx
  by_cases hk : (kof i.code).1 = 15
  · rw [show doF (kof i.code).1 = 149 by rw [hk]; rfl]
    exact vretA_spec b i hk s0 s oi h0 hs nx
  omega
def opI (i : Ins) : AV := opA i (.fn (.func (doF (kof i.code).1)) [] [])
def opF (l : List Ins) (k : Nat) : AV := opI (l.getD k ins0)
def opsA (l : List Ins) : AV := slOf 7 opI ins0 l
def newA (l : List Ins) : AV := if (checkI l).2 = 0 then .tup [.rp [opsA l], int 0] else .tup [.v (.pointer none), int (checkI l).2]
set_option maxHeartbeats 1000000 in
theorem new_spec (l : List Ins) (hok : okL l) (hl : l.length ≤ 1000000000) : Tells Try.prog 68 [inss l] (newA l) := by
  refine tells_of_aw Try.func68 rfl rfl fun nx0 => ?_
  (repeat ((conv=>whnf);first|refine ω0 ?_|refine ω1 ?_|refine ω2 ?_|refine ω3 ?_|refine ω4 rfl ?_|refine ω5 rfl ?_|refine ω6 ?_|refine ω7 ?_|refine ω8 ?_|refine ⟨rfl,?_⟩|refine ⟨trivial,?_⟩|refine ⟨⟨rfl,Nat.le_of_ble_eq_true rfl⟩,?_⟩|refine ⟨⟨by kernel_rfl,by kernel_rfl⟩,?_⟩|refine ⟨by decide,?_⟩|refine lit_true ?_|refine lit_false ?_))
  refine aop_tells rfl rfl (check_spec l hok hl) ⟨AVle.refl _, trivial⟩ fun nx => ?_
  (repeat ((conv=>whnf);first|refine ω0 ?_|refine ω1 ?_|refine ω2 ?_|refine ω3 ?_|refine ω4 rfl ?_|refine ω5 rfl ?_|refine ω6 ?_|refine ω7 ?_|refine ω8 ?_|refine ⟨rfl,?_⟩|refine ⟨trivial,?_⟩|refine ⟨⟨rfl,Nat.le_of_ble_eq_true rfl⟩,?_⟩|refine ⟨⟨by kernel_rfl,by kernel_rfl⟩,?_⟩|refine ⟨by decide,?_⟩|refine lit_true ?_|refine lit_false ?_))
  intro c g1; cases c
  rotate_left
  · have g1 := bne_yes g1
    have hv : newA l = .tup [.v (.pointer none), int (checkI l).2] := by unfold newA; rw [if_neg (by omega)]
    rw [hv]
    (repeat ((conv=>whnf);first|refine ω0 ?_|refine ω1 ?_|refine ω2 ?_|refine ω3 ?_|refine ω4 rfl ?_|refine ω5 rfl ?_|refine ω6 ?_|refine ω7 ?_|refine ω8 ?_|refine ⟨rfl,?_⟩|refine ⟨trivial,?_⟩|refine ⟨⟨rfl,Nat.le_of_ble_eq_true rfl⟩,?_⟩|refine ⟨⟨by kernel_rfl,by kernel_rfl⟩,?_⟩|refine ⟨by decide,?_⟩|refine lit_true ?_|refine lit_false ?_))
    exact ret_tells rfl (AVle.refl _)
  have g1 := bne_no g1
  have hc : (checkI l).2 = 0 := by omega
  have hf : Formed l := (check_iff.1 hc).1
  have hle := hf.le
  have hv : newA l = .tup [.rp [opsA l], int 0] := by unfold newA; rw [if_pos hc]
  rw [hv]
  (repeat ((conv=>whnf);first|refine ω0 ?_|refine ω1 ?_|refine ω2 ?_|refine ω3 ?_|refine ω4 rfl ?_|refine ω5 rfl ?_|refine ω6 ?_|refine ω7 ?_|refine ω8 ?_|refine ⟨rfl,?_⟩|refine ⟨trivial,?_⟩|refine ⟨⟨rfl,Nat.le_of_ble_eq_true rfl⟩,?_⟩|refine ⟨⟨by kernel_rfl,by kernel_rfl⟩,?_⟩|refine ⟨by decide,?_⟩|refine lit_true ?_|refine lit_false ?_))
  refine aop_tells rfl rfl deeds_spec trivial fun nx2 => ?_
  (repeat ((conv=>whnf);first|refine ω0 ?_|refine ω1 ?_|refine ω2 ?_|refine ω3 ?_|refine ω4 rfl ?_|refine ω5 rfl ?_|refine ω6 ?_|refine ω7 ?_|refine ω8 ?_|refine ⟨rfl,?_⟩|refine ⟨trivial,?_⟩|refine ⟨⟨rfl,Nat.le_of_ble_eq_true rfl⟩,?_⟩|refine ⟨⟨by kernel_rfl,by kernel_rfl⟩,?_⟩|refine ⟨by decide,?_⟩|refine lit_true ?_|refine lit_false ?_))
  refine aw_loop (fun s : Nat × Option Nat × Nat => mk 63 [(6, .bp (0, nx) 0), (7, .fm (fnM fnL)), (25, inss l), (26, int l.length), (27, int s.1)] ⟨[((0, nx), .c [.os 7 s.1 (opF l) (nmN 1 s.2.1)])], pmOf (nmN 1 s.2.1) (s.1 * 7), s.2.2, 2⟩)
    (fun s => s.1 ≤ l.length ∧ (s.2.1 = none → s.1 = 0)) (fun s => l.length - s.1) ?_ ?_
  · exact ⟨(0, none, nx2), ⟨by dsimp only; omega, fun _ => rfl⟩, ele_tell _ _ rfl rfl (List.Sublist.refl _) .slnil ⟨rfl, ⟨AVle.os_nil, trivial⟩, trivial⟩ trivial ⟨AVle.refl _, AVle.refl _, AVle.refl _, AVle.refl _, AVle.refl _, trivial⟩⟩
  · rintro ⟨i, oi, nx3⟩ ⟨h1, h2⟩
    dsimp only at h1 h2
    (repeat ((conv=>whnf);first|refine ω0 ?_|refine ω1 ?_|refine ω2 ?_|refine ω3 ?_|refine ω4 rfl ?_|refine ω5 rfl ?_|refine ω6 ?_|refine ω7 ?_|refine ω8 ?_|refine ⟨rfl,?_⟩|refine ⟨trivial,?_⟩|refine ⟨⟨rfl,Nat.le_of_ble_eq_true rfl⟩,?_⟩|refine ⟨⟨by kernel_rfl,by kernel_rfl⟩,?_⟩|refine ⟨by decide,?_⟩|refine lit_true ?_|refine lit_false ?_))
    intro c g3; cases c
    · have g3 := not_of g3
      dsimp only at g3
      obtain rfl : i = l.length := by omega
      (repeat ((conv=>whnf);first|refine ω0 ?_|refine ω2 ?_|refine ω3 ?_|refine ω4 rfl ?_|refine ω5 rfl ?_|refine ω6 ?_|refine ω7 ?_|refine ω8 ?_|refine ⟨rfl,?_⟩|refine ⟨trivial,?_⟩|refine ⟨⟨rfl,Nat.le_of_ble_eq_true rfl⟩,?_⟩|refine ⟨⟨by kernel_rfl,by kernel_rfl⟩,?_⟩|refine ⟨by decide,?_⟩|refine lit_true ?_|refine lit_false ?_))
      refine AW.le (ele_freeze (L := [(6, .rp [opsA l])]) (bx := []) (pm := []) (nn := 0) [((0, nx), .c [.os 7 l.length (opF l) (nmN 1 oi)])] rfl rfl (List.Sublist.refl _) (List.nil_sublist _) ⟨Frz.bpL (.head _) ⟨Frz.of_le AVle.os_sl, trivial⟩, trivial⟩) ?_
      (repeat ((conv=>whnf);first|refine ω0 ?_|refine ω1 ?_|refine ω2 ?_|refine ω3 ?_|refine ω4 rfl ?_|refine ω5 rfl ?_|refine ω6 ?_|refine ω7 ?_|refine ω8 ?_|refine ⟨rfl,?_⟩|refine ⟨trivial,?_⟩|refine ⟨⟨rfl,Nat.le_of_ble_eq_true rfl⟩,?_⟩|refine ⟨⟨by kernel_rfl,by kernel_rfl⟩,?_⟩|refine ⟨by decide,?_⟩|refine lit_true ?_|refine lit_false ?_))
      exact ret_tells rfl (AVle.refl _)
    · have g3 := yes_of g3
      dsimp only at g3
      have hi : i < l.length := by omega
      have hki : (l.getD i ins0).ok := hok.get hi
      have hK0 : (kof (l.getD i ins0).code).1 ≠ 0 := (wrong_parts (hf.ok i hi)).1
      have hK29 := kof_le (l.getD i ins0).code
      have e1 := alook_fn fnL (kof (l.getD i ins0).code).1
      (repeat ((conv=>whnf);first|refine ω0 ?_|refine ω1 ?_|refine ω2 ?_|refine ω3 ?_|refine ω4 rfl ?_|refine ω5 rfl ?_|refine ω6 ?_|refine ω7 ?_|refine ω8 ?_|refine ⟨rfl,?_⟩|refine ⟨trivial,?_⟩|refine ⟨⟨rfl,Nat.le_of_ble_eq_true rfl⟩,?_⟩|refine ⟨⟨by kernel_rfl,by kernel_rfl⟩,?_⟩|refine ⟨by decide,?_⟩|refine lit_true ?_|refine lit_false ?_))
      refine ⟨⟨by first | omega | (dsimp only; omega), by first | omega | (dsimp only; omega)⟩, ?_⟩
      (repeat ((conv=>whnf);first|refine ω0 ?_|refine ω1 ?_|refine ω2 ?_|refine ω3 ?_|refine ω4 rfl ?_|refine ω5 rfl ?_|refine ω6 ?_|refine ω7 ?_|refine ω8 ?_|refine ⟨rfl,?_⟩|refine ⟨trivial,?_⟩|refine ⟨⟨rfl,Nat.le_of_ble_eq_true rfl⟩,?_⟩|refine ⟨⟨by kernel_rfl,by kernel_rfl⟩,?_⟩|refine ⟨by decide,?_⟩|refine lit_true ?_|refine lit_false ?_))
      refine aop_tells rfl rfl (of_both (l.getD i ins0).code hki.1) ⟨AVle.refl _, trivial⟩ fun nx4 => ?_
      (repeat ((conv=>whnf);first|refine ω0 ?_|refine ω1 ?_|refine ω2 ?_|refine ω3 ?_|refine ω4 rfl ?_|refine ω5 rfl ?_|refine ω6 ?_|refine ω7 ?_|refine ω8 ?_|refine ⟨rfl,?_⟩|refine ⟨trivial,?_⟩|refine ⟨⟨rfl,Nat.le_of_ble_eq_true rfl⟩,?_⟩|refine ⟨⟨by kernel_rfl,by kernel_rfl⟩,?_⟩|refine ⟨by decide,?_⟩|refine lit_true ?_|refine lit_false ?_))
      intro xb hxb
      (repeat ((conv=>whnf);first|refine ω0 ?_|refine ω1 ?_|refine ω2 ?_|refine ω3 ?_|refine ω4 rfl ?_|refine ω5 rfl ?_|refine ω6 ?_|refine ω7 ?_|refine ω8 ?_|refine ⟨rfl,?_⟩|refine ⟨trivial,?_⟩|refine ⟨⟨rfl,Nat.le_of_ble_eq_true rfl⟩,?_⟩|refine ⟨⟨by kernel_rfl,by kernel_rfl⟩,?_⟩|refine ⟨by decide,?_⟩|refine lit_true ?_|refine lit_false ?_))
      by_cases k16 : (kof (l.getD i ins0).code).1 < 16
      · have hD : doF (kof (l.getD i ins0).code).1 = doF (kof (l.getD i ins0).code).1 := rfl
        rw [lk_low _ k16 hK0] at e1
        refine splitO_eq (b := .fn (.func (doF (kof (l.getD i ins0).code).1)) [] []) (by
          show lookR (alook (.int .i64 ((kof (l.getD i ins0).code).1 : Nat)) (fnM fnL)) _ false = _
          rw [e1]; rfl) ?_
        (repeat ((conv=>whnf);first|refine ω0 ?_|refine ω1 ?_|refine ω2 ?_|refine ω3 ?_|refine ω4 rfl ?_|refine ω5 rfl ?_|refine ω6 ?_|refine ω7 ?_|refine ω8 ?_|refine ⟨rfl,?_⟩|refine ⟨trivial,?_⟩|refine ⟨⟨rfl,Nat.le_of_ble_eq_true rfl⟩,?_⟩|refine ⟨⟨by kernel_rfl,by kernel_rfl⟩,?_⟩|refine ⟨by decide,?_⟩|refine lit_true ?_|refine lit_false ?_))
        intro c hc
        obtain rfl : c = false := hc.trans (decide_eq_false (by omega))
        (repeat ((conv=>whnf);first|refine ω0 ?_|refine ω1 ?_|refine ω2 ?_|refine ω3 ?_|refine ω4 rfl ?_|refine ω5 rfl ?_|refine ω6 ?_|refine ω7 ?_|refine ω8 ?_|refine ⟨rfl,?_⟩|refine ⟨trivial,?_⟩|refine ⟨⟨rfl,Nat.le_of_ble_eq_true rfl⟩,?_⟩|refine ⟨⟨by kernel_rfl,by kernel_rfl⟩,?_⟩|refine ⟨by decide,?_⟩|refine lit_true ?_|refine lit_false ?_))
        intro c hc
        obtain rfl : c = false := hc.trans (decide_eq_false (by omega))
        (repeat ((conv=>whnf);first|refine ω0 ?_|refine ω1 ?_|refine ω2 ?_|refine ω3 ?_|refine ω4 rfl ?_|refine ω5 rfl ?_|refine ω6 ?_|refine ω7 ?_|refine ω8 ?_|refine ⟨rfl,?_⟩|refine ⟨trivial,?_⟩|refine ⟨⟨rfl,Nat.le_of_ble_eq_true rfl⟩,?_⟩|refine ⟨⟨by kernel_rfl,by kernel_rfl⟩,?_⟩|refine ⟨by decide,?_⟩|refine lit_true ?_|refine lit_false ?_))
        refine aw_mix 12 _ (fun i => match i with | 11 => true | _ => false) [0, 1, 2, 3, 4, 5, 6, 7, 8, 9, 10, 11] (by kernel_rfl) (by kernel_rfl) (HB.refl _) ?_
        (repeat ((conv=>whnf);first|refine ω0 ?_|refine ω1 ?_|refine ω2 ?_|refine ω3 ?_|refine ω4 rfl ?_|refine ω5 rfl ?_|refine ω6 ?_|refine ω7 ?_|refine ω8 ?_|refine ⟨rfl,?_⟩|refine ⟨trivial,?_⟩|refine ⟨⟨rfl,Nat.le_of_ble_eq_true rfl⟩,?_⟩|refine ⟨⟨by kernel_rfl,by kernel_rfl⟩,?_⟩|refine ⟨by decide,?_⟩|refine lit_true ?_|refine lit_false ?_))
        refine ⟨_, eff_append1 (e := 185) (c := 7) (pm := []) (HB.refl _) rfl rfl rfl (.inr ⟨_, rfl⟩) (by kernel_rfl) (by kernel_rfl) (by kernel_rfl) (.inr rfl) (by kernel_rfl) (List.append_nil _).symm (oneRow_one rfl) (by show (i + 1) * 32 ≤ _; omega) (by omega), fun r h' hr => ?_⟩
        obtain ⟨rfl, rfl⟩ := hr
        (repeat ((conv=>whnf);first|refine ω0 ?_|refine ω1 ?_|refine ω2 ?_|refine ω3 ?_|refine ω4 rfl ?_|refine ω5 rfl ?_|refine ω6 ?_|refine ω7 ?_|refine ω8 ?_|refine ⟨rfl,?_⟩|refine ⟨trivial,?_⟩|refine ⟨⟨rfl,Nat.le_of_ble_eq_true rfl⟩,?_⟩|refine ⟨⟨by kernel_rfl,by kernel_rfl⟩,?_⟩|refine ⟨by decide,?_⟩|refine lit_true ?_|refine lit_false ?_))
        exact back (i + 1, some _, _) ⟨by dsimp only; omega, (fun h => by cases h)⟩ (by dsimp only; omega) (ele_tell _ _ rfl rfl (.cons _ (List.Sublist.refl _)) (List.Sublist.refl _) ⟨rfl, ⟨AVle.trans (b := .os 7 (i + 1) (opF l) _) (AVle.os_fun (appF_one (fun k hk => rfl) (by subst hxb; unfold opF opI; rw [hD]; rfl))) (AVle.os_nm rfl), trivial⟩, trivial⟩ ⟨rfl, rfl, trivial⟩ ⟨AVle.refl _, AVle.refl _, AVle.refl _, AVle.refl _, le_int (wrap_succ (by dsimp only; omega)), trivial⟩)
      · rw [lk_high _ (by omega) (by omega)] at e1
        refine splitO_eq (b := .v .nilFunc) (by
          show lookR (alook (.int .i64 ((kof (l.getD i ins0).code).1 : Nat)) (fnM fnL)) _ false = _
          rw [e1]; rfl) ?_
        (repeat ((conv=>whnf);first|refine ω0 ?_|refine ω1 ?_|refine ω2 ?_|refine ω3 ?_|refine ω4 rfl ?_|refine ω5 rfl ?_|refine ω6 ?_|refine ω7 ?_|refine ω8 ?_|refine ⟨rfl,?_⟩|refine ⟨trivial,?_⟩|refine ⟨⟨rfl,Nat.le_of_ble_eq_true rfl⟩,?_⟩|refine ⟨⟨by kernel_rfl,by kernel_rfl⟩,?_⟩|refine ⟨by decide,?_⟩|refine lit_true ?_|refine lit_false ?_))
        intro c t25; cases c
        · have t25 := not_of t25
          have hD : doF (kof (l.getD i ins0).code).1 = 113 := by unfold doF; rw [if_neg (by omega), if_pos (by omega)]
          (repeat ((conv=>whnf);first|refine ω0 ?_|refine ω1 ?_|refine ω2 ?_|refine ω3 ?_|refine ω4 rfl ?_|refine ω5 rfl ?_|refine ω6 ?_|refine ω7 ?_|refine ω8 ?_|refine ⟨rfl,?_⟩|refine ⟨trivial,?_⟩|refine ⟨⟨rfl,Nat.le_of_ble_eq_true rfl⟩,?_⟩|refine ⟨⟨by kernel_rfl,by kernel_rfl⟩,?_⟩|refine ⟨by decide,?_⟩|refine lit_true ?_|refine lit_false ?_))
          intro c hc
          obtain rfl : c = true := hc.trans (decide_eq_true (by omega))
          (repeat ((conv=>whnf);first|refine ω0 ?_|refine ω1 ?_|refine ω2 ?_|refine ω3 ?_|refine ω4 rfl ?_|refine ω5 rfl ?_|refine ω6 ?_|refine ω7 ?_|refine ω8 ?_|refine ⟨rfl,?_⟩|refine ⟨trivial,?_⟩|refine ⟨⟨rfl,Nat.le_of_ble_eq_true rfl⟩,?_⟩|refine ⟨⟨by kernel_rfl,by kernel_rfl⟩,?_⟩|refine ⟨by decide,?_⟩|refine lit_true ?_|refine lit_false ?_))
          refine aw_mix 12 _ (fun i => match i with | 11 => true | _ => false) [0, 1, 2, 3, 4, 5, 6, 7, 8, 9, 10, 11] (by kernel_rfl) (by kernel_rfl) (HB.refl _) ?_
          (repeat ((conv=>whnf);first|refine ω0 ?_|refine ω1 ?_|refine ω2 ?_|refine ω3 ?_|refine ω4 rfl ?_|refine ω5 rfl ?_|refine ω6 ?_|refine ω7 ?_|refine ω8 ?_|refine ⟨rfl,?_⟩|refine ⟨trivial,?_⟩|refine ⟨⟨rfl,Nat.le_of_ble_eq_true rfl⟩,?_⟩|refine ⟨⟨by kernel_rfl,by kernel_rfl⟩,?_⟩|refine ⟨by decide,?_⟩|refine lit_true ?_|refine lit_false ?_))
          refine ⟨_, eff_append1 (e := 185) (c := 7) (pm := []) (HB.refl _) rfl rfl rfl (.inr ⟨_, rfl⟩) (by kernel_rfl) (by kernel_rfl) (by kernel_rfl) (.inr rfl) (by kernel_rfl) (List.append_nil _).symm (oneRow_one rfl) (by show (i + 1) * 32 ≤ _; omega) (by omega), fun r h' hr => ?_⟩
          obtain ⟨rfl, rfl⟩ := hr
          (repeat ((conv=>whnf);first|refine ω0 ?_|refine ω1 ?_|refine ω2 ?_|refine ω3 ?_|refine ω4 rfl ?_|refine ω5 rfl ?_|refine ω6 ?_|refine ω7 ?_|refine ω8 ?_|refine ⟨rfl,?_⟩|refine ⟨trivial,?_⟩|refine ⟨⟨rfl,Nat.le_of_ble_eq_true rfl⟩,?_⟩|refine ⟨⟨by kernel_rfl,by kernel_rfl⟩,?_⟩|refine ⟨by decide,?_⟩|refine lit_true ?_|refine lit_false ?_))
          exact back (i + 1, some _, _) ⟨by dsimp only; omega, (fun h => by cases h)⟩ (by dsimp only; omega) (ele_tell _ _ rfl rfl (.cons _ (List.Sublist.refl _)) (List.Sublist.refl _) ⟨rfl, ⟨AVle.trans (b := .os 7 (i + 1) (opF l) _) (AVle.os_fun (appF_one (fun k hk => rfl) (by subst hxb; unfold opF opI; rw [hD]; rfl))) (AVle.os_nm rfl), trivial⟩, trivial⟩ ⟨rfl, rfl, trivial⟩ ⟨AVle.refl _, AVle.refl _, AVle.refl _, AVle.refl _, le_int (wrap_succ (by dsimp only; omega)), trivial⟩)
        · have t25 := yes_of t25
          have hD : doF (kof (l.getD i ins0).code).1 = 112 := by unfold doF; rw [if_neg (by omega), if_neg (by omega)]
          (repeat ((conv=>whnf);first|refine ω0 ?_|refine ω1 ?_|refine ω2 ?_|refine ω3 ?_|refine ω4 rfl ?_|refine ω5 rfl ?_|refine ω6 ?_|refine ω7 ?_|refine ω8 ?_|refine ⟨rfl,?_⟩|refine ⟨trivial,?_⟩|refine ⟨⟨rfl,Nat.le_of_ble_eq_true rfl⟩,?_⟩|refine ⟨⟨by kernel_rfl,by kernel_rfl⟩,?_⟩|refine ⟨by decide,?_⟩|refine lit_true ?_|refine lit_false ?_))
          refine aw_mix 12 _ (fun i => match i with | 11 => true | _ => false) [0, 1, 2, 3, 4, 5, 6, 7, 8, 9, 10, 11] (by kernel_rfl) (by kernel_rfl) (HB.refl _) ?_
          (repeat ((conv=>whnf);first|refine ω0 ?_|refine ω1 ?_|refine ω2 ?_|refine ω3 ?_|refine ω4 rfl ?_|refine ω5 rfl ?_|refine ω6 ?_|refine ω7 ?_|refine ω8 ?_|refine ⟨rfl,?_⟩|refine ⟨trivial,?_⟩|refine ⟨⟨rfl,Nat.le_of_ble_eq_true rfl⟩,?_⟩|refine ⟨⟨by kernel_rfl,by kernel_rfl⟩,?_⟩|refine ⟨by decide,?_⟩|refine lit_true ?_|refine lit_false ?_))
          refine ⟨_, eff_append1 (e := 185) (c := 7) (pm := []) (HB.refl _) rfl rfl rfl (.inr ⟨_, rfl⟩) (by kernel_rfl) (by kernel_rfl) (by kernel_rfl) (.inr rfl) (by kernel_rfl) (List.append_nil _).symm (oneRow_one rfl) (by show (i + 1) * 32 ≤ _; omega) (by omega), fun r h' hr => ?_⟩
          obtain ⟨rfl, rfl⟩ := hr
          (repeat ((conv=>whnf);first|refine ω0 ?_|refine ω1 ?_|refine ω2 ?_|refine ω3 ?_|refine ω4 rfl ?_|refine ω5 rfl ?_|refine ω6 ?_|refine ω7 ?_|refine ω8 ?_|refine ⟨rfl,?_⟩|refine ⟨trivial,?_⟩|refine ⟨⟨rfl,Nat.le_of_ble_eq_true rfl⟩,?_⟩|refine ⟨⟨by kernel_rfl,by kernel_rfl⟩,?_⟩|refine ⟨by decide,?_⟩|refine lit_true ?_|refine lit_false ?_))
          exact back (i + 1, some _, _) ⟨by dsimp only; omega, (fun h => by cases h)⟩ (by dsimp only; omega) (ele_tell _ _ rfl rfl (.cons _ (List.Sublist.refl _)) (List.Sublist.refl _) ⟨rfl, ⟨AVle.trans (b := .os 7 (i + 1) (opF l) _) (AVle.os_fun (appF_one (fun k hk => rfl) (by subst hxb; unfold opF opI; rw [hD]; rfl))) (AVle.os_nm rfl), trivial⟩, trivial⟩ ⟨rfl, rfl, trivial⟩ ⟨AVle.refl _, AVle.refl _, AVle.refl _, AVle.refl _, le_int (wrap_succ (by dsimp only; omega)), trivial⟩)
end Go.Proofs.W

namespace Go.Proofs.W
open Go.Vl
set_option maxRecDepth 100000

/-- A program's run over 64 bytes: what it tells, how it stands. -/
def runI (b : List Nat) (l : List Ins) : Nat × Rn := runV b l l.length rn0
def outA (v : Nat) (s : Rn) : AV := .ag [u32 v, int s.steps, ints s.loads]
theorem clone_bytes (b : List Nat) (hl : b.length ≤ 1000000) : Tells Try.prog 114 [bytesA b] (bytesA b) := by
  refine tells_of_aw Try.func114 rfl rfl fun nx => ?_
  (repeat ((conv=>whnf);first|refine ω0 ?_|refine ω1 ?_|refine ω2 ?_|refine ω3 ?_|refine ω4 rfl ?_|refine ω5 rfl ?_|refine ω6 ?_|refine ω7 ?_|refine ω8 ?_|refine ⟨rfl,?_⟩|refine ⟨trivial,?_⟩|refine ⟨⟨rfl,Nat.le_of_ble_eq_true rfl⟩,?_⟩|refine ⟨⟨by kernel_rfl,by kernel_rfl⟩,?_⟩|refine ⟨by decide,?_⟩|refine lit_true ?_|refine lit_false ?_))
  refine aop_nilslice (e := 5) rfl (.inl rfl) (by kernel_rfl) (.inl rfl) fun c hc => ?_
  cases c
  · (repeat ((conv=>whnf);first|refine ω0 ?_|refine ω1 ?_|refine ω2 ?_|refine ω3 ?_|refine ω4 rfl ?_|refine ω5 rfl ?_|refine ω6 ?_|refine ω7 ?_|refine ω8 ?_|refine ⟨rfl,?_⟩|refine ⟨trivial,?_⟩|refine ⟨⟨rfl,Nat.le_of_ble_eq_true rfl⟩,?_⟩|refine ⟨⟨by kernel_rfl,by kernel_rfl⟩,?_⟩|refine ⟨by decide,?_⟩|refine lit_true ?_|refine lit_false ?_))
    (conv => whnf)
    refine appK_intro (fun hm => ?_) fun hm => ?_
    · (repeat ((conv=>whnf);first|refine ω0 ?_|refine ω1 ?_|refine ω2 ?_|refine ω3 ?_|refine ω4 rfl ?_|refine ω5 rfl ?_|refine ω6 ?_|refine ω7 ?_|refine ω8 ?_|refine ⟨rfl,?_⟩|refine ⟨trivial,?_⟩|refine ⟨⟨rfl,Nat.le_of_ble_eq_true rfl⟩,?_⟩|refine ⟨⟨by kernel_rfl,by kernel_rfl⟩,?_⟩|refine ⟨by decide,?_⟩|refine lit_true ?_|refine lit_false ?_))
      refine ret_tells rfl ?_
      unfold bytesA slOf
      rw [hm]
      exact AVle.os_sl0
    · refine ⟨fun k hk => rfl, by show (0 + b.length) * 1 ≤ _; omega, by omega, ?_⟩
      (repeat ((conv=>whnf);first|refine ω0 ?_|refine ω1 ?_|refine ω2 ?_|refine ω3 ?_|refine ω4 rfl ?_|refine ω5 rfl ?_|refine ω6 ?_|refine ω7 ?_|refine ω8 ?_|refine ⟨rfl,?_⟩|refine ⟨trivial,?_⟩|refine ⟨⟨rfl,Nat.le_of_ble_eq_true rfl⟩,?_⟩|refine ⟨⟨by kernel_rfl,by kernel_rfl⟩,?_⟩|refine ⟨by decide,?_⟩|refine lit_true ?_|refine lit_false ?_))
      refine ret_tells rfl ?_
      have e5 : 0 + b.length = b.length := Nat.zero_add _
      refine AVle.os_sl.trans ?_
      refine AVle.trans (b := .sl 1 (0 + b.length) (fun k => u8 (b.getD k 0 : Nat))) (AVle.sl_fun fun k hk => rfl) (AVle.of_eq (by rw [e5]; rfl))
  · have hm := hc rfl
    (repeat ((conv=>whnf);first|refine ω0 ?_|refine ω1 ?_|refine ω2 ?_|refine ω3 ?_|refine ω4 rfl ?_|refine ω5 rfl ?_|refine ω6 ?_|refine ω7 ?_|refine ω8 ?_|refine ⟨rfl,?_⟩|refine ⟨trivial,?_⟩|refine ⟨⟨rfl,Nat.le_of_ble_eq_true rfl⟩,?_⟩|refine ⟨⟨by kernel_rfl,by kernel_rfl⟩,?_⟩|refine ⟨by decide,?_⟩|refine lit_true ?_|refine lit_false ?_))
    refine ret_tells rfl ?_
    unfold bytesA slOf
    rw [hm]
    exact AVle.os_sl0
/-- What catches the end of a run. -/
theorem catch_spec (b : List Nat) (s : Rn) (hs : s.ok) (oi : Option Nat) (v : Nat) (s0 s1 s2 s3 s5 nx : Nat) (o5 : List AV) :
    DCall Try.prog 115 [.bp (3, s3) 0, .bp (0, s0) 0, .bp (1, s1) 0] (.panicking (overA v)) ⟨[((5, s5), .c o5), ((3, s3), .c [.bp (2, s2) 0]), ((2, s2), .c (runC b s oi)), ((1, s1), .c [int 0]), ((0, s0), .c [u32 0, int 0, .os 0 0 (fun _ => .any) none])], pmOf (nmN 1 oi) (s.loads.length * 1), nx, 6⟩
      fun u h' => u = .returning ∧ ∃ x y pm nx' nn', h' = ⟨x :: y :: [((3, s3), .c [.bp (2, s2) 0]), ((2, s2), .c (splice (runC b s oi) 20 [u32 v])), ((1, s1), .c [int 0]), ((0, s0), .c [u32 v, int s.steps, .os 1 s.loads.length (natF s.loads) (nmN 1 oi)])], pm, nx', nn'⟩ ∧ x.1.1 = 6 ∧ y.1.1 = 5 := by
  obtain ⟨at', a, x, cells, steps, loads⟩ := s
  obtain ⟨c0, c1, c2, c3, c4, c5, c6, c7, c8, c9, c10, c11, c12, c13, c14, c15, rfl⟩ := cells16 hs.n
  refine dcall_recover Try.func115 rfl rfl rfl rfl rfl rfl ?_
  (repeat ((conv=>whnf);first|refine ω0 ?_|refine ω1 ?_|refine ω2 ?_|refine ω3 ?_|refine ω4 rfl ?_|refine ω5 rfl ?_|refine ω6 ?_|refine ω7 ?_|refine ω8 ?_|refine ⟨rfl,?_⟩|refine ⟨trivial,?_⟩|refine ⟨⟨rfl,Nat.le_of_ble_eq_true rfl⟩,?_⟩|refine ⟨⟨by kernel_rfl,by kernel_rfl⟩,?_⟩|refine ⟨by decide,?_⟩|refine lit_true ?_|refine lit_false ?_))
  refine aop_assert rfl Try.underlying190 (fun m h => by cases h) rfl ?_
  (repeat ((conv=>whnf);first|refine ω0 ?_|refine ω1 ?_|refine ω2 ?_|refine ω3 ?_|refine ω4 rfl ?_|refine ω5 rfl ?_|refine ω6 ?_|refine ω7 ?_|refine ω8 ?_|refine ⟨rfl,?_⟩|refine ⟨trivial,?_⟩|refine ⟨⟨rfl,Nat.le_of_ble_eq_true rfl⟩,?_⟩|refine ⟨⟨by kernel_rfl,by kernel_rfl⟩,?_⟩|refine ⟨by decide,?_⟩|refine lit_true ?_|refine lit_false ?_))
  refine ret_is rfl ?_
  exact ⟨rfl, ((6, nx), .c [u32 v]), ((5, s5), .c o5), pmOf (nmN 1 oi) (loads.length * 1), nx + 1, 7, rfl, rfl, rfl⟩
theorem doV_loads {b : List Nat} {i : Ins} {s : Rn} : (doV b i s).2.loads.length ≤ s.loads.length + 1 := by
  unfold doV
  split
  all_goals first
    | (dsimp only; simp; done)
    | (dsimp only; omega)
    | skip
  split
  · split
    · dsimp only; omega
    · dsimp only; omega
  · dsimp only; omega
theorem runV_more {b : List Nat} {l : List Ins} (hf : Formed l) : ∀ f g (s : Rn), s.at' < l.length → l.length ≤ s.at' + f → f ≤ g → runV b l g s = runV b l f s
  | 0, g, s, hs, hl, _ => by omega
  | f + 1, 0, s, hs, hl, hg => by omega
  | f + 1, g + 1, s, hs, hl, hg => by
    unfold runV
    cases h : stepV b l s with
    | mk o s' =>
      cases o with
      | some v => rfl
      | none =>
        obtain ⟨h1, h2⟩ := stepV_next h
        obtain ⟨h3, h4⟩ := nexts_lt hf hs _ h1
        exact runV_more hf f g s' h4 (by omega) (by omega)
theorem le_step {b : List Nat} {at' a x steps at2 st2 : Nat} {loads : List Nat} {oi : Option Nat} {c0 c1 c2 c3 c4 c5 c6 c7 c8 c9 c10 c11 c12 c13 c14 c15 : Nat} {V W : AV} (hV : AVle V (int at2)) (hW : AVle W (int st2)) :
    OwnLe (.c (splice (splice (runC b ⟨at', a, x, [c0, c1, c2, c3, c4, c5, c6, c7, c8, c9, c10, c11, c12, c13, c14, c15], steps, loads⟩ oi) 1 [V]) 21 [W])) (.c (runC b ⟨at2, a, x, [c0, c1, c2, c3, c4, c5, c6, c7, c8, c9, c10, c11, c12, c13, c14, c15], st2, loads⟩ oi)) := by
  show LeL [bytesA b, V, u32 a, u32 x, u32A c0, u32A c1, u32A c2, u32A c3, u32A c4, u32A c5, u32A c6, u32A c7, u32A c8, u32A c9, u32A c10, u32A c11, u32A c12, u32A c13, u32A c14, u32A c15, u32 0, W, .os 1 loads.length (natF loads) (nmN 1 oi)] [bytesA b, int at2, u32 a, u32 x, u32A c0, u32A c1, u32A c2, u32A c3, u32A c4, u32A c5, u32A c6, u32A c7, u32A c8, u32A c9, u32A c10, u32A c11, u32A c12, u32A c13, u32A c14, u32A c15, u32 0, int st2, .os 1 loads.length (natF loads) (nmN 1 oi)]
  exact ⟨AVle.refl _, hV, AVle.refl _, AVle.refl _, AVle.refl _, AVle.refl _, AVle.refl _, AVle.refl _, AVle.refl _, AVle.refl _, AVle.refl _, AVle.refl _, AVle.refl _, AVle.refl _, AVle.refl _, AVle.refl _, AVle.refl _, AVle.refl _, AVle.refl _, AVle.refl _, AVle.refl _, hW, AVle.refl _, trivial⟩
def capsR (s0 s1 s3 : Nat) : List AV := [.bp (3, s3) 0, .bp (0, s0) 0, .bp (1, s1) 0]
def machB (b : List Nat) (s0 s1 s2 s3 : Nat) (s : Rn) (oi : Option Nat) : List (Vl.Id × Own) := [((3, s3), .c [.bp (2, s2) 0]), ((2, s2), .c (runC b s oi)), ((1, s1), .c [int 0]), ((0, s0), .c [u32 0, int 0, .os 0 0 (fun _ => .any) none])]
theorem le_init {b : List Nat} : OwnLe (.c [bytesA b, int 0, u32 0, u32 0, u32 0, u32 0, u32 0, u32 0, u32 0, u32 0, u32 0, u32 0, u32 0, u32 0, u32 0, u32 0, u32 0, u32 0, u32 0, u32 0, u32 0, int 0, .os 0 0 (fun _ => .any) none]) (.c (runC b rn0 none)) := by
  show LeL [bytesA b, int 0, u32 0, u32 0, u32 0, u32 0, u32 0, u32 0, u32 0, u32 0, u32 0, u32 0, u32 0, u32 0, u32 0, u32 0, u32 0, u32 0, u32 0, u32 0, u32 0, int 0, .os 0 0 (fun _ => .any) none] [bytesA b, int 0, u32 0, u32 0, u32 0, u32 0, u32 0, u32 0, u32 0, u32 0, u32 0, u32 0, u32 0, u32 0, u32 0, u32 0, u32 0, u32 0, u32 0, u32 0, u32 0, int 0, .os 1 0 (natF []) none]
  exact ⟨AVle.refl _, AVle.refl _, AVle.refl _, AVle.refl _, AVle.refl _, AVle.refl _, AVle.refl _, AVle.refl _, AVle.refl _, AVle.refl _, AVle.refl _, AVle.refl _, AVle.refl _, AVle.refl _, AVle.refl _, AVle.refl _, AVle.refl _, AVle.refl _, AVle.refl _, AVle.refl _, AVle.refl _, AVle.refl _, AVle.os_nil, trivial⟩
theorem z_op : zcells Try.prog 185 = some [u16 0, u8 0, u8 0, u32 0, .v .nilFunc, int 0, boolA false] := by kernel_rfl
structure RnI (b : List Nat) (l : List Ins) (s : Rn) (oi : Option Nat) : Prop where
  lt : s.at' < l.length
  ok : s.ok
  nil : oi = none → s.loads = []
  steps : s.steps ≤ s.at'
  loads : s.loads.length ≤ s.at'
  res : runV b l (l.length - s.at') s = runI b l
set_option maxHeartbeats 1000000 in
theorem run_spec (l : List Ins) (hok : okL l) (hR : Right l) (b : List Nat) (hb : okB b) (hbl : b.length = 64) : Tells Try.prog 69 [.rp [opsA l], bytesA b] (.tup [outA (runI b l).1 (runI b l).2, int 0]) := by
  have hf := hR.1
  have hle := hf.le
  have hpos := hf.pos
  refine tells_of_aw Try.func69 rfl rfl fun nx => ?_
  (repeat ((conv=>whnf);first|refine ω0 ?_|refine ω1 ?_|refine ω2 ?_|refine ω3 ?_|refine ω4 rfl ?_|refine ω5 rfl ?_|refine ω6 ?_|refine ω7 ?_|refine ω8 ?_|refine ⟨rfl,?_⟩|refine ⟨trivial,?_⟩|refine ⟨⟨rfl,Nat.le_of_ble_eq_true rfl⟩,?_⟩|refine ⟨⟨by kernel_rfl,by kernel_rfl⟩,?_⟩|refine ⟨by decide,?_⟩|refine lit_true ?_|refine lit_false ?_))
  refine aop_nilptr rfl (.inl rfl) Try.underlying142 rfl ?_
  (repeat ((conv=>whnf);first|refine ω0 ?_|refine ω1 ?_|refine ω2 ?_|refine ω3 ?_|refine ω4 rfl ?_|refine ω5 rfl ?_|refine ω6 ?_|refine ω7 ?_|refine ω8 ?_|refine ⟨rfl,?_⟩|refine ⟨trivial,?_⟩|refine ⟨⟨rfl,Nat.le_of_ble_eq_true rfl⟩,?_⟩|refine ⟨⟨by kernel_rfl,by kernel_rfl⟩,?_⟩|refine ⟨by decide,?_⟩|refine lit_true ?_|refine lit_false ?_))
  intro c hc
  obtain rfl : c = false := hc.trans (decide_eq_false (by omega))
  (repeat ((conv=>whnf);first|refine ω0 ?_|refine ω1 ?_|refine ω2 ?_|refine ω3 ?_|refine ω4 rfl ?_|refine ω5 rfl ?_|refine ω6 ?_|refine ω7 ?_|refine ω8 ?_|refine ⟨rfl,?_⟩|refine ⟨trivial,?_⟩|refine ⟨⟨rfl,Nat.le_of_ble_eq_true rfl⟩,?_⟩|refine ⟨⟨by kernel_rfl,by kernel_rfl⟩,?_⟩|refine ⟨by decide,?_⟩|refine lit_true ?_|refine lit_false ?_))
  intro c hc
  obtain rfl : c = false := hc.trans (decide_eq_false (by omega))
  (repeat ((conv=>whnf);first|refine ω0 ?_|refine ω1 ?_|refine ω2 ?_|refine ω3 ?_|refine ω4 rfl ?_|refine ω5 rfl ?_|refine ω6 ?_|refine ω7 ?_|refine ω8 ?_|refine ⟨rfl,?_⟩|refine ⟨trivial,?_⟩|refine ⟨⟨rfl,Nat.le_of_ble_eq_true rfl⟩,?_⟩|refine ⟨⟨by kernel_rfl,by kernel_rfl⟩,?_⟩|refine ⟨by decide,?_⟩|refine lit_true ?_|refine lit_false ?_))
  refine aop_tells rfl rfl (clone_bytes b (by omega)) ⟨AVle.refl _, trivial⟩ fun nx1 => ?_
  (repeat ((conv=>whnf);first|refine ω0 ?_|refine ω1 ?_|refine ω2 ?_|refine ω3 ?_|refine ω4 rfl ?_|refine ω5 rfl ?_|refine ω6 ?_|refine ω7 ?_|refine ω8 ?_|refine ⟨rfl,?_⟩|refine ⟨trivial,?_⟩|refine ⟨⟨rfl,Nat.le_of_ble_eq_true rfl⟩,?_⟩|refine ⟨⟨by kernel_rfl,by kernel_rfl⟩,?_⟩|refine ⟨by decide,?_⟩|refine lit_true ?_|refine lit_false ?_))
  refine aop_defer rfl rfl rfl ?_
  (repeat ((conv=>whnf);first|refine ω0 ?_|refine ω1 ?_|refine ω2 ?_|refine ω3 ?_|refine ω4 rfl ?_|refine ω5 rfl ?_|refine ω6 ?_|refine ω7 ?_|refine ω8 ?_|refine ⟨rfl,?_⟩|refine ⟨trivial,?_⟩|refine ⟨⟨rfl,Nat.le_of_ble_eq_true rfl⟩,?_⟩|refine ⟨⟨by kernel_rfl,by kernel_rfl⟩,?_⟩|refine ⟨by decide,?_⟩|refine lit_true ?_|refine lit_false ?_))
  refine aw_loop (fun y : Rn × Option Nat × Nat => mk 58 [(0, .rp [opsA l]), (4, .bp (0, nx) 0), (5, .bp (1, nx + 1) 0), (6, .bp (3, nx1 + 1) 0)] ⟨machB b nx (nx + 1) nx1 (nx1 + 1) y.1 y.2.1, pmOf (nmN 1 y.2.1) (y.1.loads.length * 1), y.2.2, 5⟩ (some [.fn 115 (capsR nx (nx + 1) (nx1 + 1)) []]))
    (fun y => RnI b l y.1 y.2.1) (fun y => l.length - y.1.at') ?_ ?_
  · exact ⟨(rn0, none, nx1 + 2), ⟨hpos, rn0_ok, fun _ => rfl, Nat.le_refl _, Nat.le_refl _, rfl⟩, ele_tell _ _ rfl rfl (List.Sublist.refl _) .slnil ⟨rfl, OwnLe.refl _, rfl, le_init, rfl, OwnLe.refl _, rfl, OwnLe.refl _, trivial⟩ trivial ⟨AVle.refl _, AVle.refl _, AVle.refl _, AVle.refl _, trivial⟩⟩
  · rintro ⟨⟨at', a, x, cells, steps, loads⟩, oi, nx2⟩ hI
    obtain ⟨i1, i2, i3, i4, i5, i6⟩ := hI
    obtain ⟨c0, c1, c2, c3, c4, c5, c6, c7, c8, c9, c10, c11, c12, c13, c14, c15, rfl⟩ := cells16 i2.n
    dsimp only at i1 i3 i4 i5 i6
    have hki : (l.getD at' ins0).ok := hok.get i1
    have hw := hf.ok at' i1
    have hw1 : IntKind.i64.wrap ((at' : Int) + 1) = ((at' + 1 : Nat) : Int) := wrap_succ (by omega)
    have hw2 : IntKind.i64.wrap ((steps : Int) + 1) = ((steps + 1 : Nat) : Int) := wrap_succ (by omega)
    have hok1 : Rn.ok ⟨at' + 1, a, x, [c0, c1, c2, c3, c4, c5, c6, c7, c8, c9, c10, c11, c12, c13, c14, c15], steps + 1, loads⟩ := ⟨i2.a, i2.x, i2.n, i2.c⟩
    have hcall := do_spec b hb hbl (l.getD at' ins0) hki _ hw nx1 ⟨at' + 1, a, x, [c0, c1, c2, c3, c4, c5, c6, c7, c8, c9, c10, c11, c12, c13, c14, c15], steps + 1, loads⟩ oi i3 hok1 (by dsimp only; omega) (by omega) (by dsimp only; omega) (nx2 + 1)
    have hstep : stepV b l ⟨at', a, x, [c0, c1, c2, c3, c4, c5, c6, c7, c8, c9, c10, c11, c12, c13, c14, c15], steps, loads⟩ = doV b (l.getD at' ins0) ⟨at' + 1, a, x, [c0, c1, c2, c3, c4, c5, c6, c7, c8, c9, c10, c11, c12, c13, c14, c15], steps + 1, loads⟩ := rfl
    have hdok := doV_ok hb hki hok1
    have hdl := doV_loads (b := b) (i := l.getD at' ins0) (s := ⟨at' + 1, a, x, [c0, c1, c2, c3, c4, c5, c6, c7, c8, c9, c10, c11, c12, c13, c14, c15], steps + 1, loads⟩)
    rw [← hstep] at hcall hdok hdl
    (repeat ((conv=>whnf);first|refine ω0 ?_|refine ω1 ?_|refine ω2 ?_|refine ω3 ?_|refine ω4 rfl ?_|refine ω5 rfl ?_|refine ω6 ?_|refine ω7 ?_|refine ω8 ?_|refine ⟨rfl,?_⟩|refine ⟨trivial,?_⟩|refine ⟨⟨rfl,Nat.le_of_ble_eq_true rfl⟩,?_⟩|refine ⟨⟨by kernel_rfl,by kernel_rfl⟩,?_⟩|refine ⟨by decide,?_⟩|refine lit_true ?_|refine lit_false ?_))
    refine aw_mix 11 (machB b nx (nx + 1) nx1 (nx1 + 1) ⟨at', a, x, [c0, c1, c2, c3, c4, c5, c6, c7, c8, c9, c10, c11, c12, c13, c14, c15], steps, loads⟩ oi) (fun i => match i with | 10 => true | _ => false) [0, 1, 2, 3, 4, 5, 6, 7, 8, 9, 10] (by kernel_rfl) (by kernel_rfl) (HB.refl _) ?_
    (repeat ((conv=>whnf);first|refine ω0 ?_|refine ω1 ?_|refine ω2 ?_|refine ω3 ?_|refine ω4 rfl ?_|refine ω5 rfl ?_|refine ω6 ?_|refine ω7 ?_|refine ω8 ?_|refine ⟨rfl,?_⟩|refine ⟨trivial,?_⟩|refine ⟨⟨rfl,Nat.le_of_ble_eq_true rfl⟩,?_⟩|refine ⟨⟨by kernel_rfl,by kernel_rfl⟩,?_⟩|refine ⟨by decide,?_⟩|refine lit_true ?_|refine lit_false ?_))
    refine ⟨⟨by first | omega | (dsimp only; omega), by first | omega | (dsimp only; omega)⟩, ?_⟩
    (repeat ((conv=>whnf);first|refine ω0 ?_|refine ω1 ?_|refine ω2 ?_|refine ω3 ?_|refine ω4 rfl ?_|refine ω5 rfl ?_|refine ω6 ?_|refine ω7 ?_|refine ω8 ?_|refine ⟨rfl,?_⟩|refine ⟨trivial,?_⟩|refine ⟨⟨rfl,Nat.le_of_ble_eq_true rfl⟩,?_⟩|refine ⟨⟨by kernel_rfl,by kernel_rfl⟩,?_⟩|refine ⟨by decide,?_⟩|refine lit_true ?_|refine lit_false ?_))
    refine ⟨_, eff_alloc rfl rfl z_op (HB.cons rfl (HB.cons rfl (HB.cons rfl (HB.one rfl)))), fun r h' hr => ?_⟩
    obtain ⟨rfl, rfl⟩ := hr
    (repeat ((conv=>whnf);first|refine ω0 ?_|refine ω1 ?_|refine ω2 ?_|refine ω3 ?_|refine ω4 rfl ?_|refine ω5 rfl ?_|refine ω6 ?_|refine ω7 ?_|refine ω8 ?_|refine ⟨rfl,?_⟩|refine ⟨trivial,?_⟩|refine ⟨⟨rfl,Nat.le_of_ble_eq_true rfl⟩,?_⟩|refine ⟨⟨by kernel_rfl,by kernel_rfl⟩,?_⟩|refine ⟨by decide,?_⟩|refine lit_true ?_|refine lit_false ?_))
    have hc2 := (hcall.tell (h' := ⟨[((2, nx1), .c (splice (splice (runC b ⟨at', a, x, [c0, c1, c2, c3, c4, c5, c6, c7, c8, c9, c10, c11, c12, c13, c14, c15], steps, loads⟩ oi) 1 [int (IntKind.i64.wrap ((at' : Int) + 1))]) 21 [int (IntKind.i64.wrap ((steps : Int) + 1))]))], pmOf (nmN 1 oi) (loads.length * 1), nx2 + 1, 6⟩) ⟨rfl, le_step (le_int hw1) (le_int hw2), trivial⟩ (PmEq.refl _) rfl)
    refine aop_callR rfl rfl (by exact ECallR.args (bs := [.bp (0, nx1) 0, opA (l.getD at' ins0) .any]) ⟨AVle.bp_nm rfl, AVle.ags (cs := [_, _, _, _, _, _, _]) ⟨AVle.refl _, AVle.refl _, AVle.refl _, AVle.refl _, AVle.any _, AVle.refl _, AVle.refl _, trivial⟩, trivial⟩ (hc2.frame [((5, _), .c _), ((3, _), .c _), ((1, _), .c _), ((0, _), .c _)] [] (List.perm_middle (l₁ := [_, _])) (.of_eq (List.append_nil _).symm) rfl)) (fun r h' hq => ?_) (fun xp h' hq => ?_)
    · obtain ⟨h1', ⟨oi', nx', nn', r1, r2, rfl⟩, rfl⟩ := hq
      have hst : stepV b l ⟨at', a, x, [c0, c1, c2, c3, c4, c5, c6, c7, c8, c9, c10, c11, c12, c13, c14, c15], steps, loads⟩ = (none, (stepV b l ⟨at', a, x, [c0, c1, c2, c3, c4, c5, c6, c7, c8, c9, c10, c11, c12, c13, c14, c15], steps, loads⟩).2) := by rw [← r1]
      generalize (stepV b l ⟨at', a, x, [c0, c1, c2, c3, c4, c5, c6, c7, c8, c9, c10, c11, c12, c13, c14, c15], steps, loads⟩).2 = s' at *
      obtain ⟨n1, n2⟩ := stepV_next hst
      obtain ⟨n3, n4⟩ := nexts_lt hf i1 _ n1
      dsimp only at n2 n3 hdl
      refine ⟨r, ⟨[((5, _), .c _), ((3, nx1 + 1), .c [.bp (2, nx1) 0]), ((2, nx1), .c (runC b s' oi')), ((1, nx + 1), .c [int 0]), ((0, nx), .c [u32 0, int 0, .os 0 0 (fun _ => .any) none])], pmOf (nmN 1 oi') (s'.loads.length * 1) ++ [], nx', 6⟩, AVle.refl _, ⟨(List.perm_middle (l₁ := [_, _])), .refl _, rfl⟩, ?_⟩
      (repeat ((conv=>whnf);first|refine ω0 ?_|refine ω1 ?_|refine ω2 ?_|refine ω3 ?_|refine ω4 rfl ?_|refine ω5 rfl ?_|refine ω6 ?_|refine ω7 ?_|refine ω8 ?_|refine ⟨rfl,?_⟩|refine ⟨trivial,?_⟩|refine ⟨⟨rfl,Nat.le_of_ble_eq_true rfl⟩,?_⟩|refine ⟨⟨by kernel_rfl,by kernel_rfl⟩,?_⟩|refine ⟨by decide,?_⟩|refine lit_true ?_|refine lit_false ?_))
      refine back (s', oi', nx') ⟨n4, hdok, r2, by dsimp only; omega, by dsimp only; omega, ?_⟩ (by dsimp only; omega) (ele_tell _ _ rfl rfl (.cons _ (List.Sublist.refl _)) (List.Sublist.refl _) (BxLe.refl _) (by rw [List.append_nil]; exact PmEq.refl _) ⟨AVle.refl _, AVle.refl _, AVle.refl _, AVle.refl _, trivial⟩)
      rw [← i6]
      obtain ⟨m, hm⟩ : ∃ m, l.length - at' = m + 1 := ⟨l.length - at' - 1, by omega⟩
      rw [hm, runV, hst]
      dsimp only
      exact (runV_more hf (l.length - s'.at') m s' n4 (by omega) (by omega)).symm
    · obtain ⟨h1', ⟨v, oi', nx', nn', r1, rfl, r2, rfl⟩, rfl⟩ := hq
      have hst : stepV b l ⟨at', a, x, [c0, c1, c2, c3, c4, c5, c6, c7, c8, c9, c10, c11, c12, c13, c14, c15], steps, loads⟩ = (some v, (stepV b l ⟨at', a, x, [c0, c1, c2, c3, c4, c5, c6, c7, c8, c9, c10, c11, c12, c13, c14, c15], steps, loads⟩).2) := by rw [← r1]
      generalize (stepV b l ⟨at', a, x, [c0, c1, c2, c3, c4, c5, c6, c7, c8, c9, c10, c11, c12, c13, c14, c15], steps, loads⟩).2 = s' at *
      have hres : runI b l = (v, s') := by
        rw [← i6]
        obtain ⟨m, hm⟩ : ∃ m, l.length - at' = m + 1 := ⟨l.length - at' - 1, by omega⟩
        rw [hm, runV, hst]
      rw [hres]
      (conv => whnf)
      refine DCall.like (h := ⟨[((5, _), .c _), ((3, nx1 + 1), .c [.bp (2, nx1) 0]), ((2, nx1), .c (runC b s' oi')), ((1, nx + 1), .c [int 0]), ((0, nx), .c [u32 0, int 0, .os 0 0 (fun _ => .any) none])], pmOf (nmN 1 oi') (s'.loads.length * 1), nx', 6⟩) ⟨(List.perm_middle (l₁ := [_, _])).symm, .of_eq (by rw [List.append_nil]; rfl), rfl⟩ ((catch_spec b s' hdok oi' v nx (nx + 1) nx1 (nx1 + 1) _ nx' _).mono fun u h' hq => ?_)
      obtain ⟨rfl, ⟨⟨x1, x2⟩, x3⟩, ⟨⟨y1, y2⟩, y3⟩, pm, nx7, nn7, rfl, hx, hy⟩ := hq
      dsimp only at hx hy
      subst hx
      subst hy
      refine ret_tells_all rfl ?_ ?_
      · exact ⟨rfl, ⟨rfl, by decide⟩, trivial⟩
      · exact AVle.tups (cs := [_, _]) ⟨AVle.ags (cs := [_, _, _]) ⟨AVle.refl _, AVle.refl _, AVle.os_sl, trivial⟩, AVle.refl _, trivial⟩
theorem run_size (l : List Ins) (b : List Nat) (hbl : b.length ≠ 64) (hl : b.length ≤ 1000000) : Tells Try.prog 69 [.rp [opsA l], bytesA b] (.tup [outA 0 rn0, int (if b.length < 64 then 2 else 3 : Nat)]) := by
  refine tells_of_aw Try.func69 rfl rfl fun nx => ?_
  (repeat ((conv=>whnf);first|refine ω0 ?_|refine ω1 ?_|refine ω2 ?_|refine ω3 ?_|refine ω4 rfl ?_|refine ω5 rfl ?_|refine ω6 ?_|refine ω7 ?_|refine ω8 ?_|refine ⟨rfl,?_⟩|refine ⟨trivial,?_⟩|refine ⟨⟨rfl,Nat.le_of_ble_eq_true rfl⟩,?_⟩|refine ⟨⟨by kernel_rfl,by kernel_rfl⟩,?_⟩|refine ⟨by decide,?_⟩|refine lit_true ?_|refine lit_false ?_))
  refine aop_nilptr rfl (.inl rfl) Try.underlying142 rfl ?_
  (repeat ((conv=>whnf);first|refine ω0 ?_|refine ω1 ?_|refine ω2 ?_|refine ω3 ?_|refine ω4 rfl ?_|refine ω5 rfl ?_|refine ω6 ?_|refine ω7 ?_|refine ω8 ?_|refine ⟨rfl,?_⟩|refine ⟨trivial,?_⟩|refine ⟨⟨rfl,Nat.le_of_ble_eq_true rfl⟩,?_⟩|refine ⟨⟨by kernel_rfl,by kernel_rfl⟩,?_⟩|refine ⟨by decide,?_⟩|refine lit_true ?_|refine lit_false ?_))
  intro c h; cases c
  · have h := not_of h
    (repeat ((conv=>whnf);first|refine ω0 ?_|refine ω1 ?_|refine ω2 ?_|refine ω3 ?_|refine ω4 rfl ?_|refine ω5 rfl ?_|refine ω6 ?_|refine ω7 ?_|refine ω8 ?_|refine ⟨rfl,?_⟩|refine ⟨trivial,?_⟩|refine ⟨⟨rfl,Nat.le_of_ble_eq_true rfl⟩,?_⟩|refine ⟨⟨by kernel_rfl,by kernel_rfl⟩,?_⟩|refine ⟨by decide,?_⟩|refine lit_true ?_|refine lit_false ?_))
    intro c hc
    obtain rfl : c = true := hc.trans (decide_eq_true (by omega))
    (repeat ((conv=>whnf);first|refine ω0 ?_|refine ω1 ?_|refine ω2 ?_|refine ω3 ?_|refine ω4 rfl ?_|refine ω5 rfl ?_|refine ω6 ?_|refine ω7 ?_|refine ω8 ?_|refine ⟨rfl,?_⟩|refine ⟨trivial,?_⟩|refine ⟨⟨rfl,Nat.le_of_ble_eq_true rfl⟩,?_⟩|refine ⟨⟨by kernel_rfl,by kernel_rfl⟩,?_⟩|refine ⟨by decide,?_⟩|refine lit_true ?_|refine lit_false ?_))
    refine ret_tells_all rfl ?_ ?_
    · exact ⟨rfl, ⟨rfl, by decide⟩, trivial⟩
    · rw [if_neg (by omega)]
      exact AVle.tups (cs := [_, _]) ⟨AVle.ags (cs := [_, _, _]) ⟨AVle.refl _, AVle.refl _, AVle.os_sl0, trivial⟩, AVle.refl _, trivial⟩
  · have h := yes_of h
    (repeat ((conv=>whnf);first|refine ω0 ?_|refine ω1 ?_|refine ω2 ?_|refine ω3 ?_|refine ω4 rfl ?_|refine ω5 rfl ?_|refine ω6 ?_|refine ω7 ?_|refine ω8 ?_|refine ⟨rfl,?_⟩|refine ⟨trivial,?_⟩|refine ⟨⟨rfl,Nat.le_of_ble_eq_true rfl⟩,?_⟩|refine ⟨⟨by kernel_rfl,by kernel_rfl⟩,?_⟩|refine ⟨by decide,?_⟩|refine lit_true ?_|refine lit_false ?_))
    refine ret_tells_all rfl ?_ ?_
    · exact ⟨rfl, ⟨rfl, by decide⟩, trivial⟩
    · rw [if_pos (by omega)]
      exact AVle.tups (cs := [_, _]) ⟨AVle.ags (cs := [_, _, _]) ⟨AVle.refl _, AVle.refl _, AVle.os_sl0, trivial⟩, AVle.refl _, trivial⟩
/-- What a run of any program over any bytes tells: an error's number, the value, the end. -/
def vmI (l : List Ins) (b : List Nat) : Nat × (Nat × Rn) :=
  if (checkI l).2 ≠ 0 then ((checkI l).2, (0, rn0)) else if b.length < 64 then (2, (0, rn0)) else if 64 < b.length then (3, (0, rn0)) else (0, runI b l)
theorem vmrun_spec (l : List Ins) (hok : okL l) (hl : l.length ≤ 1000000000) (b : List Nat) (hb : okB b) (hbl : b.length ≤ 1000000) : Tells Try.prog 36 [inss l, bytesA b] (.tup [outA (vmI l b).2.1 (vmI l b).2.2, int (vmI l b).1]) := by
  refine tells_of_aw Try.func36 rfl rfl fun nx => ?_
  (repeat ((conv=>whnf);first|refine ω0 ?_|refine ω1 ?_|refine ω2 ?_|refine ω3 ?_|refine ω4 rfl ?_|refine ω5 rfl ?_|refine ω6 ?_|refine ω7 ?_|refine ω8 ?_|refine ⟨rfl,?_⟩|refine ⟨trivial,?_⟩|refine ⟨⟨rfl,Nat.le_of_ble_eq_true rfl⟩,?_⟩|refine ⟨⟨by kernel_rfl,by kernel_rfl⟩,?_⟩|refine ⟨by decide,?_⟩|refine lit_true ?_|refine lit_false ?_))
  refine aop_tells rfl rfl (new_spec l hok hl) ⟨AVle.refl _, trivial⟩ fun nx1 => ?_
  by_cases hc : (checkI l).2 = 0
  · have hv : newA l = .tup [.rp [opsA l], int 0] := by unfold newA; rw [if_pos hc]
    rw [hv]
    (repeat ((conv=>whnf);first|refine ω0 ?_|refine ω1 ?_|refine ω2 ?_|refine ω3 ?_|refine ω4 rfl ?_|refine ω5 rfl ?_|refine ω6 ?_|refine ω7 ?_|refine ω8 ?_|refine ⟨rfl,?_⟩|refine ⟨trivial,?_⟩|refine ⟨⟨rfl,Nat.le_of_ble_eq_true rfl⟩,?_⟩|refine ⟨⟨by kernel_rfl,by kernel_rfl⟩,?_⟩|refine ⟨by decide,?_⟩|refine lit_true ?_|refine lit_false ?_))
    by_cases hn : b.length = 64
    · have hv : vmI l b = (0, runI b l) := by unfold vmI; rw [if_neg (by omega), if_neg (by omega), if_neg (by omega)]
      rw [hv]
      refine aop_tells rfl rfl (run_spec l hok (check_iff.1 hc) b hb hn) ⟨AVle.refl _, AVle.refl _, trivial⟩ fun nx2 => ?_
      (repeat ((conv=>whnf);first|refine ω0 ?_|refine ω1 ?_|refine ω2 ?_|refine ω3 ?_|refine ω4 rfl ?_|refine ω5 rfl ?_|refine ω6 ?_|refine ω7 ?_|refine ω8 ?_|refine ⟨rfl,?_⟩|refine ⟨trivial,?_⟩|refine ⟨⟨rfl,Nat.le_of_ble_eq_true rfl⟩,?_⟩|refine ⟨⟨by kernel_rfl,by kernel_rfl⟩,?_⟩|refine ⟨by decide,?_⟩|refine lit_true ?_|refine lit_false ?_))
      refine ret_tells_all rfl ?_ ?_
      · exact ⟨rfl, trivial⟩
      · exact AVle.refl _
    · have hv : vmI l b = ((if b.length < 64 then 2 else 3), (0, rn0)) := by
        unfold vmI; rw [if_neg (by omega)]
        split
        · rfl
        · rw [if_pos (by omega)]
      rw [hv]
      refine aop_tells rfl rfl (run_size l b hn hbl) ⟨AVle.refl _, AVle.refl _, trivial⟩ fun nx2 => ?_
      (repeat ((conv=>whnf);first|refine ω0 ?_|refine ω1 ?_|refine ω2 ?_|refine ω3 ?_|refine ω4 rfl ?_|refine ω5 rfl ?_|refine ω6 ?_|refine ω7 ?_|refine ω8 ?_|refine ⟨rfl,?_⟩|refine ⟨trivial,?_⟩|refine ⟨⟨rfl,Nat.le_of_ble_eq_true rfl⟩,?_⟩|refine ⟨⟨by kernel_rfl,by kernel_rfl⟩,?_⟩|refine ⟨by decide,?_⟩|refine lit_true ?_|refine lit_false ?_))
      refine ret_tells_all rfl ?_ ?_
      · exact ⟨rfl, trivial⟩
      · exact AVle.refl _
  · have hv : newA l = .tup [.v (.pointer none), int (checkI l).2] := by unfold newA; rw [if_neg hc]
    have hw : vmI l b = ((checkI l).2, (0, rn0)) := by unfold vmI; rw [if_pos hc]
    rw [hv, hw]
    (repeat ((conv=>whnf);first|refine ω0 ?_|refine ω1 ?_|refine ω2 ?_|refine ω3 ?_|refine ω4 rfl ?_|refine ω5 rfl ?_|refine ω6 ?_|refine ω7 ?_|refine ω8 ?_|refine ⟨rfl,?_⟩|refine ⟨trivial,?_⟩|refine ⟨⟨rfl,Nat.le_of_ble_eq_true rfl⟩,?_⟩|refine ⟨⟨by kernel_rfl,by kernel_rfl⟩,?_⟩|refine ⟨by decide,?_⟩|refine lit_true ?_|refine lit_false ?_))
    intro c hcc
    obtain rfl : c = true := by rw [hcc]; simp; omega
    (repeat ((conv=>whnf);first|refine ω0 ?_|refine ω1 ?_|refine ω2 ?_|refine ω3 ?_|refine ω4 rfl ?_|refine ω5 rfl ?_|refine ω6 ?_|refine ω7 ?_|refine ω8 ?_|refine ⟨rfl,?_⟩|refine ⟨trivial,?_⟩|refine ⟨⟨rfl,Nat.le_of_ble_eq_true rfl⟩,?_⟩|refine ⟨⟨by kernel_rfl,by kernel_rfl⟩,?_⟩|refine ⟨by decide,?_⟩|refine lit_true ?_|refine lit_false ?_))
    refine ret_tells_all rfl ?_ ?_
    · exact ⟨rfl, trivial⟩
    · exact AVle.tups (cs := [_, _]) ⟨AVle.ags (cs := [_, _, _]) ⟨AVle.refl _, AVle.refl _, AVle.os_sl0, trivial⟩, AVle.refl _, trivial⟩
end Go.Proofs.W

namespace Go.Proofs.W
open Go.Vl
set_option maxRecDepth 100000

end Go.Proofs.W

namespace Go.Proofs.W
open Go.Vl
set_option maxRecDepth 100000

theorem le_ints1 {f : Nat → AV} {oi : Option Vl.Id} {a : Nat} {x : Int} (h : f 0 = int x) (hx : x = (a : Nat)) : AVle (.os 1 1 f oi) (ints [a]) :=
  AVle.os_sl.trans (AVle.sl_fun fun k hk => by obtain rfl : k = 0 := by omega
                                               rw [h, hx]; rfl)
theorem le_ints2 {f : Nat → AV} {oi : Option Vl.Id} {a b : Nat} {x y : Int} (h : f 0 = int x) (hx : x = (a : Nat)) (h' : f 1 = int y) (hy : y = (b : Nat)) : AVle (.os 1 2 f oi) (ints [a, b]) :=
  AVle.os_sl.trans (AVle.sl_fun fun k hk => by
    rcases k with _ | _ | k
    · rw [h, hx]; rfl
    · rw [h', hy]; rfl
    · omega)
theorem wrap_two {n k : Nat} (h : n + 1 + k ≤ 1000000000) : IntKind.i64.wrap (IntKind.i64.wrap ((n : Int) + 1) + IntKind.i64.wrap (k : Int)) = ((n + 1 + k : Nat) : Int) := by
  rw [show IntKind.i64.wrap (k : Int) = k from wrap_id (by omega) (by omega), show IntKind.i64.wrap ((n : Int) + 1) = (n : Int) + 1 from wrap_id (by omega) (by omega), wrap_id (by omega) (by omega)]; omega
end Go.Proofs.W

namespace Go.Proofs.W

structure Weak (n : Nat) (s : List Bool × List Nat) : Prop where
  len : s.1.length = n
  few : s.2.length ≤ s.1.count true
structure Inv (l : List Ins) (s : List Bool × List Nat) : Prop where
  weak : Weak l.length s
  zero : s.1.getD 0 false = true
  sound : ∀ x, s.1.getD x false = true → Reached l x
  mem : ∀ x ∈ s.2, s.1.getD x false = true
  full : ∀ x, s.1.getD x false = true → x ∈ s.2 ∨ ∀ t ∈ nextsI l x, s.1.getD t false = true
theorem getD_ext {o o' : List Bool} (hl : o.length = o'.length) (h : ∀ k, o.getD k false = o'.getD k false) : o = o' := by
  refine List.ext_getElem hl fun k h1 h2 => ?_
  have := h k
  simpa [List.getD, h1, h2] using this
theorem Inv.done {l : List Ins} (hf : Formed l) {o : List Bool} (h : Inv l (o, [])) : o = reachI l := by
  have hiff : ∀ x, o.getD x false = true ↔ Reached l x := by
    intro x
    constructor
    · exact h.sound x
    · intro hx
      induction hx with
      | zero => exact h.zero
      | step n t _ _ ht ih =>
        rcases h.full n ih with h1 | h1
        · simp at h1
        · exact h1 t ht
  refine getD_ext (by rw [reachI_length]; exact h.weak.len) fun k => ?_
  have := (hiff k).trans (reachI_iff hf k).symm
  exact Bool.eq_iff_iff.2 this
end Go.Proofs.W

namespace Go.Proofs.W
open Go.Vl
set_option maxRecDepth 100000

theorem b4 : Try.prog.bytesOf 4 = 1 := by kernel_rfl
theorem c4 : Try.prog.cellsOf 4 = 1 := by kernel_rfl
end Go.Proofs.W

namespace Go.Proofs.W
open Go.Vl
set_option maxRecDepth 100000

theorem c3 : Try.prog.cellsOf 3 = 1 := by kernel_rfl
end Go.Proofs.W

namespace Go.Proofs.W
open Go.Vl
set_option maxRecDepth 100000

end Go.Proofs.W

namespace Go.Proofs.W
open Go.Vl
set_option maxRecDepth 100000

end Go.Proofs.W

namespace Go.Proofs.W

section
variable {l : List Ins}
def cnt (l : List Ins) (n : Nat) : Nat := ((reachI l).take n).count true
end
end Go.Proofs.W

namespace Go.Proofs.W
open Go.Vl

theorem runV_ok {b : List Nat} (hb : okB b) {l : List Ins} (hl : okL l) (hf : Formed l) : ∀ f (s : Rn), s.at' < l.length → s.ok → (runV b l f s).2.ok ∧ (runV b l f s).1 < 4294967296
  | 0, s, _, h => ⟨h, by show 0 < _; decide⟩
  | f + 1, s, ha, h => by
    have h1 : (stepV b l s).2.ok := doV_ok hb (hl.get ha) ⟨h.a, h.x, h.n, h.c⟩
    unfold runV
    cases he : stepV b l s with
    | mk o s' =>
      rw [he] at h1
      cases o with
      | some v =>
        refine ⟨h1, ?_⟩
        have hi := hl.get ha
        have h5 : (doV b (l.getD s.at' ins0) { s with at' := s.at' + 1, steps := s.steps + 1 }).1 = some v := congrArg Prod.fst he
        unfold doV at h5
        split at h5
        all_goals first
          | (cases h5; done)
          | (cases h5; exact hi.2.2.2)
          | (cases h5; exact h.a)
          | skip
        split at h5
        · split at h5
          · cases h5
          · cases h5; dsimp only; decide
        · cases h5
      | none =>
        obtain ⟨n1, n2⟩ := stepV_next he
        exact runV_ok hb hl hf f s' (nexts_lt hf ha _ n1).2 h1
theorem runI_lt {b : List Nat} (hb : okB b) {l : List Ins} (hl : okL l) (hf : Formed l) : (runI b l).1 < 4294967296 := (runV_ok hb hl hf l.length rn0 hf.pos rn0_ok).2

/-- The pruned one does the same. -/
structure Sim (l : List Ins) (s t : Rn) : Prop where
  at' : t.at' = cnt l s.at'
  a : t.a = s.a
  x : t.x = s.x
  cells : t.cells = s.cells
  steps : t.steps = s.steps
  loads : t.loads = s.loads
end Go.Proofs.W

namespace Go.Proofs.W
open Go.Vl
set_option maxRecDepth 100000

/-- 64 bytes, as an array. -/
def b64A (b : List Nat) : AV := .ag (b.map fun k : Nat => u8 k)
end Go.Proofs.W

namespace Go.Proofs.W
open Go.Vl
set_option maxRecDepth 100000

def aloneC : List Nat := [32, 0, 96, 128, 1, 97, 129, 2, 3, 7, 135, 132, 5, 6, 22]
def bothC : List Nat := [4, 20, 36, 52, 68, 84, 100, 116, 164, 21, 37, 53, 69]
theorem build15 : abuildCells Try.prog 33 15 [(0, int 32), (1, int 0), (2, int 96), (3, int 128), (4, int 1), (5, int 97), (6, int 129), (7, int 2), (8, int 3), (9, int 7), (10, int 135), (11, int 132), (12, int 5), (13, int 6), (14, int 22)] = some (3, [int 32, int 0, int 96, int 128, int 1, int 97, int 129, int 2, int 3, int 7, int 135, int 132, int 5, int 6, int 22]) := by kernel_rfl
theorem build13 : abuildCells Try.prog 33 13 [(0, int 4), (1, int 20), (2, int 36), (3, int 52), (4, int 68), (5, int 84), (6, int 100), (7, int 116), (8, int 164), (9, int 21), (10, int 37), (11, int 53), (12, int 69)] = some (3, [int 4, int 20, int 36, int 52, int 68, int 84, int 100, int 116, int 164, int 21, int 37, int 53, int 69]) := by kernel_rfl
theorem findIdx_some {l : List Nat} {p : Nat → Bool} {i : Nat} (hi : i < l.length) (h : p (l.getD i 0) = true) (hb : ∀ j, j < i → p (l.getD j 0) = false) : l.findIdx? p = some i := by
  rw [List.findIdx?_eq_some_iff_getElem]
  refine ⟨hi, ?_, fun j hj => ?_⟩
  · simpa [List.getD, hi] using h
  · have := hb j hj
    simpa [List.getD, show j < l.length by omega] using this
theorem findIdx_none {l : List Nat} {p : Nat → Bool} (hb : ∀ j, j < l.length → p (l.getD j 0) = false) : l.findIdx? p = none := by
  rw [List.findIdx?_eq_none_iff]
  intro x hx
  obtain ⟨j, hj, rfl⟩ := List.getElem_of_mem hx
  have := hb j hj
  simpa [List.getD, hj] using this
theorem refOf_alone {c i : Nat} (hi : i < 15) (h : c = aloneC.getD i 0) (hb : ∀ j, j < i → (c == aloneC.getD j 0) = false) : refOf c = (i + 1, false) := by
  have e : aloneC.findIdx? (fun a => c == a) = some i := findIdx_some hi (by rw [h]; simp) hb
  show (match aloneC.findIdx? (fun a => c == a) with | some i => (i + 1, false) | none => _) = _
  rw [e]
theorem refOf_not {c : Nat} (hb : ∀ j, j < 15 → (c == aloneC.getD j 0) = false) : refOf c = match bothC.findIdx? (fun a => c == a || c == a + 8) with | some i => (i + 16, c != bothC.getD i 0) | none => (0, false) := by
  have e : aloneC.findIdx? (fun a => c == a) = none := findIdx_none hb
  show (match aloneC.findIdx? (fun a => c == a) with | some i => (i + 1, false) | none => (match bothC.findIdx? (fun a => c == a || c == a + 8) with | some i => (i + 16, c != bothC.getD i 0) | none => (0, false))) = _
  rw [e]
theorem both_lt : ∀ i, i < 13 → bothC.getD i 0 < 200 := by decide
theorem refof_spec (c : Nat) (hc : c < 65536) : Tells Try.prog 62 [u16 c] (.tup [int (kof c).1, boolA (kof c).2]) := by
  rw [← refOf_eq]
  have hw : IntKind.i64.wrap (c : Int) = (c : Int) := wrap_id (by omega) (by omega)
  refine tells_of_aw Try.func62 rfl rfl fun nx => ?_
  ((repeat ((conv=>whnf);first|refine ω0 ?_|refine ω2 ?_|refine ω3 ?_|refine ω4 rfl ?_|refine ω5 rfl ?_|refine ω6 ?_|refine ω7 ?_|refine ω8 ?_|refine ⟨rfl,?_⟩|refine ⟨trivial,?_⟩|refine ⟨⟨rfl,Nat.le_of_ble_eq_true rfl⟩,?_⟩|refine ⟨⟨by kernel_rfl,by kernel_rfl⟩,?_⟩|refine ⟨by decide,?_⟩|refine lit_true ?_|refine lit_false ?_)); refine aw_region ?_; (repeat ((conv=>whnf);first|refine ω0 ?_|refine ω2 ?_|refine ω3 ?_|refine ω4 rfl ?_|refine ω5 rfl ?_|refine ω6 ?_|refine ω7 ?_|refine ω8 ?_|refine ⟨rfl,?_⟩|refine ⟨trivial,?_⟩|refine ⟨⟨rfl,Nat.le_of_ble_eq_true rfl⟩,?_⟩|refine ⟨⟨by kernel_rfl,by kernel_rfl⟩,?_⟩|refine ⟨by decide,?_⟩|refine lit_true ?_|refine lit_false ?_)))
  refine aw_regionY (fun n => match n with | 0 => true | _ => false) 1 ?_
  refine aop_build rfl build15 ?_
  (repeat ((conv=>whnf);first|refine ω0 ?_|refine ω1 ?_|refine ω2 ?_|refine ω3 ?_|refine ω4 rfl ?_|refine ω5 rfl ?_|refine ω6 ?_|refine ω7 ?_|refine ω8 ?_|refine ⟨rfl,?_⟩|refine ⟨trivial,?_⟩|refine ⟨⟨rfl,Nat.le_of_ble_eq_true rfl⟩,?_⟩|refine ⟨⟨by kernel_rfl,by kernel_rfl⟩,?_⟩|refine ⟨by decide,?_⟩|refine lit_true ?_|refine lit_false ?_))
  refine aw_loop (fun y : Nat × Nat => mk 50 [(0, u16 c), (4, .os 1 15 (fun k => int (aloneC.getD k 0 : Nat)) none), (5, int y.1)] ⟨[], [], y.2, 0⟩) (fun y => y.1 ≤ 15 ∧ ∀ j, j < y.1 → (c == aloneC.getD j 0) = false) (fun y => 15 - y.1) ?_ ?_
  · exact ⟨(0, nx), ⟨Nat.zero_le _, fun j h => absurd h (Nat.not_lt_zero _)⟩, ele_keep rfl rfl (List.nil_sublist _) (List.nil_sublist _) ⟨AVle.refl _, AVle.os_fun (allK_use ⟨⟨⟨⟨⟨⟨⟨⟨⟨⟨⟨⟨⟨⟨⟨trivial, rfl⟩, rfl⟩, rfl⟩, rfl⟩, rfl⟩, rfl⟩, rfl⟩, rfl⟩, rfl⟩, rfl⟩, rfl⟩, rfl⟩, rfl⟩, rfl⟩, rfl⟩), AVle.refl _, trivial⟩⟩
  · rintro ⟨i, nx1⟩ ⟨h1, h2⟩
    dsimp only at h1 h2
    (repeat ((conv=>whnf);first|refine ω0 ?_|refine ω1 ?_|refine ω2 ?_|refine ω3 ?_|refine ω4 rfl ?_|refine ω5 rfl ?_|refine ω6 ?_|refine ω7 ?_|refine ω8 ?_|refine ⟨rfl,?_⟩|refine ⟨trivial,?_⟩|refine ⟨⟨rfl,Nat.le_of_ble_eq_true rfl⟩,?_⟩|refine ⟨⟨by kernel_rfl,by kernel_rfl⟩,?_⟩|refine ⟨by decide,?_⟩|refine lit_true ?_|refine lit_false ?_))
    intro c g; cases c
    · have g := not_of g
      dsimp only at g
      obtain rfl : i = 15 := by omega
      have hr := refOf_not h2
      ((repeat ((conv=>whnf);first|refine ω0 ?_|refine ω2 ?_|refine ω3 ?_|refine ω4 rfl ?_|refine ω5 rfl ?_|refine ω6 ?_|refine ω7 ?_|refine ω8 ?_|refine ⟨rfl,?_⟩|refine ⟨trivial,?_⟩|refine ⟨⟨rfl,Nat.le_of_ble_eq_true rfl⟩,?_⟩|refine ⟨⟨by kernel_rfl,by kernel_rfl⟩,?_⟩|refine ⟨by decide,?_⟩|refine lit_true ?_|refine lit_false ?_)))
      refine aw_regionY (fun n => match n with | 0 => true | _ => false) 1 ?_
      refine aop_build rfl build13 ?_
      (repeat ((conv=>whnf);first|refine ω0 ?_|refine ω1 ?_|refine ω2 ?_|refine ω3 ?_|refine ω4 rfl ?_|refine ω5 rfl ?_|refine ω6 ?_|refine ω7 ?_|refine ω8 ?_|refine ⟨rfl,?_⟩|refine ⟨trivial,?_⟩|refine ⟨⟨rfl,Nat.le_of_ble_eq_true rfl⟩,?_⟩|refine ⟨⟨by kernel_rfl,by kernel_rfl⟩,?_⟩|refine ⟨by decide,?_⟩|refine lit_true ?_|refine lit_false ?_))
      refine aw_loop (fun y : Nat × Nat => mk 50 [(0, u16 c), (6, .os 1 13 (fun k => int (bothC.getD k 0 : Nat)) none), (7, int y.1)] ⟨[], [], y.2, 0⟩) (fun y => y.1 ≤ 13 ∧ ∀ j, j < y.1 → (c == bothC.getD j 0 || c == bothC.getD j 0 + 8) = false) (fun y => 13 - y.1) ?_ ?_
      · exact ⟨(0, nx1), ⟨Nat.zero_le _, fun j h => absurd h (Nat.not_lt_zero _)⟩, ele_keep rfl rfl (List.nil_sublist _) (List.nil_sublist _) ⟨AVle.refl _, AVle.os_fun (allK_use ⟨⟨⟨⟨⟨⟨⟨⟨⟨⟨⟨⟨⟨trivial, rfl⟩, rfl⟩, rfl⟩, rfl⟩, rfl⟩, rfl⟩, rfl⟩, rfl⟩, rfl⟩, rfl⟩, rfl⟩, rfl⟩, rfl⟩), AVle.refl _, trivial⟩⟩
      · rintro ⟨i, nx2⟩ ⟨k1, k2⟩
        dsimp only at k1 k2
        (repeat ((conv=>whnf);first|refine ω0 ?_|refine ω1 ?_|refine ω2 ?_|refine ω3 ?_|refine ω4 rfl ?_|refine ω5 rfl ?_|refine ω6 ?_|refine ω7 ?_|refine ω8 ?_|refine ⟨rfl,?_⟩|refine ⟨trivial,?_⟩|refine ⟨⟨rfl,Nat.le_of_ble_eq_true rfl⟩,?_⟩|refine ⟨⟨by kernel_rfl,by kernel_rfl⟩,?_⟩|refine ⟨by decide,?_⟩|refine lit_true ?_|refine lit_false ?_))
        intro c g3; cases c
        · have g3 := not_of g3
          dsimp only at g3
          obtain rfl : i = 13 := by omega
          have hn : bothC.findIdx? (fun a => c == a || c == a + 8) = none := findIdx_none k2
          rw [hn] at hr
          rw [hr]
          (repeat ((conv=>whnf);first|refine ω0 ?_|refine ω1 ?_|refine ω2 ?_|refine ω3 ?_|refine ω4 rfl ?_|refine ω5 rfl ?_|refine ω6 ?_|refine ω7 ?_|refine ω8 ?_|refine ⟨rfl,?_⟩|refine ⟨trivial,?_⟩|refine ⟨⟨rfl,Nat.le_of_ble_eq_true rfl⟩,?_⟩|refine ⟨⟨by kernel_rfl,by kernel_rfl⟩,?_⟩|refine ⟨by decide,?_⟩|refine lit_true ?_|refine lit_false ?_))
          exact ret_tells rfl (AVle.tups (cs := [_, _]) ⟨AVle.refl _, AVle.refl _, trivial⟩)
        · have g3 := yes_of g3
          dsimp only at g3
          have hi : i < 13 := by omega
          have hlt := both_lt i hi
          have hsucc : ∀ v, bothC.getD i 0 = v → c ≠ v → c ≠ v + 8 → ∀ j, j < i + 1 → (c == bothC.getD j 0 || c == bothC.getD j 0 + 8) = false := fun v hv e1 e2 j hj => by
            rcases Nat.lt_or_ge j i with h | h
            · exact k2 j h
            · obtain rfl : j = i := by omega
              rw [hv]; simp [e1, e2]
          have hfound : ∀ v, bothC.getD i 0 = v → (c = v ∨ c = v + 8) → refOf c = (i + 16, c != v) := fun v hv e => by
            have hn : bothC.findIdx? (fun a => c == a || c == a + 8) = some i := findIdx_some hi (by rw [hv]; rcases e with e | e <;> simp [e]) k2
            rw [hn] at hr
            rw [hr]; dsimp only; rw [hv]
          generalize hv : bothC.getD i 0 = v at hlt
          have hsucc := hsucc v hv
          have hfound := hfound v hv
          have hw8 : IntKind.i64.wrap ((v : Int) + 8) = ((v + 8 : Nat) : Int) := wrap_id (by omega) (by omega)
          (repeat ((conv=>whnf);first|refine ω0 ?_|refine ω1 ?_|refine ω2 ?_|refine ω3 ?_|refine ω4 rfl ?_|refine ω5 rfl ?_|refine ω6 ?_|refine ω7 ?_|refine ω8 ?_|refine ⟨rfl,?_⟩|refine ⟨trivial,?_⟩|refine ⟨⟨rfl,Nat.le_of_ble_eq_true rfl⟩,?_⟩|refine ⟨⟨by kernel_rfl,by kernel_rfl⟩,?_⟩|refine ⟨by decide,?_⟩|refine lit_true ?_|refine lit_false ?_))
          refine ⟨⟨by first | omega | (dsimp only; omega), by first | omega | (dsimp only; omega)⟩, ?_⟩
          (repeat ((conv=>whnf);first|refine ω0 ?_|refine ω1 ?_|refine ω2 ?_|refine ω3 ?_|refine ω4 rfl ?_|refine ω5 rfl ?_|refine ω6 ?_|refine ω7 ?_|refine ω8 ?_|refine ⟨rfl,?_⟩|refine ⟨trivial,?_⟩|refine ⟨⟨rfl,Nat.le_of_ble_eq_true rfl⟩,?_⟩|refine ⟨⟨by kernel_rfl,by kernel_rfl⟩,?_⟩|refine ⟨by decide,?_⟩|refine lit_true ?_|refine lit_false ?_))
          intro c q1; cases c
          · have q1 : c ≠ v := by
              have q1 := fct_b0.1 q1
              intro h
              apply q1
              rw [hw]
              show ((c : Nat) : Int) = ((bothC.getD i 0 : Nat) : Int)
              rw [hv, h]
            (repeat ((conv=>whnf);first|refine ω0 ?_|refine ω1 ?_|refine ω2 ?_|refine ω3 ?_|refine ω4 rfl ?_|refine ω5 rfl ?_|refine ω6 ?_|refine ω7 ?_|refine ω8 ?_|refine ⟨rfl,?_⟩|refine ⟨trivial,?_⟩|refine ⟨⟨rfl,Nat.le_of_ble_eq_true rfl⟩,?_⟩|refine ⟨⟨by kernel_rfl,by kernel_rfl⟩,?_⟩|refine ⟨by decide,?_⟩|refine lit_true ?_|refine lit_false ?_))
            refine ⟨⟨by first | omega | (dsimp only; omega), by first | omega | (dsimp only; omega)⟩, ?_⟩
            (repeat ((conv=>whnf);first|refine ω0 ?_|refine ω1 ?_|refine ω2 ?_|refine ω3 ?_|refine ω4 rfl ?_|refine ω5 rfl ?_|refine ω6 ?_|refine ω7 ?_|refine ω8 ?_|refine ⟨rfl,?_⟩|refine ⟨trivial,?_⟩|refine ⟨⟨rfl,Nat.le_of_ble_eq_true rfl⟩,?_⟩|refine ⟨⟨by kernel_rfl,by kernel_rfl⟩,?_⟩|refine ⟨by decide,?_⟩|refine lit_true ?_|refine lit_false ?_))
            intro c q2; cases c
            · have q2 : c ≠ v + 8 := by
                have q2 := fct_b0.1 q2
                intro h
                apply q2
                rw [hw]
                show ((c : Nat) : Int) = IntKind.i64.wrap (((bothC.getD i 0 : Nat) : Int) + 8)
                rw [hv, hw8, h]
              (repeat ((conv=>whnf);first|refine ω0 ?_|refine ω1 ?_|refine ω2 ?_|refine ω3 ?_|refine ω4 rfl ?_|refine ω5 rfl ?_|refine ω6 ?_|refine ω7 ?_|refine ω8 ?_|refine ⟨rfl,?_⟩|refine ⟨trivial,?_⟩|refine ⟨⟨rfl,Nat.le_of_ble_eq_true rfl⟩,?_⟩|refine ⟨⟨by kernel_rfl,by kernel_rfl⟩,?_⟩|refine ⟨by decide,?_⟩|refine lit_true ?_|refine lit_false ?_))
              exact back (i + 1, _) ⟨(by first | omega | (dsimp only at *; omega) | (simp; done) | (simp; omega)), hsucc q1 q2⟩ (by first | omega | (dsimp only at *; omega) | (simp; done) | (simp; omega)) (ele_keep rfl rfl (List.nil_sublist _) (List.nil_sublist _) ⟨AVle.refl _, AVle.refl _, le_int (wrap_succ (by first | omega | (dsimp only at *; omega) | (simp; done) | (simp; omega))), trivial⟩)
            · have q2 : c = v + 8 := by
                have q2 := fct_b1.1 q2
                rw [hw] at q2
                have q3 : ((c : Nat) : Int) = IntKind.i64.wrap (((bothC.getD i 0 : Nat) : Int) + 8) := q2
                rw [hv, hw8] at q3
                omega
              rw [hfound (.inr q2)]
              (repeat ((conv=>whnf);first|refine ω0 ?_|refine ω1 ?_|refine ω2 ?_|refine ω3 ?_|refine ω4 rfl ?_|refine ω5 rfl ?_|refine ω6 ?_|refine ω7 ?_|refine ω8 ?_|refine ⟨rfl,?_⟩|refine ⟨trivial,?_⟩|refine ⟨⟨rfl,Nat.le_of_ble_eq_true rfl⟩,?_⟩|refine ⟨⟨by kernel_rfl,by kernel_rfl⟩,?_⟩|refine ⟨by decide,?_⟩|refine lit_true ?_|refine lit_false ?_))
              refine ret_tells rfl (AVle.tups (cs := [_, _]) ⟨le_int (wrap_id (by first | omega | (dsimp only at *; omega) | (simp; done) | (simp; omega)) (by first | omega | (dsimp only at *; omega) | (simp; done) | (simp; omega))), le_bool ?_, trivial⟩)
              rw [q2]; simp
          · have q1 : c = v := by
              have q1 := fct_b1.1 q1
              rw [hw] at q1
              have q3 : ((c : Nat) : Int) = ((bothC.getD i 0 : Nat) : Int) := q1
              rw [hv] at q3
              omega
            rw [hfound (.inl q1)]
            (repeat ((conv=>whnf);first|refine ω0 ?_|refine ω1 ?_|refine ω2 ?_|refine ω3 ?_|refine ω4 rfl ?_|refine ω5 rfl ?_|refine ω6 ?_|refine ω7 ?_|refine ω8 ?_|refine ⟨rfl,?_⟩|refine ⟨trivial,?_⟩|refine ⟨⟨rfl,Nat.le_of_ble_eq_true rfl⟩,?_⟩|refine ⟨⟨by kernel_rfl,by kernel_rfl⟩,?_⟩|refine ⟨by decide,?_⟩|refine lit_true ?_|refine lit_false ?_))
            refine ret_tells rfl (AVle.tups (cs := [_, _]) ⟨le_int (wrap_id (by first | omega | (dsimp only at *; omega) | (simp; done) | (simp; omega)) (by first | omega | (dsimp only at *; omega) | (simp; done) | (simp; omega))), le_bool ?_, trivial⟩)
            rw [q1]; simp
    · have g := yes_of g
      dsimp only at g
      have hi : i < 15 := by omega
      (repeat ((conv=>whnf);first|refine ω0 ?_|refine ω1 ?_|refine ω2 ?_|refine ω3 ?_|refine ω4 rfl ?_|refine ω5 rfl ?_|refine ω6 ?_|refine ω7 ?_|refine ω8 ?_|refine ⟨rfl,?_⟩|refine ⟨trivial,?_⟩|refine ⟨⟨rfl,Nat.le_of_ble_eq_true rfl⟩,?_⟩|refine ⟨⟨by kernel_rfl,by kernel_rfl⟩,?_⟩|refine ⟨by decide,?_⟩|refine lit_true ?_|refine lit_false ?_))
      refine ⟨⟨by first | omega | (dsimp only; omega), by first | omega | (dsimp only; omega)⟩, ?_⟩
      (repeat ((conv=>whnf);first|refine ω0 ?_|refine ω1 ?_|refine ω2 ?_|refine ω3 ?_|refine ω4 rfl ?_|refine ω5 rfl ?_|refine ω6 ?_|refine ω7 ?_|refine ω8 ?_|refine ⟨rfl,?_⟩|refine ⟨trivial,?_⟩|refine ⟨⟨rfl,Nat.le_of_ble_eq_true rfl⟩,?_⟩|refine ⟨⟨by kernel_rfl,by kernel_rfl⟩,?_⟩|refine ⟨by decide,?_⟩|refine lit_true ?_|refine lit_false ?_))
      intro c q1; cases c
      · have q1 : (c == aloneC.getD i 0) = false := by
          have q1 := fct_b0.1 q1
          rw [hw] at q1
          have q3 : ((c : Nat) : Int) ≠ ((aloneC.getD i 0 : Nat) : Int) := q1
          simp only [beq_eq_false_iff_ne]
          omega
        (repeat ((conv=>whnf);first|refine ω0 ?_|refine ω1 ?_|refine ω2 ?_|refine ω3 ?_|refine ω4 rfl ?_|refine ω5 rfl ?_|refine ω6 ?_|refine ω7 ?_|refine ω8 ?_|refine ⟨rfl,?_⟩|refine ⟨trivial,?_⟩|refine ⟨⟨rfl,Nat.le_of_ble_eq_true rfl⟩,?_⟩|refine ⟨⟨by kernel_rfl,by kernel_rfl⟩,?_⟩|refine ⟨by decide,?_⟩|refine lit_true ?_|refine lit_false ?_))
        refine back (i + 1, _) ⟨(by first | omega | (dsimp only at *; omega) | (simp; done) | (simp; omega)), fun j hj => ?_⟩ (by first | omega | (dsimp only at *; omega) | (simp; done) | (simp; omega)) (ele_keep rfl rfl (List.nil_sublist _) (List.nil_sublist _) ⟨AVle.refl _, AVle.refl _, le_int (wrap_succ (by first | omega | (dsimp only at *; omega) | (simp; done) | (simp; omega))), trivial⟩)
        rcases Nat.lt_or_ge j i with h | h
        · exact h2 j h
        · obtain rfl : j = i := by omega
          exact q1
      · have q1 : c = aloneC.getD i 0 := by
          have q1 := fct_b1.1 q1
          rw [hw] at q1
          have q3 : ((c : Nat) : Int) = ((aloneC.getD i 0 : Nat) : Int) := q1
          omega
        rw [refOf_alone hi q1 h2]
        (repeat ((conv=>whnf);first|refine ω0 ?_|refine ω1 ?_|refine ω2 ?_|refine ω3 ?_|refine ω4 rfl ?_|refine ω5 rfl ?_|refine ω6 ?_|refine ω7 ?_|refine ω8 ?_|refine ⟨rfl,?_⟩|refine ⟨trivial,?_⟩|refine ⟨⟨rfl,Nat.le_of_ble_eq_true rfl⟩,?_⟩|refine ⟨⟨by kernel_rfl,by kernel_rfl⟩,?_⟩|refine ⟨by decide,?_⟩|refine lit_true ?_|refine lit_false ?_))
        exact ret_tells rfl (AVle.tups (cs := [_, _]) ⟨le_int (wrap_succ (by first | omega | (dsimp only at *; omega) | (simp; done) | (simp; omega))), AVle.refl _, trivial⟩)
theorem nextR_spec (l : List Ins) (hok : okL l) (hf : Formed l) (n : Nat) (hn : n < l.length) : Tells Try.prog 63 [inss l, int n] (ints (nextsI l n)) := by
  have hle := hf.le
  have hki : (l.getD n ins0).ok := hok.get hn
  have hnx := nexts_lt hf hn
  have hof := refof_spec (l.getD n ins0).code hki.1
  unfold nextsI at hnx ⊢
  unfold kind at hnx ⊢
  generalize hK : (kof (l.getD n ins0).code).1 = K at hof hnx
  generalize (kof (l.getD n ins0).code).2 = x at hof
  refine tells_of_aw Try.func63 rfl rfl fun nx => ?_
  (repeat ((conv=>whnf);first|refine ω0 ?_|refine ω1 ?_|refine ω2 ?_|refine ω3 ?_|refine ω4 rfl ?_|refine ω5 rfl ?_|refine ω6 ?_|refine ω7 ?_|refine ω8 ?_|refine ⟨rfl,?_⟩|refine ⟨trivial,?_⟩|refine ⟨⟨rfl,Nat.le_of_ble_eq_true rfl⟩,?_⟩|refine ⟨⟨by kernel_rfl,by kernel_rfl⟩,?_⟩|refine ⟨by decide,?_⟩|refine lit_true ?_|refine lit_false ?_))
  refine ⟨⟨by first | omega | (dsimp only; omega), by first | omega | (dsimp only; omega)⟩, ?_⟩
  (repeat ((conv=>whnf);first|refine ω0 ?_|refine ω1 ?_|refine ω2 ?_|refine ω3 ?_|refine ω4 rfl ?_|refine ω5 rfl ?_|refine ω6 ?_|refine ω7 ?_|refine ω8 ?_|refine ⟨rfl,?_⟩|refine ⟨trivial,?_⟩|refine ⟨⟨rfl,Nat.le_of_ble_eq_true rfl⟩,?_⟩|refine ⟨⟨by kernel_rfl,by kernel_rfl⟩,?_⟩|refine ⟨by decide,?_⟩|refine lit_true ?_|refine lit_false ?_))
  refine aop_tells rfl rfl hof ⟨AVle.refl _, trivial⟩ fun nx3 => ?_
  (repeat ((conv=>whnf);first|refine ω0 ?_|refine ω1 ?_|refine ω2 ?_|refine ω3 ?_|refine ω4 rfl ?_|refine ω5 rfl ?_|refine ω6 ?_|refine ω7 ?_|refine ω8 ?_|refine ⟨rfl,?_⟩|refine ⟨trivial,?_⟩|refine ⟨⟨rfl,Nat.le_of_ble_eq_true rfl⟩,?_⟩|refine ⟨⟨by kernel_rfl,by kernel_rfl⟩,?_⟩|refine ⟨by decide,?_⟩|refine lit_true ?_|refine lit_false ?_))
  intro cx hx
  (repeat ((conv=>whnf);first|refine ω0 ?_|refine ω1 ?_|refine ω2 ?_|refine ω3 ?_|refine ω4 rfl ?_|refine ω5 rfl ?_|refine ω6 ?_|refine ω7 ?_|refine ω8 ?_|refine ⟨rfl,?_⟩|refine ⟨trivial,?_⟩|refine ⟨⟨rfl,Nat.le_of_ble_eq_true rfl⟩,?_⟩|refine ⟨⟨by kernel_rfl,by kernel_rfl⟩,?_⟩|refine ⟨by decide,?_⟩|refine lit_true ?_|refine lit_false ?_))
  intro c a1; cases c
  · have a1 := fct_b0.1 a1
    (repeat ((conv=>whnf);first|refine ω0 ?_|refine ω1 ?_|refine ω2 ?_|refine ω3 ?_|refine ω4 rfl ?_|refine ω5 rfl ?_|refine ω6 ?_|refine ω7 ?_|refine ω8 ?_|refine ⟨rfl,?_⟩|refine ⟨trivial,?_⟩|refine ⟨⟨rfl,Nat.le_of_ble_eq_true rfl⟩,?_⟩|refine ⟨⟨by kernel_rfl,by kernel_rfl⟩,?_⟩|refine ⟨by decide,?_⟩|refine lit_true ?_|refine lit_false ?_))
    intro c a2; cases c
    · have a2 := fct_b0.1 a2
      rw [if_neg (by omega)] at hnx ⊢
      (repeat ((conv=>whnf);first|refine ω0 ?_|refine ω1 ?_|refine ω2 ?_|refine ω3 ?_|refine ω4 rfl ?_|refine ω5 rfl ?_|refine ω6 ?_|refine ω7 ?_|refine ω8 ?_|refine ⟨rfl,?_⟩|refine ⟨trivial,?_⟩|refine ⟨⟨rfl,Nat.le_of_ble_eq_true rfl⟩,?_⟩|refine ⟨⟨by kernel_rfl,by kernel_rfl⟩,?_⟩|refine ⟨by decide,?_⟩|refine lit_true ?_|refine lit_false ?_))
      intro c a3; cases c
      · have a3 := fct_b0.1 a3
        rw [if_neg (by omega)] at hnx ⊢
        (repeat ((conv=>whnf);first|refine ω0 ?_|refine ω1 ?_|refine ω2 ?_|refine ω3 ?_|refine ω4 rfl ?_|refine ω5 rfl ?_|refine ω6 ?_|refine ω7 ?_|refine ω8 ?_|refine ⟨rfl,?_⟩|refine ⟨trivial,?_⟩|refine ⟨⟨rfl,Nat.le_of_ble_eq_true rfl⟩,?_⟩|refine ⟨⟨by kernel_rfl,by kernel_rfl⟩,?_⟩|refine ⟨by decide,?_⟩|refine lit_true ?_|refine lit_false ?_))
        intro c a4; cases c
        · have a4 := not_of a4
          rw [if_neg (by omega)]
          (repeat ((conv=>whnf);first|refine ω0 ?_|refine ω1 ?_|refine ω2 ?_|refine ω3 ?_|refine ω4 rfl ?_|refine ω5 rfl ?_|refine ω6 ?_|refine ω7 ?_|refine ω8 ?_|refine ⟨rfl,?_⟩|refine ⟨trivial,?_⟩|refine ⟨⟨rfl,Nat.le_of_ble_eq_true rfl⟩,?_⟩|refine ⟨⟨by kernel_rfl,by kernel_rfl⟩,?_⟩|refine ⟨by decide,?_⟩|refine lit_true ?_|refine lit_false ?_))
          refine ret_tells rfl ?_
          exact le_ints1 rfl (wrap_succ (by omega))
        · have a4 := yes_of a4
          rw [if_pos (by omega)] at hnx ⊢
          have h1 := hnx (n + 1 + (l.getD n ins0).jt) (by simp)
          have h2 := hnx (n + 1 + (l.getD n ins0).jf) (by simp)
          (repeat ((conv=>whnf);first|refine ω0 ?_|refine ω1 ?_|refine ω2 ?_|refine ω3 ?_|refine ω4 rfl ?_|refine ω5 rfl ?_|refine ω6 ?_|refine ω7 ?_|refine ω8 ?_|refine ⟨rfl,?_⟩|refine ⟨trivial,?_⟩|refine ⟨⟨rfl,Nat.le_of_ble_eq_true rfl⟩,?_⟩|refine ⟨⟨by kernel_rfl,by kernel_rfl⟩,?_⟩|refine ⟨by decide,?_⟩|refine lit_true ?_|refine lit_false ?_))
          (refine aw_draw 20 ?_ ?_ ?_ ?_; (· kernel_rfl); (· kernel_rfl); (· kernel_rfl))
          (repeat ((conv=>whnf);first|refine ω0 ?_|refine ω1 ?_|refine ω2 ?_|refine ω3 ?_|refine ω4 rfl ?_|refine ω5 rfl ?_|refine ω6 ?_|refine ω7 ?_|refine ω8 ?_|refine ⟨rfl,?_⟩|refine ⟨trivial,?_⟩|refine ⟨⟨rfl,Nat.le_of_ble_eq_true rfl⟩,?_⟩|refine ⟨⟨by kernel_rfl,by kernel_rfl⟩,?_⟩|refine ⟨by decide,?_⟩|refine lit_true ?_|refine lit_false ?_))
          refine ⟨⟨by first | omega | (dsimp only; omega), by first | omega | (dsimp only; omega)⟩, ?_⟩
          (repeat ((conv=>whnf);first|refine ω0 ?_|refine ω1 ?_|refine ω2 ?_|refine ω3 ?_|refine ω4 rfl ?_|refine ω5 rfl ?_|refine ω6 ?_|refine ω7 ?_|refine ω8 ?_|refine ⟨rfl,?_⟩|refine ⟨trivial,?_⟩|refine ⟨⟨rfl,Nat.le_of_ble_eq_true rfl⟩,?_⟩|refine ⟨⟨by kernel_rfl,by kernel_rfl⟩,?_⟩|refine ⟨by decide,?_⟩|refine lit_true ?_|refine lit_false ?_))
          refine ⟨⟨by first | omega | (dsimp only; omega), by first | omega | (dsimp only; omega)⟩, ?_⟩
          (repeat ((conv=>whnf);first|refine ω0 ?_|refine ω1 ?_|refine ω2 ?_|refine ω3 ?_|refine ω4 rfl ?_|refine ω5 rfl ?_|refine ω6 ?_|refine ω7 ?_|refine ω8 ?_|refine ⟨rfl,?_⟩|refine ⟨trivial,?_⟩|refine ⟨⟨rfl,Nat.le_of_ble_eq_true rfl⟩,?_⟩|refine ⟨⟨by kernel_rfl,by kernel_rfl⟩,?_⟩|refine ⟨by decide,?_⟩|refine lit_true ?_|refine lit_false ?_))
          refine ret_tells rfl ?_
          exact le_ints2 rfl (wrap_two (n := n) (k := (l.getD n ins0).jt) (by omega)) rfl (wrap_two (n := n) (k := (l.getD n ins0).jf) (by omega))
      · have a3 := fct_b1.1 a3
        rw [if_pos (by omega)] at hnx ⊢
        have h1 := hnx (n + 1 + (l.getD n ins0).k) (by simp)
        (repeat ((conv=>whnf);first|refine ω0 ?_|refine ω1 ?_|refine ω2 ?_|refine ω3 ?_|refine ω4 rfl ?_|refine ω5 rfl ?_|refine ω6 ?_|refine ω7 ?_|refine ω8 ?_|refine ⟨rfl,?_⟩|refine ⟨trivial,?_⟩|refine ⟨⟨rfl,Nat.le_of_ble_eq_true rfl⟩,?_⟩|refine ⟨⟨by kernel_rfl,by kernel_rfl⟩,?_⟩|refine ⟨by decide,?_⟩|refine lit_true ?_|refine lit_false ?_))
        refine ⟨⟨by first | omega | (dsimp only; omega), by first | omega | (dsimp only; omega)⟩, ?_⟩
        (repeat ((conv=>whnf);first|refine ω0 ?_|refine ω1 ?_|refine ω2 ?_|refine ω3 ?_|refine ω4 rfl ?_|refine ω5 rfl ?_|refine ω6 ?_|refine ω7 ?_|refine ω8 ?_|refine ⟨rfl,?_⟩|refine ⟨trivial,?_⟩|refine ⟨⟨rfl,Nat.le_of_ble_eq_true rfl⟩,?_⟩|refine ⟨⟨by kernel_rfl,by kernel_rfl⟩,?_⟩|refine ⟨by decide,?_⟩|refine lit_true ?_|refine lit_false ?_))
        refine ret_tells rfl ?_
        exact le_ints1 rfl (wrap_two (n := n) (k := (l.getD n ins0).k) (by omega))
    · have a2 := fct_b1.1 a2
      rw [if_pos (by omega)]
      (repeat ((conv=>whnf);first|refine ω0 ?_|refine ω1 ?_|refine ω2 ?_|refine ω3 ?_|refine ω4 rfl ?_|refine ω5 rfl ?_|refine ω6 ?_|refine ω7 ?_|refine ω8 ?_|refine ⟨rfl,?_⟩|refine ⟨trivial,?_⟩|refine ⟨⟨rfl,Nat.le_of_ble_eq_true rfl⟩,?_⟩|refine ⟨⟨by kernel_rfl,by kernel_rfl⟩,?_⟩|refine ⟨by decide,?_⟩|refine lit_true ?_|refine lit_false ?_))
      refine ret_tells rfl ?_
      exact AVle.os_sl0
  · have a1 := fct_b1.1 a1
    rw [if_pos (by omega)]
    (repeat ((conv=>whnf);first|refine ω0 ?_|refine ω1 ?_|refine ω2 ?_|refine ω3 ?_|refine ω4 rfl ?_|refine ω5 rfl ?_|refine ω6 ?_|refine ω7 ?_|refine ω8 ?_|refine ⟨rfl,?_⟩|refine ⟨trivial,?_⟩|refine ⟨⟨rfl,Nat.le_of_ble_eq_true rfl⟩,?_⟩|refine ⟨⟨by kernel_rfl,by kernel_rfl⟩,?_⟩|refine ⟨by decide,?_⟩|refine lit_true ?_|refine lit_false ?_))
    refine ret_tells rfl ?_
    exact AVle.os_sl0
end Go.Proofs.W

namespace Go.Proofs.W
open Go.Vl
set_option maxRecDepth 100000

set_option maxHeartbeats 4000000 in
theorem aloneR_spec (i : Ins) (hi : i.ok) (r : Nat) : Tells Try.prog 107 [insA i, int r] (int (wrongI i r)) := by
  have hof := refof_spec i.code hi.1
  have hle := kof_le i.code
  have w1 : IntKind.i64.wrap (i.k : Int) = i.k := wrap_id (by have := hi.2.2.2; omega) (by have := hi.2.2.2; omega)
  have w2 : IntKind.i64.wrap (i.jt : Int) = i.jt := wrap_id (by have := hi.2.1; omega) (by have := hi.2.1; omega)
  have w3 : IntKind.i64.wrap (i.jf : Int) = i.jf := wrap_id (by have := hi.2.2.1; omega) (by have := hi.2.2.1; omega)
  unfold wrongI
  generalize kof i.code = kk at hof hle
  obtain ⟨k, x⟩ := kk
  dsimp only at hle hof ⊢
  revert hof
  refine allK_use (n := 29) (p := fun k => Tells Try.prog 62 [u16 i.code] (.tup [int k, boolA x]) → Tells Try.prog 107 [insA i, int r] (int ((if k = 0 then 5 else if k = 1 ∧ (i.k % 4 ≠ 0 ∨ 64 ≤ i.k) then 6 else if (k = 3 ∨ k = 6 ∨ k = 8 ∨ k = 9) ∧ 16 ≤ i.k then 7 else if x = false ∧ k = 19 ∧ i.k = 0 then 8 else if x = false ∧ (k = 22 ∨ k = 23) ∧ 31 < i.k then 9 else if (k = 13 ∧ r ≤ i.k) ∨ (25 ≤ k ∧ (r ≤ i.jt ∨ r ≤ i.jf)) then 10 else 0 : Nat)))) ?_ k (by omega)
  repeat (first | exact trivial | refine And.intro ?_ ?_)
  all_goals
    intro hof
    cases x
  all_goals
    refine tells_of_aw Try.func107 rfl rfl fun nx => ?_
    (repeat ((conv=>whnf);first|refine ω0 ?_|refine ω1 ?_|refine ω2 ?_|refine ω3 ?_|refine ω4 rfl ?_|refine ω5 rfl ?_|refine ω6 ?_|refine ω7 ?_|refine ω8 ?_|refine ⟨rfl,?_⟩|refine ⟨trivial,?_⟩|refine ⟨⟨rfl,Nat.le_of_ble_eq_true rfl⟩,?_⟩|refine ⟨⟨by kernel_rfl,by kernel_rfl⟩,?_⟩|refine ⟨by decide,?_⟩|refine lit_true ?_|refine lit_false ?_))
    refine aop_tells rfl rfl hof ⟨AVle.refl _, trivial⟩ fun nx3 => ?_
    (repeat' ((repeat ((conv=>whnf);first|refine ω0 ?_|refine ω1 ?_|refine ω2 ?_|refine ω3 ?_|refine ω4 rfl ?_|refine ω5 rfl ?_|refine ω6 ?_|refine ω7 ?_|refine ω8 ?_|refine ⟨rfl,?_⟩|refine ⟨trivial,?_⟩|refine ⟨⟨rfl,Nat.le_of_ble_eq_true rfl⟩,?_⟩|refine ⟨⟨by kernel_rfl,by kernel_rfl⟩,?_⟩|refine ⟨by decide,?_⟩|refine lit_true ?_|refine lit_false ?_)); intro c h; cases c))
    all_goals
      (repeat ((conv=>whnf);first|refine ω0 ?_|refine ω1 ?_|refine ω2 ?_|refine ω3 ?_|refine ω4 rfl ?_|refine ω5 rfl ?_|refine ω6 ?_|refine ω7 ?_|refine ω8 ?_|refine ⟨rfl,?_⟩|refine ⟨trivial,?_⟩|refine ⟨⟨rfl,Nat.le_of_ble_eq_true rfl⟩,?_⟩|refine ⟨⟨by kernel_rfl,by kernel_rfl⟩,?_⟩|refine ⟨by decide,?_⟩|refine lit_true ?_|refine lit_false ?_))
      refine ret_tells rfl (le_int ?_)
      (try rw [w1] at *)
      (try rw [w2] at *)
      (try rw [w3] at *)
      (try rw [show (i.k : Int).tmod 4 = ((i.k % 4 : Nat) : Int) from rfl] at *)
      (try simp only [fct_b0, fct_b1, fct_d0, fct_d1, fct_n0, fct_n1] at *)
      simp
      try ((repeat' split) <;> omega)
end Go.Proofs.W

namespace Go.Proofs.W
open Go.Vl

/-- A test, a path. -/
structure Tst where
  at' : Nat
  mask : Nat
  kind : Nat
  k : Nat
  is : Bool
structure Pth where
  tests : List Tst
  steps : Nat
  value : Nat
def asks (l : List Ins) (n : Nat) : Prop := kind l n = 21 ∨ 25 ≤ kind l n
instance (l : List Ins) (n : Nat) : Decidable (asks l n) := by unfold asks; infer_instance
/-- To which a way leads on which nothing was loaded (of the first n looked at). -/
def bareN (l : List Ins) : Nat → List Bool
  | 0 => setT (List.replicate l.length false) 0
  | n + 1 => if (bareN l n).getD n false = true ∧ kind l n = 13 then setT (bareN l n) (n + 1 + (l.getD n ins0).k) else bareN l n
def okP (l : List Ins) (n : Nat) : Prop := (asks l n ∨ kind l n = 1 ∨ kind l n = 13 ∨ kind l n = 14) ∧ (kof (l.getD n ins0).code).2 = false ∧ ¬ (asks l n ∧ (bareN l n).getD n false = true)
instance (l : List Ins) (n : Nat) : Decidable (okP l n) := by unfold okP; infer_instance
end Go.Proofs.W

namespace Go.Proofs.W
open Go.Vl
set_option maxRecDepth 100000

theorem ix1 {c i : Nat} (h : c = 1) : 0 + Int.toNat ((i : Nat) : Int) * c = i := by subst h; omega
end Go.Proofs.W

namespace Go.Proofs.W
open Go.Vl
set_option maxRecDepth 100000

theorem formedR_spec (l : List Ins) (hok : okL l) (hl : l.length ≤ 1000000000) : Tells Try.prog 60 [inss l] (.tup [int (formedI l).1, int (formedI l).2]) := by
  refine tells_of_aw Try.func60 rfl rfl fun nx => ?_
  (repeat ((conv=>whnf);first|refine ω0 ?_|refine ω1 ?_|refine ω2 ?_|refine ω3 ?_|refine ω4 rfl ?_|refine ω5 rfl ?_|refine ω6 ?_|refine ω7 ?_|refine ω8 ?_|refine ⟨rfl,?_⟩|refine ⟨trivial,?_⟩|refine ⟨⟨rfl,Nat.le_of_ble_eq_true rfl⟩,?_⟩|refine ⟨⟨by kernel_rfl,by kernel_rfl⟩,?_⟩|refine ⟨by decide,?_⟩|refine lit_true ?_|refine lit_false ?_))
  intro c g1; cases c
  · have h1 := fct_b0.1 g1
    (repeat ((conv=>whnf);first|refine ω0 ?_|refine ω1 ?_|refine ω2 ?_|refine ω3 ?_|refine ω4 rfl ?_|refine ω5 rfl ?_|refine ω6 ?_|refine ω7 ?_|refine ω8 ?_|refine ⟨rfl,?_⟩|refine ⟨trivial,?_⟩|refine ⟨⟨rfl,Nat.le_of_ble_eq_true rfl⟩,?_⟩|refine ⟨⟨by kernel_rfl,by kernel_rfl⟩,?_⟩|refine ⟨by decide,?_⟩|refine lit_true ?_|refine lit_false ?_))
    intro c g2; cases c
    · have h2 := not_of g2
      (repeat ((conv=>whnf);first|refine ω0 ?_|refine ω1 ?_|refine ω2 ?_|refine ω3 ?_|refine ω4 rfl ?_|refine ω5 rfl ?_|refine ω6 ?_|refine ω7 ?_|refine ω8 ?_|refine ⟨rfl,?_⟩|refine ⟨trivial,?_⟩|refine ⟨⟨rfl,Nat.le_of_ble_eq_true rfl⟩,?_⟩|refine ⟨⟨by kernel_rfl,by kernel_rfl⟩,?_⟩|refine ⟨by decide,?_⟩|refine lit_true ?_|refine lit_false ?_))
      refine aw_loop (fun s : Nat × Nat => mk 54 [(0, inss l), (4, int s.1)] ⟨[], [], s.2, 0⟩) (fun s => s.1 ≤ l.length ∧ ∀ j, j < s.1 → wrongI (l.getD j ins0) (l.length - 1 - j) = 0) (fun s => l.length - s.1) ?_ ?_
      · exact ⟨(0, nx), ⟨by omega, by intro j hj; omega⟩, ele_mk rfl rfl ⟨AVle.refl _, AVle.refl _, trivial⟩⟩
      · rintro ⟨i, nx'⟩ ⟨h3, h4⟩
        dsimp only at h3 h4
        (repeat ((conv=>whnf);first|refine ω0 ?_|refine ω1 ?_|refine ω2 ?_|refine ω3 ?_|refine ω4 rfl ?_|refine ω5 rfl ?_|refine ω6 ?_|refine ω7 ?_|refine ω8 ?_|refine ⟨rfl,?_⟩|refine ⟨trivial,?_⟩|refine ⟨⟨rfl,Nat.le_of_ble_eq_true rfl⟩,?_⟩|refine ⟨⟨by kernel_rfl,by kernel_rfl⟩,?_⟩|refine ⟨by decide,?_⟩|refine lit_true ?_|refine lit_false ?_))
        intro c g3; cases c
        · have h5 := not_of g3
          dsimp only at h5
          have hw : IntKind.i64.wrap ((l.length : Int) - 1) = ((l.length - 1 : Nat) : Int) := by rw [wrap_id (by omega) (by omega)]; omega
          have hof := refof_spec (l.getD (l.length - 1) ins0).code (hok.get (by omega)).1
          have hnone : (List.range l.length).find? (fun n => wrongI (l.getD n ins0) (l.length - 1 - n) != 0) = none := find_range_none fun j hj => by simpa using h4 j (by omega)
          have hF : formedI l = if (kof (l.getD (l.length - 1) ins0).code).1 = 14 ∨ (kof (l.getD (l.length - 1) ins0).code).1 = 15 then (0, 0) else (l.length - 1, 11) := by
            unfold formedI
            rw [if_neg (by omega), if_neg (by omega), hnone]
          rw [hF]
          (repeat ((conv=>whnf);first|refine ω0 ?_|refine ω1 ?_|refine ω2 ?_|refine ω3 ?_|refine ω4 rfl ?_|refine ω5 rfl ?_|refine ω6 ?_|refine ω7 ?_|refine ω8 ?_|refine ⟨rfl,?_⟩|refine ⟨trivial,?_⟩|refine ⟨⟨rfl,Nat.le_of_ble_eq_true rfl⟩,?_⟩|refine ⟨⟨by kernel_rfl,by kernel_rfl⟩,?_⟩|refine ⟨by decide,?_⟩|refine lit_true ?_|refine lit_false ?_))
          (conv => whnf)
          rw [hw]
          refine ⟨⟨by omega, by omega⟩, ?_⟩
          (repeat ((conv=>whnf);first|refine ω0 ?_|refine ω1 ?_|refine ω2 ?_|refine ω3 ?_|refine ω4 rfl ?_|refine ω5 rfl ?_|refine ω6 ?_|refine ω7 ?_|refine ω8 ?_|refine ⟨rfl,?_⟩|refine ⟨trivial,?_⟩|refine ⟨⟨rfl,Nat.le_of_ble_eq_true rfl⟩,?_⟩|refine ⟨⟨by kernel_rfl,by kernel_rfl⟩,?_⟩|refine ⟨by decide,?_⟩|refine lit_true ?_|refine lit_false ?_))
          refine aop_tells rfl rfl hof ⟨AVle.refl _, trivial⟩ fun nx => ?_
          (repeat ((conv=>whnf);first|refine ω0 ?_|refine ω1 ?_|refine ω2 ?_|refine ω3 ?_|refine ω4 rfl ?_|refine ω5 rfl ?_|refine ω6 ?_|refine ω7 ?_|refine ω8 ?_|refine ⟨rfl,?_⟩|refine ⟨trivial,?_⟩|refine ⟨⟨rfl,Nat.le_of_ble_eq_true rfl⟩,?_⟩|refine ⟨⟨by kernel_rfl,by kernel_rfl⟩,?_⟩|refine ⟨by decide,?_⟩|refine lit_true ?_|refine lit_false ?_))
          intro cx hx
          (repeat ((conv=>whnf);first|refine ω0 ?_|refine ω1 ?_|refine ω2 ?_|refine ω3 ?_|refine ω4 rfl ?_|refine ω5 rfl ?_|refine ω6 ?_|refine ω7 ?_|refine ω8 ?_|refine ⟨rfl,?_⟩|refine ⟨trivial,?_⟩|refine ⟨⟨rfl,Nat.le_of_ble_eq_true rfl⟩,?_⟩|refine ⟨⟨by kernel_rfl,by kernel_rfl⟩,?_⟩|refine ⟨by decide,?_⟩|refine lit_true ?_|refine lit_false ?_))
          intro c g4; cases c
          · have h6 := bne_no g4
            rw [if_pos (by omega)]
            (repeat ((conv=>whnf);first|refine ω0 ?_|refine ω1 ?_|refine ω2 ?_|refine ω3 ?_|refine ω4 rfl ?_|refine ω5 rfl ?_|refine ω6 ?_|refine ω7 ?_|refine ω8 ?_|refine ⟨rfl,?_⟩|refine ⟨trivial,?_⟩|refine ⟨⟨rfl,Nat.le_of_ble_eq_true rfl⟩,?_⟩|refine ⟨⟨by kernel_rfl,by kernel_rfl⟩,?_⟩|refine ⟨by decide,?_⟩|refine lit_true ?_|refine lit_false ?_))
            exact ret_tells rfl (AVle.refl _)
          · have h6 := bne_yes g4
            (repeat ((conv=>whnf);first|refine ω0 ?_|refine ω1 ?_|refine ω2 ?_|refine ω3 ?_|refine ω4 rfl ?_|refine ω5 rfl ?_|refine ω6 ?_|refine ω7 ?_|refine ω8 ?_|refine ⟨rfl,?_⟩|refine ⟨trivial,?_⟩|refine ⟨⟨rfl,Nat.le_of_ble_eq_true rfl⟩,?_⟩|refine ⟨⟨by kernel_rfl,by kernel_rfl⟩,?_⟩|refine ⟨by decide,?_⟩|refine lit_true ?_|refine lit_false ?_))
            intro c g5; cases c
            · have h7 := bne_no g5
              rw [if_pos (by omega)]
              (repeat ((conv=>whnf);first|refine ω0 ?_|refine ω1 ?_|refine ω2 ?_|refine ω3 ?_|refine ω4 rfl ?_|refine ω5 rfl ?_|refine ω6 ?_|refine ω7 ?_|refine ω8 ?_|refine ⟨rfl,?_⟩|refine ⟨trivial,?_⟩|refine ⟨⟨rfl,Nat.le_of_ble_eq_true rfl⟩,?_⟩|refine ⟨⟨by kernel_rfl,by kernel_rfl⟩,?_⟩|refine ⟨by decide,?_⟩|refine lit_true ?_|refine lit_false ?_))
              exact ret_tells rfl (AVle.refl _)
            · have h7 := bne_yes g5
              rw [if_neg (by omega)]
              (repeat ((conv=>whnf);first|refine ω0 ?_|refine ω1 ?_|refine ω2 ?_|refine ω3 ?_|refine ω4 rfl ?_|refine ω5 rfl ?_|refine ω6 ?_|refine ω7 ?_|refine ω8 ?_|refine ⟨rfl,?_⟩|refine ⟨trivial,?_⟩|refine ⟨⟨rfl,Nat.le_of_ble_eq_true rfl⟩,?_⟩|refine ⟨⟨by kernel_rfl,by kernel_rfl⟩,?_⟩|refine ⟨by decide,?_⟩|refine lit_true ?_|refine lit_false ?_))
              exact ret_tells rfl (AVle.tups (cs := [_, _]) ⟨le_int hw, AVle.refl _, trivial⟩)
        · have h5 := yes_of g3
          dsimp only at h5
          have hi : i < l.length := by omega
          have hw : IntKind.i64.wrap (IntKind.i64.wrap ((l.length : Int) - 1) - (i : Int)) = ((l.length - 1 - i : Nat) : Int) := by
            rw [wrap_id (n := (l.length : Int) - 1) (by omega) (by omega), wrap_id (by omega) (by omega)]; omega
          have hal := aloneR_spec (l.getD i ins0) (hok.get hi) (l.length - 1 - i)
          have hF : wrongI (l.getD i ins0) (l.length - 1 - i) ≠ 0 → formedI l = (i, wrongI (l.getD i ins0) (l.length - 1 - i)) := fun hne => by
            unfold formedI
            rw [if_neg (by omega), if_neg (by omega), find_range_some hi (by simpa using hne) (fun j hj => by simpa using h4 j hj)]
          have hS : wrongI (l.getD i ins0) (l.length - 1 - i) = 0 → ∀ j, j < i + 1 → wrongI (l.getD j ins0) (l.length - 1 - j) = 0 := fun h0 j hj => by
            rcases Nat.lt_or_ge j i with h | h
            · exact h4 j h
            · obtain rfl : j = i := by omega
              exact h0
          generalize wrongI (l.getD i ins0) (l.length - 1 - i) = e at hal hF hS
          (repeat ((conv=>whnf);first|refine ω0 ?_|refine ω1 ?_|refine ω2 ?_|refine ω3 ?_|refine ω4 rfl ?_|refine ω5 rfl ?_|refine ω6 ?_|refine ω7 ?_|refine ω8 ?_|refine ⟨rfl,?_⟩|refine ⟨trivial,?_⟩|refine ⟨⟨rfl,Nat.le_of_ble_eq_true rfl⟩,?_⟩|refine ⟨⟨by kernel_rfl,by kernel_rfl⟩,?_⟩|refine ⟨by decide,?_⟩|refine lit_true ?_|refine lit_false ?_))
          refine ⟨⟨by first | omega | (dsimp only; omega), by first | omega | (dsimp only; omega)⟩, ?_⟩
          (repeat ((conv=>whnf);first|refine ω0 ?_|refine ω1 ?_|refine ω2 ?_|refine ω3 ?_|refine ω4 rfl ?_|refine ω5 rfl ?_|refine ω6 ?_|refine ω7 ?_|refine ω8 ?_|refine ⟨rfl,?_⟩|refine ⟨trivial,?_⟩|refine ⟨⟨rfl,Nat.le_of_ble_eq_true rfl⟩,?_⟩|refine ⟨⟨by kernel_rfl,by kernel_rfl⟩,?_⟩|refine ⟨by decide,?_⟩|refine lit_true ?_|refine lit_false ?_))
          refine aop_tells rfl rfl hal ⟨AVle.refl _, le_int hw, trivial⟩ fun nx3 => ?_
          (repeat ((conv=>whnf);first|refine ω0 ?_|refine ω1 ?_|refine ω2 ?_|refine ω3 ?_|refine ω4 rfl ?_|refine ω5 rfl ?_|refine ω6 ?_|refine ω7 ?_|refine ω8 ?_|refine ⟨rfl,?_⟩|refine ⟨trivial,?_⟩|refine ⟨⟨rfl,Nat.le_of_ble_eq_true rfl⟩,?_⟩|refine ⟨⟨by kernel_rfl,by kernel_rfl⟩,?_⟩|refine ⟨by decide,?_⟩|refine lit_true ?_|refine lit_false ?_))
          intro c g5; cases c
          · have h7 := bne_no g5
            (repeat ((conv=>whnf);first|refine ω0 ?_|refine ω1 ?_|refine ω2 ?_|refine ω3 ?_|refine ω4 rfl ?_|refine ω5 rfl ?_|refine ω6 ?_|refine ω7 ?_|refine ω8 ?_|refine ⟨rfl,?_⟩|refine ⟨trivial,?_⟩|refine ⟨⟨rfl,Nat.le_of_ble_eq_true rfl⟩,?_⟩|refine ⟨⟨by kernel_rfl,by kernel_rfl⟩,?_⟩|refine ⟨by decide,?_⟩|refine lit_true ?_|refine lit_false ?_))
            exact back (i + 1, _) ⟨(by first | omega | (dsimp only at *; omega) | (simp; done) | (simp; omega)), hS (by omega)⟩ (by first | omega | (dsimp only at *; omega) | (simp; done) | (simp; omega)) (ele_keep rfl rfl (List.nil_sublist _) (List.nil_sublist _) ⟨AVle.refl _, le_int (wrap_succ (by first | omega | (dsimp only at *; omega) | (simp; done) | (simp; omega))), trivial⟩)
          · have h7 := bne_yes g5
            rw [hF (by omega)]
            (repeat ((conv=>whnf);first|refine ω0 ?_|refine ω1 ?_|refine ω2 ?_|refine ω3 ?_|refine ω4 rfl ?_|refine ω5 rfl ?_|refine ω6 ?_|refine ω7 ?_|refine ω8 ?_|refine ⟨rfl,?_⟩|refine ⟨trivial,?_⟩|refine ⟨⟨rfl,Nat.le_of_ble_eq_true rfl⟩,?_⟩|refine ⟨⟨by kernel_rfl,by kernel_rfl⟩,?_⟩|refine ⟨by decide,?_⟩|refine lit_true ?_|refine lit_false ?_))
            exact ret_tells rfl (AVle.refl _)
    · have h2 := yes_of g2
      have hF : formedI l = (0, 3) := by unfold formedI; rw [if_neg (by omega), if_pos (by omega)]
      rw [hF]
      (repeat ((conv=>whnf);first|refine ω0 ?_|refine ω1 ?_|refine ω2 ?_|refine ω3 ?_|refine ω4 rfl ?_|refine ω5 rfl ?_|refine ω6 ?_|refine ω7 ?_|refine ω8 ?_|refine ⟨rfl,?_⟩|refine ⟨trivial,?_⟩|refine ⟨⟨rfl,Nat.le_of_ble_eq_true rfl⟩,?_⟩|refine ⟨⟨by kernel_rfl,by kernel_rfl⟩,?_⟩|refine ⟨by decide,?_⟩|refine lit_true ?_|refine lit_false ?_))
      exact ret_tells rfl (AVle.refl _)
  · have h1 := fct_b1.1 g1
    have hF : formedI l = (0, 4) := by unfold formedI; rw [if_pos (by omega)]
    rw [hF]
    (repeat ((conv=>whnf);first|refine ω0 ?_|refine ω1 ?_|refine ω2 ?_|refine ω3 ?_|refine ω4 rfl ?_|refine ω5 rfl ?_|refine ω6 ?_|refine ω7 ?_|refine ω8 ?_|refine ⟨rfl,?_⟩|refine ⟨trivial,?_⟩|refine ⟨⟨rfl,Nat.le_of_ble_eq_true rfl⟩,?_⟩|refine ⟨⟨by kernel_rfl,by kernel_rfl⟩,?_⟩|refine ⟨by decide,?_⟩|refine lit_true ?_|refine lit_false ?_))
    exact ret_tells rfl (AVle.refl _)

def stopZ (l : List Ins) (z : Int) (n : Nat) : Bool := decide (isStore (kind l n)) && decide (((l.getD n ins0).k : Int) = z)
theorem stopZ_nat (l : List Ins) (c : Nat) : stopZ l (c : Int) = stopC l c := by
  funext n
  unfold stopZ stopC
  congr 1
  exact decide_eq_decide.2 (by omega)
theorem scan_same {l : List Ins} {st : Nat → Bool} {i : Nat} (h : (scanN l st i).getD i false = false ∨ st i = true) : scanN l st (i + 1) = scanN l st i := by
  rw [scanN_succ]
  unfold scanStep
  rcases h with h | h <;> rw [h] <;> simp
theorem scan_goes {l : List Ins} {st : Nat → Bool} {i : Nat} (h : (scanN l st i).getD i false = true) (h2 : st i = false) : scanN l st (i + 1) = (nextsI l i).foldl setT (scanN l st i) := by
  rw [scanN_succ]
  unfold scanStep
  rw [h, h2]; rfl
theorem frz_bools {bs : List (Nat × Own)} {s0 : Nat} {o : List Bool} {n : Nat} (hn : o.length = n) (hm : (s0, .c (o.map boolA)) ∈ bs) : Frz bs (.hs (0, s0) 0 n n) (bools o) := by
  subst hn
  refine Frz.hs1 (cs := o.map boolA) hm (Nat.le_refl _) (by rw [List.length_map]; exact Nat.le_refl _) (fun _ _ => rfl) fun k hk => ?_
  rw [List.getElem?_map, List.getElem?_eq_getElem hk]
  simp [List.getD, hk]
theorem reachedR_spec (l : List Ins) (hok : okL l) (hf : Formed l) (z : Int) : Tells Try.prog 30 [inss l, int z] (bools (reachC l (stopZ l z))) := by
  have hle := hf.le
  have hpos := hf.pos
  unfold reachC
  refine tells_of_aw Try.func30 rfl rfl fun nx => ?_
  (repeat ((conv=>whnf);first|refine ω0 ?_|refine ω1 ?_|refine ω2 ?_|refine ω3 ?_|refine ω4 rfl ?_|refine ω5 rfl ?_|refine ω6 ?_|refine ω7 ?_|refine ω8 ?_|refine ⟨rfl,?_⟩|refine ⟨trivial,?_⟩|refine ⟨⟨rfl,Nat.le_of_ble_eq_true rfl⟩,?_⟩|refine ⟨⟨by kernel_rfl,by kernel_rfl⟩,?_⟩|refine ⟨by decide,?_⟩|refine lit_true ?_|refine lit_false ?_))
  (conv => whnf)
  refine ⟨by omega, by omega, by rw [b4]; omega, by omega, ?_⟩
  (repeat ((conv=>whnf);first|refine ω0 ?_|refine ω2 ?_|refine ω3 ?_|refine ω4 rfl ?_|refine ω5 rfl ?_|refine ω6 ?_|refine ω7 ?_|refine ω8 ?_|refine ⟨rfl,?_⟩|refine ⟨trivial,?_⟩|refine ⟨⟨rfl,Nat.le_of_ble_eq_true rfl⟩,?_⟩|refine ⟨⟨by kernel_rfl,by kernel_rfl⟩,?_⟩|refine ⟨by decide,?_⟩|refine lit_true ?_|refine lit_false ?_))
  refine AW.le (E' := mk 70 [(0, inss l), (1, int z), (5, .hs (0, nx) 0 l.length l.length)] ⟨[((0, nx), .c ((List.replicate l.length false).map boolA))], [], nx + 1, 1⟩) (by
    refine ele_tell _ _ rfl rfl (List.Sublist.refl _) .slnil ⟨rfl, OwnLe.of_eq ?_, trivial⟩ trivial ⟨AVle.refl _, AVle.refl _, AVle.refl _, trivial⟩
    rw [List.map_replicate]; rfl) ?_
  (repeat ((conv=>whnf);first|refine ω0 ?_|refine ω1 ?_|refine ω2 ?_|refine ω3 ?_|refine ω4 rfl ?_|refine ω5 rfl ?_|refine ω6 ?_|refine ω7 ?_|refine ω8 ?_|refine ⟨rfl,?_⟩|refine ⟨trivial,?_⟩|refine ⟨⟨rfl,Nat.le_of_ble_eq_true rfl⟩,?_⟩|refine ⟨⟨by kernel_rfl,by kernel_rfl⟩,?_⟩|refine ⟨by decide,?_⟩|refine lit_true ?_|refine lit_false ?_))
  (refine ⟨⟨by first | omega | (dsimp only; omega), by first | omega | (dsimp only; omega)⟩, splitO_eq (b := .bp (0, nx) (0)) (congrArg (AV.bp (0, nx)) (ix1 c4)) ?_⟩; (conv => whnf); refine ⟨⟨rfl, (by first | omega | (simp only [List.length_map, List.length_set, List.length_cons, List.length_nil, List.length_replicate, List.length_append]; omega))⟩, ?_⟩; rw [show splice ((List.replicate l.length false).map boolA) (0) [AV.v (.bool true)] = ((List.replicate l.length false).set (0) (true)).map boolA from splice_one (f := boolA) (x := true) (by first | omega | (simp only [List.length_map, List.length_set, List.length_cons, List.length_nil, List.length_replicate, List.length_append]; omega))])
  (repeat ((conv=>whnf);first|refine ω0 ?_|refine ω1 ?_|refine ω2 ?_|refine ω3 ?_|refine ω4 rfl ?_|refine ω5 rfl ?_|refine ω6 ?_|refine ω7 ?_|refine ω8 ?_|refine ⟨rfl,?_⟩|refine ⟨trivial,?_⟩|refine ⟨⟨rfl,Nat.le_of_ble_eq_true rfl⟩,?_⟩|refine ⟨⟨by kernel_rfl,by kernel_rfl⟩,?_⟩|refine ⟨by decide,?_⟩|refine lit_true ?_|refine lit_false ?_))
  refine aw_loop (fun s : Nat × Nat => mk 70 [(0, inss l), (1, int z), (5, .hs (0, nx) 0 l.length l.length), (6, int s.1)] ⟨[((0, nx), .c ((scanN l (stopZ l z) s.1).map boolA))], [], s.2, 1⟩) (fun s => s.1 ≤ l.length) (fun s => l.length - s.1) ?_ ?_
  · exact ⟨(0, nx + 1), Nat.zero_le _, ele_tell _ _ rfl rfl (List.Sublist.refl _) .slnil ⟨rfl, OwnLe.of_eq rfl, trivial⟩ trivial ⟨AVle.refl _, AVle.refl _, AVle.refl _, AVle.refl _, trivial⟩⟩
  · rintro ⟨i, nx'⟩ h1
    dsimp only at h1
    have hlen := scanN_length l (stopZ l z) i
    (repeat ((conv=>whnf);first|refine ω0 ?_|refine ω1 ?_|refine ω2 ?_|refine ω3 ?_|refine ω4 rfl ?_|refine ω5 rfl ?_|refine ω6 ?_|refine ω7 ?_|refine ω8 ?_|refine ⟨rfl,?_⟩|refine ⟨trivial,?_⟩|refine ⟨⟨rfl,Nat.le_of_ble_eq_true rfl⟩,?_⟩|refine ⟨⟨by kernel_rfl,by kernel_rfl⟩,?_⟩|refine ⟨by decide,?_⟩|refine lit_true ?_|refine lit_false ?_))
    intro c g2; cases c
    · have g2 := not_of g2
      dsimp only at g2
      obtain rfl : i = l.length := by omega
      (repeat ((conv=>whnf);first|refine ω0 ?_|refine ω1 ?_|refine ω2 ?_|refine ω3 ?_|refine ω4 rfl ?_|refine ω5 rfl ?_|refine ω6 ?_|refine ω7 ?_|refine ⟨rfl,?_⟩|refine ⟨trivial,?_⟩|refine ⟨⟨rfl,Nat.le_of_ble_eq_true rfl⟩,?_⟩|refine ⟨⟨by kernel_rfl,by kernel_rfl⟩,?_⟩|refine ⟨by decide,?_⟩|refine lit_true ?_|refine lit_false ?_))
      refine AW.le (ele_freeze (L := [(4, bools (scanN l (stopZ l z) l.length))]) (bx := []) (pm := []) (nn := 0) [((0, nx), .c ((scanN l (stopZ l z) l.length).map boolA))] rfl rfl (List.Sublist.refl _) .slnil ⟨?_, trivial⟩) ?_
      · exact frz_bools hlen (List.mem_cons_self ..)
      (repeat ((conv=>whnf);first|refine ω0 ?_|refine ω1 ?_|refine ω2 ?_|refine ω3 ?_|refine ω4 rfl ?_|refine ω5 rfl ?_|refine ω6 ?_|refine ω7 ?_|refine ω8 ?_|refine ⟨rfl,?_⟩|refine ⟨trivial,?_⟩|refine ⟨⟨rfl,Nat.le_of_ble_eq_true rfl⟩,?_⟩|refine ⟨⟨by kernel_rfl,by kernel_rfl⟩,?_⟩|refine ⟨by decide,?_⟩|refine lit_true ?_|refine lit_false ?_))
      exact ret_tells rfl (AVle.refl _)
    · have g2 := yes_of g2
      dsimp only at g2
      have hi : i < l.length := by omega
      have hki : (l.getD i ins0).ok := hok.get hi
      have hof := refof_spec (l.getD i ins0).code hki.1
      have hnx := nexts_lt hf hi
      have hkd : (kof (l.getD i ins0).code).1 = kind l i := rfl
      have wk : IntKind.i64.wrap ((l.getD i ins0).k : Int) = (l.getD i ins0).k := wrap_id (by have := hki.2.2.2; omega) (by have := hki.2.2.2; omega)
      have hsame := scan_same (l := l) (st := stopZ l z) (i := i)
      have hgoes := scan_goes (l := l) (st := stopZ l z) (i := i)
      have hst : stopZ l z i = (decide (isStore (kind l i)) && decide (((l.getD i ins0).k : Int) = z)) := rfl
      generalize stopZ l z = st at *
      generalize hO : scanN l st i = o at *
      rw [hkd] at hof
      generalize kind l i = K at hof hst
      generalize (kof (l.getD i ins0).code).2 = x at hof
      (repeat ((conv=>whnf);first|refine ω0 ?_|refine ω1 ?_|refine ω2 ?_|refine ω3 ?_|refine ω4 rfl ?_|refine ω5 rfl ?_|refine ω6 ?_|refine ω7 ?_|refine ω8 ?_|refine ⟨rfl,?_⟩|refine ⟨trivial,?_⟩|refine ⟨⟨rfl,Nat.le_of_ble_eq_true rfl⟩,?_⟩|refine ⟨⟨by kernel_rfl,by kernel_rfl⟩,?_⟩|refine ⟨by decide,?_⟩|refine lit_true ?_|refine lit_false ?_))
      refine ⟨⟨by first | omega | (dsimp only; omega), by first | omega | (dsimp only; omega)⟩, ?_⟩
      (repeat ((conv=>whnf);first|refine ω0 ?_|refine ω1 ?_|refine ω2 ?_|refine ω3 ?_|refine ω4 rfl ?_|refine ω5 rfl ?_|refine ω6 ?_|refine ω7 ?_|refine ω8 ?_|refine ⟨rfl,?_⟩|refine ⟨trivial,?_⟩|refine ⟨⟨rfl,Nat.le_of_ble_eq_true rfl⟩,?_⟩|refine ⟨⟨by kernel_rfl,by kernel_rfl⟩,?_⟩|refine ⟨by decide,?_⟩|refine lit_true ?_|refine lit_false ?_))
      refine aop_tells rfl rfl hof ⟨AVle.refl _, trivial⟩ fun nx3 => ?_
      (repeat ((conv=>whnf);first|refine ω0 ?_|refine ω1 ?_|refine ω2 ?_|refine ω3 ?_|refine ω4 rfl ?_|refine ω5 rfl ?_|refine ω6 ?_|refine ω7 ?_|refine ω8 ?_|refine ⟨rfl,?_⟩|refine ⟨trivial,?_⟩|refine ⟨⟨rfl,Nat.le_of_ble_eq_true rfl⟩,?_⟩|refine ⟨⟨by kernel_rfl,by kernel_rfl⟩,?_⟩|refine ⟨by decide,?_⟩|refine lit_true ?_|refine lit_false ?_))
      intro cx hx
      (repeat ((conv=>whnf);first|refine ω0 ?_|refine ω1 ?_|refine ω2 ?_|refine ω3 ?_|refine ω4 rfl ?_|refine ω5 rfl ?_|refine ω6 ?_|refine ω7 ?_|refine ω8 ?_|refine ⟨rfl,?_⟩|refine ⟨trivial,?_⟩|refine ⟨⟨rfl,Nat.le_of_ble_eq_true rfl⟩,?_⟩|refine ⟨⟨by kernel_rfl,by kernel_rfl⟩,?_⟩|refine ⟨by decide,?_⟩|refine lit_true ?_|refine lit_false ?_))
      (refine ⟨⟨by first | omega | (dsimp only; omega), by first | omega | (dsimp only; omega)⟩, splitO_eq (b := .bp (0, nx) (i)) (congrArg (AV.bp (0, nx)) (ix1 c4)) ?_⟩; (conv => whnf); refine ⟨⟨rfl, (by first | omega | (simp only [List.length_map, List.length_set, List.length_cons, List.length_nil, List.length_replicate, List.length_append]; omega))⟩, splitO_eq (b := boolA ((o).getD (i) false)) (getD_map (by first | omega | (simp only [List.length_map, List.length_set, List.length_cons, List.length_nil, List.length_replicate, List.length_append]; omega))) ?_⟩)
      (repeat ((conv=>whnf);first|refine ω0 ?_|refine ω1 ?_|refine ω2 ?_|refine ω3 ?_|refine ω4 rfl ?_|refine ω5 rfl ?_|refine ω6 ?_|refine ω7 ?_|refine ω8 ?_|refine ⟨rfl,?_⟩|refine ⟨trivial,?_⟩|refine ⟨⟨rfl,Nat.le_of_ble_eq_true rfl⟩,?_⟩|refine ⟨⟨by kernel_rfl,by kernel_rfl⟩,?_⟩|refine ⟨by decide,?_⟩|refine lit_true ?_|refine lit_false ?_))
      intro b hb
      cases b
      · (repeat ((conv=>whnf);first|refine ω0 ?_|refine ω1 ?_|refine ω2 ?_|refine ω3 ?_|refine ω4 rfl ?_|refine ω5 rfl ?_|refine ω6 ?_|refine ω7 ?_|refine ω8 ?_|refine ⟨rfl,?_⟩|refine ⟨trivial,?_⟩|refine ⟨⟨rfl,Nat.le_of_ble_eq_true rfl⟩,?_⟩|refine ⟨⟨by kernel_rfl,by kernel_rfl⟩,?_⟩|refine ⟨by decide,?_⟩|refine lit_true ?_|refine lit_false ?_))
        exact back (i + 1, _) (by first | omega | (dsimp only at *; omega) | (simp; done) | (simp; omega)) (by first | omega | (dsimp only at *; omega) | (simp; done) | (simp; omega)) (ele_tell _ _ rfl rfl (List.Sublist.refl _) .slnil ⟨rfl, OwnLe.of_eq (by dsimp only; rw [hsame (.inl hb.symm)]), trivial⟩ trivial ⟨AVle.refl _, AVle.refl _, AVle.refl _, le_int (wrap_succ (by first | omega | (dsimp only at *; omega) | (simp; done) | (simp; omega))), trivial⟩)
      · have hb : o.getD i false = true := hb.symm
        (repeat ((conv=>whnf);first|refine ω0 ?_|refine ω1 ?_|refine ω2 ?_|refine ω3 ?_|refine ω4 rfl ?_|refine ω5 rfl ?_|refine ω6 ?_|refine ω7 ?_|refine ω8 ?_|refine ⟨rfl,?_⟩|refine ⟨trivial,?_⟩|refine ⟨⟨rfl,Nat.le_of_ble_eq_true rfl⟩,?_⟩|refine ⟨⟨by kernel_rfl,by kernel_rfl⟩,?_⟩|refine ⟨by decide,?_⟩|refine lit_true ?_|refine lit_false ?_))
        intro c e1; cases c
        · have e1 := fct_b0.1 e1
          (repeat ((conv=>whnf);first|refine ω0 ?_|refine ω1 ?_|refine ω2 ?_|refine ω3 ?_|refine ω4 rfl ?_|refine ω5 rfl ?_|refine ω6 ?_|refine ω7 ?_|refine ω8 ?_|refine ⟨rfl,?_⟩|refine ⟨trivial,?_⟩|refine ⟨⟨rfl,Nat.le_of_ble_eq_true rfl⟩,?_⟩|refine ⟨⟨by kernel_rfl,by kernel_rfl⟩,?_⟩|refine ⟨by decide,?_⟩|refine lit_true ?_|refine lit_false ?_))
          intro c e2; cases c
          · have e2 := fct_b0.1 e2
            have hs : st i = false := by rw [hst, decide_eq_false (show ¬ isStore K by unfold isStore; omega)]; rfl
            have hgo := hgoes hb hs
            (repeat ((conv=>whnf);first|refine ω0 ?_|refine ω1 ?_|refine ω2 ?_|refine ω3 ?_|refine ω4 rfl ?_|refine ω5 rfl ?_|refine ω6 ?_|refine ω7 ?_|refine ω8 ?_|refine ⟨rfl,?_⟩|refine ⟨trivial,?_⟩|refine ⟨⟨rfl,Nat.le_of_ble_eq_true rfl⟩,?_⟩|refine ⟨⟨by kernel_rfl,by kernel_rfl⟩,?_⟩|refine ⟨by decide,?_⟩|refine lit_true ?_|refine lit_false ?_))
            refine aop_tells rfl rfl (nextR_spec l hok hf i hi) ⟨AVle.refl _, AVle.refl _, trivial⟩ fun nx5 => ?_
            have hts : (nextsI l i).length ≤ 2 := by unfold nextsI; (repeat' split) <;> simp
            generalize nextsI l i = ts at *
            have hmem : ∀ j, j < ts.length → ts.getD j 0 < l.length := fun j hj => (hnx _ (by simp [List.getD, hj])).2
            (repeat ((conv=>whnf);first|refine ω0 ?_|refine ω1 ?_|refine ω2 ?_|refine ω3 ?_|refine ω4 rfl ?_|refine ω5 rfl ?_|refine ω6 ?_|refine ω7 ?_|refine ω8 ?_|refine ⟨rfl,?_⟩|refine ⟨trivial,?_⟩|refine ⟨⟨rfl,Nat.le_of_ble_eq_true rfl⟩,?_⟩|refine ⟨⟨by kernel_rfl,by kernel_rfl⟩,?_⟩|refine ⟨by decide,?_⟩|refine lit_true ?_|refine lit_false ?_))
            refine aw_loop (fun s : Nat × Nat => mk 70 [(0, inss l), (1, int z), (5, .hs (0, nx) 0 l.length l.length), (6, int i), (9, ints ts), (10, int s.1)] ⟨[((0, nx), .c (((ts.take s.1).foldl setT o).map boolA))], [], s.2, 1⟩) (fun s => s.1 ≤ ts.length) (fun s => ts.length - s.1) ?_ ?_
            · exact ⟨(0, nx5), Nat.zero_le _, ele_tell _ _ rfl rfl (List.Sublist.refl _) .slnil ⟨rfl, OwnLe.refl _, trivial⟩ trivial ⟨AVle.refl _, AVle.refl _, AVle.refl _, AVle.refl _, AVle.refl _, AVle.refl _, trivial⟩⟩
            · rintro ⟨j, nx6⟩ k1
              dsimp only at k1
              (repeat ((conv=>whnf);first|refine ω0 ?_|refine ω1 ?_|refine ω2 ?_|refine ω3 ?_|refine ω4 rfl ?_|refine ω5 rfl ?_|refine ω6 ?_|refine ω7 ?_|refine ω8 ?_|refine ⟨rfl,?_⟩|refine ⟨trivial,?_⟩|refine ⟨⟨rfl,Nat.le_of_ble_eq_true rfl⟩,?_⟩|refine ⟨⟨by kernel_rfl,by kernel_rfl⟩,?_⟩|refine ⟨by decide,?_⟩|refine lit_true ?_|refine lit_false ?_))
              intro c g3; cases c
              · have g3 := not_of g3
                dsimp only at g3
                have hj : ts.take j = ts := List.take_of_length_le (by omega)
                (repeat ((conv=>whnf);first|refine ω0 ?_|refine ω1 ?_|refine ω2 ?_|refine ω3 ?_|refine ω4 rfl ?_|refine ω5 rfl ?_|refine ω6 ?_|refine ω7 ?_|refine ω8 ?_|refine ⟨rfl,?_⟩|refine ⟨trivial,?_⟩|refine ⟨⟨rfl,Nat.le_of_ble_eq_true rfl⟩,?_⟩|refine ⟨⟨by kernel_rfl,by kernel_rfl⟩,?_⟩|refine ⟨by decide,?_⟩|refine lit_true ?_|refine lit_false ?_))
                exact back (i + 1, _) (by first | omega | (dsimp only at *; omega) | (simp; done) | (simp; omega)) (by first | omega | (dsimp only at *; omega) | (simp; done) | (simp; omega)) (ele_tell _ _ rfl rfl (List.Sublist.refl _) .slnil ⟨rfl, OwnLe.of_eq (by dsimp only; rw [hj, hgo]), trivial⟩ trivial ⟨AVle.refl _, AVle.refl _, AVle.refl _, le_int (wrap_succ (by first | omega | (dsimp only at *; omega) | (simp; done) | (simp; omega))), trivial⟩)
              · have g3 := yes_of g3
                dsimp only at g3
                have hj : j < ts.length := by omega
                have ht := hmem j hj
                have hAl : ((ts.take j).foldl setT o).length = l.length := by rw [foldT_length]; exact hlen
                have hA2 : (ts.take (j + 1)).foldl setT o = ((ts.take j).foldl setT o).set (ts.getD j 0) true := by rw [take_getD 0 hj, List.foldl_append]; rfl
                generalize (ts.take j).foldl setT o = A at *
                generalize hT : ts.getD j 0 = t at ht hA2
                (repeat ((conv=>whnf);first|refine ω0 ?_|refine ω1 ?_|refine ω2 ?_|refine ω3 ?_|refine ω4 rfl ?_|refine ω5 rfl ?_|refine ω6 ?_|refine ω7 ?_|refine ω8 ?_|refine ⟨rfl,?_⟩|refine ⟨trivial,?_⟩|refine ⟨⟨rfl,Nat.le_of_ble_eq_true rfl⟩,?_⟩|refine ⟨⟨by kernel_rfl,by kernel_rfl⟩,?_⟩|refine ⟨by decide,?_⟩|refine lit_true ?_|refine lit_false ?_))
                refine ⟨⟨by first | omega | (dsimp only; omega), by first | omega | (dsimp only; omega)⟩, ?_⟩
                (repeat ((conv=>whnf);first|refine ω0 ?_|refine ω1 ?_|refine ω2 ?_|refine ω3 ?_|refine ω4 rfl ?_|refine ω5 rfl ?_|refine ω6 ?_|refine ω7 ?_|refine ω8 ?_|refine ⟨rfl,?_⟩|refine ⟨trivial,?_⟩|refine ⟨⟨rfl,Nat.le_of_ble_eq_true rfl⟩,?_⟩|refine ⟨⟨by kernel_rfl,by kernel_rfl⟩,?_⟩|refine ⟨by decide,?_⟩|refine lit_true ?_|refine lit_false ?_))
                (refine ⟨⟨?_, ?_⟩, splitO_eq (b := .bp (0, nx) t) (congrArg (AV.bp (0, nx)) ?_) ?_⟩)
                · exact Int.natCast_nonneg _
                · show ((ts.getD j 0 : Nat) : Int) < _; rw [hT]; omega
                · rw [c4]; show 0 + ts.getD j 0 * 1 = t; omega
                (conv => whnf)
                refine ⟨⟨rfl, (by first | omega | (simp only [List.length_map, List.length_set, List.length_cons, List.length_nil, List.length_replicate, List.length_append]; omega))⟩, ?_⟩
                rw [show splice (A.map boolA) t [AV.v (.bool true)] = (A.set t true).map boolA from splice_one (f := boolA) (x := true) (by first | omega | (simp only [List.length_map, List.length_set, List.length_cons, List.length_nil, List.length_replicate, List.length_append]; omega))]
                (repeat ((conv=>whnf);first|refine ω0 ?_|refine ω1 ?_|refine ω2 ?_|refine ω3 ?_|refine ω4 rfl ?_|refine ω5 rfl ?_|refine ω6 ?_|refine ω7 ?_|refine ω8 ?_|refine ⟨rfl,?_⟩|refine ⟨trivial,?_⟩|refine ⟨⟨rfl,Nat.le_of_ble_eq_true rfl⟩,?_⟩|refine ⟨⟨by kernel_rfl,by kernel_rfl⟩,?_⟩|refine ⟨by decide,?_⟩|refine lit_true ?_|refine lit_false ?_))
                exact back (j + 1, _) (by first | omega | (dsimp only at *; omega) | (simp; done) | (simp; omega)) (by first | omega | (dsimp only at *; omega) | (simp; done) | (simp; omega)) (ele_tell _ _ rfl rfl (List.Sublist.refl _) .slnil ⟨rfl, OwnLe.of_eq (by dsimp only; rw [hA2]), trivial⟩ trivial ⟨AVle.refl _, AVle.refl _, AVle.refl _, AVle.refl _, AVle.refl _, le_int (wrap_succ (by first | omega | (dsimp only at *; omega) | (simp; done) | (simp; omega))), trivial⟩)
          · have e2 := fct_b1.1 e2
            (repeat ((conv=>whnf);first|refine ω0 ?_|refine ω1 ?_|refine ω2 ?_|refine ω3 ?_|refine ω4 rfl ?_|refine ω5 rfl ?_|refine ω6 ?_|refine ω7 ?_|refine ω8 ?_|refine ⟨rfl,?_⟩|refine ⟨trivial,?_⟩|refine ⟨⟨rfl,Nat.le_of_ble_eq_true rfl⟩,?_⟩|refine ⟨⟨by kernel_rfl,by kernel_rfl⟩,?_⟩|refine ⟨by decide,?_⟩|refine lit_true ?_|refine lit_false ?_))
            refine ⟨⟨by first | omega | (dsimp only; omega), by first | omega | (dsimp only; omega)⟩, ?_⟩
            (repeat ((conv=>whnf);first|refine ω0 ?_|refine ω1 ?_|refine ω2 ?_|refine ω3 ?_|refine ω4 rfl ?_|refine ω5 rfl ?_|refine ω6 ?_|refine ω7 ?_|refine ω8 ?_|refine ⟨rfl,?_⟩|refine ⟨trivial,?_⟩|refine ⟨⟨rfl,Nat.le_of_ble_eq_true rfl⟩,?_⟩|refine ⟨⟨by kernel_rfl,by kernel_rfl⟩,?_⟩|refine ⟨by decide,?_⟩|refine lit_true ?_|refine lit_false ?_))
            intro c e3; cases c
            · have e3 : ¬ (((l.getD i ins0).k : Int) = z) := by
                have e3 := fct_b0.1 e3
                rw [← wk]; exact e3
              have hs : st i = false := by rw [hst, decide_eq_false e3, Bool.and_false]
              have hgo := hgoes hb hs
              (repeat ((conv=>whnf);first|refine ω0 ?_|refine ω1 ?_|refine ω2 ?_|refine ω3 ?_|refine ω4 rfl ?_|refine ω5 rfl ?_|refine ω6 ?_|refine ω7 ?_|refine ω8 ?_|refine ⟨rfl,?_⟩|refine ⟨trivial,?_⟩|refine ⟨⟨rfl,Nat.le_of_ble_eq_true rfl⟩,?_⟩|refine ⟨⟨by kernel_rfl,by kernel_rfl⟩,?_⟩|refine ⟨by decide,?_⟩|refine lit_true ?_|refine lit_false ?_))
              refine aop_tells rfl rfl (nextR_spec l hok hf i hi) ⟨AVle.refl _, AVle.refl _, trivial⟩ fun nx5 => ?_
              have hts : (nextsI l i).length ≤ 2 := by unfold nextsI; (repeat' split) <;> simp
              generalize nextsI l i = ts at *
              have hmem : ∀ j, j < ts.length → ts.getD j 0 < l.length := fun j hj => (hnx _ (by simp [List.getD, hj])).2
              (repeat ((conv=>whnf);first|refine ω0 ?_|refine ω1 ?_|refine ω2 ?_|refine ω3 ?_|refine ω4 rfl ?_|refine ω5 rfl ?_|refine ω6 ?_|refine ω7 ?_|refine ω8 ?_|refine ⟨rfl,?_⟩|refine ⟨trivial,?_⟩|refine ⟨⟨rfl,Nat.le_of_ble_eq_true rfl⟩,?_⟩|refine ⟨⟨by kernel_rfl,by kernel_rfl⟩,?_⟩|refine ⟨by decide,?_⟩|refine lit_true ?_|refine lit_false ?_))
              refine aw_loop (fun s : Nat × Nat => mk 70 [(0, inss l), (1, int z), (5, .hs (0, nx) 0 l.length l.length), (6, int i), (9, ints ts), (10, int s.1)] ⟨[((0, nx), .c (((ts.take s.1).foldl setT o).map boolA))], [], s.2, 1⟩) (fun s => s.1 ≤ ts.length) (fun s => ts.length - s.1) ?_ ?_
              · exact ⟨(0, nx5), Nat.zero_le _, ele_tell _ _ rfl rfl (List.Sublist.refl _) .slnil ⟨rfl, OwnLe.refl _, trivial⟩ trivial ⟨AVle.refl _, AVle.refl _, AVle.refl _, AVle.refl _, AVle.refl _, AVle.refl _, trivial⟩⟩
              · rintro ⟨j, nx6⟩ k1
                dsimp only at k1
                (repeat ((conv=>whnf);first|refine ω0 ?_|refine ω1 ?_|refine ω2 ?_|refine ω3 ?_|refine ω4 rfl ?_|refine ω5 rfl ?_|refine ω6 ?_|refine ω7 ?_|refine ω8 ?_|refine ⟨rfl,?_⟩|refine ⟨trivial,?_⟩|refine ⟨⟨rfl,Nat.le_of_ble_eq_true rfl⟩,?_⟩|refine ⟨⟨by kernel_rfl,by kernel_rfl⟩,?_⟩|refine ⟨by decide,?_⟩|refine lit_true ?_|refine lit_false ?_))
                intro c g3; cases c
                · have g3 := not_of g3
                  dsimp only at g3
                  have hj : ts.take j = ts := List.take_of_length_le (by omega)
                  (repeat ((conv=>whnf);first|refine ω0 ?_|refine ω1 ?_|refine ω2 ?_|refine ω3 ?_|refine ω4 rfl ?_|refine ω5 rfl ?_|refine ω6 ?_|refine ω7 ?_|refine ω8 ?_|refine ⟨rfl,?_⟩|refine ⟨trivial,?_⟩|refine ⟨⟨rfl,Nat.le_of_ble_eq_true rfl⟩,?_⟩|refine ⟨⟨by kernel_rfl,by kernel_rfl⟩,?_⟩|refine ⟨by decide,?_⟩|refine lit_true ?_|refine lit_false ?_))
                  exact back (i + 1, _) (by first | omega | (dsimp only at *; omega) | (simp; done) | (simp; omega)) (by first | omega | (dsimp only at *; omega) | (simp; done) | (simp; omega)) (ele_tell _ _ rfl rfl (List.Sublist.refl _) .slnil ⟨rfl, OwnLe.of_eq (by dsimp only; rw [hj, hgo]), trivial⟩ trivial ⟨AVle.refl _, AVle.refl _, AVle.refl _, le_int (wrap_succ (by first | omega | (dsimp only at *; omega) | (simp; done) | (simp; omega))), trivial⟩)
                · have g3 := yes_of g3
                  dsimp only at g3
                  have hj : j < ts.length := by omega
                  have ht := hmem j hj
                  have hAl : ((ts.take j).foldl setT o).length = l.length := by rw [foldT_length]; exact hlen
                  have hA2 : (ts.take (j + 1)).foldl setT o = ((ts.take j).foldl setT o).set (ts.getD j 0) true := by rw [take_getD 0 hj, List.foldl_append]; rfl
                  generalize (ts.take j).foldl setT o = A at *
                  generalize hT : ts.getD j 0 = t at ht hA2
                  (repeat ((conv=>whnf);first|refine ω0 ?_|refine ω1 ?_|refine ω2 ?_|refine ω3 ?_|refine ω4 rfl ?_|refine ω5 rfl ?_|refine ω6 ?_|refine ω7 ?_|refine ω8 ?_|refine ⟨rfl,?_⟩|refine ⟨trivial,?_⟩|refine ⟨⟨rfl,Nat.le_of_ble_eq_true rfl⟩,?_⟩|refine ⟨⟨by kernel_rfl,by kernel_rfl⟩,?_⟩|refine ⟨by decide,?_⟩|refine lit_true ?_|refine lit_false ?_))
                  refine ⟨⟨by first | omega | (dsimp only; omega), by first | omega | (dsimp only; omega)⟩, ?_⟩
                  (repeat ((conv=>whnf);first|refine ω0 ?_|refine ω1 ?_|refine ω2 ?_|refine ω3 ?_|refine ω4 rfl ?_|refine ω5 rfl ?_|refine ω6 ?_|refine ω7 ?_|refine ω8 ?_|refine ⟨rfl,?_⟩|refine ⟨trivial,?_⟩|refine ⟨⟨rfl,Nat.le_of_ble_eq_true rfl⟩,?_⟩|refine ⟨⟨by kernel_rfl,by kernel_rfl⟩,?_⟩|refine ⟨by decide,?_⟩|refine lit_true ?_|refine lit_false ?_))
                  (refine ⟨⟨?_, ?_⟩, splitO_eq (b := .bp (0, nx) t) (congrArg (AV.bp (0, nx)) ?_) ?_⟩)
                  · exact Int.natCast_nonneg _
                  · show ((ts.getD j 0 : Nat) : Int) < _; rw [hT]; omega
                  · rw [c4]; show 0 + ts.getD j 0 * 1 = t; omega
                  (conv => whnf)
                  refine ⟨⟨rfl, (by first | omega | (simp only [List.length_map, List.length_set, List.length_cons, List.length_nil, List.length_replicate, List.length_append]; omega))⟩, ?_⟩
                  rw [show splice (A.map boolA) t [AV.v (.bool true)] = (A.set t true).map boolA from splice_one (f := boolA) (x := true) (by first | omega | (simp only [List.length_map, List.length_set, List.length_cons, List.length_nil, List.length_replicate, List.length_append]; omega))]
                  (repeat ((conv=>whnf);first|refine ω0 ?_|refine ω1 ?_|refine ω2 ?_|refine ω3 ?_|refine ω4 rfl ?_|refine ω5 rfl ?_|refine ω6 ?_|refine ω7 ?_|refine ω8 ?_|refine ⟨rfl,?_⟩|refine ⟨trivial,?_⟩|refine ⟨⟨rfl,Nat.le_of_ble_eq_true rfl⟩,?_⟩|refine ⟨⟨by kernel_rfl,by kernel_rfl⟩,?_⟩|refine ⟨by decide,?_⟩|refine lit_true ?_|refine lit_false ?_))
                  exact back (j + 1, _) (by first | omega | (dsimp only at *; omega) | (simp; done) | (simp; omega)) (by first | omega | (dsimp only at *; omega) | (simp; done) | (simp; omega)) (ele_tell _ _ rfl rfl (List.Sublist.refl _) .slnil ⟨rfl, OwnLe.of_eq (by dsimp only; rw [hA2]), trivial⟩ trivial ⟨AVle.refl _, AVle.refl _, AVle.refl _, AVle.refl _, AVle.refl _, le_int (wrap_succ (by first | omega | (dsimp only at *; omega) | (simp; done) | (simp; omega))), trivial⟩)
            · have e3 : (((l.getD i ins0).k : Int) = z) := by
                have e3 := fct_b1.1 e3
                rw [← wk]; exact e3
              have hs : st i = true := by rw [hst, decide_eq_true e3, decide_eq_true (show isStore K by unfold isStore; omega)]; rfl
              (repeat ((conv=>whnf);first|refine ω0 ?_|refine ω1 ?_|refine ω2 ?_|refine ω3 ?_|refine ω4 rfl ?_|refine ω5 rfl ?_|refine ω6 ?_|refine ω7 ?_|refine ω8 ?_|refine ⟨rfl,?_⟩|refine ⟨trivial,?_⟩|refine ⟨⟨rfl,Nat.le_of_ble_eq_true rfl⟩,?_⟩|refine ⟨⟨by kernel_rfl,by kernel_rfl⟩,?_⟩|refine ⟨by decide,?_⟩|refine lit_true ?_|refine lit_false ?_))
              exact back (i + 1, _) (by first | omega | (dsimp only at *; omega) | (simp; done) | (simp; omega)) (by first | omega | (dsimp only at *; omega) | (simp; done) | (simp; omega)) (ele_tell _ _ rfl rfl (List.Sublist.refl _) .slnil ⟨rfl, OwnLe.of_eq (by dsimp only; rw [hsame (.inr hs)]), trivial⟩ trivial ⟨AVle.refl _, AVle.refl _, AVle.refl _, le_int (wrap_succ (by first | omega | (dsimp only at *; omega) | (simp; done) | (simp; omega))), trivial⟩)
        · have e1 := fct_b1.1 e1
          (repeat ((conv=>whnf);first|refine ω0 ?_|refine ω1 ?_|refine ω2 ?_|refine ω3 ?_|refine ω4 rfl ?_|refine ω5 rfl ?_|refine ω6 ?_|refine ω7 ?_|refine ω8 ?_|refine ⟨rfl,?_⟩|refine ⟨trivial,?_⟩|refine ⟨⟨rfl,Nat.le_of_ble_eq_true rfl⟩,?_⟩|refine ⟨⟨by kernel_rfl,by kernel_rfl⟩,?_⟩|refine ⟨by decide,?_⟩|refine lit_true ?_|refine lit_false ?_))
          refine ⟨⟨by first | omega | (dsimp only; omega), by first | omega | (dsimp only; omega)⟩, ?_⟩
          (repeat ((conv=>whnf);first|refine ω0 ?_|refine ω1 ?_|refine ω2 ?_|refine ω3 ?_|refine ω4 rfl ?_|refine ω5 rfl ?_|refine ω6 ?_|refine ω7 ?_|refine ω8 ?_|refine ⟨rfl,?_⟩|refine ⟨trivial,?_⟩|refine ⟨⟨rfl,Nat.le_of_ble_eq_true rfl⟩,?_⟩|refine ⟨⟨by kernel_rfl,by kernel_rfl⟩,?_⟩|refine ⟨by decide,?_⟩|refine lit_true ?_|refine lit_false ?_))
          intro c e3; cases c
          · have e3 : ¬ (((l.getD i ins0).k : Int) = z) := by
              have e3 := fct_b0.1 e3
              rw [← wk]; exact e3
            have hs : st i = false := by rw [hst, decide_eq_false e3, Bool.and_false]
            have hgo := hgoes hb hs
            (repeat ((conv=>whnf);first|refine ω0 ?_|refine ω1 ?_|refine ω2 ?_|refine ω3 ?_|refine ω4 rfl ?_|refine ω5 rfl ?_|refine ω6 ?_|refine ω7 ?_|refine ω8 ?_|refine ⟨rfl,?_⟩|refine ⟨trivial,?_⟩|refine ⟨⟨rfl,Nat.le_of_ble_eq_true rfl⟩,?_⟩|refine ⟨⟨by kernel_rfl,by kernel_rfl⟩,?_⟩|refine ⟨by decide,?_⟩|refine lit_true ?_|refine lit_false ?_))
            refine aop_tells rfl rfl (nextR_spec l hok hf i hi) ⟨AVle.refl _, AVle.refl _, trivial⟩ fun nx5 => ?_
            have hts : (nextsI l i).length ≤ 2 := by unfold nextsI; (repeat' split) <;> simp
            generalize nextsI l i = ts at *
            have hmem : ∀ j, j < ts.length → ts.getD j 0 < l.length := fun j hj => (hnx _ (by simp [List.getD, hj])).2
            (repeat ((conv=>whnf);first|refine ω0 ?_|refine ω1 ?_|refine ω2 ?_|refine ω3 ?_|refine ω4 rfl ?_|refine ω5 rfl ?_|refine ω6 ?_|refine ω7 ?_|refine ω8 ?_|refine ⟨rfl,?_⟩|refine ⟨trivial,?_⟩|refine ⟨⟨rfl,Nat.le_of_ble_eq_true rfl⟩,?_⟩|refine ⟨⟨by kernel_rfl,by kernel_rfl⟩,?_⟩|refine ⟨by decide,?_⟩|refine lit_true ?_|refine lit_false ?_))
            refine aw_loop (fun s : Nat × Nat => mk 70 [(0, inss l), (1, int z), (5, .hs (0, nx) 0 l.length l.length), (6, int i), (9, ints ts), (10, int s.1)] ⟨[((0, nx), .c (((ts.take s.1).foldl setT o).map boolA))], [], s.2, 1⟩) (fun s => s.1 ≤ ts.length) (fun s => ts.length - s.1) ?_ ?_
            · exact ⟨(0, nx5), Nat.zero_le _, ele_tell _ _ rfl rfl (List.Sublist.refl _) .slnil ⟨rfl, OwnLe.refl _, trivial⟩ trivial ⟨AVle.refl _, AVle.refl _, AVle.refl _, AVle.refl _, AVle.refl _, AVle.refl _, trivial⟩⟩
            · rintro ⟨j, nx6⟩ k1
              dsimp only at k1
              (repeat ((conv=>whnf);first|refine ω0 ?_|refine ω1 ?_|refine ω2 ?_|refine ω3 ?_|refine ω4 rfl ?_|refine ω5 rfl ?_|refine ω6 ?_|refine ω7 ?_|refine ω8 ?_|refine ⟨rfl,?_⟩|refine ⟨trivial,?_⟩|refine ⟨⟨rfl,Nat.le_of_ble_eq_true rfl⟩,?_⟩|refine ⟨⟨by kernel_rfl,by kernel_rfl⟩,?_⟩|refine ⟨by decide,?_⟩|refine lit_true ?_|refine lit_false ?_))
              intro c g3; cases c
              · have g3 := not_of g3
                dsimp only at g3
                have hj : ts.take j = ts := List.take_of_length_le (by omega)
                (repeat ((conv=>whnf);first|refine ω0 ?_|refine ω1 ?_|refine ω2 ?_|refine ω3 ?_|refine ω4 rfl ?_|refine ω5 rfl ?_|refine ω6 ?_|refine ω7 ?_|refine ω8 ?_|refine ⟨rfl,?_⟩|refine ⟨trivial,?_⟩|refine ⟨⟨rfl,Nat.le_of_ble_eq_true rfl⟩,?_⟩|refine ⟨⟨by kernel_rfl,by kernel_rfl⟩,?_⟩|refine ⟨by decide,?_⟩|refine lit_true ?_|refine lit_false ?_))
                exact back (i + 1, _) (by first | omega | (dsimp only at *; omega) | (simp; done) | (simp; omega)) (by first | omega | (dsimp only at *; omega) | (simp; done) | (simp; omega)) (ele_tell _ _ rfl rfl (List.Sublist.refl _) .slnil ⟨rfl, OwnLe.of_eq (by dsimp only; rw [hj, hgo]), trivial⟩ trivial ⟨AVle.refl _, AVle.refl _, AVle.refl _, le_int (wrap_succ (by first | omega | (dsimp only at *; omega) | (simp; done) | (simp; omega))), trivial⟩)
              · have g3 := yes_of g3
                dsimp only at g3
                have hj : j < ts.length := by omega
                have ht := hmem j hj
                have hAl : ((ts.take j).foldl setT o).length = l.length := by rw [foldT_length]; exact hlen
                have hA2 : (ts.take (j + 1)).foldl setT o = ((ts.take j).foldl setT o).set (ts.getD j 0) true := by rw [take_getD 0 hj, List.foldl_append]; rfl
                generalize (ts.take j).foldl setT o = A at *
                generalize hT : ts.getD j 0 = t at ht hA2
                (repeat ((conv=>whnf);first|refine ω0 ?_|refine ω1 ?_|refine ω2 ?_|refine ω3 ?_|refine ω4 rfl ?_|refine ω5 rfl ?_|refine ω6 ?_|refine ω7 ?_|refine ω8 ?_|refine ⟨rfl,?_⟩|refine ⟨trivial,?_⟩|refine ⟨⟨rfl,Nat.le_of_ble_eq_true rfl⟩,?_⟩|refine ⟨⟨by kernel_rfl,by kernel_rfl⟩,?_⟩|refine ⟨by decide,?_⟩|refine lit_true ?_|refine lit_false ?_))
                refine ⟨⟨by first | omega | (dsimp only; omega), by first | omega | (dsimp only; omega)⟩, ?_⟩
                (repeat ((conv=>whnf);first|refine ω0 ?_|refine ω1 ?_|refine ω2 ?_|refine ω3 ?_|refine ω4 rfl ?_|refine ω5 rfl ?_|refine ω6 ?_|refine ω7 ?_|refine ω8 ?_|refine ⟨rfl,?_⟩|refine ⟨trivial,?_⟩|refine ⟨⟨rfl,Nat.le_of_ble_eq_true rfl⟩,?_⟩|refine ⟨⟨by kernel_rfl,by kernel_rfl⟩,?_⟩|refine ⟨by decide,?_⟩|refine lit_true ?_|refine lit_false ?_))
                (refine ⟨⟨?_, ?_⟩, splitO_eq (b := .bp (0, nx) t) (congrArg (AV.bp (0, nx)) ?_) ?_⟩)
                · exact Int.natCast_nonneg _
                · show ((ts.getD j 0 : Nat) : Int) < _; rw [hT]; omega
                · rw [c4]; show 0 + ts.getD j 0 * 1 = t; omega
                (conv => whnf)
                refine ⟨⟨rfl, (by first | omega | (simp only [List.length_map, List.length_set, List.length_cons, List.length_nil, List.length_replicate, List.length_append]; omega))⟩, ?_⟩
                rw [show splice (A.map boolA) t [AV.v (.bool true)] = (A.set t true).map boolA from splice_one (f := boolA) (x := true) (by first | omega | (simp only [List.length_map, List.length_set, List.length_cons, List.length_nil, List.length_replicate, List.length_append]; omega))]
                (repeat ((conv=>whnf);first|refine ω0 ?_|refine ω1 ?_|refine ω2 ?_|refine ω3 ?_|refine ω4 rfl ?_|refine ω5 rfl ?_|refine ω6 ?_|refine ω7 ?_|refine ω8 ?_|refine ⟨rfl,?_⟩|refine ⟨trivial,?_⟩|refine ⟨⟨rfl,Nat.le_of_ble_eq_true rfl⟩,?_⟩|refine ⟨⟨by kernel_rfl,by kernel_rfl⟩,?_⟩|refine ⟨by decide,?_⟩|refine lit_true ?_|refine lit_false ?_))
                exact back (j + 1, _) (by first | omega | (dsimp only at *; omega) | (simp; done) | (simp; omega)) (by first | omega | (dsimp only at *; omega) | (simp; done) | (simp; omega)) (ele_tell _ _ rfl rfl (List.Sublist.refl _) .slnil ⟨rfl, OwnLe.of_eq (by dsimp only; rw [hA2]), trivial⟩ trivial ⟨AVle.refl _, AVle.refl _, AVle.refl _, AVle.refl _, AVle.refl _, le_int (wrap_succ (by first | omega | (dsimp only at *; omega) | (simp; done) | (simp; omega))), trivial⟩)
          · have e3 : (((l.getD i ins0).k : Int) = z) := by
              have e3 := fct_b1.1 e3
              rw [← wk]; exact e3
            have hs : st i = true := by rw [hst, decide_eq_true e3, decide_eq_true (show isStore K by unfold isStore; omega)]; rfl
            (repeat ((conv=>whnf);first|refine ω0 ?_|refine ω1 ?_|refine ω2 ?_|refine ω3 ?_|refine ω4 rfl ?_|refine ω5 rfl ?_|refine ω6 ?_|refine ω7 ?_|refine ω8 ?_|refine ⟨rfl,?_⟩|refine ⟨trivial,?_⟩|refine ⟨⟨rfl,Nat.le_of_ble_eq_true rfl⟩,?_⟩|refine ⟨⟨by kernel_rfl,by kernel_rfl⟩,?_⟩|refine ⟨by decide,?_⟩|refine lit_true ?_|refine lit_false ?_))
            exact back (i + 1, _) (by first | omega | (dsimp only at *; omega) | (simp; done) | (simp; omega)) (by first | omega | (dsimp only at *; omega) | (simp; done) | (simp; omega)) (ele_tell _ _ rfl rfl (List.Sublist.refl _) .slnil ⟨rfl, OwnLe.of_eq (by dsimp only; rw [hsame (.inr hs)]), trivial⟩ trivial ⟨AVle.refl _, AVle.refl _, AVle.refl _, le_int (wrap_succ (by first | omega | (dsimp only at *; omega) | (simp; done) | (simp; omega))), trivial⟩)
end Go.Proofs.W

namespace Go.Proofs.W
open Go.Vl
set_option maxRecDepth 100000

/-- The bits of the first k cells that are stored on every way to n. -/
def bitR (l : List Ins) : Nat → Nat → Nat
  | 0, _ => 0
  | k + 1, n => if (reachC l (stopC l k)).getD n false then bitR l k n else bitR l k n ||| 2 ^ k
theorem bitR_test (l : List Ins) (n c : Nat) : ∀ k, (bitR l k n).testBit c = (decide (c < k) && !(reachC l (stopC l c)).getD n false)
  | 0 => by simp [bitR]
  | k + 1 => by
    unfold bitR
    by_cases hc : c = k
    · subst hc
      split
      · rename_i h
        rw [bitR_test l n c c, h]; simp
      · rename_i h
        rw [Bool.not_eq_true] at h
        rw [Nat.testBit_or, Nat.testBit_two_pow_self, bitR_test l n c c, h]
        simp
    · have hd : decide (c < k + 1) = decide (c < k) := decide_eq_decide.2 (by omega)
      rw [hd]
      split
      · exact bitR_test l n c k
      · rw [Nat.testBit_or, Nat.testBit_two_pow_of_ne (Ne.symm hc), Bool.or_false]
        exact bitR_test l n c k
theorem bitR_lt (l : List Ins) (n : Nat) : ∀ k, bitR l k n < 2 ^ k
  | 0 => by simp [bitR]
  | k + 1 => by
    have h := bitR_lt l n k
    have h2 : (2 : Nat) ^ k < 2 ^ (k + 1) := Nat.pow_lt_pow_right (by decide) (by omega)
    unfold bitR
    split
    · omega
    · exact Nat.or_lt_two_pow (by omega) h2
theorem bitR_eq {l : List Ins} (hf : Formed l) {n : Nat} (hn : n < l.length) : bitR l 16 n = (storedI l).getD n 0 := by
  refine Nat.eq_of_testBit_eq fun c => ?_
  rw [bitR_test]
  rcases Nat.lt_or_ge c 16 with hc | hc
  · rw [decide_eq_true hc, Bool.true_and]
    have h1 := stored_bit hf hc hn
    have h2 := reachC_iff hf (stopC l c) n
    cases hb : (reachC l (stopC l c)).getD n false
    · exact (h1.2 fun h => by rw [h2.2 h] at hb; cases hb).symm
    · cases ht : ((storedI l).getD n 0).testBit c
      · rfl
      · exact absurd (h2.1 hb) (h1.1 ht)
  · rw [decide_eq_false (by omega), Bool.false_and]
    have h1 := storedI_small hf n
    exact (Nat.testBit_lt_two_pow (Nat.lt_of_lt_of_le h1 (Nat.pow_le_pow_right (by decide) hc : 2 ^ 16 ≤ 2 ^ c))).symm
def mixR (l : List Ins) (k j : Nat) : List Nat := (List.range l.length).map fun n => if n < j then bitR l (k + 1) n else bitR l k n
theorem mixR_length (l : List Ins) (k j : Nat) : (mixR l k j).length = l.length := by simp [mixR]
theorem mixR_get {l : List Ins} {k j n : Nat} (hn : n < l.length) : (mixR l k j).getD n 0 = if n < j then bitR l (k + 1) n else bitR l k n := by
  simp [mixR, List.getD, hn]
theorem mixR_full (l : List Ins) (k : Nat) : mixR l k l.length = mixR l (k + 1) 0 := by
  refine List.map_congr_left fun n hn => ?_
  rw [if_pos (List.mem_range.1 hn), if_neg (by omega)]
theorem ext_getD {α : Type} {a b : List α} (d : α) (h : a.length = b.length) (hh : ∀ n, n < a.length → a.getD n d = b.getD n d) : a = b := by
  refine List.ext_getElem h fun n h1 h2 => ?_
  have := hh n h1
  simpa [List.getD, h1, h2] using this
theorem mixR_set {l : List Ins} {k j : Nat} (hj : j < l.length) : mixR l k (j + 1) = (mixR l k j).set j (bitR l (k + 1) j) := by
  refine ext_getD 0 (by rw [List.length_set, mixR_length, mixR_length]) fun n hn => ?_
  rw [mixR_length] at hn
  rw [getDL_set, mixR_get hn, mixR_get hn, mixR_length]
  by_cases h : j = n
  · subst h; rw [if_pos (show j < j + 1 by omega), if_pos ⟨rfl, hn⟩]
  · by_cases h3 : n < j
    · rw [if_pos (show n < j + 1 by omega), if_neg (fun h2 : j = n ∧ j < l.length => h h2.1), if_pos h3]
    · rw [if_neg (show ¬ n < j + 1 by omega), if_neg (fun h2 : j = n ∧ j < l.length => h h2.1), if_neg h3]
theorem mixR_same {l : List Ins} {k j : Nat} (hj : j < l.length) (h : (reachC l (stopC l k)).getD j false = true) : mixR l k (j + 1) = mixR l k j := by
  refine ext_getD 0 (by rw [mixR_length, mixR_length]) fun n hn => ?_
  rw [mixR_length] at hn
  rw [mixR_get hn, mixR_get hn]
  by_cases h2 : n = j
  · subst h2
    rw [if_pos (by omega), if_neg (by omega), bitR, if_pos h]
  · by_cases h3 : n < j
    · rw [if_pos h3, if_pos (by omega)]
    · rw [if_neg h3, if_neg (by omega)]
theorem mixR_done {l : List Ins} (hf : Formed l) : mixR l 16 0 = storedI l := by
  refine ext_getD 0 (by rw [mixR_length, storedI_length hf]) fun n h1 => ?_
  rw [mixR_length] at h1
  rw [mixR_get h1, if_neg (by omega), bitR_eq hf h1]
theorem mixR_zero (l : List Ins) : mixR l 0 0 = List.replicate l.length 0 := by
  refine ext_getD 0 (by simp [mixR_length]) fun n h1 => ?_
  rw [mixR_length] at h1
  rw [mixR_get h1, if_neg (by omega)]
  simp [bitR, List.getD, h1]
theorem frz_u16 {bs : List (Nat × Own)} {s0 : Nat} {o : List Nat} {n : Nat} (hn : o.length = n) (hm : (s0, .c (o.map uA)) ∈ bs) : Frz bs (.hs (0, s0) 0 n n) (u16s o) := by
  subst hn
  refine Frz.hs1 (cs := o.map uA) hm (Nat.le_refl _) (by rw [List.length_map]; exact Nat.le_refl _) (fun _ _ => rfl) fun k hk => ?_
  rw [List.getElem?_map, List.getElem?_eq_getElem hk]
  simp [List.getD, hk]
  rfl
theorem shl16 {k : Nat} (hk : k < 16) : IntKind.u16.wrap (1 * 2 ^ min (Int.toNat (k : Int)) IntKind.u16.bits) = ((2 ^ k : Nat) : Int) := by
  revert k; decide
theorem u16_or {a b : Nat} (ha : a < 65536) (hb : b < 65536) : bitsI .or .u16 a b = ((a ||| b : Nat) : Int) := by
  have hx : a ||| b < 2 ^ 16 := Nat.or_lt_two_pow (n := 16) ha hb
  refine bits_or (k := .u16) ha hb ?_
  show ((a ||| b : Nat) : Int) % 65536 = _
  omega
set_option maxHeartbeats 1000000 in
theorem storedR_spec (l : List Ins) (hok : okL l) (hf : Formed l) : Tells Try.prog 61 [inss l] (u16s (storedI l)) := by
  have hle := hf.le
  have hpos := hf.pos
  refine tells_of_aw Try.func61 rfl rfl fun nx => ?_
  (repeat ((conv=>whnf);first|refine ω0 ?_|refine ω1 ?_|refine ω2 ?_|refine ω3 ?_|refine ω4 rfl ?_|refine ω5 rfl ?_|refine ω6 ?_|refine ω7 ?_|refine ω8 ?_|refine ⟨rfl,?_⟩|refine ⟨trivial,?_⟩|refine ⟨⟨rfl,Nat.le_of_ble_eq_true rfl⟩,?_⟩|refine ⟨⟨by kernel_rfl,by kernel_rfl⟩,?_⟩|refine ⟨by decide,?_⟩|refine lit_true ?_|refine lit_false ?_))
  (conv => whnf)
  refine ⟨by omega, by omega, by rw [b49]; omega, by omega, ?_⟩
  (repeat ((conv=>whnf);first|refine ω0 ?_|refine ω2 ?_|refine ω3 ?_|refine ω4 rfl ?_|refine ω5 rfl ?_|refine ω6 ?_|refine ω7 ?_|refine ω8 ?_|refine ⟨rfl,?_⟩|refine ⟨trivial,?_⟩|refine ⟨⟨rfl,Nat.le_of_ble_eq_true rfl⟩,?_⟩|refine ⟨⟨by kernel_rfl,by kernel_rfl⟩,?_⟩|refine ⟨by decide,?_⟩|refine lit_true ?_|refine lit_false ?_))
  refine AW.le (E' := mk 37 [(0, inss l), (3, .hs (0, nx) 0 l.length l.length)] ⟨[((0, nx), .c ((mixR l 0 0).map uA))], [], nx + 1, 1⟩) (by
    refine ele_tell _ _ rfl rfl (List.Sublist.refl _) .slnil ⟨rfl, OwnLe.of_eq ?_, trivial⟩ trivial ⟨AVle.refl _, AVle.refl _, trivial⟩
    rw [mixR_zero, List.map_replicate]; rfl) ?_
  (repeat ((conv=>whnf);first|refine ω0 ?_|refine ω1 ?_|refine ω2 ?_|refine ω3 ?_|refine ω4 rfl ?_|refine ω5 rfl ?_|refine ω6 ?_|refine ω7 ?_|refine ω8 ?_|refine ⟨rfl,?_⟩|refine ⟨trivial,?_⟩|refine ⟨⟨rfl,Nat.le_of_ble_eq_true rfl⟩,?_⟩|refine ⟨⟨by kernel_rfl,by kernel_rfl⟩,?_⟩|refine ⟨by decide,?_⟩|refine lit_true ?_|refine lit_false ?_))
  refine aw_loop (fun s : Nat × Nat => mk 37 [(0, inss l), (3, .hs (0, nx) 0 l.length l.length), (4, int s.1)] ⟨[((0, nx), .c ((mixR l s.1 0).map uA))], [], s.2, 1⟩) (fun s => s.1 ≤ 16) (fun s => 16 - s.1) ?_ ?_
  · exact ⟨(0, nx + 1), Nat.zero_le _, ele_tell _ _ rfl rfl (List.Sublist.refl _) .slnil ⟨rfl, OwnLe.refl _, trivial⟩ trivial ⟨AVle.refl _, AVle.refl _, AVle.refl _, trivial⟩⟩
  · rintro ⟨k, nx'⟩ h1
    dsimp only at h1
    (repeat ((conv=>whnf);first|refine ω0 ?_|refine ω1 ?_|refine ω2 ?_|refine ω3 ?_|refine ω4 rfl ?_|refine ω5 rfl ?_|refine ω6 ?_|refine ω7 ?_|refine ω8 ?_|refine ⟨rfl,?_⟩|refine ⟨trivial,?_⟩|refine ⟨⟨rfl,Nat.le_of_ble_eq_true rfl⟩,?_⟩|refine ⟨⟨by kernel_rfl,by kernel_rfl⟩,?_⟩|refine ⟨by decide,?_⟩|refine lit_true ?_|refine lit_false ?_))
    intro c g2; cases c
    · have g2 := not_of g2
      dsimp only at g2
      obtain rfl : k = 16 := by omega
      (repeat ((conv=>whnf);first|refine ω0 ?_|refine ω1 ?_|refine ω2 ?_|refine ω3 ?_|refine ω4 rfl ?_|refine ω5 rfl ?_|refine ω6 ?_|refine ω7 ?_|refine ⟨rfl,?_⟩|refine ⟨trivial,?_⟩|refine ⟨⟨rfl,Nat.le_of_ble_eq_true rfl⟩,?_⟩|refine ⟨⟨by kernel_rfl,by kernel_rfl⟩,?_⟩|refine ⟨by decide,?_⟩|refine lit_true ?_|refine lit_false ?_))
      refine AW.le (ele_freeze (L := [(2, u16s (storedI l))]) (bx := []) (pm := []) (nn := 0) [((0, nx), .c ((mixR l 16 0).map uA))] rfl rfl (List.Sublist.refl _) .slnil ⟨?_, trivial⟩) ?_
      · have := frz_u16 (bs := [(nx, .c ((mixR l 16 0).map uA))]) (mixR_length l 16 0) (List.mem_cons_self ..)
        rw [mixR_done hf] at this ⊢
        exact this
      (repeat ((conv=>whnf);first|refine ω0 ?_|refine ω1 ?_|refine ω2 ?_|refine ω3 ?_|refine ω4 rfl ?_|refine ω5 rfl ?_|refine ω6 ?_|refine ω7 ?_|refine ω8 ?_|refine ⟨rfl,?_⟩|refine ⟨trivial,?_⟩|refine ⟨⟨rfl,Nat.le_of_ble_eq_true rfl⟩,?_⟩|refine ⟨⟨by kernel_rfl,by kernel_rfl⟩,?_⟩|refine ⟨by decide,?_⟩|refine lit_true ?_|refine lit_false ?_))
      exact ret_tells rfl (AVle.refl _)
    · have g2 := yes_of g2
      dsimp only at g2
      have hk : k < 16 := by omega
      have hre := reachedR_spec l hok hf (k : Int)
      rw [stopZ_nat] at hre
      have hwl := reachC_length l (stopC l k)
      (repeat ((conv=>whnf);first|refine ω0 ?_|refine ω1 ?_|refine ω2 ?_|refine ω3 ?_|refine ω4 rfl ?_|refine ω5 rfl ?_|refine ω6 ?_|refine ω7 ?_|refine ω8 ?_|refine ⟨rfl,?_⟩|refine ⟨trivial,?_⟩|refine ⟨⟨rfl,Nat.le_of_ble_eq_true rfl⟩,?_⟩|refine ⟨⟨by kernel_rfl,by kernel_rfl⟩,?_⟩|refine ⟨by decide,?_⟩|refine lit_true ?_|refine lit_false ?_))
      refine aop_tells rfl rfl hre ⟨AVle.refl _, AVle.refl _, trivial⟩ fun nx3 => ?_
      (repeat ((conv=>whnf);first|refine ω0 ?_|refine ω1 ?_|refine ω2 ?_|refine ω3 ?_|refine ω4 rfl ?_|refine ω5 rfl ?_|refine ω6 ?_|refine ω7 ?_|refine ω8 ?_|refine ⟨rfl,?_⟩|refine ⟨trivial,?_⟩|refine ⟨⟨rfl,Nat.le_of_ble_eq_true rfl⟩,?_⟩|refine ⟨⟨by kernel_rfl,by kernel_rfl⟩,?_⟩|refine ⟨by decide,?_⟩|refine lit_true ?_|refine lit_false ?_))
      refine aw_loop (fun s : Nat × Nat => mk 37 [(0, inss l), (3, .hs (0, nx) 0 l.length l.length), (4, int k), (5, bools (reachC l (stopC l k))), (6, int s.1)] ⟨[((0, nx), .c ((mixR l k s.1).map uA))], [], s.2, 1⟩) (fun s => s.1 ≤ l.length) (fun s => l.length - s.1) ?_ ?_
      · exact ⟨(0, nx3), Nat.zero_le _, ele_tell _ _ rfl rfl (List.Sublist.refl _) .slnil ⟨rfl, OwnLe.refl _, trivial⟩ trivial ⟨AVle.refl _, AVle.refl _, AVle.refl _, AVle.refl _, AVle.refl _, trivial⟩⟩
      · rintro ⟨j, nx6⟩ k1
        dsimp only at k1
        (repeat ((conv=>whnf);first|refine ω0 ?_|refine ω1 ?_|refine ω2 ?_|refine ω3 ?_|refine ω4 rfl ?_|refine ω5 rfl ?_|refine ω6 ?_|refine ω7 ?_|refine ω8 ?_|refine ⟨rfl,?_⟩|refine ⟨trivial,?_⟩|refine ⟨⟨rfl,Nat.le_of_ble_eq_true rfl⟩,?_⟩|refine ⟨⟨by kernel_rfl,by kernel_rfl⟩,?_⟩|refine ⟨by decide,?_⟩|refine lit_true ?_|refine lit_false ?_))
        intro c g3; cases c
        · have g3 := not_of g3
          dsimp only at g3
          obtain rfl : j = l.length := by omega
          (repeat ((conv=>whnf);first|refine ω0 ?_|refine ω1 ?_|refine ω2 ?_|refine ω3 ?_|refine ω4 rfl ?_|refine ω5 rfl ?_|refine ω6 ?_|refine ω7 ?_|refine ω8 ?_|refine ⟨rfl,?_⟩|refine ⟨trivial,?_⟩|refine ⟨⟨rfl,Nat.le_of_ble_eq_true rfl⟩,?_⟩|refine ⟨⟨by kernel_rfl,by kernel_rfl⟩,?_⟩|refine ⟨by decide,?_⟩|refine lit_true ?_|refine lit_false ?_))
          exact back (k + 1, _) (by first | omega | (dsimp only at *; omega) | (simp; done) | (simp; omega)) (by first | omega | (dsimp only at *; omega) | (simp; done) | (simp; omega)) (ele_tell _ _ rfl rfl (List.Sublist.refl _) .slnil ⟨rfl, OwnLe.of_eq (by dsimp only; rw [mixR_full]), trivial⟩ trivial ⟨AVle.refl _, AVle.refl _, le_int (wrap_succ (by first | omega | (dsimp only at *; omega) | (simp; done) | (simp; omega))), trivial⟩)
        · have g3 := yes_of g3
          dsimp only at g3
          have hj : j < l.length := by omega
          have hsame := mixR_same (k := k) hj
          have hset := mixR_set (k := k) hj
          have hget : (mixR l k j).getD j 0 = bitR l k j := by rw [mixR_get hj, if_neg (by omega)]
          have hlt : bitR l k j < 65536 := Nat.lt_of_lt_of_le (bitR_lt l j k) (by have := Nat.pow_le_pow_right (n := 2) (by decide) (show k ≤ 16 by omega); omega)
          have hml := mixR_length l k j
          have hgo : (reachC l (stopC l k)).getD j false = false → bitR l (k + 1) j = bitR l k j ||| 2 ^ k := fun h => by rw [bitR, h]; rfl
          have h2k : 2 ^ k < 65536 := by have := Nat.pow_lt_pow_right (a := 2) (by decide) hk; omega
          generalize reachC l (stopC l k) = w at *
          (repeat ((conv=>whnf);first|refine ω0 ?_|refine ω1 ?_|refine ω2 ?_|refine ω3 ?_|refine ω4 rfl ?_|refine ω5 rfl ?_|refine ω6 ?_|refine ω7 ?_|refine ω8 ?_|refine ⟨rfl,?_⟩|refine ⟨trivial,?_⟩|refine ⟨⟨rfl,Nat.le_of_ble_eq_true rfl⟩,?_⟩|refine ⟨⟨by kernel_rfl,by kernel_rfl⟩,?_⟩|refine ⟨by decide,?_⟩|refine lit_true ?_|refine lit_false ?_))
          refine ⟨⟨by first | omega | (dsimp only; omega), by first | omega | (dsimp only; omega)⟩, ?_⟩
          (repeat ((conv=>whnf);first|refine ω0 ?_|refine ω1 ?_|refine ω2 ?_|refine ω3 ?_|refine ω4 rfl ?_|refine ω5 rfl ?_|refine ω6 ?_|refine ω7 ?_|refine ω8 ?_|refine ⟨rfl,?_⟩|refine ⟨trivial,?_⟩|refine ⟨⟨rfl,Nat.le_of_ble_eq_true rfl⟩,?_⟩|refine ⟨⟨by kernel_rfl,by kernel_rfl⟩,?_⟩|refine ⟨by decide,?_⟩|refine lit_true ?_|refine lit_false ?_))
          intro b hb
          cases b
          · have hgo := hgo hb.symm
            (repeat ((conv=>whnf);first|refine ω0 ?_|refine ω1 ?_|refine ω2 ?_|refine ω3 ?_|refine ω4 rfl ?_|refine ω5 rfl ?_|refine ω6 ?_|refine ω7 ?_|refine ω8 ?_|refine ⟨rfl,?_⟩|refine ⟨trivial,?_⟩|refine ⟨⟨rfl,Nat.le_of_ble_eq_true rfl⟩,?_⟩|refine ⟨⟨by kernel_rfl,by kernel_rfl⟩,?_⟩|refine ⟨by decide,?_⟩|refine lit_true ?_|refine lit_false ?_))
            (refine aw_draw 7 ?_ ?_ ?_ ?_; (· kernel_rfl); (· kernel_rfl); (· kernel_rfl))
            (repeat ((conv=>whnf);first|refine ω0 ?_|refine ω1 ?_|refine ω2 ?_|refine ω3 ?_|refine ω4 rfl ?_|refine ω5 rfl ?_|refine ω6 ?_|refine ω7 ?_|refine ω8 ?_|refine ⟨rfl,?_⟩|refine ⟨trivial,?_⟩|refine ⟨⟨rfl,Nat.le_of_ble_eq_true rfl⟩,?_⟩|refine ⟨⟨by kernel_rfl,by kernel_rfl⟩,?_⟩|refine ⟨by decide,?_⟩|refine lit_true ?_|refine lit_false ?_))
            (refine ⟨⟨by first | omega | (dsimp only; omega), by first | omega | (dsimp only; omega)⟩, splitO_eq (b := .bp (0, nx) (j)) (congrArg (AV.bp (0, nx)) (ix1 c49)) ?_⟩; (conv => whnf); refine ⟨⟨rfl, (by first | omega | (simp only [List.length_map, List.length_set, List.length_cons, List.length_nil, List.length_replicate, List.length_append]; omega))⟩, splitO_eq (b := uA ((mixR l k j).getD (j) 0)) (getD_map (by first | omega | (simp only [List.length_map, List.length_set, List.length_cons, List.length_nil, List.length_replicate, List.length_append]; omega))) ?_⟩)
            (repeat ((conv=>whnf);first|refine ω0 ?_|refine ω1 ?_|refine ω2 ?_|refine ω3 ?_|refine ω4 rfl ?_|refine ω5 rfl ?_|refine ω6 ?_|refine ω7 ?_|refine ω8 ?_|refine ⟨rfl,?_⟩|refine ⟨trivial,?_⟩|refine ⟨⟨rfl,Nat.le_of_ble_eq_true rfl⟩,?_⟩|refine ⟨⟨by kernel_rfl,by kernel_rfl⟩,?_⟩|refine ⟨by decide,?_⟩|refine lit_true ?_|refine lit_false ?_))
            refine ⟨by omega, splitO_eq (congrArg (fun x => AV.v (.int .u16 x)) (shl16 hk)) ?_⟩
            (conv => whnf)
            refine ⟨⟨by first | omega | (dsimp only; omega), by first | omega | (dsimp only; omega)⟩, splitO_eq (b := .bp (0, nx) j) (congrArg (AV.bp (0, nx)) (ix1 c49)) ?_⟩
            (conv => whnf)
            refine ⟨⟨rfl, (by first | omega | (simp only [List.length_map, List.length_set, List.length_cons, List.length_nil, List.length_replicate, List.length_append]; omega))⟩, ?_⟩
            rw [show (AV.v (.int .u16 (bitsI .or .u16 ((mixR l k j).getD j 0 : Nat) ((2 ^ k : Nat) : Int)))) = uA (bitR l (k + 1) j) by rw [hget, u16_or hlt h2k, ← hgo]; rfl]
            rw [show splice ((mixR l k j).map uA) j [uA (bitR l (k + 1) j)] = ((mixR l k j).set j (bitR l (k + 1) j)).map uA from splice_one (f := uA) (x := bitR l (k + 1) j) (by first | omega | (simp only [List.length_map, List.length_set, List.length_cons, List.length_nil, List.length_replicate, List.length_append]; omega)), ← hset]
            (repeat ((conv=>whnf);first|refine ω0 ?_|refine ω1 ?_|refine ω2 ?_|refine ω3 ?_|refine ω4 rfl ?_|refine ω5 rfl ?_|refine ω6 ?_|refine ω7 ?_|refine ω8 ?_|refine ⟨rfl,?_⟩|refine ⟨trivial,?_⟩|refine ⟨⟨rfl,Nat.le_of_ble_eq_true rfl⟩,?_⟩|refine ⟨⟨by kernel_rfl,by kernel_rfl⟩,?_⟩|refine ⟨by decide,?_⟩|refine lit_true ?_|refine lit_false ?_))
            exact back (j + 1, _) (by first | omega | (dsimp only at *; omega) | (simp; done) | (simp; omega)) (by first | omega | (dsimp only at *; omega) | (simp; done) | (simp; omega)) (ele_tell _ _ rfl rfl (List.Sublist.refl _) .slnil ⟨rfl, OwnLe.of_eq rfl, trivial⟩ trivial ⟨AVle.refl _, AVle.refl _, AVle.refl _, AVle.refl _, le_int (wrap_succ (by first | omega | (dsimp only at *; omega) | (simp; done) | (simp; omega))), trivial⟩)
          · (repeat ((conv=>whnf);first|refine ω0 ?_|refine ω1 ?_|refine ω2 ?_|refine ω3 ?_|refine ω4 rfl ?_|refine ω5 rfl ?_|refine ω6 ?_|refine ω7 ?_|refine ω8 ?_|refine ⟨rfl,?_⟩|refine ⟨trivial,?_⟩|refine ⟨⟨rfl,Nat.le_of_ble_eq_true rfl⟩,?_⟩|refine ⟨⟨by kernel_rfl,by kernel_rfl⟩,?_⟩|refine ⟨by decide,?_⟩|refine lit_true ?_|refine lit_false ?_))
            exact back (j + 1, _) (by first | omega | (dsimp only at *; omega) | (simp; done) | (simp; omega)) (by first | omega | (dsimp only at *; omega) | (simp; done) | (simp; omega)) (ele_tell _ _ rfl rfl (List.Sublist.refl _) .slnil ⟨rfl, OwnLe.of_eq (by dsimp only; rw [hsame hb.symm]), trivial⟩ trivial ⟨AVle.refl _, AVle.refl _, AVle.refl _, AVle.refl _, le_int (wrap_succ (by first | omega | (dsimp only at *; omega) | (simp; done) | (simp; omega))), trivial⟩)
end Go.Proofs.W

namespace Go.Proofs.W
open Go.Vl
set_option maxRecDepth 100000

theorem and_bit {s k : Nat} : s &&& 2 ^ k = 0 ↔ s / 2 ^ k % 2 = 0 := by
  have h2 := Nat.testBit_eq_decide_div_mod_eq (x := s) (i := k)
  cases h : s.testBit k
  · rw [h] at h2
    have h3 : ¬ (s / 2 ^ k % 2 = 1) := of_decide_eq_false h2.symm
    refine ⟨fun _ => by omega, fun _ => ?_⟩
    refine Nat.eq_of_testBit_eq fun j => ?_
    rw [Nat.testBit_and, Nat.testBit_two_pow, Nat.zero_testBit]
    by_cases hj : k = j
    · subst hj; rw [h]; simp
    · simp [hj]
  · rw [h] at h2
    have h3 : s / 2 ^ k % 2 = 1 := of_decide_eq_true h2.symm
    refine ⟨fun he => ?_, fun h4 => by omega⟩
    have h5 : (s &&& 2 ^ k).testBit k = true := by rw [Nat.testBit_and, Nat.testBit_two_pow_self, h]; rfl
    rw [he] at h5
    simp at h5
theorem checkR_spec (l : List Ins) (hok : okL l) (hl : l.length ≤ 1000000000) : Tells Try.prog 28 [inss l] (.tup [int (checkI l).1, int (checkI l).2]) := by
  refine tells_of_aw Try.func28 rfl rfl fun nx => ?_
  (repeat ((conv=>whnf);first|refine ω0 ?_|refine ω1 ?_|refine ω2 ?_|refine ω3 ?_|refine ω4 rfl ?_|refine ω5 rfl ?_|refine ω6 ?_|refine ω7 ?_|refine ω8 ?_|refine ⟨rfl,?_⟩|refine ⟨trivial,?_⟩|refine ⟨⟨rfl,Nat.le_of_ble_eq_true rfl⟩,?_⟩|refine ⟨⟨by kernel_rfl,by kernel_rfl⟩,?_⟩|refine ⟨by decide,?_⟩|refine lit_true ?_|refine lit_false ?_))
  refine aop_tells rfl rfl (formedR_spec l hok hl) ⟨AVle.refl _, trivial⟩ fun nx1 => ?_
  (repeat ((conv=>whnf);first|refine ω0 ?_|refine ω1 ?_|refine ω2 ?_|refine ω3 ?_|refine ω4 rfl ?_|refine ω5 rfl ?_|refine ω6 ?_|refine ω7 ?_|refine ω8 ?_|refine ⟨rfl,?_⟩|refine ⟨trivial,?_⟩|refine ⟨⟨rfl,Nat.le_of_ble_eq_true rfl⟩,?_⟩|refine ⟨⟨by kernel_rfl,by kernel_rfl⟩,?_⟩|refine ⟨by decide,?_⟩|refine lit_true ?_|refine lit_false ?_))
  intro c g1; cases c
  · have g1 := bne_no g1
    have hfz : (formedI l).2 = 0 := by omega
    have hf : Formed l := formed_of hfz
    have hle := hf.le
    have hsl := storedI_length hf
    have hss := storedI_small hf
    have hst := storedR_spec l hok hf
    (repeat ((conv=>whnf);first|refine ω0 ?_|refine ω1 ?_|refine ω2 ?_|refine ω3 ?_|refine ω4 rfl ?_|refine ω5 rfl ?_|refine ω6 ?_|refine ω7 ?_|refine ω8 ?_|refine ⟨rfl,?_⟩|refine ⟨trivial,?_⟩|refine ⟨⟨rfl,Nat.le_of_ble_eq_true rfl⟩,?_⟩|refine ⟨⟨by kernel_rfl,by kernel_rfl⟩,?_⟩|refine ⟨by decide,?_⟩|refine lit_true ?_|refine lit_false ?_))
    refine aop_tells rfl rfl hst ⟨AVle.refl _, trivial⟩ fun nx2 => ?_
    (repeat ((conv=>whnf);first|refine ω0 ?_|refine ω1 ?_|refine ω2 ?_|refine ω3 ?_|refine ω4 rfl ?_|refine ω5 rfl ?_|refine ω6 ?_|refine ω7 ?_|refine ω8 ?_|refine ⟨rfl,?_⟩|refine ⟨trivial,?_⟩|refine ⟨⟨rfl,Nat.le_of_ble_eq_true rfl⟩,?_⟩|refine ⟨⟨by kernel_rfl,by kernel_rfl⟩,?_⟩|refine ⟨by decide,?_⟩|refine lit_true ?_|refine lit_false ?_))
    refine aw_loop (fun s : Nat × Nat => mk 57 [(0, inss l), (6, u16s (storedI l)), (7, int s.1)] ⟨[], [], s.2, 0⟩) (fun s => s.1 ≤ l.length ∧ ∀ j, j < s.1 → ¬ ((kind l j = 3 ∨ kind l j = 6) ∧ (storedI l).getD j 0 / 2 ^ (l.getD j ins0).k % 2 = 0)) (fun s => l.length - s.1) ?_ ?_
    · exact ⟨(0, nx2), ⟨Nat.zero_le _, fun j hj => absurd hj (Nat.not_lt_zero _)⟩, ele_keep rfl rfl (List.nil_sublist _) (List.nil_sublist _) ⟨AVle.refl _, AVle.refl _, AVle.refl _, trivial⟩⟩
    · rintro ⟨i, nx'⟩ ⟨h3, h4⟩
      dsimp only at h3 h4
      (repeat ((conv=>whnf);first|refine ω0 ?_|refine ω1 ?_|refine ω2 ?_|refine ω3 ?_|refine ω4 rfl ?_|refine ω5 rfl ?_|refine ω6 ?_|refine ω7 ?_|refine ω8 ?_|refine ⟨rfl,?_⟩|refine ⟨trivial,?_⟩|refine ⟨⟨rfl,Nat.le_of_ble_eq_true rfl⟩,?_⟩|refine ⟨⟨by kernel_rfl,by kernel_rfl⟩,?_⟩|refine ⟨by decide,?_⟩|refine lit_true ?_|refine lit_false ?_))
      intro c g2; cases c
      · have h5 := not_of g2
        dsimp only at h5
        have : checkI l = (0, 0) := by
          unfold checkI
          rw [if_neg (by omega), find_range_none fun j hj => by rw [decide_eq_false_iff_not]; exact h4 j (by omega)]
        rw [this]
        (repeat ((conv=>whnf);first|refine ω0 ?_|refine ω1 ?_|refine ω2 ?_|refine ω3 ?_|refine ω4 rfl ?_|refine ω5 rfl ?_|refine ω6 ?_|refine ω7 ?_|refine ω8 ?_|refine ⟨rfl,?_⟩|refine ⟨trivial,?_⟩|refine ⟨⟨rfl,Nat.le_of_ble_eq_true rfl⟩,?_⟩|refine ⟨⟨by kernel_rfl,by kernel_rfl⟩,?_⟩|refine ⟨by decide,?_⟩|refine lit_true ?_|refine lit_false ?_))
        exact ret_tells rfl (AVle.refl _)
      · have h5 := yes_of g2
        dsimp only at h5
        have hi : i < l.length := by omega
        have hki : (l.getD i ins0).ok := hok.get hi
        have hof := refof_spec (l.getD i ins0).code hki.1
        have hkd : (kof (l.getD i ins0).code).1 = kind l i := rfl
        have hk16 : kind l i = 3 ∨ kind l i = 6 → (l.getD i ins0).k < 16 := fun h => by
          have := (wrong_parts (hf.ok i hi)).2.2.1
          omega
        have hfound : ((kind l i = 3 ∨ kind l i = 6) ∧ (storedI l).getD i 0 / 2 ^ (l.getD i ins0).k % 2 = 0) → checkI l = (i, 12) := fun h => by
          unfold checkI
          rw [if_neg (by omega), find_range_some hi (decide_eq_true h) (fun j hj => by rw [decide_eq_false_iff_not]; exact h4 j hj)]
        have hnext : ¬ ((kind l i = 3 ∨ kind l i = 6) ∧ (storedI l).getD i 0 / 2 ^ (l.getD i ins0).k % 2 = 0) → ∀ j, j < i + 1 → ¬ ((kind l j = 3 ∨ kind l j = 6) ∧ (storedI l).getD j 0 / 2 ^ (l.getD j ins0).k % 2 = 0) := fun h j hj => by
          rcases Nat.lt_or_ge j i with h' | h'
          · exact h4 j h'
          · obtain rfl : j = i := by omega
            exact h
        have hsx := hss i
        rw [hkd] at hof
        generalize kind l i = K at hof hk16 hfound hnext
        generalize (kof (l.getD i ins0).code).2 = x at hof
        (repeat ((conv=>whnf);first|refine ω0 ?_|refine ω1 ?_|refine ω2 ?_|refine ω3 ?_|refine ω4 rfl ?_|refine ω5 rfl ?_|refine ω6 ?_|refine ω7 ?_|refine ω8 ?_|refine ⟨rfl,?_⟩|refine ⟨trivial,?_⟩|refine ⟨⟨rfl,Nat.le_of_ble_eq_true rfl⟩,?_⟩|refine ⟨⟨by kernel_rfl,by kernel_rfl⟩,?_⟩|refine ⟨by decide,?_⟩|refine lit_true ?_|refine lit_false ?_))
        refine ⟨⟨by first | omega | (dsimp only; omega), by first | omega | (dsimp only; omega)⟩, ?_⟩
        (repeat ((conv=>whnf);first|refine ω0 ?_|refine ω1 ?_|refine ω2 ?_|refine ω3 ?_|refine ω4 rfl ?_|refine ω5 rfl ?_|refine ω6 ?_|refine ω7 ?_|refine ω8 ?_|refine ⟨rfl,?_⟩|refine ⟨trivial,?_⟩|refine ⟨⟨rfl,Nat.le_of_ble_eq_true rfl⟩,?_⟩|refine ⟨⟨by kernel_rfl,by kernel_rfl⟩,?_⟩|refine ⟨by decide,?_⟩|refine lit_true ?_|refine lit_false ?_))
        refine aop_tells rfl rfl hof ⟨AVle.refl _, trivial⟩ fun nx3 => ?_
        (repeat ((conv=>whnf);first|refine ω0 ?_|refine ω1 ?_|refine ω2 ?_|refine ω3 ?_|refine ω4 rfl ?_|refine ω5 rfl ?_|refine ω6 ?_|refine ω7 ?_|refine ω8 ?_|refine ⟨rfl,?_⟩|refine ⟨trivial,?_⟩|refine ⟨⟨rfl,Nat.le_of_ble_eq_true rfl⟩,?_⟩|refine ⟨⟨by kernel_rfl,by kernel_rfl⟩,?_⟩|refine ⟨by decide,?_⟩|refine lit_true ?_|refine lit_false ?_))
        intro cx hx
        (repeat ((conv=>whnf);first|refine ω0 ?_|refine ω1 ?_|refine ω2 ?_|refine ω3 ?_|refine ω4 rfl ?_|refine ω5 rfl ?_|refine ω6 ?_|refine ω7 ?_|refine ω8 ?_|refine ⟨rfl,?_⟩|refine ⟨trivial,?_⟩|refine ⟨⟨rfl,Nat.le_of_ble_eq_true rfl⟩,?_⟩|refine ⟨⟨by kernel_rfl,by kernel_rfl⟩,?_⟩|refine ⟨by decide,?_⟩|refine lit_true ?_|refine lit_false ?_))
        by_cases e3 : K = 3
        · subst e3
          have hk := hk16 (.inl rfl)
          have h2k : 2 ^ (l.getD i ins0).k < 65536 := by have := Nat.pow_lt_pow_right (a := 2) (by decide) hk; omega
          (refine aw_draw 20 ?_ ?_ ?_ ?_; (· kernel_rfl); (· kernel_rfl); (· kernel_rfl))
          (repeat ((conv=>whnf);first|refine ω0 ?_|refine ω1 ?_|refine ω2 ?_|refine ω3 ?_|refine ω4 rfl ?_|refine ω5 rfl ?_|refine ω6 ?_|refine ω7 ?_|refine ω8 ?_|refine ⟨rfl,?_⟩|refine ⟨trivial,?_⟩|refine ⟨⟨rfl,Nat.le_of_ble_eq_true rfl⟩,?_⟩|refine ⟨⟨by kernel_rfl,by kernel_rfl⟩,?_⟩|refine ⟨by decide,?_⟩|refine lit_true ?_|refine lit_false ?_))
          refine ⟨⟨by first | omega | (dsimp only; omega), by first | omega | (dsimp only; omega)⟩, ?_⟩
          (repeat ((conv=>whnf);first|refine ω0 ?_|refine ω1 ?_|refine ω2 ?_|refine ω3 ?_|refine ω4 rfl ?_|refine ω5 rfl ?_|refine ω6 ?_|refine ω7 ?_|refine ω8 ?_|refine ⟨rfl,?_⟩|refine ⟨trivial,?_⟩|refine ⟨⟨rfl,Nat.le_of_ble_eq_true rfl⟩,?_⟩|refine ⟨⟨by kernel_rfl,by kernel_rfl⟩,?_⟩|refine ⟨by decide,?_⟩|refine lit_true ?_|refine lit_false ?_))
          refine ⟨⟨by first | omega | (dsimp only; omega), by first | omega | (dsimp only; omega)⟩, ?_⟩
          (repeat ((conv=>whnf);first|refine ω0 ?_|refine ω1 ?_|refine ω2 ?_|refine ω3 ?_|refine ω4 rfl ?_|refine ω5 rfl ?_|refine ω6 ?_|refine ω7 ?_|refine ω8 ?_|refine ⟨rfl,?_⟩|refine ⟨trivial,?_⟩|refine ⟨⟨rfl,Nat.le_of_ble_eq_true rfl⟩,?_⟩|refine ⟨⟨by kernel_rfl,by kernel_rfl⟩,?_⟩|refine ⟨by decide,?_⟩|refine lit_true ?_|refine lit_false ?_))
          (conv => whnf)
          refine ⟨by omega, splitO_eq (congrArg (fun x => AV.v (.int .u16 x)) (shl16 hk)) ?_⟩
          (repeat ((conv=>whnf);first|refine ω0 ?_|refine ω1 ?_|refine ω2 ?_|refine ω3 ?_|refine ω4 rfl ?_|refine ω5 rfl ?_|refine ω6 ?_|refine ω7 ?_|refine ω8 ?_|refine ⟨rfl,?_⟩|refine ⟨trivial,?_⟩|refine ⟨⟨rfl,Nat.le_of_ble_eq_true rfl⟩,?_⟩|refine ⟨⟨by kernel_rfl,by kernel_rfl⟩,?_⟩|refine ⟨by decide,?_⟩|refine lit_true ?_|refine lit_false ?_))
          intro c g5; cases c
          · have g5 : ¬ ((storedI l).getD i 0 / 2 ^ (l.getD i ins0).k % 2 = 0) := by
              have g5 := fct_b0.1 g5
              rw [← and_bit]
              intro h
              apply g5
              show bitsI .and .u16 (((storedI l).getD i 0 : Nat) : Int) ((2 ^ (l.getD i ins0).k : Nat) : Int) = 0
              rw [u16_and hsx h2k, h]; rfl
            (repeat ((conv=>whnf);first|refine ω0 ?_|refine ω1 ?_|refine ω2 ?_|refine ω3 ?_|refine ω4 rfl ?_|refine ω5 rfl ?_|refine ω6 ?_|refine ω7 ?_|refine ω8 ?_|refine ⟨rfl,?_⟩|refine ⟨trivial,?_⟩|refine ⟨⟨rfl,Nat.le_of_ble_eq_true rfl⟩,?_⟩|refine ⟨⟨by kernel_rfl,by kernel_rfl⟩,?_⟩|refine ⟨by decide,?_⟩|refine lit_true ?_|refine lit_false ?_))
            exact back (i + 1, _) ⟨(by first | omega | (dsimp only at *; omega) | (simp; done) | (simp; omega)), hnext (fun h => g5 h.2)⟩ (by first | omega | (dsimp only at *; omega) | (simp; done) | (simp; omega)) (ele_keep rfl rfl (List.nil_sublist _) (List.nil_sublist _) ⟨AVle.refl _, AVle.refl _, le_int (wrap_succ (by first | omega | (dsimp only at *; omega) | (simp; done) | (simp; omega))), trivial⟩)
          · have g5 : (storedI l).getD i 0 / 2 ^ (l.getD i ins0).k % 2 = 0 := by
              have g5 := fct_b1.1 g5
              rw [← and_bit]
              have g6 : bitsI .and .u16 (((storedI l).getD i 0 : Nat) : Int) ((2 ^ (l.getD i ins0).k : Nat) : Int) = 0 := g5
              rw [u16_and hsx h2k] at g6
              omega
            rw [hfound ⟨(.inl rfl), g5⟩]
            (repeat ((conv=>whnf);first|refine ω0 ?_|refine ω1 ?_|refine ω2 ?_|refine ω3 ?_|refine ω4 rfl ?_|refine ω5 rfl ?_|refine ω6 ?_|refine ω7 ?_|refine ω8 ?_|refine ⟨rfl,?_⟩|refine ⟨trivial,?_⟩|refine ⟨⟨rfl,Nat.le_of_ble_eq_true rfl⟩,?_⟩|refine ⟨⟨by kernel_rfl,by kernel_rfl⟩,?_⟩|refine ⟨by decide,?_⟩|refine lit_true ?_|refine lit_false ?_))
            exact ret_tells rfl (AVle.refl _)
        · have f3 : ((K : Int) == 3) = false := by simp; omega
          by_cases e6 : K = 6
          · subst e6
            have hk := hk16 (.inr rfl)
            have h2k : 2 ^ (l.getD i ins0).k < 65536 := by have := Nat.pow_lt_pow_right (a := 2) (by decide) hk; omega
            (refine aw_draw 20 ?_ ?_ ?_ ?_; (· kernel_rfl); (· kernel_rfl); (· kernel_rfl))
            (repeat ((conv=>whnf);first|refine ω0 ?_|refine ω1 ?_|refine ω2 ?_|refine ω3 ?_|refine ω4 rfl ?_|refine ω5 rfl ?_|refine ω6 ?_|refine ω7 ?_|refine ω8 ?_|refine ⟨rfl,?_⟩|refine ⟨trivial,?_⟩|refine ⟨⟨rfl,Nat.le_of_ble_eq_true rfl⟩,?_⟩|refine ⟨⟨by kernel_rfl,by kernel_rfl⟩,?_⟩|refine ⟨by decide,?_⟩|refine lit_true ?_|refine lit_false ?_))
            refine ⟨⟨by first | omega | (dsimp only; omega), by first | omega | (dsimp only; omega)⟩, ?_⟩
            (repeat ((conv=>whnf);first|refine ω0 ?_|refine ω1 ?_|refine ω2 ?_|refine ω3 ?_|refine ω4 rfl ?_|refine ω5 rfl ?_|refine ω6 ?_|refine ω7 ?_|refine ω8 ?_|refine ⟨rfl,?_⟩|refine ⟨trivial,?_⟩|refine ⟨⟨rfl,Nat.le_of_ble_eq_true rfl⟩,?_⟩|refine ⟨⟨by kernel_rfl,by kernel_rfl⟩,?_⟩|refine ⟨by decide,?_⟩|refine lit_true ?_|refine lit_false ?_))
            refine ⟨⟨by first | omega | (dsimp only; omega), by first | omega | (dsimp only; omega)⟩, ?_⟩
            (repeat ((conv=>whnf);first|refine ω0 ?_|refine ω1 ?_|refine ω2 ?_|refine ω3 ?_|refine ω4 rfl ?_|refine ω5 rfl ?_|refine ω6 ?_|refine ω7 ?_|refine ω8 ?_|refine ⟨rfl,?_⟩|refine ⟨trivial,?_⟩|refine ⟨⟨rfl,Nat.le_of_ble_eq_true rfl⟩,?_⟩|refine ⟨⟨by kernel_rfl,by kernel_rfl⟩,?_⟩|refine ⟨by decide,?_⟩|refine lit_true ?_|refine lit_false ?_))
            (conv => whnf)
            refine ⟨by omega, splitO_eq (congrArg (fun x => AV.v (.int .u16 x)) (shl16 hk)) ?_⟩
            (repeat ((conv=>whnf);first|refine ω0 ?_|refine ω1 ?_|refine ω2 ?_|refine ω3 ?_|refine ω4 rfl ?_|refine ω5 rfl ?_|refine ω6 ?_|refine ω7 ?_|refine ω8 ?_|refine ⟨rfl,?_⟩|refine ⟨trivial,?_⟩|refine ⟨⟨rfl,Nat.le_of_ble_eq_true rfl⟩,?_⟩|refine ⟨⟨by kernel_rfl,by kernel_rfl⟩,?_⟩|refine ⟨by decide,?_⟩|refine lit_true ?_|refine lit_false ?_))
            intro c g5; cases c
            · have g5 : ¬ ((storedI l).getD i 0 / 2 ^ (l.getD i ins0).k % 2 = 0) := by
                have g5 := fct_b0.1 g5
                rw [← and_bit]
                intro h
                apply g5
                show bitsI .and .u16 (((storedI l).getD i 0 : Nat) : Int) ((2 ^ (l.getD i ins0).k : Nat) : Int) = 0
                rw [u16_and hsx h2k, h]; rfl
              (repeat ((conv=>whnf);first|refine ω0 ?_|refine ω1 ?_|refine ω2 ?_|refine ω3 ?_|refine ω4 rfl ?_|refine ω5 rfl ?_|refine ω6 ?_|refine ω7 ?_|refine ω8 ?_|refine ⟨rfl,?_⟩|refine ⟨trivial,?_⟩|refine ⟨⟨rfl,Nat.le_of_ble_eq_true rfl⟩,?_⟩|refine ⟨⟨by kernel_rfl,by kernel_rfl⟩,?_⟩|refine ⟨by decide,?_⟩|refine lit_true ?_|refine lit_false ?_))
              exact back (i + 1, _) ⟨(by first | omega | (dsimp only at *; omega) | (simp; done) | (simp; omega)), hnext (fun h => g5 h.2)⟩ (by first | omega | (dsimp only at *; omega) | (simp; done) | (simp; omega)) (ele_keep rfl rfl (List.nil_sublist _) (List.nil_sublist _) ⟨AVle.refl _, AVle.refl _, le_int (wrap_succ (by first | omega | (dsimp only at *; omega) | (simp; done) | (simp; omega))), trivial⟩)
            · have g5 : (storedI l).getD i 0 / 2 ^ (l.getD i ins0).k % 2 = 0 := by
                have g5 := fct_b1.1 g5
                rw [← and_bit]
                have g6 : bitsI .and .u16 (((storedI l).getD i 0 : Nat) : Int) ((2 ^ (l.getD i ins0).k : Nat) : Int) = 0 := g5
                rw [u16_and hsx h2k] at g6
                omega
              rw [hfound ⟨(.inr rfl), g5⟩]
              (repeat ((conv=>whnf);first|refine ω0 ?_|refine ω1 ?_|refine ω2 ?_|refine ω3 ?_|refine ω4 rfl ?_|refine ω5 rfl ?_|refine ω6 ?_|refine ω7 ?_|refine ω8 ?_|refine ⟨rfl,?_⟩|refine ⟨trivial,?_⟩|refine ⟨⟨rfl,Nat.le_of_ble_eq_true rfl⟩,?_⟩|refine ⟨⟨by kernel_rfl,by kernel_rfl⟩,?_⟩|refine ⟨by decide,?_⟩|refine lit_true ?_|refine lit_false ?_))
              exact ret_tells rfl (AVle.refl _)
          · have f6 : ((K : Int) == 6) = false := by simp; omega
            (refine aw_draw 20 ?_ ?_ ?_ ?_; (· kernel_rfl); (· kernel_rfl); (· kernel_rfl))
            (repeat ((conv=>whnf);first|refine ω0 ?_|refine ω1 ?_|refine ω2 ?_|refine ω3 ?_|refine ω4 rfl ?_|refine ω5 rfl ?_|refine ω6 ?_|refine ω7 ?_|refine ω8 ?_|refine ⟨rfl,?_⟩|refine ⟨trivial,?_⟩|refine ⟨⟨rfl,Nat.le_of_ble_eq_true rfl⟩,?_⟩|refine ⟨⟨by kernel_rfl,by kernel_rfl⟩,?_⟩|refine ⟨by decide,?_⟩|refine lit_true ?_|refine lit_false ?_))
            (conv => whnf)
            rw [f3]
            (repeat ((conv=>whnf);first|refine ω0 ?_|refine ω1 ?_|refine ω2 ?_|refine ω3 ?_|refine ω4 rfl ?_|refine ω5 rfl ?_|refine ω6 ?_|refine ω7 ?_|refine ω8 ?_|refine ⟨rfl,?_⟩|refine ⟨trivial,?_⟩|refine ⟨⟨rfl,Nat.le_of_ble_eq_true rfl⟩,?_⟩|refine ⟨⟨by kernel_rfl,by kernel_rfl⟩,?_⟩|refine ⟨by decide,?_⟩|refine lit_true ?_|refine lit_false ?_))
            (conv => whnf)
            rw [f6]
            (repeat ((conv=>whnf);first|refine ω0 ?_|refine ω1 ?_|refine ω2 ?_|refine ω3 ?_|refine ω4 rfl ?_|refine ω5 rfl ?_|refine ω6 ?_|refine ω7 ?_|refine ω8 ?_|refine ⟨rfl,?_⟩|refine ⟨trivial,?_⟩|refine ⟨⟨rfl,Nat.le_of_ble_eq_true rfl⟩,?_⟩|refine ⟨⟨by kernel_rfl,by kernel_rfl⟩,?_⟩|refine ⟨by decide,?_⟩|refine lit_true ?_|refine lit_false ?_))
            exact back (i + 1, _) ⟨(by first | omega | (dsimp only at *; omega) | (simp; done) | (simp; omega)), hnext (fun h => by omega)⟩ (by first | omega | (dsimp only at *; omega) | (simp; done) | (simp; omega)) (ele_keep rfl rfl (List.nil_sublist _) (List.nil_sublist _) ⟨AVle.refl _, AVle.refl _, le_int (wrap_succ (by first | omega | (dsimp only at *; omega) | (simp; done) | (simp; omega))), trivial⟩)
  · have g1 := bne_yes g1
    have : checkI l = formedI l := by unfold checkI; rw [if_pos (by omega)]
    rw [this]
    (repeat ((conv=>whnf);first|refine ω0 ?_|refine ω1 ?_|refine ω2 ?_|refine ω3 ?_|refine ω4 rfl ?_|refine ω5 rfl ?_|refine ω6 ?_|refine ω7 ?_|refine ω8 ?_|refine ⟨rfl,?_⟩|refine ⟨trivial,?_⟩|refine ⟨⟨rfl,Nat.le_of_ble_eq_true rfl⟩,?_⟩|refine ⟨⟨by kernel_rfl,by kernel_rfl⟩,?_⟩|refine ⟨by decide,?_⟩|refine lit_true ?_|refine lit_false ?_))
    exact ret_tells rfl (AVle.refl _)
end Go.Proofs.W

namespace Go.Proofs.W
open Go.Vl
set_option maxRecDepth 100000

def shF (left : Bool) (a i : Nat) : Nat := if left then a * 2 ^ i % 4294967296 else a / 2 ^ i
theorem shF_zero {left : Bool} {a : Nat} (ha : a < 4294967296) : shF left a 0 = a := by
  unfold shF
  cases left
  · simp
  · simp; omega
theorem shF_left (a i : Nat) : (shF true a i + shF true a i) % 4294967296 = shF true a (i + 1) := by
  show (a * 2 ^ i % 4294967296 + a * 2 ^ i % 4294967296) % 4294967296 = a * 2 ^ (i + 1) % 4294967296
  rw [Nat.pow_succ, ← Nat.mul_assoc]
  generalize a * 2 ^ i = x
  omega
theorem shF_right (a i : Nat) : shF false a i / 2 = shF false a (i + 1) := by
  show a / 2 ^ i / 2 = a / 2 ^ (i + 1)
  rw [Nat.div_div_eq_div_mul, Nat.pow_succ]
theorem shF_lt {left : Bool} {a : Nat} (ha : a < 4294967296) (i : Nat) : shF left a i < 4294967296 := by
  cases left
  · exact Nat.lt_of_le_of_lt (Nat.div_le_self _ _) ha
  · exact Nat.mod_lt _ (by decide)
theorem shiftR_spec (a n : Nat) (ha : a < 4294967296) (hn : n < 4294967296) (left : Bool) : Tells Try.prog 71 [u32 a, u32 n, boolA left] (u32 (shF left a (n % 32) : Nat)) := by
  refine tells_of_aw Try.func71 rfl rfl fun nx => ?_
  (repeat ((conv=>whnf);first|refine ω0 ?_|refine ω1 ?_|refine ω2 ?_|refine ω3 ?_|refine ω4 rfl ?_|refine ω5 rfl ?_|refine ω6 ?_|refine ω7 ?_|refine ω8 ?_|refine ⟨rfl,?_⟩|refine ⟨trivial,?_⟩|refine ⟨⟨rfl,Nat.le_of_ble_eq_true rfl⟩,?_⟩|refine ⟨⟨by kernel_rfl,by kernel_rfl⟩,?_⟩|refine ⟨by decide,?_⟩|refine lit_true ?_|refine lit_false ?_))
  refine aw_loop (fun s : Nat × Nat => mk 21 [(0, u32 (shF left a s.1 : Nat)), (1, u32 n), (2, boolA left), (7, u32 s.1)] ⟨[], [], s.2, 0⟩) (fun s => s.1 ≤ n % 32) (fun s => n % 32 - s.1) ?_ ?_
  · exact ⟨(0, nx), Nat.zero_le _, ele_mk rfl rfl ⟨le_int (by rw [shF_zero ha]), AVle.refl _, AVle.refl _, AVle.refl _, trivial⟩⟩
  · rintro ⟨i, nx1⟩ h1
    dsimp only at h1
    have hr : ((n : Int).tmod 32) = ((n % 32 : Nat) : Int) := rfl
    (repeat ((conv=>whnf);first|refine ω0 ?_|refine ω1 ?_|refine ω2 ?_|refine ω3 ?_|refine ω4 rfl ?_|refine ω5 rfl ?_|refine ω6 ?_|refine ω7 ?_|refine ω8 ?_|refine ⟨rfl,?_⟩|refine ⟨trivial,?_⟩|refine ⟨⟨rfl,Nat.le_of_ble_eq_true rfl⟩,?_⟩|refine ⟨⟨by kernel_rfl,by kernel_rfl⟩,?_⟩|refine ⟨by decide,?_⟩|refine lit_true ?_|refine lit_false ?_))
    intro c g; cases c
    · have g := not_of g
      dsimp only at g
      rw [hr] at g
      obtain rfl : i = n % 32 := by omega
      (repeat ((conv=>whnf);first|refine ω0 ?_|refine ω1 ?_|refine ω2 ?_|refine ω3 ?_|refine ω4 rfl ?_|refine ω5 rfl ?_|refine ω6 ?_|refine ω7 ?_|refine ω8 ?_|refine ⟨rfl,?_⟩|refine ⟨trivial,?_⟩|refine ⟨⟨rfl,Nat.le_of_ble_eq_true rfl⟩,?_⟩|refine ⟨⟨by kernel_rfl,by kernel_rfl⟩,?_⟩|refine ⟨by decide,?_⟩|refine lit_true ?_|refine lit_false ?_))
      exact ret_tells rfl (AVle.refl _)
    · have g := yes_of g
      dsimp only at g
      rw [hr] at g
      have hi : i < n % 32 := by omega
      have hl := shF_lt (left := left) ha i
      have hsu : IntKind.u32.wrap ((i : Int) + 1) = ((i + 1 : Nat) : Int) := w32_id (n := i + 1) (by omega)
      cases left
      · (repeat ((conv=>whnf);first|refine ω0 ?_|refine ω1 ?_|refine ω2 ?_|refine ω3 ?_|refine ω4 rfl ?_|refine ω5 rfl ?_|refine ω6 ?_|refine ω7 ?_|refine ω8 ?_|refine ⟨rfl,?_⟩|refine ⟨trivial,?_⟩|refine ⟨⟨rfl,Nat.le_of_ble_eq_true rfl⟩,?_⟩|refine ⟨⟨by kernel_rfl,by kernel_rfl⟩,?_⟩|refine ⟨by decide,?_⟩|refine lit_true ?_|refine lit_false ?_))
        refine back (i + 1, _) (by first | omega | (dsimp only at *; omega) | (simp; done) | (simp; omega)) (by first | omega | (dsimp only at *; omega) | (simp; done) | (simp; omega)) (ele_keep rfl rfl (List.nil_sublist _) (List.nil_sublist _) ⟨le_int ?_, AVle.refl _, AVle.refl _, le_int hsu, trivial⟩)
        rw [← shF_right]
        exact quo32 (n := 2) hl
      · (repeat ((conv=>whnf);first|refine ω0 ?_|refine ω1 ?_|refine ω2 ?_|refine ω3 ?_|refine ω4 rfl ?_|refine ω5 rfl ?_|refine ω6 ?_|refine ω7 ?_|refine ω8 ?_|refine ⟨rfl,?_⟩|refine ⟨trivial,?_⟩|refine ⟨⟨rfl,Nat.le_of_ble_eq_true rfl⟩,?_⟩|refine ⟨⟨by kernel_rfl,by kernel_rfl⟩,?_⟩|refine ⟨by decide,?_⟩|refine lit_true ?_|refine lit_false ?_))
        refine back (i + 1, _) (by first | omega | (dsimp only at *; omega) | (simp; done) | (simp; omega)) (by first | omega | (dsimp only at *; omega) | (simp; done) | (simp; omega)) (ele_keep rfl rfl (List.nil_sublist _) (List.nil_sublist _) ⟨le_int ?_, AVle.refl _, AVle.refl _, le_int hsu, trivial⟩)
        rw [← shF_left]
        exact add32 _ _
end Go.Proofs.W

namespace Go.Proofs.W
open Go.Vl
set_option maxRecDepth 100000

end Go.Proofs.W

namespace Go.Proofs.W
open Go.Vl
set_option maxRecDepth 100000

end Go.Proofs.W

namespace Go.Proofs.W
open Go.Vl
set_option maxRecDepth 100000

/-- A test whose place and kind are any numbers. -/
structure TstZ where
  at' : Int
  mask : Nat
  kind : Int
  k : Nat
  is : Bool
def TstZ.ok (t : TstZ) : Prop := okI t.at' ∧ t.mask < 4294967296 ∧ okI t.kind ∧ t.k < 4294967296
def wordB (b : List Nat) (at' : Int) : Nat := accB b (placesI at'.toNat 4 false)
theorem wordB_lt {b : List Nat} (hb : okB b) (at' : Int) : wordB b at' < 4294967296 := by
  have := accB_lt hb (placesI at'.toNat 4 false)
  rw [placesI_length] at this
  exact this
/-- From the last byte on. -/
theorem refnum_spec (b : List Nat) (hb : okB b) (hl : b.length ≤ 8) : Tells Try.prog 116 [bytesA b] (u64 (accB b (placesI 0 b.length false) : Nat)) := by
  refine tells_of_aw Try.func116 rfl rfl fun nx => ?_
  (repeat ((conv=>whnf);first|refine ω0 ?_|refine ω1 ?_|refine ω2 ?_|refine ω3 ?_|refine ω4 rfl ?_|refine ω5 rfl ?_|refine ω6 ?_|refine ω7 ?_|refine ω8 ?_|refine ⟨rfl,?_⟩|refine ⟨trivial,?_⟩|refine ⟨⟨rfl,Nat.le_of_ble_eq_true rfl⟩,?_⟩|refine ⟨⟨by kernel_rfl,by kernel_rfl⟩,?_⟩|refine ⟨by decide,?_⟩|refine lit_true ?_|refine lit_false ?_))
  have hle : ∀ i, i ≤ b.length → ∀ n : Nat, (int ((b.length : Int) - 1 - i)) = int ((b.length : Int) - 1 - i) := fun _ _ _ => rfl
  refine aw_loop (fun i : Nat => mk 21 [(0, bytesA b), (3, u64 (accB b ((placesI 0 b.length false).take i) : Nat)), (4, int ((b.length : Int) - 1 - i))] ⟨[], [], nx, 0⟩) (fun i => i ≤ b.length) (fun i => b.length - i) ?_ ?_
  · exact ⟨0, by omega, ele_mk rfl rfl ⟨AVle.refl _, AVle.refl _, le_int ((wrap_id (by omega) (by omega)).trans (by omega)), trivial⟩⟩
  · rintro i h1
    (repeat ((conv=>whnf);first|refine ω0 ?_|refine ω1 ?_|refine ω2 ?_|refine ω3 ?_|refine ω4 rfl ?_|refine ω5 rfl ?_|refine ω6 ?_|refine ω7 ?_|refine ω8 ?_|refine ⟨rfl,?_⟩|refine ⟨trivial,?_⟩|refine ⟨⟨rfl,Nat.le_of_ble_eq_true rfl⟩,?_⟩|refine ⟨⟨by kernel_rfl,by kernel_rfl⟩,?_⟩|refine ⟨by decide,?_⟩|refine lit_true ?_|refine lit_false ?_))
    intro c g; cases c
    · have g := not_of g
      (repeat ((conv=>whnf);first|refine ω0 ?_|refine ω1 ?_|refine ω2 ?_|refine ω3 ?_|refine ω4 rfl ?_|refine ω5 rfl ?_|refine ω6 ?_|refine ω7 ?_|refine ω8 ?_|refine ⟨rfl,?_⟩|refine ⟨trivial,?_⟩|refine ⟨⟨rfl,Nat.le_of_ble_eq_true rfl⟩,?_⟩|refine ⟨⟨by kernel_rfl,by kernel_rfl⟩,?_⟩|refine ⟨by decide,?_⟩|refine lit_true ?_|refine lit_false ?_))
      refine ret_tells rfl (AVle.of_eq ?_)
      rw [List.take_of_length_le (by rw [placesI_length]; omega)]
      rfl
    · have g := yes_of g
      have hi : i < b.length := by omega
      have hpl := placesI_length 0 b.length false
      have hgt : (placesI 0 b.length false).getD i 0 = b.length - 1 - i := by rw [placesI_get hi]; simp
      have hst : (placesI 0 b.length false).take (i + 1) = (placesI 0 b.length false).take i ++ [b.length - 1 - i] := by rw [← hgt]; exact take_getD 0 (by rw [hpl]; exact hi)
      have hacc : accB b ((placesI 0 b.length false).take i) < 72057594037927936 := Nat.lt_of_lt_of_le (accB_lt hb _) (Nat.le_trans (Nat.pow_le_pow_right (by decide) (by rw [List.length_take, hpl]; omega : ((placesI 0 b.length false).take i).length ≤ 7)) (by decide))
      have hbx := hb.get (b.length - 1 - i)
      have hix : Int.toNat ((b.length : Int) - 1 - i) = b.length - 1 - i := by omega
      (repeat ((conv=>whnf);first|refine ω0 ?_|refine ω1 ?_|refine ω2 ?_|refine ω3 ?_|refine ω4 rfl ?_|refine ω5 rfl ?_|refine ω6 ?_|refine ω7 ?_|refine ω8 ?_|refine ⟨rfl,?_⟩|refine ⟨trivial,?_⟩|refine ⟨⟨rfl,Nat.le_of_ble_eq_true rfl⟩,?_⟩|refine ⟨⟨by kernel_rfl,by kernel_rfl⟩,?_⟩|refine ⟨by decide,?_⟩|refine lit_true ?_|refine lit_false ?_))
      refine ⟨⟨by first | omega | (dsimp only; omega), by first | omega | (dsimp only; omega)⟩, ?_⟩
      (repeat ((conv=>whnf);first|refine ω0 ?_|refine ω1 ?_|refine ω2 ?_|refine ω3 ?_|refine ω4 rfl ?_|refine ω5 rfl ?_|refine ω6 ?_|refine ω7 ?_|refine ω8 ?_|refine ⟨rfl,?_⟩|refine ⟨trivial,?_⟩|refine ⟨⟨rfl,Nat.le_of_ble_eq_true rfl⟩,?_⟩|refine ⟨⟨by kernel_rfl,by kernel_rfl⟩,?_⟩|refine ⟨by decide,?_⟩|refine lit_true ?_|refine lit_false ?_))
      refine back (i + 1) (by omega) (by omega) (ele_mk rfl rfl ⟨AVle.refl _, ?_, le_int ((wrap_id (by omega) (by omega)).trans (by omega)), trivial⟩)
      refine AVle.of_eq (congrArg u64 (?_ : IntKind.u64.wrap (IntKind.u64.wrap (256 * (accB b ((placesI 0 b.length false).take i) : Nat)) + IntKind.u64.wrap (b.getD (Int.toNat ((b.length : Int) - 1 - i)) 0 : Nat)) = _))
      rw [hix, hst, accB_snoc]
      show ((256 * ((accB b ((placesI 0 b.length false).take i) : Nat) : Int)) % 18446744073709551616 + ((b.getD (b.length - 1 - i) 0 : Nat) : Int) % 18446744073709551616) % 18446744073709551616 = _
      omega
theorem sub_get {b : List Nat} {a n k : Nat} (hk : k < n) : ((b.drop a).take n).getD k 0 = b.getD (a + k) 0 := by
  simp [List.getD, List.getElem?_take, hk, List.getElem?_drop]
theorem wordB_sub {b : List Nat} {a : Nat} : accB ((b.drop a).take 4) (placesI 0 4 false) = wordB b a := by
  have h0 := sub_get (b := b) (a := a) (n := 4) (k := 0) (by decide)
  have h1 := sub_get (b := b) (a := a) (n := 4) (k := 1) (by decide)
  have h2 := sub_get (b := b) (a := a) (n := 4) (k := 2) (by decide)
  have h3 := sub_get (b := b) (a := a) (n := 4) (k := 3) (by decide)
  have e1 : placesI 0 4 false = [3, 2, 1, 0] := by decide
  have e2 : placesI (Int.toNat (a : Int)) 4 false = [a + 3, a + 2, a + 1, a + 0] := by
    show (List.range 4).map (fun i => a + 4 - 1 - i) = _
    rw [show List.range 4 = [0, 1, 2, 3] from rfl]
    simp
  unfold wordB accB
  rw [e1, e2]
  simp only [List.foldl_cons, List.foldl_nil, h0, h1, h2, h3]
theorem word_spec (b : List Nat) (hb : okB b) (hl : b.length ≤ 1000000) (at' : Nat) (ha : at' + 4 ≤ b.length) : Tells Try.prog 70 [bytesA b, int at'] (u32 (wordB b at' : Nat)) := by
  have hw : IntKind.i64.wrap ((at' : Int) + 4) = ((at' + 4 : Nat) : Int) := wrap_id (by omega) (by omega)
  have hlen : ((b.drop at').take 4).length = 4 := by simp; omega
  have hsub : okB ((b.drop at').take 4) := fun x hx => hb x (List.mem_of_mem_drop (List.mem_of_mem_take hx))
  have hwl := wordB_lt hb at'
  refine tells_of_aw Try.func70 rfl rfl fun nx => ?_
  (repeat ((conv=>whnf);first|refine ω0 ?_|refine ω1 ?_|refine ω2 ?_|refine ω3 ?_|refine ω4 rfl ?_|refine ω5 rfl ?_|refine ω6 ?_|refine ω7 ?_|refine ω8 ?_|refine ⟨rfl,?_⟩|refine ⟨trivial,?_⟩|refine ⟨⟨rfl,Nat.le_of_ble_eq_true rfl⟩,?_⟩|refine ⟨⟨by kernel_rfl,by kernel_rfl⟩,?_⟩|refine ⟨by decide,?_⟩|refine lit_true ?_|refine lit_false ?_))
  (conv => whnf)
  refine ⟨⟨by omega, by rw [hw]; omega, by rw [hw]; omega⟩, ?_⟩
  (repeat ((conv=>whnf);first|refine ω0 ?_|refine ω1 ?_|refine ω2 ?_|refine ω3 ?_|refine ω4 rfl ?_|refine ω5 rfl ?_|refine ω6 ?_|refine ω7 ?_|refine ω8 ?_|refine ⟨rfl,?_⟩|refine ⟨trivial,?_⟩|refine ⟨⟨rfl,Nat.le_of_ble_eq_true rfl⟩,?_⟩|refine ⟨⟨by kernel_rfl,by kernel_rfl⟩,?_⟩|refine ⟨by decide,?_⟩|refine lit_true ?_|refine lit_false ?_))
  refine aop_tells rfl rfl (refnum_spec ((b.drop at').take 4) hsub (by omega)) ⟨?_, trivial⟩ fun nx1 => ?_
  · refine AVle.trans (b := .sl 1 4 (fun k => u8 (b.getD (at' + k) 0 : Nat))) (AVle.of_eq ?_) ?_
    · show AV.sl 1 ((IntKind.i64.wrap ((at' : Int) + 4)).toNat - at') _ = _
      rw [hw, show Int.toNat ((at' + 4 : Nat) : Int) - at' = 4 by omega]
      rfl
    · unfold bytesA slOf
      rw [hlen]
      exact AVle.sl_fun fun k hk => by rw [sub_get hk]
  rw [hlen, wordB_sub]
  (repeat ((conv=>whnf);first|refine ω0 ?_|refine ω1 ?_|refine ω2 ?_|refine ω3 ?_|refine ω4 rfl ?_|refine ω5 rfl ?_|refine ω6 ?_|refine ω7 ?_|refine ω8 ?_|refine ⟨rfl,?_⟩|refine ⟨trivial,?_⟩|refine ⟨⟨rfl,Nat.le_of_ble_eq_true rfl⟩,?_⟩|refine ⟨⟨by kernel_rfl,by kernel_rfl⟩,?_⟩|refine ⟨by decide,?_⟩|refine lit_true ?_|refine lit_false ?_))
  refine ret_tells rfl (le_int ?_)
  show ((wordB b at' : Nat) : Int) % 4294967296 = _
  omega
end Go.Proofs.W

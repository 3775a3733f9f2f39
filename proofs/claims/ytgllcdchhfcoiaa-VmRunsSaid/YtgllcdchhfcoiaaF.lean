import Derived.Test.YtgllcdchhfcoiaaE
import Derived.Test.YtgllcdchhfcoiaaD
import Derived.Test.YtgllcdchhfcoiaaC
set_option linter.unusedVariables false
set_option linter.unusedSimpArgs false
namespace Go.Proofs.W
open Go.Vl

/-- What a run has: where it is, A, X, its cells, its steps, what it loaded. -/
structure Rn where
  at' : Nat
  a : Nat
  x : Nat
  cells : List Nat
  steps : Nat
  loads : List Nat
def rn0 : Rn := ⟨0, 0, 0, List.replicate 16 0, 0, []⟩
def wordL (b : List Nat) (k : Nat) : Nat := accB b (placesI k 4 false)
theorem wordL_lt {b : List Nat} (hb : okB b) (k : Nat) : wordL b k < 4294967296 := by
  have := accB_lt hb (placesI k 4 false)
  rw [placesI_length] at this
  exact this
def altV (i : Ins) (s : Rn) : Nat := if (kof i.code).2 then s.x else i.k
def reckV (k a n : Nat) : Option Nat :=
  match k with
  | 16 => some ((a + n) % 4294967296)
  | 17 => some ((a + 4294967296 - n) % 4294967296)
  | 18 => some (a * n % 4294967296)
  | 19 => if n = 0 then none else some (a / n)
  | 20 => some (a ||| n)
  | 21 => some (a &&& n)
  | 22 => some (a * 2 ^ (n % 32) % 4294967296)
  | 23 => some (a / 2 ^ (n % 32))
  | _ => some (a ^^^ n)
def branchV (k a n : Nat) : Bool :=
  match k with
  | 25 => decide (a = n)
  | 26 => decide (a > n)
  | 27 => decide (a ≥ n)
  | _ => decide (a &&& n ≠ 0)
/-- What an instruction does (it is already counted); a value: the run is over. -/
def doV (b : List Nat) (i : Ins) (s : Rn) : Option Nat × Rn :=
  match (kof i.code).1 with
  | 1 => (none, { s with a := wordL b i.k, loads := s.loads ++ [i.k] })
  | 2 => (none, { s with a := i.k })
  | 3 => (none, { s with a := s.cells.getD i.k 0 })
  | 4 => (none, { s with a := 64 })
  | 5 => (none, { s with x := i.k })
  | 6 => (none, { s with x := s.cells.getD i.k 0 })
  | 7 => (none, { s with x := 64 })
  | 8 => (none, { s with cells := s.cells.set i.k s.a })
  | 9 => (none, { s with cells := s.cells.set i.k s.x })
  | 10 => (none, { s with x := s.a })
  | 11 => (none, { s with a := s.x })
  | 12 => (none, { s with a := (4294967296 - s.a) % 4294967296 })
  | 13 => (none, { s with at' := s.at' + i.k })
  | 14 => (some i.k, s)
  | 15 => (some s.a, s)
  | k => if k < 25 then (match reckV k s.a (altV i s) with | some v => (none, { s with a := v }) | none => (some 0, s))
    else (none, { s with at' := s.at' + if branchV k s.a (altV i s) then i.jt else i.jf })
/-- One step. -/
def stepV (b : List Nat) (l : List Ins) (s : Rn) : Option Nat × Rn := doV b (l.getD s.at' ins0) { s with at' := s.at' + 1, steps := s.steps + 1 }
/-- A run. -/
def runV (b : List Nat) (l : List Ins) : Nat → Rn → Nat × Rn
  | 0, s => (0, s)
  | f + 1, s => match stepV b l s with
    | (some v, s') => (v, s')
    | (none, s') => runV b l f s'
structure Rn.ok (s : Rn) : Prop where
  a : s.a < 4294967296
  x : s.x < 4294967296
  n : s.cells.length = 16
  c : ∀ v ∈ s.cells, v < 4294967296
theorem rn0_ok : rn0.ok := ⟨by decide, by decide, by decide, by simp [rn0]⟩
theorem Rn.ok.get {s : Rn} (h : s.ok) (k : Nat) : s.cells.getD k 0 < 4294967296 := by
  rcases Nat.lt_or_ge k s.cells.length with hk | hk
  · have e : s.cells.getD k 0 = s.cells[k] := by simp [List.getD, hk]
    rw [e]; exact h.c _ (List.getElem_mem hk)
  · simp [List.getD, List.getElem?_eq_none hk]
theorem altV_lt {i : Ins} {s : Rn} (hi : i.ok) (hs : s.ok) : altV i s < 4294967296 := by
  unfold altV
  split
  · exact hs.x
  · exact hi.2.2.2
theorem reckV_lt {k a n v : Nat} (ha : a < 4294967296) (hn : n < 4294967296) (h : reckV k a n = some v) : v < 4294967296 := by
  unfold reckV at h
  split at h <;> first | (cases h; done) | skip
  all_goals first
    | (split at h <;> first | (cases h; done) | skip; cases h; exact Nat.lt_of_le_of_lt (Nat.div_le_self _ _) ha)
    | (cases h; exact Nat.mod_lt _ (by decide))
    | (cases h; exact Nat.lt_of_le_of_lt Nat.and_le_left ha)
    | (cases h; exact Nat.lt_of_le_of_lt (Nat.div_le_self _ _) ha)
    | (cases h; exact Nat.or_lt_two_pow (n := 32) ha hn)
    | (cases h; exact Nat.xor_lt_two_pow (n := 32) ha hn)
theorem doV_ok {b : List Nat} (hb : okB b) {i : Ins} (hi : i.ok) {s : Rn} (hs : s.ok) : (doV b i s).2.ok := by
  unfold doV
  split
  all_goals first
    | exact ⟨wordL_lt hb _, hs.x, hs.n, hs.c⟩
    | exact ⟨hi.2.2.2, hs.x, hs.n, hs.c⟩
    | exact ⟨hs.get _, hs.x, hs.n, hs.c⟩
    | exact ⟨(by show 64 < 4294967296; decide), hs.x, hs.n, hs.c⟩
    | exact ⟨hs.a, hi.2.2.2, hs.n, hs.c⟩
    | exact ⟨hs.a, hs.get _, hs.n, hs.c⟩
    | exact ⟨hs.a, (by show 64 < 4294967296; decide), hs.n, hs.c⟩
    | exact ⟨hs.a, hs.x, by simp [hs.n], fun v hv => (List.mem_or_eq_of_mem_set hv).elim (hs.c v) (fun e => e ▸ hs.a)⟩
    | exact ⟨hs.a, hs.x, by simp [hs.n], fun v hv => (List.mem_or_eq_of_mem_set hv).elim (hs.c v) (fun e => e ▸ hs.x)⟩
    | exact ⟨hs.a, hs.a, hs.n, hs.c⟩
    | exact ⟨hs.x, hs.x, hs.n, hs.c⟩
    | exact ⟨Nat.mod_lt _ (by decide), hs.x, hs.n, hs.c⟩
    | exact ⟨hs.a, hs.x, hs.n, hs.c⟩
    | exact hs
    | skip
  split
  · split
    · rename_i v h
      exact ⟨reckV_lt hs.a (altV_lt hi hs) h, hs.x, hs.n, hs.c⟩
    · exact hs
  · exact ⟨hs.a, hs.x, hs.n, hs.c⟩
theorem doV_at {b : List Nat} {i : Ins} {s s' : Rn} (h : doV b i s = (none, s')) : s'.steps = s.steps ∧ ((s'.at' = s.at' ∧ (kof i.code).1 ≠ 13 ∧ (kof i.code).1 ≠ 14 ∧ (kof i.code).1 ≠ 15 ∧ (kof i.code).1 < 25) ∨
    ((kof i.code).1 = 13 ∧ s'.at' = s.at' + i.k) ∨ (25 ≤ (kof i.code).1 ∧ (s'.at' = s.at' + i.jt ∨ s'.at' = s.at' + i.jf))) := by
  unfold doV at h
  split at h
  all_goals first
    | (cases h; done)
    | (cases h; refine ⟨rfl, .inl ⟨rfl, ?_⟩⟩; omega)
    | (cases h; refine ⟨rfl, .inr (.inl ⟨?_, rfl⟩)⟩; assumption)
    | skip
  split at h
  · split at h
    · cases h
      exact ⟨rfl, .inl ⟨rfl, by assumption, by assumption, by assumption, by assumption⟩⟩
    · cases h
  · cases h
    refine ⟨rfl, .inr (.inr ⟨by omega, ?_⟩)⟩
    dsimp only
    split
    · exact .inl rfl
    · exact .inr rfl
/-- An instruction goes on where it may. -/
theorem stepV_next {b : List Nat} {l : List Ins} {s s' : Rn} (h : stepV b l s = (none, s')) : s'.at' ∈ nextsI l s.at' ∧ s'.steps = s.steps + 1 := by
  have hk0 : kind l s.at' = (kof (l.getD s.at' ins0).code).1 := rfl
  obtain ⟨h1, h2⟩ := doV_at h
  refine ⟨?_, h1⟩
  dsimp only at h2
  unfold nextsI
  rw [hk0]
  rcases h2 with ⟨h3, h4, h5, h6, h7⟩ | ⟨h3, h4⟩ | ⟨h3, h4⟩
  · rw [if_neg (by omega), if_neg (by omega), if_neg (by omega), h3]; simp
  · rw [if_neg (by omega), if_pos h3, h4]; simp
  · rw [if_neg (by omega), if_neg (by omega), if_pos h3]
    rcases h4 with h4 | h4 <;> rw [h4] <;> simp
theorem stepV_over {b : List Nat} {l : List Ins} {s s' : Rn} {v : Nat} (h : stepV b l s = (some v, s')) : s' = { s with at' := s.at' + 1, steps := s.steps + 1 } := by
  unfold stepV doV at h
  split at h
  all_goals first
    | (cases h; rfl)
    | (cases h; done)
    | skip
  split at h
  · split at h
    · cases h
    · cases h; rfl
  · cases h
end Go.Proofs.W

namespace Go.Proofs.W
open Go.Vl
set_option maxRecDepth 100000

def u32A (n : Nat) : AV := u32 n
def natF (l : List Nat) (k : Nat) : AV := int (l.getD k 0 : Nat)
def runC (b : List Nat) (s : Rn) (oi : Option Nat) : List AV := [bytesA b, int s.at', u32 s.a, u32 s.x] ++ s.cells.map u32A ++ [u32 0, int s.steps, .os 1 s.loads.length (natF s.loads) (nmN 1 oi)]
def opA (i : Ins) (f : AV) : AV := .ag [u16 i.code, u8 i.jt, u8 i.jf, u32 i.k, f, int (kof i.code).1, boolA (kof i.code).2]
def vmH (b : List Nat) (s0 : Nat) (s : Rn) (oi : Option Nat) (nx nn : Nat) : Heap := ⟨[((0, s0), .c (runC b s oi))], pmOf (nmN 1 oi) (s.loads.length * 1), nx, nn⟩
def overA (v : Nat) : AV := .ifc 134 (.ag [u32 v])
def doQ (b : List Nat) (s0 : Nat) (o : Option Nat × Rn) : Res → Heap → Prop
  | .ret _, h' => ∃ oi' nx' nn', o.1 = none ∧ (oi' = none → o.2.loads = []) ∧ h' = vmH b s0 o.2 oi' nx' nn'
  | .pan x, h' => ∃ v oi' nx' nn', o.1 = some v ∧ x = overA v ∧ (oi' = none → o.2.loads = []) ∧ h' = vmH b s0 o.2 oi' nx' nn'
def wkR (Q : Res → Heap → Prop) : Res → Heap → Prop
  | .ret r, h => ∃ r' h', AVle r r' ∧ HLe h h' ∧ Q (.ret r') h'
  | .pan x, h => ∃ x' h', AVle x x' ∧ HLe h h' ∧ Q (.pan x') h'
theorem ecallR_wk {P : Program} {f : FuncId} {xs : List AV} {h : Heap} {Q : Res → Heap → Prop} (hc : ECallR P f xs h (wkR Q)) : ECallR P f xs h Q := by
  refine ⟨hc.1, fun X w g vs h1 h2 h3 h4 => ?_⟩
  refine (fnWay P f).mono (hc.2 X w g vs h1 h2 h3 h4) fun e w' ⟨r, h', g', a1, a2, a3, a4, a5, a7, a8⟩ => ?_
  cases r with
  | pan x =>
    obtain ⟨x', h'', q1, q2, q3⟩ := a2
    obtain ⟨u, rfl, a1⟩ := a1
    exact ⟨.pan x', h'', g', ⟨u, rfl, q1 _ _ _ _ (a1.stays (Stays.less (q2.ex X g')))⟩, q3, a3, q2.ok _ _ _ a4, fun b o hx i hi => a5 b o hx i (q2.ids i hi), a7, fun b o hx hb => a8 b o (q2.ex none2 g' b o hx) hb⟩
  | ret r =>
    obtain ⟨r', h'', q1, q2, q3⟩ := a2
    obtain ⟨u, rfl, a1⟩ := a1
    exact ⟨.ret r', h'', g', ⟨u, rfl, q1 _ _ _ _ (a1.stays (Stays.less (q2.ex X g')))⟩, q3, a3, q2.ok _ _ _ a4, fun b o hx i hi => a5 b o hx i (q2.ids i hi), a7, fun b o hx hb => a8 b o (q2.ex none2 g' b o hx) hb⟩
theorem doRet {b : List Nat} {s0 : Nat} {o : Option Nat × Rn} {r : AV} {h : Heap} (s' : Rn) (oi' : Option Nat) (nx' nn' : Nat) (hd : o = (none, s')) (ho : oi' = none → s'.loads = []) (hl : HLe h (vmH b s0 s' oi' nx' nn')) : wkR (doQ b s0 o) (.ret r) h := by
  subst hd
  exact ⟨r, _, AVle.refl _, hl, oi', nx', nn', rfl, ho, rfl⟩
theorem doPan {b : List Nat} {s0 : Nat} {o : Option Nat × Rn} {h : Heap} {x : AV} (v : Nat) (s' : Rn) (oi' : Option Nat) (nx' nn' : Nat) (hd : o = (some v, s')) (hx : AVle x (overA v)) (ho : oi' = none → s'.loads = []) (hl : HLe h (vmH b s0 s' oi' nx' nn')) : wkR (doQ b s0 o) (.pan x) h := by
  subst hd
  exact ⟨_, _, hx, hl, v, oi', nx', nn', rfl, rfl, ho, rfl⟩
theorem cells16 {l : List Nat} (h : l.length = 16) : ∃ c0 c1 c2 c3 c4 c5 c6 c7 c8 c9 c10 c11 c12 c13 c14 c15, l = [c0, c1, c2, c3, c4, c5, c6, c7, c8, c9, c10, c11, c12, c13, c14, c15] := by
  match l, h with
  | [c0, c1, c2, c3, c4, c5, c6, c7, c8, c9, c10, c11, c12, c13, c14, c15], _ => exact ⟨c0, c1, c2, c3, c4, c5, c6, c7, c8, c9, c10, c11, c12, c13, c14, c15, rfl⟩
theorem runC_get {b : List Nat} {at' a x steps k : Nat} {loads : List Nat} {oi : Option Nat} {c0 c1 c2 c3 c4 c5 c6 c7 c8 c9 c10 c11 c12 c13 c14 c15 : Nat} (hk : k < 16) :
    (runC b ⟨at', a, x, [c0, c1, c2, c3, c4, c5, c6, c7, c8, c9, c10, c11, c12, c13, c14, c15], steps, loads⟩ oi).getD (4 + k) .any = u32 ([c0, c1, c2, c3, c4, c5, c6, c7, c8, c9, c10, c11, c12, c13, c14, c15].getD k 0 : Nat) := by
  match k, hk with
  | 0, _ => rfl
  | 1, _ => rfl
  | 2, _ => rfl
  | 3, _ => rfl
  | 4, _ => rfl
  | 5, _ => rfl
  | 6, _ => rfl
  | 7, _ => rfl
  | 8, _ => rfl
  | 9, _ => rfl
  | 10, _ => rfl
  | 11, _ => rfl
  | 12, _ => rfl
  | 13, _ => rfl
  | 14, _ => rfl
  | 15, _ => rfl
  | n + 16, h => omega
theorem runC_set {b : List Nat} {at' a x steps k v : Nat} {loads : List Nat} {oi : Option Nat} {c0 c1 c2 c3 c4 c5 c6 c7 c8 c9 c10 c11 c12 c13 c14 c15 : Nat} (hk : k < 16) :
    splice (runC b ⟨at', a, x, [c0, c1, c2, c3, c4, c5, c6, c7, c8, c9, c10, c11, c12, c13, c14, c15], steps, loads⟩ oi) (4 + k) [u32 v] = runC b ⟨at', a, x, ([c0, c1, c2, c3, c4, c5, c6, c7, c8, c9, c10, c11, c12, c13, c14, c15]).set k v, steps, loads⟩ oi := by
  match k, hk with
  | 0, _ => rfl
  | 1, _ => rfl
  | 2, _ => rfl
  | 3, _ => rfl
  | 4, _ => rfl
  | 5, _ => rfl
  | 6, _ => rfl
  | 7, _ => rfl
  | 8, _ => rfl
  | 9, _ => rfl
  | 10, _ => rfl
  | 11, _ => rfl
  | 12, _ => rfl
  | 13, _ => rfl
  | 14, _ => rfl
  | 15, _ => rfl
  | n + 16, h => omega
theorem vimm_spec (b : List Nat) (i : Ins) (hk : (kof i.code).1 = 2) (s0 : Nat) (s : Rn) (oi : Option Nat) (h0 : oi = none → s.loads = []) (hs : s.ok) (nx : Nat) :
    ECallR Try.prog 89 [.bp (0, s0) 0, opA i .any] (vmH b s0 s oi nx 2) (doQ b s0 (doV b i s)) := by
  obtain ⟨at', a, x, cells, steps, loads⟩ := s
  obtain ⟨c0, c1, c2, c3, c4, c5, c6, c7, c8, c9, c10, c11, c12, c13, c14, c15, rfl⟩ := cells16 hs.n
  refine ecallR_wk (ecallR_of_aw Try.func89 rfl rfl ?_)
  (repeat ((conv=>whnf);first|refine ω0 ?_|refine ω1 ?_|refine ω2 ?_|refine ω3 ?_|refine ω4 rfl ?_|refine ω5 rfl ?_|refine ω6 ?_|refine ω7 ?_|refine ω8 ?_|refine ⟨rfl,?_⟩|refine ⟨trivial,?_⟩|refine ⟨⟨rfl,Nat.le_of_ble_eq_true rfl⟩,?_⟩|refine ⟨⟨by kernel_rfl,by kernel_rfl⟩,?_⟩|refine ⟨by decide,?_⟩|refine lit_true ?_|refine lit_false ?_))
  exact ret_is rfl (doRet ⟨at', i.k, x, _, steps, loads⟩ oi _ 2 (by unfold doV; rw [hk]; rfl) h0 (hle_tell _ _ rfl (.cons _ (List.Sublist.refl _)) (List.Sublist.refl _) ⟨rfl, OwnLe.refl _, trivial⟩ (PmEq.refl _)))
theorem vlenA_spec (b : List Nat) (i : Ins) (hk : (kof i.code).1 = 4) (s0 : Nat) (s : Rn) (oi : Option Nat) (h0 : oi = none → s.loads = []) (hs : s.ok) (nx : Nat) :
    ECallR Try.prog 91 [.bp (0, s0) 0, opA i .any] (vmH b s0 s oi nx 2) (doQ b s0 (doV b i s)) := by
  obtain ⟨at', a, x, cells, steps, loads⟩ := s
  obtain ⟨c0, c1, c2, c3, c4, c5, c6, c7, c8, c9, c10, c11, c12, c13, c14, c15, rfl⟩ := cells16 hs.n
  refine ecallR_wk (ecallR_of_aw Try.func91 rfl rfl ?_)
  (repeat ((conv=>whnf);first|refine ω0 ?_|refine ω1 ?_|refine ω2 ?_|refine ω3 ?_|refine ω4 rfl ?_|refine ω5 rfl ?_|refine ω6 ?_|refine ω7 ?_|refine ω8 ?_|refine ⟨rfl,?_⟩|refine ⟨trivial,?_⟩|refine ⟨⟨rfl,Nat.le_of_ble_eq_true rfl⟩,?_⟩|refine ⟨⟨by kernel_rfl,by kernel_rfl⟩,?_⟩|refine ⟨by decide,?_⟩|refine lit_true ?_|refine lit_false ?_))
  exact ret_is rfl (doRet ⟨at', 64, x, _, steps, loads⟩ oi _ 2 (by unfold doV; rw [hk]; rfl) h0 (hle_tell _ _ rfl (.cons _ (List.Sublist.refl _)) (List.Sublist.refl _) ⟨rfl, OwnLe.refl _, trivial⟩ (PmEq.refl _)))
theorem vimmX_spec (b : List Nat) (i : Ins) (hk : (kof i.code).1 = 5) (s0 : Nat) (s : Rn) (oi : Option Nat) (h0 : oi = none → s.loads = []) (hs : s.ok) (nx : Nat) :
    ECallR Try.prog 92 [.bp (0, s0) 0, opA i .any] (vmH b s0 s oi nx 2) (doQ b s0 (doV b i s)) := by
  obtain ⟨at', a, x, cells, steps, loads⟩ := s
  obtain ⟨c0, c1, c2, c3, c4, c5, c6, c7, c8, c9, c10, c11, c12, c13, c14, c15, rfl⟩ := cells16 hs.n
  refine ecallR_wk (ecallR_of_aw Try.func92 rfl rfl ?_)
  (repeat ((conv=>whnf);first|refine ω0 ?_|refine ω1 ?_|refine ω2 ?_|refine ω3 ?_|refine ω4 rfl ?_|refine ω5 rfl ?_|refine ω6 ?_|refine ω7 ?_|refine ω8 ?_|refine ⟨rfl,?_⟩|refine ⟨trivial,?_⟩|refine ⟨⟨rfl,Nat.le_of_ble_eq_true rfl⟩,?_⟩|refine ⟨⟨by kernel_rfl,by kernel_rfl⟩,?_⟩|refine ⟨by decide,?_⟩|refine lit_true ?_|refine lit_false ?_))
  exact ret_is rfl (doRet ⟨at', a, i.k, _, steps, loads⟩ oi _ 2 (by unfold doV; rw [hk]; rfl) h0 (hle_tell _ _ rfl (.cons _ (List.Sublist.refl _)) (List.Sublist.refl _) ⟨rfl, OwnLe.refl _, trivial⟩ (PmEq.refl _)))
theorem vlenX_spec (b : List Nat) (i : Ins) (hk : (kof i.code).1 = 7) (s0 : Nat) (s : Rn) (oi : Option Nat) (h0 : oi = none → s.loads = []) (hs : s.ok) (nx : Nat) :
    ECallR Try.prog 94 [.bp (0, s0) 0, opA i .any] (vmH b s0 s oi nx 2) (doQ b s0 (doV b i s)) := by
  obtain ⟨at', a, x, cells, steps, loads⟩ := s
  obtain ⟨c0, c1, c2, c3, c4, c5, c6, c7, c8, c9, c10, c11, c12, c13, c14, c15, rfl⟩ := cells16 hs.n
  refine ecallR_wk (ecallR_of_aw Try.func94 rfl rfl ?_)
  (repeat ((conv=>whnf);first|refine ω0 ?_|refine ω1 ?_|refine ω2 ?_|refine ω3 ?_|refine ω4 rfl ?_|refine ω5 rfl ?_|refine ω6 ?_|refine ω7 ?_|refine ω8 ?_|refine ⟨rfl,?_⟩|refine ⟨trivial,?_⟩|refine ⟨⟨rfl,Nat.le_of_ble_eq_true rfl⟩,?_⟩|refine ⟨⟨by kernel_rfl,by kernel_rfl⟩,?_⟩|refine ⟨by decide,?_⟩|refine lit_true ?_|refine lit_false ?_))
  exact ret_is rfl (doRet ⟨at', a, 64, _, steps, loads⟩ oi _ 2 (by unfold doV; rw [hk]; rfl) h0 (hle_tell _ _ rfl (.cons _ (List.Sublist.refl _)) (List.Sublist.refl _) ⟨rfl, OwnLe.refl _, trivial⟩ (PmEq.refl _)))
theorem vtoX_spec (b : List Nat) (i : Ins) (hk : (kof i.code).1 = 10) (s0 : Nat) (s : Rn) (oi : Option Nat) (h0 : oi = none → s.loads = []) (hs : s.ok) (nx : Nat) :
    ECallR Try.prog 97 [.bp (0, s0) 0, opA i .any] (vmH b s0 s oi nx 2) (doQ b s0 (doV b i s)) := by
  obtain ⟨at', a, x, cells, steps, loads⟩ := s
  obtain ⟨c0, c1, c2, c3, c4, c5, c6, c7, c8, c9, c10, c11, c12, c13, c14, c15, rfl⟩ := cells16 hs.n
  refine ecallR_wk (ecallR_of_aw Try.func97 rfl rfl ?_)
  (repeat ((conv=>whnf);first|refine ω0 ?_|refine ω1 ?_|refine ω2 ?_|refine ω3 ?_|refine ω4 rfl ?_|refine ω5 rfl ?_|refine ω6 ?_|refine ω7 ?_|refine ω8 ?_|refine ⟨rfl,?_⟩|refine ⟨trivial,?_⟩|refine ⟨⟨rfl,Nat.le_of_ble_eq_true rfl⟩,?_⟩|refine ⟨⟨by kernel_rfl,by kernel_rfl⟩,?_⟩|refine ⟨by decide,?_⟩|refine lit_true ?_|refine lit_false ?_))
  exact ret_is rfl (doRet ⟨at', a, a, _, steps, loads⟩ oi _ 2 (by unfold doV; rw [hk]; rfl) h0 (hle_tell _ _ rfl (.cons _ (List.Sublist.refl _)) (List.Sublist.refl _) ⟨rfl, OwnLe.refl _, trivial⟩ (PmEq.refl _)))
theorem vtoA_spec (b : List Nat) (i : Ins) (hk : (kof i.code).1 = 11) (s0 : Nat) (s : Rn) (oi : Option Nat) (h0 : oi = none → s.loads = []) (hs : s.ok) (nx : Nat) :
    ECallR Try.prog 98 [.bp (0, s0) 0, opA i .any] (vmH b s0 s oi nx 2) (doQ b s0 (doV b i s)) := by
  obtain ⟨at', a, x, cells, steps, loads⟩ := s
  obtain ⟨c0, c1, c2, c3, c4, c5, c6, c7, c8, c9, c10, c11, c12, c13, c14, c15, rfl⟩ := cells16 hs.n
  refine ecallR_wk (ecallR_of_aw Try.func98 rfl rfl ?_)
  (repeat ((conv=>whnf);first|refine ω0 ?_|refine ω1 ?_|refine ω2 ?_|refine ω3 ?_|refine ω4 rfl ?_|refine ω5 rfl ?_|refine ω6 ?_|refine ω7 ?_|refine ω8 ?_|refine ⟨rfl,?_⟩|refine ⟨trivial,?_⟩|refine ⟨⟨rfl,Nat.le_of_ble_eq_true rfl⟩,?_⟩|refine ⟨⟨by kernel_rfl,by kernel_rfl⟩,?_⟩|refine ⟨by decide,?_⟩|refine lit_true ?_|refine lit_false ?_))
  exact ret_is rfl (doRet ⟨at', x, x, _, steps, loads⟩ oi _ 2 (by unfold doV; rw [hk]; rfl) h0 (hle_tell _ _ rfl (.cons _ (List.Sublist.refl _)) (List.Sublist.refl _) ⟨rfl, OwnLe.refl _, trivial⟩ (PmEq.refl _)))
theorem vcellA_spec (b : List Nat) (i : Ins) (hk : (kof i.code).1 = 3) (h16 : i.k < 16) (s0 : Nat) (s : Rn) (oi : Option Nat) (h0 : oi = none → s.loads = []) (hs : s.ok) (nx : Nat) :
    ECallR Try.prog 90 [.bp (0, s0) 0, opA i .any] (vmH b s0 s oi nx 2) (doQ b s0 (doV b i s)) := by
  obtain ⟨at', a, x, cells, steps, loads⟩ := s
  obtain ⟨c0, c1, c2, c3, c4, c5, c6, c7, c8, c9, c10, c11, c12, c13, c14, c15, rfl⟩ := cells16 hs.n
  refine ecallR_wk (ecallR_of_aw Try.func90 rfl rfl ?_)
  (repeat ((conv=>whnf);first|refine ω0 ?_|refine ω1 ?_|refine ω2 ?_|refine ω3 ?_|refine ω4 rfl ?_|refine ω5 rfl ?_|refine ω6 ?_|refine ω7 ?_|refine ω8 ?_|refine ⟨rfl,?_⟩|refine ⟨trivial,?_⟩|refine ⟨⟨rfl,Nat.le_of_ble_eq_true rfl⟩,?_⟩|refine ⟨⟨by kernel_rfl,by kernel_rfl⟩,?_⟩|refine ⟨by decide,?_⟩|refine lit_true ?_|refine lit_false ?_))
  (refine aw_draw 9 ?_ ?_ ?_ ?_; (· kernel_rfl); (· kernel_rfl); (· kernel_rfl))
  (repeat ((conv=>whnf);first|refine ω0 ?_|refine ω1 ?_|refine ω2 ?_|refine ω3 ?_|refine ω4 rfl ?_|refine ω5 rfl ?_|refine ω6 ?_|refine ω7 ?_|refine ω8 ?_|refine ⟨rfl,?_⟩|refine ⟨trivial,?_⟩|refine ⟨⟨rfl,Nat.le_of_ble_eq_true rfl⟩,?_⟩|refine ⟨⟨by kernel_rfl,by kernel_rfl⟩,?_⟩|refine ⟨by decide,?_⟩|refine lit_true ?_|refine lit_false ?_))
  refine ⟨⟨by omega, by omega⟩, splitO_eq (b := .bp (0, s0) (4 + i.k)) (congrArg (AV.bp (0, s0)) (by rw [show Try.prog.cellsOf 41 = 1 by kernel_rfl, Nat.mul_one]; rfl)) ?_⟩
  (conv => whnf)
  refine ⟨⟨rfl, by show 4 + i.k < 23; omega⟩, splitO_eq (runC_get h16) ?_⟩
  (repeat ((conv=>whnf);first|refine ω0 ?_|refine ω1 ?_|refine ω2 ?_|refine ω3 ?_|refine ω4 rfl ?_|refine ω5 rfl ?_|refine ω6 ?_|refine ω7 ?_|refine ω8 ?_|refine ⟨rfl,?_⟩|refine ⟨trivial,?_⟩|refine ⟨⟨rfl,Nat.le_of_ble_eq_true rfl⟩,?_⟩|refine ⟨⟨by kernel_rfl,by kernel_rfl⟩,?_⟩|refine ⟨by decide,?_⟩|refine lit_true ?_|refine lit_false ?_))
  exact ret_is rfl (doRet ⟨at', ([c0, c1, c2, c3, c4, c5, c6, c7, c8, c9, c10, c11, c12, c13, c14, c15]).getD i.k 0, x, _, steps, loads⟩ oi _ 2 (by unfold doV; rw [hk]; rfl) h0 (hle_tell _ _ rfl (.cons _ (List.Sublist.refl _)) (List.Sublist.refl _) ⟨rfl, OwnLe.refl _, trivial⟩ (PmEq.refl _)))
theorem vcellX_spec (b : List Nat) (i : Ins) (hk : (kof i.code).1 = 6) (h16 : i.k < 16) (s0 : Nat) (s : Rn) (oi : Option Nat) (h0 : oi = none → s.loads = []) (hs : s.ok) (nx : Nat) :
    ECallR Try.prog 93 [.bp (0, s0) 0, opA i .any] (vmH b s0 s oi nx 2) (doQ b s0 (doV b i s)) := by
  obtain ⟨at', a, x, cells, steps, loads⟩ := s
  obtain ⟨c0, c1, c2, c3, c4, c5, c6, c7, c8, c9, c10, c11, c12, c13, c14, c15, rfl⟩ := cells16 hs.n
  refine ecallR_wk (ecallR_of_aw Try.func93 rfl rfl ?_)
  (repeat ((conv=>whnf);first|refine ω0 ?_|refine ω1 ?_|refine ω2 ?_|refine ω3 ?_|refine ω4 rfl ?_|refine ω5 rfl ?_|refine ω6 ?_|refine ω7 ?_|refine ω8 ?_|refine ⟨rfl,?_⟩|refine ⟨trivial,?_⟩|refine ⟨⟨rfl,Nat.le_of_ble_eq_true rfl⟩,?_⟩|refine ⟨⟨by kernel_rfl,by kernel_rfl⟩,?_⟩|refine ⟨by decide,?_⟩|refine lit_true ?_|refine lit_false ?_))
  (refine aw_draw 9 ?_ ?_ ?_ ?_; (· kernel_rfl); (· kernel_rfl); (· kernel_rfl))
  (repeat ((conv=>whnf);first|refine ω0 ?_|refine ω1 ?_|refine ω2 ?_|refine ω3 ?_|refine ω4 rfl ?_|refine ω5 rfl ?_|refine ω6 ?_|refine ω7 ?_|refine ω8 ?_|refine ⟨rfl,?_⟩|refine ⟨trivial,?_⟩|refine ⟨⟨rfl,Nat.le_of_ble_eq_true rfl⟩,?_⟩|refine ⟨⟨by kernel_rfl,by kernel_rfl⟩,?_⟩|refine ⟨by decide,?_⟩|refine lit_true ?_|refine lit_false ?_))
  refine ⟨⟨by omega, by omega⟩, splitO_eq (b := .bp (0, s0) (4 + i.k)) (congrArg (AV.bp (0, s0)) (by rw [show Try.prog.cellsOf 41 = 1 by kernel_rfl, Nat.mul_one]; rfl)) ?_⟩
  (conv => whnf)
  refine ⟨⟨rfl, by show 4 + i.k < 23; omega⟩, splitO_eq (runC_get h16) ?_⟩
  (repeat ((conv=>whnf);first|refine ω0 ?_|refine ω1 ?_|refine ω2 ?_|refine ω3 ?_|refine ω4 rfl ?_|refine ω5 rfl ?_|refine ω6 ?_|refine ω7 ?_|refine ω8 ?_|refine ⟨rfl,?_⟩|refine ⟨trivial,?_⟩|refine ⟨⟨rfl,Nat.le_of_ble_eq_true rfl⟩,?_⟩|refine ⟨⟨by kernel_rfl,by kernel_rfl⟩,?_⟩|refine ⟨by decide,?_⟩|refine lit_true ?_|refine lit_false ?_))
  exact ret_is rfl (doRet ⟨at', a, ([c0, c1, c2, c3, c4, c5, c6, c7, c8, c9, c10, c11, c12, c13, c14, c15]).getD i.k 0, _, steps, loads⟩ oi _ 2 (by unfold doV; rw [hk]; rfl) h0 (hle_tell _ _ rfl (.cons _ (List.Sublist.refl _)) (List.Sublist.refl _) ⟨rfl, OwnLe.refl _, trivial⟩ (PmEq.refl _)))
theorem vstoreA_spec (b : List Nat) (i : Ins) (hk : (kof i.code).1 = 8) (h16 : i.k < 16) (s0 : Nat) (s : Rn) (oi : Option Nat) (h0 : oi = none → s.loads = []) (hs : s.ok) (nx : Nat) :
    ECallR Try.prog 95 [.bp (0, s0) 0, opA i .any] (vmH b s0 s oi nx 2) (doQ b s0 (doV b i s)) := by
  obtain ⟨at', a, x, cells, steps, loads⟩ := s
  obtain ⟨c0, c1, c2, c3, c4, c5, c6, c7, c8, c9, c10, c11, c12, c13, c14, c15, rfl⟩ := cells16 hs.n
  refine ecallR_wk (ecallR_of_aw Try.func95 rfl rfl ?_)
  (repeat ((conv=>whnf);first|refine ω0 ?_|refine ω1 ?_|refine ω2 ?_|refine ω3 ?_|refine ω4 rfl ?_|refine ω5 rfl ?_|refine ω6 ?_|refine ω7 ?_|refine ω8 ?_|refine ⟨rfl,?_⟩|refine ⟨trivial,?_⟩|refine ⟨⟨rfl,Nat.le_of_ble_eq_true rfl⟩,?_⟩|refine ⟨⟨by kernel_rfl,by kernel_rfl⟩,?_⟩|refine ⟨by decide,?_⟩|refine lit_true ?_|refine lit_false ?_))
  (refine aw_draw 10 ?_ ?_ ?_ ?_; (· kernel_rfl); (· kernel_rfl); (· kernel_rfl))
  (repeat ((conv=>whnf);first|refine ω0 ?_|refine ω1 ?_|refine ω2 ?_|refine ω3 ?_|refine ω4 rfl ?_|refine ω5 rfl ?_|refine ω6 ?_|refine ω7 ?_|refine ω8 ?_|refine ⟨rfl,?_⟩|refine ⟨trivial,?_⟩|refine ⟨⟨rfl,Nat.le_of_ble_eq_true rfl⟩,?_⟩|refine ⟨⟨by kernel_rfl,by kernel_rfl⟩,?_⟩|refine ⟨by decide,?_⟩|refine lit_true ?_|refine lit_false ?_))
  refine ⟨⟨by omega, by omega⟩, splitO_eq (b := .bp (0, s0) (4 + i.k)) (congrArg (AV.bp (0, s0)) (by rw [show Try.prog.cellsOf 41 = 1 by kernel_rfl, Nat.mul_one]; rfl)) ?_⟩
  (conv => whnf)
  refine ⟨⟨rfl, by show 4 + i.k + 1 ≤ 23; omega⟩, ?_⟩
  (repeat ((conv=>whnf);first|refine ω0 ?_|refine ω1 ?_|refine ω2 ?_|refine ω3 ?_|refine ω4 rfl ?_|refine ω5 rfl ?_|refine ω6 ?_|refine ω7 ?_|refine ω8 ?_|refine ⟨rfl,?_⟩|refine ⟨trivial,?_⟩|refine ⟨⟨rfl,Nat.le_of_ble_eq_true rfl⟩,?_⟩|refine ⟨⟨by kernel_rfl,by kernel_rfl⟩,?_⟩|refine ⟨by decide,?_⟩|refine lit_true ?_|refine lit_false ?_))
  exact ret_is rfl (doRet ⟨at', a, x, ([c0, c1, c2, c3, c4, c5, c6, c7, c8, c9, c10, c11, c12, c13, c14, c15]).set i.k a, steps, loads⟩ oi _ 2 (by unfold doV; rw [hk]; rfl) h0 (hle_tell _ _ rfl (.cons _ (List.Sublist.refl _)) (List.Sublist.refl _) ⟨rfl, OwnLe.of_eq (congrArg Own.c (runC_set h16)), trivial⟩ (PmEq.refl _)))
theorem vstoreX_spec (b : List Nat) (i : Ins) (hk : (kof i.code).1 = 9) (h16 : i.k < 16) (s0 : Nat) (s : Rn) (oi : Option Nat) (h0 : oi = none → s.loads = []) (hs : s.ok) (nx : Nat) :
    ECallR Try.prog 96 [.bp (0, s0) 0, opA i .any] (vmH b s0 s oi nx 2) (doQ b s0 (doV b i s)) := by
  obtain ⟨at', a, x, cells, steps, loads⟩ := s
  obtain ⟨c0, c1, c2, c3, c4, c5, c6, c7, c8, c9, c10, c11, c12, c13, c14, c15, rfl⟩ := cells16 hs.n
  refine ecallR_wk (ecallR_of_aw Try.func96 rfl rfl ?_)
  (repeat ((conv=>whnf);first|refine ω0 ?_|refine ω1 ?_|refine ω2 ?_|refine ω3 ?_|refine ω4 rfl ?_|refine ω5 rfl ?_|refine ω6 ?_|refine ω7 ?_|refine ω8 ?_|refine ⟨rfl,?_⟩|refine ⟨trivial,?_⟩|refine ⟨⟨rfl,Nat.le_of_ble_eq_true rfl⟩,?_⟩|refine ⟨⟨by kernel_rfl,by kernel_rfl⟩,?_⟩|refine ⟨by decide,?_⟩|refine lit_true ?_|refine lit_false ?_))
  (refine aw_draw 10 ?_ ?_ ?_ ?_; (· kernel_rfl); (· kernel_rfl); (· kernel_rfl))
  (repeat ((conv=>whnf);first|refine ω0 ?_|refine ω1 ?_|refine ω2 ?_|refine ω3 ?_|refine ω4 rfl ?_|refine ω5 rfl ?_|refine ω6 ?_|refine ω7 ?_|refine ω8 ?_|refine ⟨rfl,?_⟩|refine ⟨trivial,?_⟩|refine ⟨⟨rfl,Nat.le_of_ble_eq_true rfl⟩,?_⟩|refine ⟨⟨by kernel_rfl,by kernel_rfl⟩,?_⟩|refine ⟨by decide,?_⟩|refine lit_true ?_|refine lit_false ?_))
  refine ⟨⟨by omega, by omega⟩, splitO_eq (b := .bp (0, s0) (4 + i.k)) (congrArg (AV.bp (0, s0)) (by rw [show Try.prog.cellsOf 41 = 1 by kernel_rfl, Nat.mul_one]; rfl)) ?_⟩
  (conv => whnf)
  refine ⟨⟨rfl, by show 4 + i.k + 1 ≤ 23; omega⟩, ?_⟩
  (repeat ((conv=>whnf);first|refine ω0 ?_|refine ω1 ?_|refine ω2 ?_|refine ω3 ?_|refine ω4 rfl ?_|refine ω5 rfl ?_|refine ω6 ?_|refine ω7 ?_|refine ω8 ?_|refine ⟨rfl,?_⟩|refine ⟨trivial,?_⟩|refine ⟨⟨rfl,Nat.le_of_ble_eq_true rfl⟩,?_⟩|refine ⟨⟨by kernel_rfl,by kernel_rfl⟩,?_⟩|refine ⟨by decide,?_⟩|refine lit_true ?_|refine lit_false ?_))
  exact ret_is rfl (doRet ⟨at', a, x, ([c0, c1, c2, c3, c4, c5, c6, c7, c8, c9, c10, c11, c12, c13, c14, c15]).set i.k x, steps, loads⟩ oi _ 2 (by unfold doV; rw [hk]; rfl) h0 (hle_tell _ _ rfl (.cons _ (List.Sublist.refl _)) (List.Sublist.refl _) ⟨rfl, OwnLe.of_eq (congrArg Own.c (runC_set h16)), trivial⟩ (PmEq.refl _)))
theorem vneg_spec (b : List Nat) (i : Ins) (hk : (kof i.code).1 = 12) (s0 : Nat) (s : Rn) (oi : Option Nat) (h0 : oi = none → s.loads = []) (hs : s.ok) (nx : Nat) :
    ECallR Try.prog 99 [.bp (0, s0) 0, opA i .any] (vmH b s0 s oi nx 2) (doQ b s0 (doV b i s)) := by
  obtain ⟨at', a, x, cells, steps, loads⟩ := s
  obtain ⟨c0, c1, c2, c3, c4, c5, c6, c7, c8, c9, c10, c11, c12, c13, c14, c15, rfl⟩ := cells16 hs.n
  refine ecallR_wk (ecallR_of_aw Try.func99 rfl rfl ?_)
  (repeat ((conv=>whnf);first|refine ω0 ?_|refine ω1 ?_|refine ω2 ?_|refine ω3 ?_|refine ω4 rfl ?_|refine ω5 rfl ?_|refine ω6 ?_|refine ω7 ?_|refine ω8 ?_|refine ⟨rfl,?_⟩|refine ⟨trivial,?_⟩|refine ⟨⟨rfl,Nat.le_of_ble_eq_true rfl⟩,?_⟩|refine ⟨⟨by kernel_rfl,by kernel_rfl⟩,?_⟩|refine ⟨by decide,?_⟩|refine lit_true ?_|refine lit_false ?_))
  have hv : IntKind.u32.wrap (0 - (a : Int)) = (((4294967296 - a) % 4294967296 : Nat) : Int) := by
    have := hs.a
    dsimp only at this
    show (0 - (a : Int)) % 4294967296 = _
    omega
  exact ret_is rfl (doRet ⟨at', (4294967296 - a) % 4294967296, x, _, steps, loads⟩ oi _ 2 (by unfold doV; rw [hk]; rfl) h0 (hle_tell _ _ rfl (.cons _ (List.Sublist.refl _)) (List.Sublist.refl _) ⟨rfl, ⟨AVle.refl _, AVle.refl _, le_int hv, LeL.refl _⟩, trivial⟩ (PmEq.refl _)))
theorem vjump_spec (b : List Nat) (i : Ins) (hk : (kof i.code).1 = 13) (s0 : Nat) (s : Rn) (oi : Option Nat) (h0 : oi = none → s.loads = []) (hs : s.ok) (hj : s.at' + i.k ≤ 1000000) (nx : Nat) :
    ECallR Try.prog 100 [.bp (0, s0) 0, opA i .any] (vmH b s0 s oi nx 2) (doQ b s0 (doV b i s)) := by
  obtain ⟨at', a, x, cells, steps, loads⟩ := s
  obtain ⟨c0, c1, c2, c3, c4, c5, c6, c7, c8, c9, c10, c11, c12, c13, c14, c15, rfl⟩ := cells16 hs.n
  refine ecallR_wk (ecallR_of_aw Try.func100 rfl rfl ?_)
  (repeat ((conv=>whnf);first|refine ω0 ?_|refine ω1 ?_|refine ω2 ?_|refine ω3 ?_|refine ω4 rfl ?_|refine ω5 rfl ?_|refine ω6 ?_|refine ω7 ?_|refine ω8 ?_|refine ⟨rfl,?_⟩|refine ⟨trivial,?_⟩|refine ⟨⟨rfl,Nat.le_of_ble_eq_true rfl⟩,?_⟩|refine ⟨⟨by kernel_rfl,by kernel_rfl⟩,?_⟩|refine ⟨by decide,?_⟩|refine lit_true ?_|refine lit_false ?_))
  (refine aw_draw 9 ?_ ?_ ?_ ?_; (· kernel_rfl); (· kernel_rfl); (· kernel_rfl))
  (repeat ((conv=>whnf);first|refine ω0 ?_|refine ω1 ?_|refine ω2 ?_|refine ω3 ?_|refine ω4 rfl ?_|refine ω5 rfl ?_|refine ω6 ?_|refine ω7 ?_|refine ω8 ?_|refine ⟨rfl,?_⟩|refine ⟨trivial,?_⟩|refine ⟨⟨rfl,Nat.le_of_ble_eq_true rfl⟩,?_⟩|refine ⟨⟨by kernel_rfl,by kernel_rfl⟩,?_⟩|refine ⟨by decide,?_⟩|refine lit_true ?_|refine lit_false ?_))
  have hv : IntKind.i64.wrap ((at' : Int) + IntKind.i64.wrap (i.k : Int)) = ((at' + i.k : Nat) : Int) := by
    dsimp only at hj
    rw [show IntKind.i64.wrap (i.k : Int) = i.k from wrap_id (by omega) (by omega), wrap_id (by omega) (by omega)]; omega
  exact ret_is rfl (doRet ⟨at' + i.k, a, x, _, steps, loads⟩ oi _ 2 (by unfold doV; rw [hk]; rfl) h0 (hle_tell _ _ rfl (.cons _ (List.Sublist.refl _)) (List.Sublist.refl _) ⟨rfl, ⟨AVle.refl _, le_int hv, AVle.refl _, LeL.refl _⟩, trivial⟩ (PmEq.refl _)))
theorem vretK_spec (b : List Nat) (i : Ins) (hk : (kof i.code).1 = 14) (s0 : Nat) (s : Rn) (oi : Option Nat) (h0 : oi = none → s.loads = []) (hs : s.ok) (nx : Nat) :
    ECallR Try.prog 101 [.bp (0, s0) 0, opA i .any] (vmH b s0 s oi nx 2) (doQ b s0 (doV b i s)) := by
  obtain ⟨at', a, x, cells, steps, loads⟩ := s
  obtain ⟨c0, c1, c2, c3, c4, c5, c6, c7, c8, c9, c10, c11, c12, c13, c14, c15, rfl⟩ := cells16 hs.n
  refine ecallR_wk (ecallR_of_aw Try.func101 rfl rfl ?_)
  (repeat ((conv=>whnf);first|refine ω0 ?_|refine ω1 ?_|refine ω2 ?_|refine ω3 ?_|refine ω4 rfl ?_|refine ω5 rfl ?_|refine ω6 ?_|refine ω7 ?_|refine ω8 ?_|refine ⟨rfl,?_⟩|refine ⟨trivial,?_⟩|refine ⟨⟨rfl,Nat.le_of_ble_eq_true rfl⟩,?_⟩|refine ⟨⟨by kernel_rfl,by kernel_rfl⟩,?_⟩|refine ⟨by decide,?_⟩|refine lit_true ?_|refine lit_false ?_))
  exact doPan i.k ⟨at', a, x, _, steps, loads⟩ oi _ 2 (by unfold doV; rw [hk]; rfl) (AVle.refl _) h0 (hle_tell _ _ rfl (.cons _ (List.Sublist.refl _)) (List.Sublist.refl _) ⟨rfl, OwnLe.refl _, trivial⟩ (PmEq.refl _))
theorem vretA_spec (b : List Nat) (i : Ins) (hk : (kof i.code).1 = 15) (s0 : Nat) (s : Rn) (oi : Option Nat) (h0 : oi = none → s.loads = []) (hs : s.ok) (nx : Nat) :
    ECallR Try.prog 102 [.bp (0, s0) 0, opA i .any] (vmH b s0 s oi nx 2) (doQ b s0 (doV b i s)) := by
  obtain ⟨at', a, x, cells, steps, loads⟩ := s
  obtain ⟨c0, c1, c2, c3, c4, c5, c6, c7, c8, c9, c10, c11, c12, c13, c14, c15, rfl⟩ := cells16 hs.n
  refine ecallR_wk (ecallR_of_aw Try.func102 rfl rfl ?_)
  (repeat ((conv=>whnf);first|refine ω0 ?_|refine ω1 ?_|refine ω2 ?_|refine ω3 ?_|refine ω4 rfl ?_|refine ω5 rfl ?_|refine ω6 ?_|refine ω7 ?_|refine ω8 ?_|refine ⟨rfl,?_⟩|refine ⟨trivial,?_⟩|refine ⟨⟨rfl,Nat.le_of_ble_eq_true rfl⟩,?_⟩|refine ⟨⟨by kernel_rfl,by kernel_rfl⟩,?_⟩|refine ⟨by decide,?_⟩|refine lit_true ?_|refine lit_false ?_))
  exact doPan a ⟨at', a, x, _, steps, loads⟩ oi _ 2 (by unfold doV; rw [hk]; rfl) (AVle.refl _) h0 (hle_tell _ _ rfl (.cons _ (List.Sublist.refl _)) (List.Sublist.refl _) ⟨rfl, OwnLe.refl _, trivial⟩ (PmEq.refl _))
theorem snoc_row {l : List Nat} {x : Int} {v s c : Nat} {f' : Nat → AV} (hx : x = (v : Nat)) (hf : f' 0 = int x) : AVle (.os 1 (l.length + 1) (appF l.length (natF l) f') (some (c, s))) (.os 1 (l ++ [v]).length (natF (l ++ [v])) (some (1, s))) := by
  refine AVle.trans (b := .os 1 (l.length + 1) (natF (l ++ [v])) (some (c, s))) (AVle.os_fun (appF_one (fun k hk => ?_) ?_)) ?_
  · simp [natF, List.getD, List.getElem?_append_left hk, hk]
  · rw [hf, hx]; simp [natF, List.getD]
  · rw [List.length_append]; exact AVle.os_nm rfl
theorem le_load {b : List Nat} {at' a x steps a' : Nat} {loads loads' : List Nat} {oi oi' : Option Nat} {c0 c1 c2 c3 c4 c5 c6 c7 c8 c9 c10 c11 c12 c13 c14 c15 : Nat} {V X : AV} (hV : AVle V (u32 a')) (hX : AVle X (.os 1 loads'.length (natF loads') (nmN 1 oi'))) :
    OwnLe (.c (splice (splice (runC b ⟨at', a, x, [c0, c1, c2, c3, c4, c5, c6, c7, c8, c9, c10, c11, c12, c13, c14, c15], steps, loads⟩ oi) 2 [V]) 22 [X])) (.c (runC b ⟨at', a', x, [c0, c1, c2, c3, c4, c5, c6, c7, c8, c9, c10, c11, c12, c13, c14, c15], steps, loads'⟩ oi')) := by
  show LeL [bytesA b, int at', V, u32 x, u32A c0, u32A c1, u32A c2, u32A c3, u32A c4, u32A c5, u32A c6, u32A c7, u32A c8, u32A c9, u32A c10, u32A c11, u32A c12, u32A c13, u32A c14, u32A c15, u32 0, int steps, X] [bytesA b, int at', u32 a', u32 x, u32A c0, u32A c1, u32A c2, u32A c3, u32A c4, u32A c5, u32A c6, u32A c7, u32A c8, u32A c9, u32A c10, u32A c11, u32A c12, u32A c13, u32A c14, u32A c15, u32 0, int steps, .os 1 loads'.length (natF loads') (nmN 1 oi')]
  exact ⟨AVle.refl _, AVle.refl _, hV, AVle.refl _, AVle.refl _, AVle.refl _, AVle.refl _, AVle.refl _, AVle.refl _, AVle.refl _, AVle.refl _, AVle.refl _, AVle.refl _, AVle.refl _, AVle.refl _, AVle.refl _, AVle.refl _, AVle.refl _, AVle.refl _, AVle.refl _, AVle.refl _, AVle.refl _, hX, trivial⟩
theorem vload_spec (b : List Nat) (hb : okB b) (hbl : b.length = 64) (i : Ins) (hk : (kof i.code).1 = 1) (h60 : i.k ≤ 60) (s0 : Nat) (s : Rn) (oi : Option Nat) (h0 : oi = none → s.loads = []) (hs : s.ok) (hl : s.loads.length ≤ 1000000) (nx : Nat) :
    ECallR Try.prog 88 [.bp (0, s0) 0, opA i .any] (vmH b s0 s oi nx 2) (doQ b s0 (doV b i s)) := by
  obtain ⟨at', a, x, cells, steps, loads⟩ := s
  obtain ⟨c0, c1, c2, c3, c4, c5, c6, c7, c8, c9, c10, c11, c12, c13, c14, c15, rfl⟩ := cells16 hs.n
  have hwk : IntKind.i64.wrap (i.k : Int) = (i.k : Nat) := wrap_id (by omega) (by omega)
  have hz : thereI b.length (i.k : Int) 4 = 0 := by unfold thereI; rw [if_pos ⟨by omega, by omega⟩]
  have hg := get_spec b hb (by omega) (i.k : Int) ⟨by omega, by omega⟩ 4 (.inr (.inr (.inl rfl))) false
  rw [if_pos hz, hz] at hg
  have hg : Tells Try.prog 61 [bytesA b, int i.k, int 4, boolA false] (.tup [u64 (wordL b i.k : Nat), int 0]) := hg
  have hw := wordL_lt hb i.k
  have hl2 : loads.length ≤ 1000000 := hl
  have hwv : IntKind.u32.wrap (wordL b i.k : Nat) = (wordL b i.k : Nat) := by show ((wordL b i.k : Nat) : Int) % 4294967296 = _; omega
  refine ecallR_wk (ecallR_of_aw Try.func88 rfl rfl ?_)
  (repeat ((conv=>whnf);first|refine ω0 ?_|refine ω1 ?_|refine ω2 ?_|refine ω3 ?_|refine ω4 rfl ?_|refine ω5 rfl ?_|refine ω6 ?_|refine ω7 ?_|refine ω8 ?_|refine ⟨rfl,?_⟩|refine ⟨trivial,?_⟩|refine ⟨⟨rfl,Nat.le_of_ble_eq_true rfl⟩,?_⟩|refine ⟨⟨by kernel_rfl,by kernel_rfl⟩,?_⟩|refine ⟨by decide,?_⟩|refine lit_true ?_|refine lit_false ?_))
  (refine aw_draw 14 ?_ ?_ ?_ ?_; (· kernel_rfl); (· kernel_rfl); (· kernel_rfl))
  (repeat ((conv=>whnf);first|refine ω0 ?_|refine ω1 ?_|refine ω2 ?_|refine ω3 ?_|refine ω4 rfl ?_|refine ω5 rfl ?_|refine ω6 ?_|refine ω7 ?_|refine ω8 ?_|refine ⟨rfl,?_⟩|refine ⟨trivial,?_⟩|refine ⟨⟨rfl,Nat.le_of_ble_eq_true rfl⟩,?_⟩|refine ⟨⟨by kernel_rfl,by kernel_rfl⟩,?_⟩|refine ⟨by decide,?_⟩|refine lit_true ?_|refine lit_false ?_))
  refine ex_yields (yields_tells rfl rfl hg ⟨AVle.refl _, le_int hwk, AVle.refl _, AVle.refl _, trivial⟩ (NoId.tup fun c hc => ?_)) ?_
  · simp at hc; rcases hc with rfl | rfl <;> exact NoId.v _
  (repeat ((conv=>whnf);first|refine ω0 ?_|refine ω1 ?_|refine ω2 ?_|refine ω3 ?_|refine ω4 rfl ?_|refine ω5 rfl ?_|refine ω6 ?_|refine ω7 ?_|refine ω8 ?_|refine ⟨rfl,?_⟩|refine ⟨trivial,?_⟩|refine ⟨⟨rfl,Nat.le_of_ble_eq_true rfl⟩,?_⟩|refine ⟨⟨by kernel_rfl,by kernel_rfl⟩,?_⟩|refine ⟨by decide,?_⟩|refine lit_true ?_|refine lit_false ?_))
  refine aw_mix 12 _ (fun i => match i with | 11 => true | _ => false) [0, 1, 2, 3, 4, 5, 6, 7, 8, 9, 10, 11] (by kernel_rfl) (by kernel_rfl) (HB.refl _) ?_
  (repeat ((conv=>whnf);first|refine ω0 ?_|refine ω1 ?_|refine ω2 ?_|refine ω3 ?_|refine ω4 rfl ?_|refine ω5 rfl ?_|refine ω6 ?_|refine ω7 ?_|refine ω8 ?_|refine ⟨rfl,?_⟩|refine ⟨trivial,?_⟩|refine ⟨⟨rfl,Nat.le_of_ble_eq_true rfl⟩,?_⟩|refine ⟨⟨by kernel_rfl,by kernel_rfl⟩,?_⟩|refine ⟨by decide,?_⟩|refine lit_true ?_|refine lit_false ?_))
  refine ⟨_, eff_append1 (e := 3) (c := 1) (pm := []) (HB.refl _) rfl rfl rfl (.inr ⟨_, rfl⟩) (by kernel_rfl) (by kernel_rfl) (by kernel_rfl) (.inr rfl) (by kernel_rfl) (List.append_nil _).symm (oneRow_one rfl) (by show (loads.length + 1) * 8 ≤ _; omega) (by show loads.length + 1 ≤ _; omega), fun r h' hr => ?_⟩
  obtain ⟨rfl, rfl⟩ := hr
  (repeat ((conv=>whnf);first|refine ω0 ?_|refine ω1 ?_|refine ω2 ?_|refine ω3 ?_|refine ω4 rfl ?_|refine ω5 rfl ?_|refine ω6 ?_|refine ω7 ?_|refine ω8 ?_|refine ⟨rfl,?_⟩|refine ⟨trivial,?_⟩|refine ⟨⟨rfl,Nat.le_of_ble_eq_true rfl⟩,?_⟩|refine ⟨⟨by kernel_rfl,by kernel_rfl⟩,?_⟩|refine ⟨by decide,?_⟩|refine lit_true ?_|refine lit_false ?_))
  exact ret_is rfl (doRet ⟨at', wordL b i.k, x, _, steps, loads ++ [i.k]⟩ (some _) _ 2 (by unfold doV; rw [hk]; rfl) (fun h => by cases h) (hle_tell _ _ rfl (.cons _ (List.Sublist.refl _)) (List.Sublist.refl _) ⟨rfl, le_load (le_int hwv) (snoc_row hwk rfl), trivial⟩ ⟨rfl, by simp, trivial⟩))
end Go.Proofs.W

namespace Go.Proofs.W
open Go.Vl
set_option maxRecDepth 100000

theorem other_spec (b : List Nat) (i : Ins) (s : Rn) (oi : Option Nat) : Tells Try.prog 103 [.rp (runC b s oi), opA i .any] (u32 (altV i s : Nat)) := by
  refine tells_of_aw Try.func103 rfl rfl fun nx => ?_
  (repeat ((conv=>whnf);first|refine ω0 ?_|refine ω1 ?_|refine ω2 ?_|refine ω3 ?_|refine ω4 rfl ?_|refine ω5 rfl ?_|refine ω6 ?_|refine ω7 ?_|refine ω8 ?_|refine ⟨rfl,?_⟩|refine ⟨trivial,?_⟩|refine ⟨⟨rfl,Nat.le_of_ble_eq_true rfl⟩,?_⟩|refine ⟨⟨by kernel_rfl,by kernel_rfl⟩,?_⟩|refine ⟨by decide,?_⟩|refine lit_true ?_|refine lit_false ?_))
  intro c hc
  (repeat ((conv=>whnf);first|refine ω0 ?_|refine ω1 ?_|refine ω2 ?_|refine ω3 ?_|refine ω4 rfl ?_|refine ω5 rfl ?_|refine ω6 ?_|refine ω7 ?_|refine ω8 ?_|refine ⟨rfl,?_⟩|refine ⟨trivial,?_⟩|refine ⟨⟨rfl,Nat.le_of_ble_eq_true rfl⟩,?_⟩|refine ⟨⟨by kernel_rfl,by kernel_rfl⟩,?_⟩|refine ⟨by decide,?_⟩|refine lit_true ?_|refine lit_false ?_))
  cases c
  · (repeat ((conv=>whnf);first|refine ω0 ?_|refine ω1 ?_|refine ω2 ?_|refine ω3 ?_|refine ω4 rfl ?_|refine ω5 rfl ?_|refine ω6 ?_|refine ω7 ?_|refine ω8 ?_|refine ⟨rfl,?_⟩|refine ⟨trivial,?_⟩|refine ⟨⟨rfl,Nat.le_of_ble_eq_true rfl⟩,?_⟩|refine ⟨⟨by kernel_rfl,by kernel_rfl⟩,?_⟩|refine ⟨by decide,?_⟩|refine lit_true ?_|refine lit_false ?_))
    refine ret_tells rfl (le_int ?_)
    unfold altV; rw [← hc]; rfl
  · (repeat ((conv=>whnf);first|refine ω0 ?_|refine ω1 ?_|refine ω2 ?_|refine ω3 ?_|refine ω4 rfl ?_|refine ω5 rfl ?_|refine ω6 ?_|refine ω7 ?_|refine ω8 ?_|refine ⟨rfl,?_⟩|refine ⟨trivial,?_⟩|refine ⟨⟨rfl,Nat.le_of_ble_eq_true rfl⟩,?_⟩|refine ⟨⟨by kernel_rfl,by kernel_rfl⟩,?_⟩|refine ⟨by decide,?_⟩|refine lit_true ?_|refine lit_false ?_))
    refine ret_tells rfl (le_int ?_)
    unfold altV; rw [← hc]; rfl
theorem w32 {n : Nat} : IntKind.u32.wrap (n : Int) = ((n % 4294967296 : Nat) : Int) := by show (n : Int) % 4294967296 = _; omega
theorem w32_id {n : Nat} (h : n < 4294967296) : IntKind.u32.wrap (n : Int) = (n : Int) := by rw [w32, Nat.mod_eq_of_lt h]
theorem bits_xor {a b : Nat} (ha : a < 4294967296) (hb : b < 4294967296) : bitsI .xor .u32 a b = ((a ^^^ b : Nat) : Int) := by
  have hx : a ^^^ b < 2 ^ 32 := Nat.xor_lt_two_pow (n := 32) ha hb
  unfold bitsI
  simp only [BitVec.toNat_xor]
  rw [ofInt_nat (by exact ha), ofInt_nat (by exact hb)]
  exact w32_id hx
theorem u32_or' {a b : Nat} (ha : a < 4294967296) (hb : b < 4294967296) : bitsI .or .u32 a b = ((a ||| b : Nat) : Int) := by
  have hx : a ||| b < 2 ^ 32 := Nat.or_lt_two_pow (n := 32) ha hb
  exact bits_or (k := .u32) ha hb (w32_id hx)
theorem add32 (a n : Nat) : IntKind.u32.wrap ((a : Int) + n) = (((a + n) % 4294967296 : Nat) : Int) := by
  rw [← w32]; rfl
theorem sub32 {a n : Nat} (hn : n < 4294967296) : IntKind.u32.wrap ((a : Int) - n) = (((a + 4294967296 - n) % 4294967296 : Nat) : Int) := by
  show ((a : Int) - n) % 4294967296 = _; omega
theorem mul32 (a n : Nat) : IntKind.u32.wrap ((a : Int) * n) = ((a * n % 4294967296 : Nat) : Int) := by
  rw [← w32]; rfl
theorem quo32 {a n : Nat} (ha : a < 4294967296) : IntKind.u32.wrap ((a : Int).tdiv n) = ((a / n : Nat) : Int) := by
  have : (a : Int).tdiv n = ((a / n : Nat) : Int) := rfl
  rw [this, w32_id (Nat.lt_of_le_of_lt (Nat.div_le_self _ _) ha)]
theorem rem32 (n : Nat) : Int.toNat ((n : Int).tmod 32) = n % 32 := rfl
theorem shl32 (a n : Nat) : IntKind.u32.wrap ((a : Int) * 2 ^ (min (Int.toNat ((n : Int).tmod 32)) IntKind.u32.bits)) = ((a * 2 ^ (n % 32) % 4294967296 : Nat) : Int) := by
  have hm : min (Int.toNat ((n : Int).tmod 32)) IntKind.u32.bits = n % 32 := by
    rw [rem32]; show min (n % 32) 32 = _; omega
  rw [hm, ← w32]
  push_cast
  rfl
theorem shr32 (a n : Nat) : (a : Int).fdiv (2 ^ (min (Int.toNat ((n : Int).tmod 32)) IntKind.u32.bits)) = ((a / 2 ^ (n % 32) : Nat) : Int) := by
  have hm : min (Int.toNat ((n : Int).tmod 32)) IntKind.u32.bits = n % 32 := by
    rw [rem32]; show min (n % 32) 32 = _; omega
  rw [hm, Int.fdiv_eq_ediv_of_nonneg _ (by exact_mod_cast Nat.zero_le _)]
  simp
theorem reckon_spec (b : List Nat) (i : Ins) (hi : i.ok) (h16 : 16 ≤ (kof i.code).1) (h25 : (kof i.code).1 < 25) (s0 : Nat) (s : Rn) (oi : Option Nat) (h0 : oi = none → s.loads = []) (hs : s.ok) (nx : Nat) :
    ECallR Try.prog 68 [.bp (0, s0) 0, opA i .any] (vmH b s0 s oi nx 2) (doQ b s0 (doV b i s)) := by
  have hn := altV_lt hi hs
  have ha := hs.a
  have hoth := other_spec b i s oi
  have hd : doV b i s = (match reckV (kof i.code).1 s.a (altV i s) with | some v => (none, { s with a := v }) | none => (some 0, s)) := by
    unfold doV
    split <;> first | (exfalso; omega) | skip
    rw [if_pos h25]
    try rfl
  generalize altV i s = n at *
  obtain ⟨at', a, x, cells, steps, loads⟩ := s
  obtain ⟨c0, c1, c2, c3, c4, c5, c6, c7, c8, c9, c10, c11, c12, c13, c14, c15, rfl⟩ := cells16 hs.n
  dsimp only at ha
  rw [hd]
  have hk := h16
  generalize hK : (kof i.code).1 = K at *
  refine ecallR_wk (ecallR_of_aw Try.func68 rfl rfl ?_)
  (repeat ((conv=>whnf);first|refine ω0 ?_|refine ω1 ?_|refine ω2 ?_|refine ω3 ?_|refine ω4 rfl ?_|refine ω5 rfl ?_|refine ω6 ?_|refine ω7 ?_|refine ω8 ?_|refine ⟨rfl,?_⟩|refine ⟨trivial,?_⟩|refine ⟨⟨rfl,Nat.le_of_ble_eq_true rfl⟩,?_⟩|refine ⟨⟨by kernel_rfl,by kernel_rfl⟩,?_⟩|refine ⟨by decide,?_⟩|refine lit_true ?_|refine lit_false ?_))
  refine AOp.of_yields (yields_look rfl rfl hoth ⟨Frz.bp (.tail _ (.head _)) rfl, Frz.refl _, trivial⟩ (Flat.v _)) ?_
  (repeat ((conv=>whnf);first|refine ω0 ?_|refine ω1 ?_|refine ω2 ?_|refine ω3 ?_|refine ω4 rfl ?_|refine ω5 rfl ?_|refine ω6 ?_|refine ω7 ?_|refine ω8 ?_|refine ⟨rfl,?_⟩|refine ⟨trivial,?_⟩|refine ⟨⟨rfl,Nat.le_of_ble_eq_true rfl⟩,?_⟩|refine ⟨⟨by kernel_rfl,by kernel_rfl⟩,?_⟩|refine ⟨by decide,?_⟩|refine lit_true ?_|refine lit_false ?_))
  intro c t16; cases c
  · have t16 := fct_b0.1 t16
    (repeat ((conv=>whnf);first|refine ω0 ?_|refine ω1 ?_|refine ω2 ?_|refine ω3 ?_|refine ω4 rfl ?_|refine ω5 rfl ?_|refine ω6 ?_|refine ω7 ?_|refine ω8 ?_|refine ⟨rfl,?_⟩|refine ⟨trivial,?_⟩|refine ⟨⟨rfl,Nat.le_of_ble_eq_true rfl⟩,?_⟩|refine ⟨⟨by kernel_rfl,by kernel_rfl⟩,?_⟩|refine ⟨by decide,?_⟩|refine lit_true ?_|refine lit_false ?_))
    intro c t17; cases c
    · have t17 := fct_b0.1 t17
      (repeat ((conv=>whnf);first|refine ω0 ?_|refine ω1 ?_|refine ω2 ?_|refine ω3 ?_|refine ω4 rfl ?_|refine ω5 rfl ?_|refine ω6 ?_|refine ω7 ?_|refine ω8 ?_|refine ⟨rfl,?_⟩|refine ⟨trivial,?_⟩|refine ⟨⟨rfl,Nat.le_of_ble_eq_true rfl⟩,?_⟩|refine ⟨⟨by kernel_rfl,by kernel_rfl⟩,?_⟩|refine ⟨by decide,?_⟩|refine lit_true ?_|refine lit_false ?_))
      intro c t18; cases c
      · have t18 := fct_b0.1 t18
        (repeat ((conv=>whnf);first|refine ω0 ?_|refine ω1 ?_|refine ω2 ?_|refine ω3 ?_|refine ω4 rfl ?_|refine ω5 rfl ?_|refine ω6 ?_|refine ω7 ?_|refine ω8 ?_|refine ⟨rfl,?_⟩|refine ⟨trivial,?_⟩|refine ⟨⟨rfl,Nat.le_of_ble_eq_true rfl⟩,?_⟩|refine ⟨⟨by kernel_rfl,by kernel_rfl⟩,?_⟩|refine ⟨by decide,?_⟩|refine lit_true ?_|refine lit_false ?_))
        intro c t19; cases c
        · have t19 := fct_b0.1 t19
          (repeat ((conv=>whnf);first|refine ω0 ?_|refine ω1 ?_|refine ω2 ?_|refine ω3 ?_|refine ω4 rfl ?_|refine ω5 rfl ?_|refine ω6 ?_|refine ω7 ?_|refine ω8 ?_|refine ⟨rfl,?_⟩|refine ⟨trivial,?_⟩|refine ⟨⟨rfl,Nat.le_of_ble_eq_true rfl⟩,?_⟩|refine ⟨⟨by kernel_rfl,by kernel_rfl⟩,?_⟩|refine ⟨by decide,?_⟩|refine lit_true ?_|refine lit_false ?_))
          intro c t20; cases c
          · have t20 := fct_b0.1 t20
            (repeat ((conv=>whnf);first|refine ω0 ?_|refine ω1 ?_|refine ω2 ?_|refine ω3 ?_|refine ω4 rfl ?_|refine ω5 rfl ?_|refine ω6 ?_|refine ω7 ?_|refine ω8 ?_|refine ⟨rfl,?_⟩|refine ⟨trivial,?_⟩|refine ⟨⟨rfl,Nat.le_of_ble_eq_true rfl⟩,?_⟩|refine ⟨⟨by kernel_rfl,by kernel_rfl⟩,?_⟩|refine ⟨by decide,?_⟩|refine lit_true ?_|refine lit_false ?_))
            intro c t21; cases c
            · have t21 := fct_b0.1 t21
              (repeat ((conv=>whnf);first|refine ω0 ?_|refine ω1 ?_|refine ω2 ?_|refine ω3 ?_|refine ω4 rfl ?_|refine ω5 rfl ?_|refine ω6 ?_|refine ω7 ?_|refine ω8 ?_|refine ⟨rfl,?_⟩|refine ⟨trivial,?_⟩|refine ⟨⟨rfl,Nat.le_of_ble_eq_true rfl⟩,?_⟩|refine ⟨⟨by kernel_rfl,by kernel_rfl⟩,?_⟩|refine ⟨by decide,?_⟩|refine lit_true ?_|refine lit_false ?_))
              intro c t22; cases c
              · have t22 := fct_b0.1 t22
                (repeat ((conv=>whnf);first|refine ω0 ?_|refine ω1 ?_|refine ω2 ?_|refine ω3 ?_|refine ω4 rfl ?_|refine ω5 rfl ?_|refine ω6 ?_|refine ω7 ?_|refine ω8 ?_|refine ⟨rfl,?_⟩|refine ⟨trivial,?_⟩|refine ⟨⟨rfl,Nat.le_of_ble_eq_true rfl⟩,?_⟩|refine ⟨⟨by kernel_rfl,by kernel_rfl⟩,?_⟩|refine ⟨by decide,?_⟩|refine lit_true ?_|refine lit_false ?_))
                intro c t23; cases c
                · have t23 := fct_b0.1 t23
                  (repeat ((conv=>whnf);first|refine ω0 ?_|refine ω1 ?_|refine ω2 ?_|refine ω3 ?_|refine ω4 rfl ?_|refine ω5 rfl ?_|refine ω6 ?_|refine ω7 ?_|refine ω8 ?_|refine ⟨rfl,?_⟩|refine ⟨trivial,?_⟩|refine ⟨⟨rfl,Nat.le_of_ble_eq_true rfl⟩,?_⟩|refine ⟨⟨by kernel_rfl,by kernel_rfl⟩,?_⟩|refine ⟨by decide,?_⟩|refine lit_true ?_|refine lit_false ?_))
                  obtain rfl : K = 24 := by omega
                  (repeat ((conv=>whnf);first|refine ω0 ?_|refine ω1 ?_|refine ω2 ?_|refine ω3 ?_|refine ω4 rfl ?_|refine ω5 rfl ?_|refine ω6 ?_|refine ω7 ?_|refine ω8 ?_|refine ⟨rfl,?_⟩|refine ⟨trivial,?_⟩|refine ⟨⟨rfl,Nat.le_of_ble_eq_true rfl⟩,?_⟩|refine ⟨⟨by kernel_rfl,by kernel_rfl⟩,?_⟩|refine ⟨by decide,?_⟩|refine lit_true ?_|refine lit_false ?_))
                  exact ret_is rfl (doRet ⟨at', a ^^^ n, x, _, steps, loads⟩ oi _ 2 rfl h0 (hle_tell _ _ rfl (.cons _ (List.Sublist.refl _)) (List.Sublist.refl _) ⟨rfl, ⟨AVle.refl _, AVle.refl _, le_int (bits_xor ha hn), LeL.refl _⟩, trivial⟩ (PmEq.refl _)))
                · have t23 := fct_b1.1 t23
                  obtain rfl : K = 23 := by omega
                  (repeat ((conv=>whnf);first|refine ω0 ?_|refine ω1 ?_|refine ω2 ?_|refine ω3 ?_|refine ω4 rfl ?_|refine ω5 rfl ?_|refine ω6 ?_|refine ω7 ?_|refine ω8 ?_|refine ⟨rfl,?_⟩|refine ⟨trivial,?_⟩|refine ⟨⟨rfl,Nat.le_of_ble_eq_true rfl⟩,?_⟩|refine ⟨⟨by kernel_rfl,by kernel_rfl⟩,?_⟩|refine ⟨by decide,?_⟩|refine lit_true ?_|refine lit_false ?_))
                  refine ⟨Int.natCast_nonneg _, ?_⟩
                  (repeat ((conv=>whnf);first|refine ω0 ?_|refine ω1 ?_|refine ω2 ?_|refine ω3 ?_|refine ω4 rfl ?_|refine ω5 rfl ?_|refine ω6 ?_|refine ω7 ?_|refine ω8 ?_|refine ⟨rfl,?_⟩|refine ⟨trivial,?_⟩|refine ⟨⟨rfl,Nat.le_of_ble_eq_true rfl⟩,?_⟩|refine ⟨⟨by kernel_rfl,by kernel_rfl⟩,?_⟩|refine ⟨by decide,?_⟩|refine lit_true ?_|refine lit_false ?_))
                  exact ret_is rfl (doRet ⟨at', a / 2 ^ (n % 32), x, _, steps, loads⟩ oi _ 2 rfl h0 (hle_tell _ _ rfl (.cons _ (List.Sublist.refl _)) (List.Sublist.refl _) ⟨rfl, ⟨AVle.refl _, AVle.refl _, le_int (shr32 a n), LeL.refl _⟩, trivial⟩ (PmEq.refl _)))
              · have t22 := fct_b1.1 t22
                obtain rfl : K = 22 := by omega
                (repeat ((conv=>whnf);first|refine ω0 ?_|refine ω1 ?_|refine ω2 ?_|refine ω3 ?_|refine ω4 rfl ?_|refine ω5 rfl ?_|refine ω6 ?_|refine ω7 ?_|refine ω8 ?_|refine ⟨rfl,?_⟩|refine ⟨trivial,?_⟩|refine ⟨⟨rfl,Nat.le_of_ble_eq_true rfl⟩,?_⟩|refine ⟨⟨by kernel_rfl,by kernel_rfl⟩,?_⟩|refine ⟨by decide,?_⟩|refine lit_true ?_|refine lit_false ?_))
                refine ⟨Int.natCast_nonneg _, ?_⟩
                (repeat ((conv=>whnf);first|refine ω0 ?_|refine ω1 ?_|refine ω2 ?_|refine ω3 ?_|refine ω4 rfl ?_|refine ω5 rfl ?_|refine ω6 ?_|refine ω7 ?_|refine ω8 ?_|refine ⟨rfl,?_⟩|refine ⟨trivial,?_⟩|refine ⟨⟨rfl,Nat.le_of_ble_eq_true rfl⟩,?_⟩|refine ⟨⟨by kernel_rfl,by kernel_rfl⟩,?_⟩|refine ⟨by decide,?_⟩|refine lit_true ?_|refine lit_false ?_))
                exact ret_is rfl (doRet ⟨at', a * 2 ^ (n % 32) % 4294967296, x, _, steps, loads⟩ oi _ 2 rfl h0 (hle_tell _ _ rfl (.cons _ (List.Sublist.refl _)) (List.Sublist.refl _) ⟨rfl, ⟨AVle.refl _, AVle.refl _, le_int (shl32 a n), LeL.refl _⟩, trivial⟩ (PmEq.refl _)))
            · have t21 := fct_b1.1 t21
              obtain rfl : K = 21 := by omega
              (repeat ((conv=>whnf);first|refine ω0 ?_|refine ω1 ?_|refine ω2 ?_|refine ω3 ?_|refine ω4 rfl ?_|refine ω5 rfl ?_|refine ω6 ?_|refine ω7 ?_|refine ω8 ?_|refine ⟨rfl,?_⟩|refine ⟨trivial,?_⟩|refine ⟨⟨rfl,Nat.le_of_ble_eq_true rfl⟩,?_⟩|refine ⟨⟨by kernel_rfl,by kernel_rfl⟩,?_⟩|refine ⟨by decide,?_⟩|refine lit_true ?_|refine lit_false ?_))
              exact ret_is rfl (doRet ⟨at', a &&& n, x, _, steps, loads⟩ oi _ 2 rfl h0 (hle_tell _ _ rfl (.cons _ (List.Sublist.refl _)) (List.Sublist.refl _) ⟨rfl, ⟨AVle.refl _, AVle.refl _, le_int (u32_and ha hn), LeL.refl _⟩, trivial⟩ (PmEq.refl _)))
          · have t20 := fct_b1.1 t20
            obtain rfl : K = 20 := by omega
            (repeat ((conv=>whnf);first|refine ω0 ?_|refine ω1 ?_|refine ω2 ?_|refine ω3 ?_|refine ω4 rfl ?_|refine ω5 rfl ?_|refine ω6 ?_|refine ω7 ?_|refine ω8 ?_|refine ⟨rfl,?_⟩|refine ⟨trivial,?_⟩|refine ⟨⟨rfl,Nat.le_of_ble_eq_true rfl⟩,?_⟩|refine ⟨⟨by kernel_rfl,by kernel_rfl⟩,?_⟩|refine ⟨by decide,?_⟩|refine lit_true ?_|refine lit_false ?_))
            exact ret_is rfl (doRet ⟨at', a ||| n, x, _, steps, loads⟩ oi _ 2 rfl h0 (hle_tell _ _ rfl (.cons _ (List.Sublist.refl _)) (List.Sublist.refl _) ⟨rfl, ⟨AVle.refl _, AVle.refl _, le_int (u32_or' ha hn), LeL.refl _⟩, trivial⟩ (PmEq.refl _)))
        · have t19 := fct_b1.1 t19
          obtain rfl : K = 19 := by omega
          (repeat ((conv=>whnf);first|refine ω0 ?_|refine ω1 ?_|refine ω2 ?_|refine ω3 ?_|refine ω4 rfl ?_|refine ω5 rfl ?_|refine ω6 ?_|refine ω7 ?_|refine ω8 ?_|refine ⟨rfl,?_⟩|refine ⟨trivial,?_⟩|refine ⟨⟨rfl,Nat.le_of_ble_eq_true rfl⟩,?_⟩|refine ⟨⟨by kernel_rfl,by kernel_rfl⟩,?_⟩|refine ⟨by decide,?_⟩|refine lit_true ?_|refine lit_false ?_))
          intro c z; cases c
          · have z := fct_b0.1 z
            (repeat ((conv=>whnf);first|refine ω0 ?_|refine ω1 ?_|refine ω2 ?_|refine ω3 ?_|refine ω4 rfl ?_|refine ω5 rfl ?_|refine ω6 ?_|refine ω7 ?_|refine ω8 ?_|refine ⟨rfl,?_⟩|refine ⟨trivial,?_⟩|refine ⟨⟨rfl,Nat.le_of_ble_eq_true rfl⟩,?_⟩|refine ⟨⟨by kernel_rfl,by kernel_rfl⟩,?_⟩|refine ⟨by decide,?_⟩|refine lit_true ?_|refine lit_false ?_))
            refine ⟨z, ?_⟩
            (repeat ((conv=>whnf);first|refine ω0 ?_|refine ω1 ?_|refine ω2 ?_|refine ω3 ?_|refine ω4 rfl ?_|refine ω5 rfl ?_|refine ω6 ?_|refine ω7 ?_|refine ω8 ?_|refine ⟨rfl,?_⟩|refine ⟨trivial,?_⟩|refine ⟨⟨rfl,Nat.le_of_ble_eq_true rfl⟩,?_⟩|refine ⟨⟨by kernel_rfl,by kernel_rfl⟩,?_⟩|refine ⟨by decide,?_⟩|refine lit_true ?_|refine lit_false ?_))
            have hr : reckV 19 a n = some (a / n) := by unfold reckV; exact if_neg (by omega)
            rw [hr]
            exact ret_is rfl (doRet ⟨at', a / n, x, _, steps, loads⟩ oi _ 2 rfl h0 (hle_tell _ _ rfl (.cons _ (List.Sublist.refl _)) (List.Sublist.refl _) ⟨rfl, ⟨AVle.refl _, AVle.refl _, le_int (quo32 ha), LeL.refl _⟩, trivial⟩ (PmEq.refl _)))
          · have z := fct_b1.1 z
            obtain rfl : n = 0 := by omega
            (repeat ((conv=>whnf);first|refine ω0 ?_|refine ω1 ?_|refine ω2 ?_|refine ω3 ?_|refine ω4 rfl ?_|refine ω5 rfl ?_|refine ω6 ?_|refine ω7 ?_|refine ω8 ?_|refine ⟨rfl,?_⟩|refine ⟨trivial,?_⟩|refine ⟨⟨rfl,Nat.le_of_ble_eq_true rfl⟩,?_⟩|refine ⟨⟨by kernel_rfl,by kernel_rfl⟩,?_⟩|refine ⟨by decide,?_⟩|refine lit_true ?_|refine lit_false ?_))
            exact doPan 0 ⟨at', a, x, _, steps, loads⟩ oi _ 2 rfl (AVle.refl _) h0 (hle_tell _ _ rfl (.cons _ (List.Sublist.refl _)) (List.Sublist.refl _) ⟨rfl, OwnLe.refl _, trivial⟩ (PmEq.refl _))
      · have t18 := fct_b1.1 t18
        obtain rfl : K = 18 := by omega
        (repeat ((conv=>whnf);first|refine ω0 ?_|refine ω1 ?_|refine ω2 ?_|refine ω3 ?_|refine ω4 rfl ?_|refine ω5 rfl ?_|refine ω6 ?_|refine ω7 ?_|refine ω8 ?_|refine ⟨rfl,?_⟩|refine ⟨trivial,?_⟩|refine ⟨⟨rfl,Nat.le_of_ble_eq_true rfl⟩,?_⟩|refine ⟨⟨by kernel_rfl,by kernel_rfl⟩,?_⟩|refine ⟨by decide,?_⟩|refine lit_true ?_|refine lit_false ?_))
        exact ret_is rfl (doRet ⟨at', a * n % 4294967296, x, _, steps, loads⟩ oi _ 2 rfl h0 (hle_tell _ _ rfl (.cons _ (List.Sublist.refl _)) (List.Sublist.refl _) ⟨rfl, ⟨AVle.refl _, AVle.refl _, le_int (mul32 a n), LeL.refl _⟩, trivial⟩ (PmEq.refl _)))
    · have t17 := fct_b1.1 t17
      obtain rfl : K = 17 := by omega
      (repeat ((conv=>whnf);first|refine ω0 ?_|refine ω1 ?_|refine ω2 ?_|refine ω3 ?_|refine ω4 rfl ?_|refine ω5 rfl ?_|refine ω6 ?_|refine ω7 ?_|refine ω8 ?_|refine ⟨rfl,?_⟩|refine ⟨trivial,?_⟩|refine ⟨⟨rfl,Nat.le_of_ble_eq_true rfl⟩,?_⟩|refine ⟨⟨by kernel_rfl,by kernel_rfl⟩,?_⟩|refine ⟨by decide,?_⟩|refine lit_true ?_|refine lit_false ?_))
      exact ret_is rfl (doRet ⟨at', (a + 4294967296 - n) % 4294967296, x, _, steps, loads⟩ oi _ 2 rfl h0 (hle_tell _ _ rfl (.cons _ (List.Sublist.refl _)) (List.Sublist.refl _) ⟨rfl, ⟨AVle.refl _, AVle.refl _, le_int (sub32 hn), LeL.refl _⟩, trivial⟩ (PmEq.refl _)))
  · have t16 := fct_b1.1 t16
    obtain rfl : K = 16 := by omega
    (repeat ((conv=>whnf);first|refine ω0 ?_|refine ω1 ?_|refine ω2 ?_|refine ω3 ?_|refine ω4 rfl ?_|refine ω5 rfl ?_|refine ω6 ?_|refine ω7 ?_|refine ω8 ?_|refine ⟨rfl,?_⟩|refine ⟨trivial,?_⟩|refine ⟨⟨rfl,Nat.le_of_ble_eq_true rfl⟩,?_⟩|refine ⟨⟨by kernel_rfl,by kernel_rfl⟩,?_⟩|refine ⟨by decide,?_⟩|refine lit_true ?_|refine lit_false ?_))
    exact ret_is rfl (doRet ⟨at', (a + n) % 4294967296, x, _, steps, loads⟩ oi _ 2 rfl h0 (hle_tell _ _ rfl (.cons _ (List.Sublist.refl _)) (List.Sublist.refl _) ⟨rfl, ⟨AVle.refl _, AVle.refl _, le_int (add32 a n), LeL.refl _⟩, trivial⟩ (PmEq.refl _)))
theorem vbranch_spec (b : List Nat) (i : Ins) (hi : i.ok) (h25 : 25 ≤ (kof i.code).1) (s0 : Nat) (s : Rn) (oi : Option Nat) (h0 : oi = none → s.loads = []) (hs : s.ok) (hj : s.at' ≤ 1000000) (nx : Nat) :
    ECallR Try.prog 67 [.bp (0, s0) 0, opA i .any] (vmH b s0 s oi nx 2) (doQ b s0 (doV b i s)) := by
  have hn := altV_lt hi hs
  have ha := hs.a
  have hoth := other_spec b i s oi
  have hle := kof_le i.code
  have hd : doV b i s = (none, { s with at' := s.at' + if branchV (kof i.code).1 s.a (altV i s) then i.jt else i.jf }) := by
    unfold doV
    split <;> first | (exfalso; omega) | skip
    rw [if_neg (by omega)]
  generalize altV i s = n at *
  obtain ⟨at', a, x, cells, steps, loads⟩ := s
  obtain ⟨c0, c1, c2, c3, c4, c5, c6, c7, c8, c9, c10, c11, c12, c13, c14, c15, rfl⟩ := cells16 hs.n
  dsimp only at ha hj
  rw [hd]
  have hv : ∀ j : Nat, j < 256 → IntKind.i64.wrap ((at' : Int) + IntKind.i64.wrap (j : Int)) = ((at' + j : Nat) : Int) := fun j hj2 => by
    rw [show IntKind.i64.wrap (j : Int) = j from wrap_id (by omega) (by omega), wrap_id (by omega) (by omega)]; omega
  have hand : bitsI .and .u32 (a : Int) (n : Int) = ((a &&& n : Nat) : Int) := u32_and ha hn
  generalize hK : (kof i.code).1 = K at *
  refine ecallR_wk (ecallR_of_aw Try.func67 rfl rfl ?_)
  (repeat ((conv=>whnf);first|refine ω0 ?_|refine ω1 ?_|refine ω2 ?_|refine ω3 ?_|refine ω4 rfl ?_|refine ω5 rfl ?_|refine ω6 ?_|refine ω7 ?_|refine ω8 ?_|refine ⟨rfl,?_⟩|refine ⟨trivial,?_⟩|refine ⟨⟨rfl,Nat.le_of_ble_eq_true rfl⟩,?_⟩|refine ⟨⟨by kernel_rfl,by kernel_rfl⟩,?_⟩|refine ⟨by decide,?_⟩|refine lit_true ?_|refine lit_false ?_))
  refine AOp.of_yields (yields_look rfl rfl hoth ⟨Frz.bp (.tail _ (.head _)) rfl, Frz.refl _, trivial⟩ (Flat.v _)) ?_
  (repeat ((conv=>whnf);first|refine ω0 ?_|refine ω1 ?_|refine ω2 ?_|refine ω3 ?_|refine ω4 rfl ?_|refine ω5 rfl ?_|refine ω6 ?_|refine ω7 ?_|refine ω8 ?_|refine ⟨rfl,?_⟩|refine ⟨trivial,?_⟩|refine ⟨⟨rfl,Nat.le_of_ble_eq_true rfl⟩,?_⟩|refine ⟨⟨by kernel_rfl,by kernel_rfl⟩,?_⟩|refine ⟨by decide,?_⟩|refine lit_true ?_|refine lit_false ?_))
  intro c t25; cases c
  · have t25 := fct_b0.1 t25
    (repeat ((conv=>whnf);first|refine ω0 ?_|refine ω1 ?_|refine ω2 ?_|refine ω3 ?_|refine ω4 rfl ?_|refine ω5 rfl ?_|refine ω6 ?_|refine ω7 ?_|refine ω8 ?_|refine ⟨rfl,?_⟩|refine ⟨trivial,?_⟩|refine ⟨⟨rfl,Nat.le_of_ble_eq_true rfl⟩,?_⟩|refine ⟨⟨by kernel_rfl,by kernel_rfl⟩,?_⟩|refine ⟨by decide,?_⟩|refine lit_true ?_|refine lit_false ?_))
    intro c t26; cases c
    · have t26 := fct_b0.1 t26
      (repeat ((conv=>whnf);first|refine ω0 ?_|refine ω1 ?_|refine ω2 ?_|refine ω3 ?_|refine ω4 rfl ?_|refine ω5 rfl ?_|refine ω6 ?_|refine ω7 ?_|refine ω8 ?_|refine ⟨rfl,?_⟩|refine ⟨trivial,?_⟩|refine ⟨⟨rfl,Nat.le_of_ble_eq_true rfl⟩,?_⟩|refine ⟨⟨by kernel_rfl,by kernel_rfl⟩,?_⟩|refine ⟨by decide,?_⟩|refine lit_true ?_|refine lit_false ?_))
      intro c t27; cases c
      · have t27 := fct_b0.1 t27
        (repeat ((conv=>whnf);first|refine ω0 ?_|refine ω1 ?_|refine ω2 ?_|refine ω3 ?_|refine ω4 rfl ?_|refine ω5 rfl ?_|refine ω6 ?_|refine ω7 ?_|refine ω8 ?_|refine ⟨rfl,?_⟩|refine ⟨trivial,?_⟩|refine ⟨⟨rfl,Nat.le_of_ble_eq_true rfl⟩,?_⟩|refine ⟨⟨by kernel_rfl,by kernel_rfl⟩,?_⟩|refine ⟨by decide,?_⟩|refine lit_true ?_|refine lit_false ?_))
        (repeat ((conv=>whnf);first|refine ω0 ?_|refine ω1 ?_|refine ω2 ?_|refine ω3 ?_|refine ω4 rfl ?_|refine ω5 rfl ?_|refine ω6 ?_|refine ω7 ?_|refine ω8 ?_|refine ⟨rfl,?_⟩|refine ⟨trivial,?_⟩|refine ⟨⟨rfl,Nat.le_of_ble_eq_true rfl⟩,?_⟩|refine ⟨⟨by kernel_rfl,by kernel_rfl⟩,?_⟩|refine ⟨by decide,?_⟩|refine lit_true ?_|refine lit_false ?_))
        intro c hc
        have hKK : K = 28 := by omega
        have hb : branchV K a n = c := by subst hKK; rw [hc]; unfold branchV; rw [hand, Bool.eq_iff_iff]; simp
        (repeat ((conv=>whnf);first|refine ω0 ?_|refine ω1 ?_|refine ω2 ?_|refine ω3 ?_|refine ω4 rfl ?_|refine ω5 rfl ?_|refine ω6 ?_|refine ω7 ?_|refine ω8 ?_|refine ⟨rfl,?_⟩|refine ⟨trivial,?_⟩|refine ⟨⟨rfl,Nat.le_of_ble_eq_true rfl⟩,?_⟩|refine ⟨⟨by kernel_rfl,by kernel_rfl⟩,?_⟩|refine ⟨by decide,?_⟩|refine lit_true ?_|refine lit_false ?_))
        cases c
        · (repeat ((conv=>whnf);first|refine ω0 ?_|refine ω1 ?_|refine ω2 ?_|refine ω3 ?_|refine ω4 rfl ?_|refine ω5 rfl ?_|refine ω6 ?_|refine ω7 ?_|refine ω8 ?_|refine ⟨rfl,?_⟩|refine ⟨trivial,?_⟩|refine ⟨⟨rfl,Nat.le_of_ble_eq_true rfl⟩,?_⟩|refine ⟨⟨by kernel_rfl,by kernel_rfl⟩,?_⟩|refine ⟨by decide,?_⟩|refine lit_true ?_|refine lit_false ?_))
          (refine aw_draw 9 ?_ ?_ ?_ ?_; (· kernel_rfl); (· kernel_rfl); (· kernel_rfl))
          (repeat ((conv=>whnf);first|refine ω0 ?_|refine ω1 ?_|refine ω2 ?_|refine ω3 ?_|refine ω4 rfl ?_|refine ω5 rfl ?_|refine ω6 ?_|refine ω7 ?_|refine ω8 ?_|refine ⟨rfl,?_⟩|refine ⟨trivial,?_⟩|refine ⟨⟨rfl,Nat.le_of_ble_eq_true rfl⟩,?_⟩|refine ⟨⟨by kernel_rfl,by kernel_rfl⟩,?_⟩|refine ⟨by decide,?_⟩|refine lit_true ?_|refine lit_false ?_))
          have e : (if branchV K a n then i.jt else i.jf) = i.jf := by rw [hb]; rfl
          exact ret_is rfl (doRet ⟨at' + i.jf, a, x, _, steps, loads⟩ oi _ 2 (by dsimp only; rw [e]) h0 (hle_tell _ _ rfl (.cons _ (List.Sublist.refl _)) (List.Sublist.refl _) ⟨rfl, ⟨AVle.refl _, le_int (hv i.jf hi.2.2.1), AVle.refl _, LeL.refl _⟩, trivial⟩ (PmEq.refl _)))
        · (repeat ((conv=>whnf);first|refine ω0 ?_|refine ω1 ?_|refine ω2 ?_|refine ω3 ?_|refine ω4 rfl ?_|refine ω5 rfl ?_|refine ω6 ?_|refine ω7 ?_|refine ω8 ?_|refine ⟨rfl,?_⟩|refine ⟨trivial,?_⟩|refine ⟨⟨rfl,Nat.le_of_ble_eq_true rfl⟩,?_⟩|refine ⟨⟨by kernel_rfl,by kernel_rfl⟩,?_⟩|refine ⟨by decide,?_⟩|refine lit_true ?_|refine lit_false ?_))
          (refine aw_draw 9 ?_ ?_ ?_ ?_; (· kernel_rfl); (· kernel_rfl); (· kernel_rfl))
          (repeat ((conv=>whnf);first|refine ω0 ?_|refine ω1 ?_|refine ω2 ?_|refine ω3 ?_|refine ω4 rfl ?_|refine ω5 rfl ?_|refine ω6 ?_|refine ω7 ?_|refine ω8 ?_|refine ⟨rfl,?_⟩|refine ⟨trivial,?_⟩|refine ⟨⟨rfl,Nat.le_of_ble_eq_true rfl⟩,?_⟩|refine ⟨⟨by kernel_rfl,by kernel_rfl⟩,?_⟩|refine ⟨by decide,?_⟩|refine lit_true ?_|refine lit_false ?_))
          have e : (if branchV K a n then i.jt else i.jf) = i.jt := by rw [hb]; rfl
          exact ret_is rfl (doRet ⟨at' + i.jt, a, x, _, steps, loads⟩ oi _ 2 (by dsimp only; rw [e]) h0 (hle_tell _ _ rfl (.cons _ (List.Sublist.refl _)) (List.Sublist.refl _) ⟨rfl, ⟨AVle.refl _, le_int (hv i.jt hi.2.1), AVle.refl _, LeL.refl _⟩, trivial⟩ (PmEq.refl _)))
      · have t27 := fct_b1.1 t27
        (repeat ((conv=>whnf);first|refine ω0 ?_|refine ω1 ?_|refine ω2 ?_|refine ω3 ?_|refine ω4 rfl ?_|refine ω5 rfl ?_|refine ω6 ?_|refine ω7 ?_|refine ω8 ?_|refine ⟨rfl,?_⟩|refine ⟨trivial,?_⟩|refine ⟨⟨rfl,Nat.le_of_ble_eq_true rfl⟩,?_⟩|refine ⟨⟨by kernel_rfl,by kernel_rfl⟩,?_⟩|refine ⟨by decide,?_⟩|refine lit_true ?_|refine lit_false ?_))
        intro c hc
        have hKK : K = 27 := by omega
        have hb : branchV K a n = c := by subst hKK; rw [hc]; unfold branchV; rw [Bool.eq_iff_iff]; simp
        (repeat ((conv=>whnf);first|refine ω0 ?_|refine ω1 ?_|refine ω2 ?_|refine ω3 ?_|refine ω4 rfl ?_|refine ω5 rfl ?_|refine ω6 ?_|refine ω7 ?_|refine ω8 ?_|refine ⟨rfl,?_⟩|refine ⟨trivial,?_⟩|refine ⟨⟨rfl,Nat.le_of_ble_eq_true rfl⟩,?_⟩|refine ⟨⟨by kernel_rfl,by kernel_rfl⟩,?_⟩|refine ⟨by decide,?_⟩|refine lit_true ?_|refine lit_false ?_))
        cases c
        · (repeat ((conv=>whnf);first|refine ω0 ?_|refine ω1 ?_|refine ω2 ?_|refine ω3 ?_|refine ω4 rfl ?_|refine ω5 rfl ?_|refine ω6 ?_|refine ω7 ?_|refine ω8 ?_|refine ⟨rfl,?_⟩|refine ⟨trivial,?_⟩|refine ⟨⟨rfl,Nat.le_of_ble_eq_true rfl⟩,?_⟩|refine ⟨⟨by kernel_rfl,by kernel_rfl⟩,?_⟩|refine ⟨by decide,?_⟩|refine lit_true ?_|refine lit_false ?_))
          (refine aw_draw 9 ?_ ?_ ?_ ?_; (· kernel_rfl); (· kernel_rfl); (· kernel_rfl))
          (repeat ((conv=>whnf);first|refine ω0 ?_|refine ω1 ?_|refine ω2 ?_|refine ω3 ?_|refine ω4 rfl ?_|refine ω5 rfl ?_|refine ω6 ?_|refine ω7 ?_|refine ω8 ?_|refine ⟨rfl,?_⟩|refine ⟨trivial,?_⟩|refine ⟨⟨rfl,Nat.le_of_ble_eq_true rfl⟩,?_⟩|refine ⟨⟨by kernel_rfl,by kernel_rfl⟩,?_⟩|refine ⟨by decide,?_⟩|refine lit_true ?_|refine lit_false ?_))
          have e : (if branchV K a n then i.jt else i.jf) = i.jf := by rw [hb]; rfl
          exact ret_is rfl (doRet ⟨at' + i.jf, a, x, _, steps, loads⟩ oi _ 2 (by dsimp only; rw [e]) h0 (hle_tell _ _ rfl (.cons _ (List.Sublist.refl _)) (List.Sublist.refl _) ⟨rfl, ⟨AVle.refl _, le_int (hv i.jf hi.2.2.1), AVle.refl _, LeL.refl _⟩, trivial⟩ (PmEq.refl _)))
        · (repeat ((conv=>whnf);first|refine ω0 ?_|refine ω1 ?_|refine ω2 ?_|refine ω3 ?_|refine ω4 rfl ?_|refine ω5 rfl ?_|refine ω6 ?_|refine ω7 ?_|refine ω8 ?_|refine ⟨rfl,?_⟩|refine ⟨trivial,?_⟩|refine ⟨⟨rfl,Nat.le_of_ble_eq_true rfl⟩,?_⟩|refine ⟨⟨by kernel_rfl,by kernel_rfl⟩,?_⟩|refine ⟨by decide,?_⟩|refine lit_true ?_|refine lit_false ?_))
          (refine aw_draw 9 ?_ ?_ ?_ ?_; (· kernel_rfl); (· kernel_rfl); (· kernel_rfl))
          (repeat ((conv=>whnf);first|refine ω0 ?_|refine ω1 ?_|refine ω2 ?_|refine ω3 ?_|refine ω4 rfl ?_|refine ω5 rfl ?_|refine ω6 ?_|refine ω7 ?_|refine ω8 ?_|refine ⟨rfl,?_⟩|refine ⟨trivial,?_⟩|refine ⟨⟨rfl,Nat.le_of_ble_eq_true rfl⟩,?_⟩|refine ⟨⟨by kernel_rfl,by kernel_rfl⟩,?_⟩|refine ⟨by decide,?_⟩|refine lit_true ?_|refine lit_false ?_))
          have e : (if branchV K a n then i.jt else i.jf) = i.jt := by rw [hb]; rfl
          exact ret_is rfl (doRet ⟨at' + i.jt, a, x, _, steps, loads⟩ oi _ 2 (by dsimp only; rw [e]) h0 (hle_tell _ _ rfl (.cons _ (List.Sublist.refl _)) (List.Sublist.refl _) ⟨rfl, ⟨AVle.refl _, le_int (hv i.jt hi.2.1), AVle.refl _, LeL.refl _⟩, trivial⟩ (PmEq.refl _)))
    · have t26 := fct_b1.1 t26
      (repeat ((conv=>whnf);first|refine ω0 ?_|refine ω1 ?_|refine ω2 ?_|refine ω3 ?_|refine ω4 rfl ?_|refine ω5 rfl ?_|refine ω6 ?_|refine ω7 ?_|refine ω8 ?_|refine ⟨rfl,?_⟩|refine ⟨trivial,?_⟩|refine ⟨⟨rfl,Nat.le_of_ble_eq_true rfl⟩,?_⟩|refine ⟨⟨by kernel_rfl,by kernel_rfl⟩,?_⟩|refine ⟨by decide,?_⟩|refine lit_true ?_|refine lit_false ?_))
      intro c hc
      have hKK : K = 26 := by omega
      have hb : branchV K a n = c := by subst hKK; rw [hc]; unfold branchV; rw [Bool.eq_iff_iff]; simp
      (repeat ((conv=>whnf);first|refine ω0 ?_|refine ω1 ?_|refine ω2 ?_|refine ω3 ?_|refine ω4 rfl ?_|refine ω5 rfl ?_|refine ω6 ?_|refine ω7 ?_|refine ω8 ?_|refine ⟨rfl,?_⟩|refine ⟨trivial,?_⟩|refine ⟨⟨rfl,Nat.le_of_ble_eq_true rfl⟩,?_⟩|refine ⟨⟨by kernel_rfl,by kernel_rfl⟩,?_⟩|refine ⟨by decide,?_⟩|refine lit_true ?_|refine lit_false ?_))
      cases c
      · (repeat ((conv=>whnf);first|refine ω0 ?_|refine ω1 ?_|refine ω2 ?_|refine ω3 ?_|refine ω4 rfl ?_|refine ω5 rfl ?_|refine ω6 ?_|refine ω7 ?_|refine ω8 ?_|refine ⟨rfl,?_⟩|refine ⟨trivial,?_⟩|refine ⟨⟨rfl,Nat.le_of_ble_eq_true rfl⟩,?_⟩|refine ⟨⟨by kernel_rfl,by kernel_rfl⟩,?_⟩|refine ⟨by decide,?_⟩|refine lit_true ?_|refine lit_false ?_))
        (refine aw_draw 9 ?_ ?_ ?_ ?_; (· kernel_rfl); (· kernel_rfl); (· kernel_rfl))
        (repeat ((conv=>whnf);first|refine ω0 ?_|refine ω1 ?_|refine ω2 ?_|refine ω3 ?_|refine ω4 rfl ?_|refine ω5 rfl ?_|refine ω6 ?_|refine ω7 ?_|refine ω8 ?_|refine ⟨rfl,?_⟩|refine ⟨trivial,?_⟩|refine ⟨⟨rfl,Nat.le_of_ble_eq_true rfl⟩,?_⟩|refine ⟨⟨by kernel_rfl,by kernel_rfl⟩,?_⟩|refine ⟨by decide,?_⟩|refine lit_true ?_|refine lit_false ?_))
        have e : (if branchV K a n then i.jt else i.jf) = i.jf := by rw [hb]; rfl
        exact ret_is rfl (doRet ⟨at' + i.jf, a, x, _, steps, loads⟩ oi _ 2 (by dsimp only; rw [e]) h0 (hle_tell _ _ rfl (.cons _ (List.Sublist.refl _)) (List.Sublist.refl _) ⟨rfl, ⟨AVle.refl _, le_int (hv i.jf hi.2.2.1), AVle.refl _, LeL.refl _⟩, trivial⟩ (PmEq.refl _)))
      · (repeat ((conv=>whnf);first|refine ω0 ?_|refine ω1 ?_|refine ω2 ?_|refine ω3 ?_|refine ω4 rfl ?_|refine ω5 rfl ?_|refine ω6 ?_|refine ω7 ?_|refine ω8 ?_|refine ⟨rfl,?_⟩|refine ⟨trivial,?_⟩|refine ⟨⟨rfl,Nat.le_of_ble_eq_true rfl⟩,?_⟩|refine ⟨⟨by kernel_rfl,by kernel_rfl⟩,?_⟩|refine ⟨by decide,?_⟩|refine lit_true ?_|refine lit_false ?_))
        (refine aw_draw 9 ?_ ?_ ?_ ?_; (· kernel_rfl); (· kernel_rfl); (· kernel_rfl))
        (repeat ((conv=>whnf);first|refine ω0 ?_|refine ω1 ?_|refine ω2 ?_|refine ω3 ?_|refine ω4 rfl ?_|refine ω5 rfl ?_|refine ω6 ?_|refine ω7 ?_|refine ω8 ?_|refine ⟨rfl,?_⟩|refine ⟨trivial,?_⟩|refine ⟨⟨rfl,Nat.le_of_ble_eq_true rfl⟩,?_⟩|refine ⟨⟨by kernel_rfl,by kernel_rfl⟩,?_⟩|refine ⟨by decide,?_⟩|refine lit_true ?_|refine lit_false ?_))
        have e : (if branchV K a n then i.jt else i.jf) = i.jt := by rw [hb]; rfl
        exact ret_is rfl (doRet ⟨at' + i.jt, a, x, _, steps, loads⟩ oi _ 2 (by dsimp only; rw [e]) h0 (hle_tell _ _ rfl (.cons _ (List.Sublist.refl _)) (List.Sublist.refl _) ⟨rfl, ⟨AVle.refl _, le_int (hv i.jt hi.2.1), AVle.refl _, LeL.refl _⟩, trivial⟩ (PmEq.refl _)))
  · have t25 := fct_b1.1 t25
    (repeat ((conv=>whnf);first|refine ω0 ?_|refine ω1 ?_|refine ω2 ?_|refine ω3 ?_|refine ω4 rfl ?_|refine ω5 rfl ?_|refine ω6 ?_|refine ω7 ?_|refine ω8 ?_|refine ⟨rfl,?_⟩|refine ⟨trivial,?_⟩|refine ⟨⟨rfl,Nat.le_of_ble_eq_true rfl⟩,?_⟩|refine ⟨⟨by kernel_rfl,by kernel_rfl⟩,?_⟩|refine ⟨by decide,?_⟩|refine lit_true ?_|refine lit_false ?_))
    intro c hc
    have hKK : K = 25 := by omega
    have hb : branchV K a n = c := by subst hKK; rw [hc]; unfold branchV; rw [Bool.eq_iff_iff]; simp; omega
    (repeat ((conv=>whnf);first|refine ω0 ?_|refine ω1 ?_|refine ω2 ?_|refine ω3 ?_|refine ω4 rfl ?_|refine ω5 rfl ?_|refine ω6 ?_|refine ω7 ?_|refine ω8 ?_|refine ⟨rfl,?_⟩|refine ⟨trivial,?_⟩|refine ⟨⟨rfl,Nat.le_of_ble_eq_true rfl⟩,?_⟩|refine ⟨⟨by kernel_rfl,by kernel_rfl⟩,?_⟩|refine ⟨by decide,?_⟩|refine lit_true ?_|refine lit_false ?_))
    cases c
    · (repeat ((conv=>whnf);first|refine ω0 ?_|refine ω1 ?_|refine ω2 ?_|refine ω3 ?_|refine ω4 rfl ?_|refine ω5 rfl ?_|refine ω6 ?_|refine ω7 ?_|refine ω8 ?_|refine ⟨rfl,?_⟩|refine ⟨trivial,?_⟩|refine ⟨⟨rfl,Nat.le_of_ble_eq_true rfl⟩,?_⟩|refine ⟨⟨by kernel_rfl,by kernel_rfl⟩,?_⟩|refine ⟨by decide,?_⟩|refine lit_true ?_|refine lit_false ?_))
      (refine aw_draw 9 ?_ ?_ ?_ ?_; (· kernel_rfl); (· kernel_rfl); (· kernel_rfl))
      (repeat ((conv=>whnf);first|refine ω0 ?_|refine ω1 ?_|refine ω2 ?_|refine ω3 ?_|refine ω4 rfl ?_|refine ω5 rfl ?_|refine ω6 ?_|refine ω7 ?_|refine ω8 ?_|refine ⟨rfl,?_⟩|refine ⟨trivial,?_⟩|refine ⟨⟨rfl,Nat.le_of_ble_eq_true rfl⟩,?_⟩|refine ⟨⟨by kernel_rfl,by kernel_rfl⟩,?_⟩|refine ⟨by decide,?_⟩|refine lit_true ?_|refine lit_false ?_))
      have e : (if branchV K a n then i.jt else i.jf) = i.jf := by rw [hb]; rfl
      exact ret_is rfl (doRet ⟨at' + i.jf, a, x, _, steps, loads⟩ oi _ 2 (by dsimp only; rw [e]) h0 (hle_tell _ _ rfl (.cons _ (List.Sublist.refl _)) (List.Sublist.refl _) ⟨rfl, ⟨AVle.refl _, le_int (hv i.jf hi.2.2.1), AVle.refl _, LeL.refl _⟩, trivial⟩ (PmEq.refl _)))
    · (repeat ((conv=>whnf);first|refine ω0 ?_|refine ω1 ?_|refine ω2 ?_|refine ω3 ?_|refine ω4 rfl ?_|refine ω5 rfl ?_|refine ω6 ?_|refine ω7 ?_|refine ω8 ?_|refine ⟨rfl,?_⟩|refine ⟨trivial,?_⟩|refine ⟨⟨rfl,Nat.le_of_ble_eq_true rfl⟩,?_⟩|refine ⟨⟨by kernel_rfl,by kernel_rfl⟩,?_⟩|refine ⟨by decide,?_⟩|refine lit_true ?_|refine lit_false ?_))
      (refine aw_draw 9 ?_ ?_ ?_ ?_; (· kernel_rfl); (· kernel_rfl); (· kernel_rfl))
      (repeat ((conv=>whnf);first|refine ω0 ?_|refine ω1 ?_|refine ω2 ?_|refine ω3 ?_|refine ω4 rfl ?_|refine ω5 rfl ?_|refine ω6 ?_|refine ω7 ?_|refine ω8 ?_|refine ⟨rfl,?_⟩|refine ⟨trivial,?_⟩|refine ⟨⟨rfl,Nat.le_of_ble_eq_true rfl⟩,?_⟩|refine ⟨⟨by kernel_rfl,by kernel_rfl⟩,?_⟩|refine ⟨by decide,?_⟩|refine lit_true ?_|refine lit_false ?_))
      have e : (if branchV K a n then i.jt else i.jf) = i.jt := by rw [hb]; rfl
      exact ret_is rfl (doRet ⟨at' + i.jt, a, x, _, steps, loads⟩ oi _ 2 (by dsimp only; rw [e]) h0 (hle_tell _ _ rfl (.cons _ (List.Sublist.refl _)) (List.Sublist.refl _) ⟨rfl, ⟨AVle.refl _, le_int (hv i.jt hi.2.1), AVle.refl _, LeL.refl _⟩, trivial⟩ (PmEq.refl _)))
end Go.Proofs.W

namespace Go.Proofs.W
open Go.Vl
set_option maxRecDepth 100000

def fnL : List (Nat × FuncId) := [(1, 88), (2, 89), (3, 90), (4, 91), (5, 92), (6, 93), (7, 94), (8, 95), (9, 96), (10, 97), (11, 98), (12, 99), (13, 100), (14, 101), (15, 102)]
/-- What is done, by kinds. -/
def doF (k : Nat) : FuncId := if k < 16 then (lk fnL k).getD 0 else if k < 25 then 68 else 67
def fnM (l : List (Nat × FuncId)) : List (Value × AV) := l.map fun p => (.int .i64 (p.1 : Nat), .fn (.func p.2) [] [])
theorem alook_fn (l : List (Nat × FuncId)) (c : Nat) : alook (.int .i64 (c : Nat)) (fnM l) = (lk l c).map fun k => AV.fn (.func k) [] [] := by
  induction l with
  | nil => rfl
  | cons p l ih =>
    unfold fnM at ih ⊢
    simp only [List.map_cons, alook]
    unfold lk at ih ⊢
    rw [List.find?_cons]
    have : keyIs (.int .i64 (c : Nat)) (.int .i64 (p.1 : Nat)) = (p.1 == c) := by
      simp only [keyIs, kindEq, Bool.true_and]
      rw [Bool.eq_iff_iff]; simp; omega
    rw [this]
    cases h : p.1 == c
    · simpa using ih
    · simp
theorem deeds_spec : Tells Try.prog 66 [] (.fm (fnM fnL)) := by
  refine tells_of_aw Try.func66 rfl rfl fun nx => ?_
  (repeat ((conv=>whnf);first|refine ω0 ?_|refine ω1 ?_|refine ω2 ?_|refine ω3 ?_|refine ω4 rfl ?_|refine ω5 rfl ?_|refine ω6 ?_|refine ω7 ?_|refine ⟨rfl,?_⟩|refine ⟨trivial,?_⟩|refine ⟨⟨rfl,Nat.le_of_ble_eq_true rfl⟩,?_⟩|refine ⟨⟨by kernel_rfl,by kernel_rfl⟩,?_⟩|refine ⟨by decide,?_⟩|refine lit_true ?_|refine lit_false ?_))
  refine AW.le (ele_freeze (L := [(0, .fm (fnM fnL))]) (bx := []) (pm := []) (nn := 0) [((0, nx), .mp (fnM fnL))] rfl rfl (List.Sublist.refl _) .slnil ⟨Frz.om (.head _), trivial⟩) ?_
  (repeat ((conv=>whnf);first|refine ω0 ?_|refine ω1 ?_|refine ω2 ?_|refine ω3 ?_|refine ω4 rfl ?_|refine ω5 rfl ?_|refine ω6 ?_|refine ω7 ?_|refine ω8 ?_|refine ⟨rfl,?_⟩|refine ⟨trivial,?_⟩|refine ⟨⟨rfl,Nat.le_of_ble_eq_true rfl⟩,?_⟩|refine ⟨⟨by kernel_rfl,by kernel_rfl⟩,?_⟩|refine ⟨by decide,?_⟩|refine lit_true ?_|refine lit_false ?_))
  refine ret_tells rfl (AVle.refl _)
theorem lk_low : ∀ k, k < 16 → k ≠ 0 → lk fnL k = some (doF k) := by decide
theorem lk_high : ∀ k, k < 29 → 16 ≤ k → lk fnL k = none := by decide
theorem do_spec (b : List Nat) (hb : okB b) (hbl : b.length = 64) (i : Ins) (hi : i.ok) (r : Nat) (hw : wrongI i r = 0) (s0 : Nat) (s : Rn) (oi : Option Nat) (h0 : oi = none → s.loads = []) (hs : s.ok) (ha : s.at' ≤ 500000) (hr : r ≤ 5000) (hl : s.loads.length ≤ 1000000) (nx : Nat) :
    ECallR Try.prog (doF (kof i.code).1) [.bp (0, s0) 0, opA i .any] (vmH b s0 s oi nx 2) (doQ b s0 (doV b i s)) := by
  have hle := kof_le i.code
  obtain ⟨w1, w2, w3, w4⟩ := wrong_parts hw
  by_cases h16 : 16 ≤ (kof i.code).1
  · by_cases h25 : (kof i.code).1 < 25
    · rw [show doF (kof i.code).1 = 68 by unfold doF; rw [if_neg (by omega), if_pos h25]]
      exact reckon_spec b i hi h16 h25 s0 s oi h0 hs nx
    · rw [show doF (kof i.code).1 = 67 by unfold doF; rw [if_neg (by omega), if_neg h25]]
      exact vbranch_spec b i hi (by omega) s0 s oi h0 hs (by omega) nx
  by_cases hk : (kof i.code).1 = 1
  · rw [show doF (kof i.code).1 = 88 by rw [hk]; rfl]
    exact vload_spec b hb hbl i hk (by omega) s0 s oi h0 hs hl nx
  by_cases hk : (kof i.code).1 = 2
  · rw [show doF (kof i.code).1 = 89 by rw [hk]; rfl]
    exact vimm_spec b i hk s0 s oi h0 hs nx
  by_cases hk : (kof i.code).1 = 3
  · rw [show doF (kof i.code).1 = 90 by rw [hk]; rfl]
    exact vcellA_spec b i hk (by omega) s0 s oi h0 hs nx
  by_cases hk : (kof i.code).1 = 4
  · rw [show doF (kof i.code).1 = 91 by rw [hk]; rfl]
    exact vlenA_spec b i hk s0 s oi h0 hs nx
  by_cases hk : (kof i.code).1 = 5
  · rw [show doF (kof i.code).1 = 92 by rw [hk]; rfl]
    exact vimmX_spec b i hk s0 s oi h0 hs nx
  by_cases hk : (kof i.code).1 = 6
  · rw [show doF (kof i.code).1 = 93 by rw [hk]; rfl]
    exact vcellX_spec b i hk (by omega) s0 s oi h0 hs nx
  by_cases hk : (kof i.code).1 = 7
  · rw [show doF (kof i.code).1 = 94 by rw [hk]; rfl]
    exact vlenX_spec b i hk s0 s oi h0 hs nx
  by_cases hk : (kof i.code).1 = 8
  · rw [show doF (kof i.code).1 = 95 by rw [hk]; rfl]
    exact vstoreA_spec b i hk (by omega) s0 s oi h0 hs nx
  by_cases hk : (kof i.code).1 = 9
  · rw [show doF (kof i.code).1 = 96 by rw [hk]; rfl]
    exact vstoreX_spec b i hk (by omega) s0 s oi h0 hs nx
  by_cases hk : (kof i.code).1 = 10
  · rw [show doF (kof i.code).1 = 97 by rw [hk]; rfl]
    exact vtoX_spec b i hk s0 s oi h0 hs nx
  by_cases hk : (kof i.code).1 = 11
  · rw [show doF (kof i.code).1 = 98 by rw [hk]; rfl]
    exact vtoA_spec b i hk s0 s oi h0 hs nx
  by_cases hk : (kof i.code).1 = 12
  · rw [show doF (kof i.code).1 = 99 by rw [hk]; rfl]
    exact vneg_spec b i hk s0 s oi h0 hs nx
  by_cases hk : (kof i.code).1 = 13
  · rw [show doF (kof i.code).1 = 100 by rw [hk]; rfl]
    exact vjump_spec b i hk s0 s oi h0 hs (by omega) nx
  by_cases hk : (kof i.code).1 = 14
  · rw [show doF (kof i.code).1 = 101 by rw [hk]; rfl]
    exact vretK_spec b i hk s0 s oi h0 hs nx
  by_cases hk : (kof i.code).1 = 15
  · rw [show doF (kof i.code).1 = 102 by rw [hk]; rfl]
    exact vretA_spec b i hk s0 s oi h0 hs nx
  omega
def opI (i : Ins) : AV := opA i (.fn (.func (doF (kof i.code).1)) [] [])
def opF (l : List Ins) (k : Nat) : AV := opI (l.getD k ins0)
def opsA (l : List Ins) : AV := slOf 7 opI ins0 l
def newA (l : List Ins) : AV := if (checkI l).2 = 0 then .tup [.rp [opsA l], int 0] else .tup [.v (.pointer none), int (checkI l).2]
set_option maxHeartbeats 1000000 in
theorem new_spec (l : List Ins) (hok : okL l) (hl : l.length ≤ 1000000000) : Tells Try.prog 36 [inss l] (newA l) := by
  refine tells_of_aw Try.func36 rfl rfl fun nx0 => ?_
  (repeat ((conv=>whnf);first|refine ω0 ?_|refine ω1 ?_|refine ω2 ?_|refine ω3 ?_|refine ω4 rfl ?_|refine ω5 rfl ?_|refine ω6 ?_|refine ω7 ?_|refine ω8 ?_|refine ⟨rfl,?_⟩|refine ⟨trivial,?_⟩|refine ⟨⟨rfl,Nat.le_of_ble_eq_true rfl⟩,?_⟩|refine ⟨⟨by kernel_rfl,by kernel_rfl⟩,?_⟩|refine ⟨by decide,?_⟩|refine lit_true ?_|refine lit_false ?_))
  refine aop_tells rfl rfl (check_spec l hok hl) ⟨AVle.refl _, trivial⟩ fun nx => ?_
  (repeat ((conv=>whnf);first|refine ω0 ?_|refine ω1 ?_|refine ω2 ?_|refine ω3 ?_|refine ω4 rfl ?_|refine ω5 rfl ?_|refine ω6 ?_|refine ω7 ?_|refine ω8 ?_|refine ⟨rfl,?_⟩|refine ⟨trivial,?_⟩|refine ⟨⟨rfl,Nat.le_of_ble_eq_true rfl⟩,?_⟩|refine ⟨⟨by kernel_rfl,by kernel_rfl⟩,?_⟩|refine ⟨by decide,?_⟩|refine lit_true ?_|refine lit_false ?_))
  intro c g1; cases c
  rotate_left
  · have g1 := bne_yes g1
    have hv : newA l = .tup [.v (.pointer none), int (checkI l).2] := by unfold newA; rw [if_neg (by omega)]
    rw [hv]
    (repeat ((conv=>whnf);first|refine ω0 ?_|refine ω1 ?_|refine ω2 ?_|refine ω3 ?_|refine ω4 rfl ?_|refine ω5 rfl ?_|refine ω6 ?_|refine ω7 ?_|refine ω8 ?_|refine ⟨rfl,?_⟩|refine ⟨trivial,?_⟩|refine ⟨⟨rfl,Nat.le_of_ble_eq_true rfl⟩,?_⟩|refine ⟨⟨by kernel_rfl,by kernel_rfl⟩,?_⟩|refine ⟨by decide,?_⟩|refine lit_true ?_|refine lit_false ?_))
    exact ret_tells rfl (AVle.refl _)
  have g1 := bne_no g1
  have hc : (checkI l).2 = 0 := by omega
  have hf : Formed l := (check_iff.1 hc).1
  have hle := hf.le
  have hv : newA l = .tup [.rp [opsA l], int 0] := by unfold newA; rw [if_pos hc]
  rw [hv]
  (repeat ((conv=>whnf);first|refine ω0 ?_|refine ω1 ?_|refine ω2 ?_|refine ω3 ?_|refine ω4 rfl ?_|refine ω5 rfl ?_|refine ω6 ?_|refine ω7 ?_|refine ω8 ?_|refine ⟨rfl,?_⟩|refine ⟨trivial,?_⟩|refine ⟨⟨rfl,Nat.le_of_ble_eq_true rfl⟩,?_⟩|refine ⟨⟨by kernel_rfl,by kernel_rfl⟩,?_⟩|refine ⟨by decide,?_⟩|refine lit_true ?_|refine lit_false ?_))
  refine aop_tells rfl rfl deeds_spec trivial fun nx2 => ?_
  (repeat ((conv=>whnf);first|refine ω0 ?_|refine ω1 ?_|refine ω2 ?_|refine ω3 ?_|refine ω4 rfl ?_|refine ω5 rfl ?_|refine ω6 ?_|refine ω7 ?_|refine ω8 ?_|refine ⟨rfl,?_⟩|refine ⟨trivial,?_⟩|refine ⟨⟨rfl,Nat.le_of_ble_eq_true rfl⟩,?_⟩|refine ⟨⟨by kernel_rfl,by kernel_rfl⟩,?_⟩|refine ⟨by decide,?_⟩|refine lit_true ?_|refine lit_false ?_))
  refine aw_loop (fun s : Nat × Option Nat × Nat => mk 63 [(6, .bp (0, nx) 0), (7, .fm (fnM fnL)), (25, inss l), (26, int l.length), (27, int s.1)] ⟨[((0, nx), .c [.os 7 s.1 (opF l) (nmN 1 s.2.1)])], pmOf (nmN 1 s.2.1) (s.1 * 7), s.2.2, 2⟩)
    (fun s => s.1 ≤ l.length ∧ (s.2.1 = none → s.1 = 0)) (fun s => l.length - s.1) ?_ ?_
  · exact ⟨(0, none, nx2), ⟨by dsimp only; omega, fun _ => rfl⟩, ele_tell _ _ rfl rfl (List.Sublist.refl _) .slnil ⟨rfl, ⟨AVle.os_nil, trivial⟩, trivial⟩ trivial ⟨AVle.refl _, AVle.refl _, AVle.refl _, AVle.refl _, AVle.refl _, trivial⟩⟩
  · rintro ⟨i, oi, nx3⟩ ⟨h1, h2⟩
    dsimp only at h1 h2
    (repeat ((conv=>whnf);first|refine ω0 ?_|refine ω1 ?_|refine ω2 ?_|refine ω3 ?_|refine ω4 rfl ?_|refine ω5 rfl ?_|refine ω6 ?_|refine ω7 ?_|refine ω8 ?_|refine ⟨rfl,?_⟩|refine ⟨trivial,?_⟩|refine ⟨⟨rfl,Nat.le_of_ble_eq_true rfl⟩,?_⟩|refine ⟨⟨by kernel_rfl,by kernel_rfl⟩,?_⟩|refine ⟨by decide,?_⟩|refine lit_true ?_|refine lit_false ?_))
    intro c g3; cases c
    · have g3 := not_of g3
      dsimp only at g3
      obtain rfl : i = l.length := by omega
      (repeat ((conv=>whnf);first|refine ω0 ?_|refine ω2 ?_|refine ω3 ?_|refine ω4 rfl ?_|refine ω5 rfl ?_|refine ω6 ?_|refine ω7 ?_|refine ω8 ?_|refine ⟨rfl,?_⟩|refine ⟨trivial,?_⟩|refine ⟨⟨rfl,Nat.le_of_ble_eq_true rfl⟩,?_⟩|refine ⟨⟨by kernel_rfl,by kernel_rfl⟩,?_⟩|refine ⟨by decide,?_⟩|refine lit_true ?_|refine lit_false ?_))
      refine AW.le (ele_freeze (L := [(6, .rp [opsA l])]) (bx := []) (pm := []) (nn := 0) [((0, nx), .c [.os 7 l.length (opF l) (nmN 1 oi)])] rfl rfl (List.Sublist.refl _) (List.nil_sublist _) ⟨Frz.bpL (.head _) ⟨Frz.of_le AVle.os_sl, trivial⟩, trivial⟩) ?_
      (repeat ((conv=>whnf);first|refine ω0 ?_|refine ω1 ?_|refine ω2 ?_|refine ω3 ?_|refine ω4 rfl ?_|refine ω5 rfl ?_|refine ω6 ?_|refine ω7 ?_|refine ω8 ?_|refine ⟨rfl,?_⟩|refine ⟨trivial,?_⟩|refine ⟨⟨rfl,Nat.le_of_ble_eq_true rfl⟩,?_⟩|refine ⟨⟨by kernel_rfl,by kernel_rfl⟩,?_⟩|refine ⟨by decide,?_⟩|refine lit_true ?_|refine lit_false ?_))
      exact ret_tells rfl (AVle.refl _)
    · have g3 := yes_of g3
      dsimp only at g3
      have hi : i < l.length := by omega
      have hki : (l.getD i ins0).ok := hok.get hi
      have hK0 : (kof (l.getD i ins0).code).1 ≠ 0 := (wrong_parts (hf.ok i hi)).1
      have hK29 := kof_le (l.getD i ins0).code
      have e1 := alook_fn fnL (kof (l.getD i ins0).code).1
      (repeat ((conv=>whnf);first|refine ω0 ?_|refine ω1 ?_|refine ω2 ?_|refine ω3 ?_|refine ω4 rfl ?_|refine ω5 rfl ?_|refine ω6 ?_|refine ω7 ?_|refine ω8 ?_|refine ⟨rfl,?_⟩|refine ⟨trivial,?_⟩|refine ⟨⟨rfl,Nat.le_of_ble_eq_true rfl⟩,?_⟩|refine ⟨⟨by kernel_rfl,by kernel_rfl⟩,?_⟩|refine ⟨by decide,?_⟩|refine lit_true ?_|refine lit_false ?_))
      refine ⟨⟨by first | omega | (dsimp only; omega), by first | omega | (dsimp only; omega)⟩, ?_⟩
      (repeat ((conv=>whnf);first|refine ω0 ?_|refine ω1 ?_|refine ω2 ?_|refine ω3 ?_|refine ω4 rfl ?_|refine ω5 rfl ?_|refine ω6 ?_|refine ω7 ?_|refine ω8 ?_|refine ⟨rfl,?_⟩|refine ⟨trivial,?_⟩|refine ⟨⟨rfl,Nat.le_of_ble_eq_true rfl⟩,?_⟩|refine ⟨⟨by kernel_rfl,by kernel_rfl⟩,?_⟩|refine ⟨by decide,?_⟩|refine lit_true ?_|refine lit_false ?_))
      refine aop_tells rfl rfl (of_both (l.getD i ins0).code hki.1) ⟨AVle.refl _, trivial⟩ fun nx4 => ?_
      (repeat ((conv=>whnf);first|refine ω0 ?_|refine ω1 ?_|refine ω2 ?_|refine ω3 ?_|refine ω4 rfl ?_|refine ω5 rfl ?_|refine ω6 ?_|refine ω7 ?_|refine ω8 ?_|refine ⟨rfl,?_⟩|refine ⟨trivial,?_⟩|refine ⟨⟨rfl,Nat.le_of_ble_eq_true rfl⟩,?_⟩|refine ⟨⟨by kernel_rfl,by kernel_rfl⟩,?_⟩|refine ⟨by decide,?_⟩|refine lit_true ?_|refine lit_false ?_))
      intro xb hxb
      (repeat ((conv=>whnf);first|refine ω0 ?_|refine ω1 ?_|refine ω2 ?_|refine ω3 ?_|refine ω4 rfl ?_|refine ω5 rfl ?_|refine ω6 ?_|refine ω7 ?_|refine ω8 ?_|refine ⟨rfl,?_⟩|refine ⟨trivial,?_⟩|refine ⟨⟨rfl,Nat.le_of_ble_eq_true rfl⟩,?_⟩|refine ⟨⟨by kernel_rfl,by kernel_rfl⟩,?_⟩|refine ⟨by decide,?_⟩|refine lit_true ?_|refine lit_false ?_))
      by_cases k16 : (kof (l.getD i ins0).code).1 < 16
      · have hD : doF (kof (l.getD i ins0).code).1 = doF (kof (l.getD i ins0).code).1 := rfl
        rw [lk_low _ k16 hK0] at e1
        refine splitO_eq (b := .fn (.func (doF (kof (l.getD i ins0).code).1)) [] []) (by
          show lookR (alook (.int .i64 ((kof (l.getD i ins0).code).1 : Nat)) (fnM fnL)) _ false = _
          rw [e1]; rfl) ?_
        (repeat ((conv=>whnf);first|refine ω0 ?_|refine ω1 ?_|refine ω2 ?_|refine ω3 ?_|refine ω4 rfl ?_|refine ω5 rfl ?_|refine ω6 ?_|refine ω7 ?_|refine ω8 ?_|refine ⟨rfl,?_⟩|refine ⟨trivial,?_⟩|refine ⟨⟨rfl,Nat.le_of_ble_eq_true rfl⟩,?_⟩|refine ⟨⟨by kernel_rfl,by kernel_rfl⟩,?_⟩|refine ⟨by decide,?_⟩|refine lit_true ?_|refine lit_false ?_))
        intro c hc
        obtain rfl : c = false := hc.trans (decide_eq_false (by omega))
        (repeat ((conv=>whnf);first|refine ω0 ?_|refine ω1 ?_|refine ω2 ?_|refine ω3 ?_|refine ω4 rfl ?_|refine ω5 rfl ?_|refine ω6 ?_|refine ω7 ?_|refine ω8 ?_|refine ⟨rfl,?_⟩|refine ⟨trivial,?_⟩|refine ⟨⟨rfl,Nat.le_of_ble_eq_true rfl⟩,?_⟩|refine ⟨⟨by kernel_rfl,by kernel_rfl⟩,?_⟩|refine ⟨by decide,?_⟩|refine lit_true ?_|refine lit_false ?_))
        intro c hc
        obtain rfl : c = false := hc.trans (decide_eq_false (by omega))
        (repeat ((conv=>whnf);first|refine ω0 ?_|refine ω1 ?_|refine ω2 ?_|refine ω3 ?_|refine ω4 rfl ?_|refine ω5 rfl ?_|refine ω6 ?_|refine ω7 ?_|refine ω8 ?_|refine ⟨rfl,?_⟩|refine ⟨trivial,?_⟩|refine ⟨⟨rfl,Nat.le_of_ble_eq_true rfl⟩,?_⟩|refine ⟨⟨by kernel_rfl,by kernel_rfl⟩,?_⟩|refine ⟨by decide,?_⟩|refine lit_true ?_|refine lit_false ?_))
        refine aw_mix 12 _ (fun i => match i with | 11 => true | _ => false) [0, 1, 2, 3, 4, 5, 6, 7, 8, 9, 10, 11] (by kernel_rfl) (by kernel_rfl) (HB.refl _) ?_
        (repeat ((conv=>whnf);first|refine ω0 ?_|refine ω1 ?_|refine ω2 ?_|refine ω3 ?_|refine ω4 rfl ?_|refine ω5 rfl ?_|refine ω6 ?_|refine ω7 ?_|refine ω8 ?_|refine ⟨rfl,?_⟩|refine ⟨trivial,?_⟩|refine ⟨⟨rfl,Nat.le_of_ble_eq_true rfl⟩,?_⟩|refine ⟨⟨by kernel_rfl,by kernel_rfl⟩,?_⟩|refine ⟨by decide,?_⟩|refine lit_true ?_|refine lit_false ?_))
        refine ⟨_, eff_append1 (e := 127) (c := 7) (pm := []) (HB.refl _) rfl rfl rfl (.inr ⟨_, rfl⟩) (by kernel_rfl) (by kernel_rfl) (by kernel_rfl) (.inr rfl) (by kernel_rfl) (List.append_nil _).symm (oneRow_one rfl) (by show (i + 1) * 32 ≤ _; omega) (by omega), fun r h' hr => ?_⟩
        obtain ⟨rfl, rfl⟩ := hr
        (repeat ((conv=>whnf);first|refine ω0 ?_|refine ω1 ?_|refine ω2 ?_|refine ω3 ?_|refine ω4 rfl ?_|refine ω5 rfl ?_|refine ω6 ?_|refine ω7 ?_|refine ω8 ?_|refine ⟨rfl,?_⟩|refine ⟨trivial,?_⟩|refine ⟨⟨rfl,Nat.le_of_ble_eq_true rfl⟩,?_⟩|refine ⟨⟨by kernel_rfl,by kernel_rfl⟩,?_⟩|refine ⟨by decide,?_⟩|refine lit_true ?_|refine lit_false ?_))
        exact back (i + 1, some _, _) ⟨by dsimp only; omega, (fun h => by cases h)⟩ (by dsimp only; omega) (ele_tell _ _ rfl rfl (.cons _ (List.Sublist.refl _)) (List.Sublist.refl _) ⟨rfl, ⟨AVle.trans (b := .os 7 (i + 1) (opF l) _) (AVle.os_fun (appF_one (fun k hk => rfl) (by subst hxb; unfold opF opI; rw [hD]; rfl))) (AVle.os_nm rfl), trivial⟩, trivial⟩ ⟨rfl, rfl, trivial⟩ ⟨AVle.refl _, AVle.refl _, AVle.refl _, AVle.refl _, le_int (wrap_succ (by dsimp only; omega)), trivial⟩)
      · rw [lk_high _ (by omega) (by omega)] at e1
        refine splitO_eq (b := .v .nilFunc) (by
          show lookR (alook (.int .i64 ((kof (l.getD i ins0).code).1 : Nat)) (fnM fnL)) _ false = _
          rw [e1]; rfl) ?_
        (repeat ((conv=>whnf);first|refine ω0 ?_|refine ω1 ?_|refine ω2 ?_|refine ω3 ?_|refine ω4 rfl ?_|refine ω5 rfl ?_|refine ω6 ?_|refine ω7 ?_|refine ω8 ?_|refine ⟨rfl,?_⟩|refine ⟨trivial,?_⟩|refine ⟨⟨rfl,Nat.le_of_ble_eq_true rfl⟩,?_⟩|refine ⟨⟨by kernel_rfl,by kernel_rfl⟩,?_⟩|refine ⟨by decide,?_⟩|refine lit_true ?_|refine lit_false ?_))
        intro c t25; cases c
        · have t25 := not_of t25
          have hD : doF (kof (l.getD i ins0).code).1 = 68 := by unfold doF; rw [if_neg (by omega), if_pos (by omega)]
          (repeat ((conv=>whnf);first|refine ω0 ?_|refine ω1 ?_|refine ω2 ?_|refine ω3 ?_|refine ω4 rfl ?_|refine ω5 rfl ?_|refine ω6 ?_|refine ω7 ?_|refine ω8 ?_|refine ⟨rfl,?_⟩|refine ⟨trivial,?_⟩|refine ⟨⟨rfl,Nat.le_of_ble_eq_true rfl⟩,?_⟩|refine ⟨⟨by kernel_rfl,by kernel_rfl⟩,?_⟩|refine ⟨by decide,?_⟩|refine lit_true ?_|refine lit_false ?_))
          intro c hc
          obtain rfl : c = true := hc.trans (decide_eq_true (by omega))
          (repeat ((conv=>whnf);first|refine ω0 ?_|refine ω1 ?_|refine ω2 ?_|refine ω3 ?_|refine ω4 rfl ?_|refine ω5 rfl ?_|refine ω6 ?_|refine ω7 ?_|refine ω8 ?_|refine ⟨rfl,?_⟩|refine ⟨trivial,?_⟩|refine ⟨⟨rfl,Nat.le_of_ble_eq_true rfl⟩,?_⟩|refine ⟨⟨by kernel_rfl,by kernel_rfl⟩,?_⟩|refine ⟨by decide,?_⟩|refine lit_true ?_|refine lit_false ?_))
          refine aw_mix 12 _ (fun i => match i with | 11 => true | _ => false) [0, 1, 2, 3, 4, 5, 6, 7, 8, 9, 10, 11] (by kernel_rfl) (by kernel_rfl) (HB.refl _) ?_
          (repeat ((conv=>whnf);first|refine ω0 ?_|refine ω1 ?_|refine ω2 ?_|refine ω3 ?_|refine ω4 rfl ?_|refine ω5 rfl ?_|refine ω6 ?_|refine ω7 ?_|refine ω8 ?_|refine ⟨rfl,?_⟩|refine ⟨trivial,?_⟩|refine ⟨⟨rfl,Nat.le_of_ble_eq_true rfl⟩,?_⟩|refine ⟨⟨by kernel_rfl,by kernel_rfl⟩,?_⟩|refine ⟨by decide,?_⟩|refine lit_true ?_|refine lit_false ?_))
          refine ⟨_, eff_append1 (e := 127) (c := 7) (pm := []) (HB.refl _) rfl rfl rfl (.inr ⟨_, rfl⟩) (by kernel_rfl) (by kernel_rfl) (by kernel_rfl) (.inr rfl) (by kernel_rfl) (List.append_nil _).symm (oneRow_one rfl) (by show (i + 1) * 32 ≤ _; omega) (by omega), fun r h' hr => ?_⟩
          obtain ⟨rfl, rfl⟩ := hr
          (repeat ((conv=>whnf);first|refine ω0 ?_|refine ω1 ?_|refine ω2 ?_|refine ω3 ?_|refine ω4 rfl ?_|refine ω5 rfl ?_|refine ω6 ?_|refine ω7 ?_|refine ω8 ?_|refine ⟨rfl,?_⟩|refine ⟨trivial,?_⟩|refine ⟨⟨rfl,Nat.le_of_ble_eq_true rfl⟩,?_⟩|refine ⟨⟨by kernel_rfl,by kernel_rfl⟩,?_⟩|refine ⟨by decide,?_⟩|refine lit_true ?_|refine lit_false ?_))
          exact back (i + 1, some _, _) ⟨by dsimp only; omega, (fun h => by cases h)⟩ (by dsimp only; omega) (ele_tell _ _ rfl rfl (.cons _ (List.Sublist.refl _)) (List.Sublist.refl _) ⟨rfl, ⟨AVle.trans (b := .os 7 (i + 1) (opF l) _) (AVle.os_fun (appF_one (fun k hk => rfl) (by subst hxb; unfold opF opI; rw [hD]; rfl))) (AVle.os_nm rfl), trivial⟩, trivial⟩ ⟨rfl, rfl, trivial⟩ ⟨AVle.refl _, AVle.refl _, AVle.refl _, AVle.refl _, le_int (wrap_succ (by dsimp only; omega)), trivial⟩)
        · have t25 := yes_of t25
          have hD : doF (kof (l.getD i ins0).code).1 = 67 := by unfold doF; rw [if_neg (by omega), if_neg (by omega)]
          (repeat ((conv=>whnf);first|refine ω0 ?_|refine ω1 ?_|refine ω2 ?_|refine ω3 ?_|refine ω4 rfl ?_|refine ω5 rfl ?_|refine ω6 ?_|refine ω7 ?_|refine ω8 ?_|refine ⟨rfl,?_⟩|refine ⟨trivial,?_⟩|refine ⟨⟨rfl,Nat.le_of_ble_eq_true rfl⟩,?_⟩|refine ⟨⟨by kernel_rfl,by kernel_rfl⟩,?_⟩|refine ⟨by decide,?_⟩|refine lit_true ?_|refine lit_false ?_))
          refine aw_mix 12 _ (fun i => match i with | 11 => true | _ => false) [0, 1, 2, 3, 4, 5, 6, 7, 8, 9, 10, 11] (by kernel_rfl) (by kernel_rfl) (HB.refl _) ?_
          (repeat ((conv=>whnf);first|refine ω0 ?_|refine ω1 ?_|refine ω2 ?_|refine ω3 ?_|refine ω4 rfl ?_|refine ω5 rfl ?_|refine ω6 ?_|refine ω7 ?_|refine ω8 ?_|refine ⟨rfl,?_⟩|refine ⟨trivial,?_⟩|refine ⟨⟨rfl,Nat.le_of_ble_eq_true rfl⟩,?_⟩|refine ⟨⟨by kernel_rfl,by kernel_rfl⟩,?_⟩|refine ⟨by decide,?_⟩|refine lit_true ?_|refine lit_false ?_))
          refine ⟨_, eff_append1 (e := 127) (c := 7) (pm := []) (HB.refl _) rfl rfl rfl (.inr ⟨_, rfl⟩) (by kernel_rfl) (by kernel_rfl) (by kernel_rfl) (.inr rfl) (by kernel_rfl) (List.append_nil _).symm (oneRow_one rfl) (by show (i + 1) * 32 ≤ _; omega) (by omega), fun r h' hr => ?_⟩
          obtain ⟨rfl, rfl⟩ := hr
          (repeat ((conv=>whnf);first|refine ω0 ?_|refine ω1 ?_|refine ω2 ?_|refine ω3 ?_|refine ω4 rfl ?_|refine ω5 rfl ?_|refine ω6 ?_|refine ω7 ?_|refine ω8 ?_|refine ⟨rfl,?_⟩|refine ⟨trivial,?_⟩|refine ⟨⟨rfl,Nat.le_of_ble_eq_true rfl⟩,?_⟩|refine ⟨⟨by kernel_rfl,by kernel_rfl⟩,?_⟩|refine ⟨by decide,?_⟩|refine lit_true ?_|refine lit_false ?_))
          exact back (i + 1, some _, _) ⟨by dsimp only; omega, (fun h => by cases h)⟩ (by dsimp only; omega) (ele_tell _ _ rfl rfl (.cons _ (List.Sublist.refl _)) (List.Sublist.refl _) ⟨rfl, ⟨AVle.trans (b := .os 7 (i + 1) (opF l) _) (AVle.os_fun (appF_one (fun k hk => rfl) (by subst hxb; unfold opF opI; rw [hD]; rfl))) (AVle.os_nm rfl), trivial⟩, trivial⟩ ⟨rfl, rfl, trivial⟩ ⟨AVle.refl _, AVle.refl _, AVle.refl _, AVle.refl _, le_int (wrap_succ (by dsimp only; omega)), trivial⟩)
end Go.Proofs.W

namespace Go.Proofs.W
open Go.Vl
set_option maxRecDepth 100000

/-- A program's run over 64 bytes: what it tells, how it stands. -/
def runI (b : List Nat) (l : List Ins) : Nat × Rn := runV b l l.length rn0
def outA (v : Nat) (s : Rn) : AV := .ag [u32 v, int s.steps, ints s.loads]
theorem clone_bytes (b : List Nat) (hl : b.length ≤ 1000000) : Tells Try.prog 70 [bytesA b] (bytesA b) := by
  refine tells_of_aw Try.func70 rfl rfl fun nx => ?_
  (repeat ((conv=>whnf);first|refine ω0 ?_|refine ω1 ?_|refine ω2 ?_|refine ω3 ?_|refine ω4 rfl ?_|refine ω5 rfl ?_|refine ω6 ?_|refine ω7 ?_|refine ω8 ?_|refine ⟨rfl,?_⟩|refine ⟨trivial,?_⟩|refine ⟨⟨rfl,Nat.le_of_ble_eq_true rfl⟩,?_⟩|refine ⟨⟨by kernel_rfl,by kernel_rfl⟩,?_⟩|refine ⟨by decide,?_⟩|refine lit_true ?_|refine lit_false ?_))
  refine aop_nilslice (e := 5) rfl (.inl rfl) (by kernel_rfl) (.inl rfl) fun c hc => ?_
  cases c
  · (repeat ((conv=>whnf);first|refine ω0 ?_|refine ω1 ?_|refine ω2 ?_|refine ω3 ?_|refine ω4 rfl ?_|refine ω5 rfl ?_|refine ω6 ?_|refine ω7 ?_|refine ω8 ?_|refine ⟨rfl,?_⟩|refine ⟨trivial,?_⟩|refine ⟨⟨rfl,Nat.le_of_ble_eq_true rfl⟩,?_⟩|refine ⟨⟨by kernel_rfl,by kernel_rfl⟩,?_⟩|refine ⟨by decide,?_⟩|refine lit_true ?_|refine lit_false ?_))
    (conv => whnf)
    refine appK_intro (fun hm => ?_) fun hm => ?_
    · (repeat ((conv=>whnf);first|refine ω0 ?_|refine ω1 ?_|refine ω2 ?_|refine ω3 ?_|refine ω4 rfl ?_|refine ω5 rfl ?_|refine ω6 ?_|refine ω7 ?_|refine ω8 ?_|refine ⟨rfl,?_⟩|refine ⟨trivial,?_⟩|refine ⟨⟨rfl,Nat.le_of_ble_eq_true rfl⟩,?_⟩|refine ⟨⟨by kernel_rfl,by kernel_rfl⟩,?_⟩|refine ⟨by decide,?_⟩|refine lit_true ?_|refine lit_false ?_))
      refine ret_tells rfl ?_
      unfold bytesA slOf
      rw [hm]
      exact AVle.os_sl0
    · refine ⟨fun k hk => rfl, by show (0 + b.length) * 1 ≤ _; omega, by omega, ?_⟩
      (repeat ((conv=>whnf);first|refine ω0 ?_|refine ω1 ?_|refine ω2 ?_|refine ω3 ?_|refine ω4 rfl ?_|refine ω5 rfl ?_|refine ω6 ?_|refine ω7 ?_|refine ω8 ?_|refine ⟨rfl,?_⟩|refine ⟨trivial,?_⟩|refine ⟨⟨rfl,Nat.le_of_ble_eq_true rfl⟩,?_⟩|refine ⟨⟨by kernel_rfl,by kernel_rfl⟩,?_⟩|refine ⟨by decide,?_⟩|refine lit_true ?_|refine lit_false ?_))
      refine ret_tells rfl ?_
      have e5 : 0 + b.length = b.length := Nat.zero_add _
      refine AVle.os_sl.trans ?_
      refine AVle.trans (b := .sl 1 (0 + b.length) (fun k => u8 (b.getD k 0 : Nat))) (AVle.sl_fun fun k hk => rfl) (AVle.of_eq (by rw [e5]; rfl))
  · have hm := hc rfl
    (repeat ((conv=>whnf);first|refine ω0 ?_|refine ω1 ?_|refine ω2 ?_|refine ω3 ?_|refine ω4 rfl ?_|refine ω5 rfl ?_|refine ω6 ?_|refine ω7 ?_|refine ω8 ?_|refine ⟨rfl,?_⟩|refine ⟨trivial,?_⟩|refine ⟨⟨rfl,Nat.le_of_ble_eq_true rfl⟩,?_⟩|refine ⟨⟨by kernel_rfl,by kernel_rfl⟩,?_⟩|refine ⟨by decide,?_⟩|refine lit_true ?_|refine lit_false ?_))
    refine ret_tells rfl ?_
    unfold bytesA slOf
    rw [hm]
    exact AVle.os_sl0
/-- What catches the end of a run. -/
theorem catch_spec (b : List Nat) (s : Rn) (hs : s.ok) (oi : Option Nat) (v : Nat) (s0 s1 s2 s3 s5 nx : Nat) (o5 : List AV) :
    DCall Try.prog 71 [.bp (3, s3) 0, .bp (0, s0) 0, .bp (1, s1) 0] (.panicking (overA v)) ⟨[((5, s5), .c o5), ((3, s3), .c [.bp (2, s2) 0]), ((2, s2), .c (runC b s oi)), ((1, s1), .c [int 0]), ((0, s0), .c [u32 0, int 0, .os 0 0 (fun _ => .any) none])], pmOf (nmN 1 oi) (s.loads.length * 1), nx, 6⟩
      fun u h' => u = .returning ∧ ∃ x y pm nx' nn', h' = ⟨x :: y :: [((3, s3), .c [.bp (2, s2) 0]), ((2, s2), .c (splice (runC b s oi) 20 [u32 v])), ((1, s1), .c [int 0]), ((0, s0), .c [u32 v, int s.steps, .os 1 s.loads.length (natF s.loads) (nmN 1 oi)])], pm, nx', nn'⟩ ∧ x.1.1 = 6 ∧ y.1.1 = 5 := by
  obtain ⟨at', a, x, cells, steps, loads⟩ := s
  obtain ⟨c0, c1, c2, c3, c4, c5, c6, c7, c8, c9, c10, c11, c12, c13, c14, c15, rfl⟩ := cells16 hs.n
  refine dcall_recover Try.func71 rfl rfl rfl rfl rfl rfl ?_
  (repeat ((conv=>whnf);first|refine ω0 ?_|refine ω1 ?_|refine ω2 ?_|refine ω3 ?_|refine ω4 rfl ?_|refine ω5 rfl ?_|refine ω6 ?_|refine ω7 ?_|refine ω8 ?_|refine ⟨rfl,?_⟩|refine ⟨trivial,?_⟩|refine ⟨⟨rfl,Nat.le_of_ble_eq_true rfl⟩,?_⟩|refine ⟨⟨by kernel_rfl,by kernel_rfl⟩,?_⟩|refine ⟨by decide,?_⟩|refine lit_true ?_|refine lit_false ?_))
  refine aop_assert rfl Try.underlying134 (fun m h => by cases h) rfl ?_
  (repeat ((conv=>whnf);first|refine ω0 ?_|refine ω1 ?_|refine ω2 ?_|refine ω3 ?_|refine ω4 rfl ?_|refine ω5 rfl ?_|refine ω6 ?_|refine ω7 ?_|refine ω8 ?_|refine ⟨rfl,?_⟩|refine ⟨trivial,?_⟩|refine ⟨⟨rfl,Nat.le_of_ble_eq_true rfl⟩,?_⟩|refine ⟨⟨by kernel_rfl,by kernel_rfl⟩,?_⟩|refine ⟨by decide,?_⟩|refine lit_true ?_|refine lit_false ?_))
  refine ret_is rfl ?_
  exact ⟨rfl, ((6, nx), .c [u32 v]), ((5, s5), .c o5), pmOf (nmN 1 oi) (loads.length * 1), nx + 1, 7, rfl, rfl, rfl⟩
theorem doV_loads {b : List Nat} {i : Ins} {s : Rn} : (doV b i s).2.loads.length ≤ s.loads.length + 1 := by
  unfold doV
  split
  all_goals first
    | (dsimp only; simp; done)
    | (dsimp only; omega)
    | skip
  split
  · split
    · dsimp only; omega
    · dsimp only; omega
  · dsimp only; omega
theorem runV_more {b : List Nat} {l : List Ins} (hf : Formed l) : ∀ f g (s : Rn), s.at' < l.length → l.length ≤ s.at' + f → f ≤ g → runV b l g s = runV b l f s
  | 0, g, s, hs, hl, _ => by omega
  | f + 1, 0, s, hs, hl, hg => by omega
  | f + 1, g + 1, s, hs, hl, hg => by
    unfold runV
    cases h : stepV b l s with
    | mk o s' =>
      cases o with
      | some v => rfl
      | none =>
        obtain ⟨h1, h2⟩ := stepV_next h
        obtain ⟨h3, h4⟩ := nexts_lt hf hs _ h1
        exact runV_more hf f g s' h4 (by omega) (by omega)
theorem le_step {b : List Nat} {at' a x steps at2 st2 : Nat} {loads : List Nat} {oi : Option Nat} {c0 c1 c2 c3 c4 c5 c6 c7 c8 c9 c10 c11 c12 c13 c14 c15 : Nat} {V W : AV} (hV : AVle V (int at2)) (hW : AVle W (int st2)) :
    OwnLe (.c (splice (splice (runC b ⟨at', a, x, [c0, c1, c2, c3, c4, c5, c6, c7, c8, c9, c10, c11, c12, c13, c14, c15], steps, loads⟩ oi) 1 [V]) 21 [W])) (.c (runC b ⟨at2, a, x, [c0, c1, c2, c3, c4, c5, c6, c7, c8, c9, c10, c11, c12, c13, c14, c15], st2, loads⟩ oi)) := by
  show LeL [bytesA b, V, u32 a, u32 x, u32A c0, u32A c1, u32A c2, u32A c3, u32A c4, u32A c5, u32A c6, u32A c7, u32A c8, u32A c9, u32A c10, u32A c11, u32A c12, u32A c13, u32A c14, u32A c15, u32 0, W, .os 1 loads.length (natF loads) (nmN 1 oi)] [bytesA b, int at2, u32 a, u32 x, u32A c0, u32A c1, u32A c2, u32A c3, u32A c4, u32A c5, u32A c6, u32A c7, u32A c8, u32A c9, u32A c10, u32A c11, u32A c12, u32A c13, u32A c14, u32A c15, u32 0, int st2, .os 1 loads.length (natF loads) (nmN 1 oi)]
  exact ⟨AVle.refl _, hV, AVle.refl _, AVle.refl _, AVle.refl _, AVle.refl _, AVle.refl _, AVle.refl _, AVle.refl _, AVle.refl _, AVle.refl _, AVle.refl _, AVle.refl _, AVle.refl _, AVle.refl _, AVle.refl _, AVle.refl _, AVle.refl _, AVle.refl _, AVle.refl _, AVle.refl _, hW, AVle.refl _, trivial⟩
def capsR (s0 s1 s3 : Nat) : List AV := [.bp (3, s3) 0, .bp (0, s0) 0, .bp (1, s1) 0]
def machB (b : List Nat) (s0 s1 s2 s3 : Nat) (s : Rn) (oi : Option Nat) : List (Vl.Id × Own) := [((3, s3), .c [.bp (2, s2) 0]), ((2, s2), .c (runC b s oi)), ((1, s1), .c [int 0]), ((0, s0), .c [u32 0, int 0, .os 0 0 (fun _ => .any) none])]
theorem le_init {b : List Nat} : OwnLe (.c [bytesA b, int 0, u32 0, u32 0, u32 0, u32 0, u32 0, u32 0, u32 0, u32 0, u32 0, u32 0, u32 0, u32 0, u32 0, u32 0, u32 0, u32 0, u32 0, u32 0, u32 0, int 0, .os 0 0 (fun _ => .any) none]) (.c (runC b rn0 none)) := by
  show LeL [bytesA b, int 0, u32 0, u32 0, u32 0, u32 0, u32 0, u32 0, u32 0, u32 0, u32 0, u32 0, u32 0, u32 0, u32 0, u32 0, u32 0, u32 0, u32 0, u32 0, u32 0, int 0, .os 0 0 (fun _ => .any) none] [bytesA b, int 0, u32 0, u32 0, u32 0, u32 0, u32 0, u32 0, u32 0, u32 0, u32 0, u32 0, u32 0, u32 0, u32 0, u32 0, u32 0, u32 0, u32 0, u32 0, u32 0, int 0, .os 1 0 (natF []) none]
  exact ⟨AVle.refl _, AVle.refl _, AVle.refl _, AVle.refl _, AVle.refl _, AVle.refl _, AVle.refl _, AVle.refl _, AVle.refl _, AVle.refl _, AVle.refl _, AVle.refl _, AVle.refl _, AVle.refl _, AVle.refl _, AVle.refl _, AVle.refl _, AVle.refl _, AVle.refl _, AVle.refl _, AVle.refl _, AVle.refl _, AVle.os_nil, trivial⟩
theorem z_op : zcells Try.prog 127 = some [u16 0, u8 0, u8 0, u32 0, .v .nilFunc, int 0, boolA false] := by kernel_rfl
structure RnI (b : List Nat) (l : List Ins) (s : Rn) (oi : Option Nat) : Prop where
  lt : s.at' < l.length
  ok : s.ok
  nil : oi = none → s.loads = []
  steps : s.steps ≤ s.at'
  loads : s.loads.length ≤ s.at'
  res : runV b l (l.length - s.at') s = runI b l
set_option maxHeartbeats 1000000 in
theorem run_spec (l : List Ins) (hok : okL l) (hR : Right l) (b : List Nat) (hb : okB b) (hbl : b.length = 64) : Tells Try.prog 40 [.rp [opsA l], bytesA b] (.tup [outA (runI b l).1 (runI b l).2, int 0]) := by
  have hf := hR.1
  have hle := hf.le
  have hpos := hf.pos
  refine tells_of_aw Try.func40 rfl rfl fun nx => ?_
  (repeat ((conv=>whnf);first|refine ω0 ?_|refine ω1 ?_|refine ω2 ?_|refine ω3 ?_|refine ω4 rfl ?_|refine ω5 rfl ?_|refine ω6 ?_|refine ω7 ?_|refine ω8 ?_|refine ⟨rfl,?_⟩|refine ⟨trivial,?_⟩|refine ⟨⟨rfl,Nat.le_of_ble_eq_true rfl⟩,?_⟩|refine ⟨⟨by kernel_rfl,by kernel_rfl⟩,?_⟩|refine ⟨by decide,?_⟩|refine lit_true ?_|refine lit_false ?_))
  refine aop_nilptr rfl (.inl rfl) Try.underlying70 rfl ?_
  (repeat ((conv=>whnf);first|refine ω0 ?_|refine ω1 ?_|refine ω2 ?_|refine ω3 ?_|refine ω4 rfl ?_|refine ω5 rfl ?_|refine ω6 ?_|refine ω7 ?_|refine ω8 ?_|refine ⟨rfl,?_⟩|refine ⟨trivial,?_⟩|refine ⟨⟨rfl,Nat.le_of_ble_eq_true rfl⟩,?_⟩|refine ⟨⟨by kernel_rfl,by kernel_rfl⟩,?_⟩|refine ⟨by decide,?_⟩|refine lit_true ?_|refine lit_false ?_))
  intro c hc
  obtain rfl : c = false := hc.trans (decide_eq_false (by omega))
  (repeat ((conv=>whnf);first|refine ω0 ?_|refine ω1 ?_|refine ω2 ?_|refine ω3 ?_|refine ω4 rfl ?_|refine ω5 rfl ?_|refine ω6 ?_|refine ω7 ?_|refine ω8 ?_|refine ⟨rfl,?_⟩|refine ⟨trivial,?_⟩|refine ⟨⟨rfl,Nat.le_of_ble_eq_true rfl⟩,?_⟩|refine ⟨⟨by kernel_rfl,by kernel_rfl⟩,?_⟩|refine ⟨by decide,?_⟩|refine lit_true ?_|refine lit_false ?_))
  intro c hc
  obtain rfl : c = false := hc.trans (decide_eq_false (by omega))
  (repeat ((conv=>whnf);first|refine ω0 ?_|refine ω1 ?_|refine ω2 ?_|refine ω3 ?_|refine ω4 rfl ?_|refine ω5 rfl ?_|refine ω6 ?_|refine ω7 ?_|refine ω8 ?_|refine ⟨rfl,?_⟩|refine ⟨trivial,?_⟩|refine ⟨⟨rfl,Nat.le_of_ble_eq_true rfl⟩,?_⟩|refine ⟨⟨by kernel_rfl,by kernel_rfl⟩,?_⟩|refine ⟨by decide,?_⟩|refine lit_true ?_|refine lit_false ?_))
  refine aop_tells rfl rfl (clone_bytes b (by omega)) ⟨AVle.refl _, trivial⟩ fun nx1 => ?_
  (repeat ((conv=>whnf);first|refine ω0 ?_|refine ω1 ?_|refine ω2 ?_|refine ω3 ?_|refine ω4 rfl ?_|refine ω5 rfl ?_|refine ω6 ?_|refine ω7 ?_|refine ω8 ?_|refine ⟨rfl,?_⟩|refine ⟨trivial,?_⟩|refine ⟨⟨rfl,Nat.le_of_ble_eq_true rfl⟩,?_⟩|refine ⟨⟨by kernel_rfl,by kernel_rfl⟩,?_⟩|refine ⟨by decide,?_⟩|refine lit_true ?_|refine lit_false ?_))
  refine aop_defer rfl rfl rfl ?_
  (repeat ((conv=>whnf);first|refine ω0 ?_|refine ω1 ?_|refine ω2 ?_|refine ω3 ?_|refine ω4 rfl ?_|refine ω5 rfl ?_|refine ω6 ?_|refine ω7 ?_|refine ω8 ?_|refine ⟨rfl,?_⟩|refine ⟨trivial,?_⟩|refine ⟨⟨rfl,Nat.le_of_ble_eq_true rfl⟩,?_⟩|refine ⟨⟨by kernel_rfl,by kernel_rfl⟩,?_⟩|refine ⟨by decide,?_⟩|refine lit_true ?_|refine lit_false ?_))
  refine aw_loop (fun y : Rn × Option Nat × Nat => mk 58 [(0, .rp [opsA l]), (4, .bp (0, nx) 0), (5, .bp (1, nx + 1) 0), (6, .bp (3, nx1 + 1) 0)] ⟨machB b nx (nx + 1) nx1 (nx1 + 1) y.1 y.2.1, pmOf (nmN 1 y.2.1) (y.1.loads.length * 1), y.2.2, 5⟩ (some [.fn 71 (capsR nx (nx + 1) (nx1 + 1)) []]))
    (fun y => RnI b l y.1 y.2.1) (fun y => l.length - y.1.at') ?_ ?_
  · exact ⟨(rn0, none, nx1 + 2), ⟨hpos, rn0_ok, fun _ => rfl, Nat.le_refl _, Nat.le_refl _, rfl⟩, ele_tell _ _ rfl rfl (List.Sublist.refl _) .slnil ⟨rfl, OwnLe.refl _, rfl, le_init, rfl, OwnLe.refl _, rfl, OwnLe.refl _, trivial⟩ trivial ⟨AVle.refl _, AVle.refl _, AVle.refl _, AVle.refl _, trivial⟩⟩
  · rintro ⟨⟨at', a, x, cells, steps, loads⟩, oi, nx2⟩ hI
    obtain ⟨i1, i2, i3, i4, i5, i6⟩ := hI
    obtain ⟨c0, c1, c2, c3, c4, c5, c6, c7, c8, c9, c10, c11, c12, c13, c14, c15, rfl⟩ := cells16 i2.n
    dsimp only at i1 i3 i4 i5 i6
    have hki : (l.getD at' ins0).ok := hok.get i1
    have hw := hf.ok at' i1
    have hw1 : IntKind.i64.wrap ((at' : Int) + 1) = ((at' + 1 : Nat) : Int) := wrap_succ (by omega)
    have hw2 : IntKind.i64.wrap ((steps : Int) + 1) = ((steps + 1 : Nat) : Int) := wrap_succ (by omega)
    have hok1 : Rn.ok ⟨at' + 1, a, x, [c0, c1, c2, c3, c4, c5, c6, c7, c8, c9, c10, c11, c12, c13, c14, c15], steps + 1, loads⟩ := ⟨i2.a, i2.x, i2.n, i2.c⟩
    have hcall := do_spec b hb hbl (l.getD at' ins0) hki _ hw nx1 ⟨at' + 1, a, x, [c0, c1, c2, c3, c4, c5, c6, c7, c8, c9, c10, c11, c12, c13, c14, c15], steps + 1, loads⟩ oi i3 hok1 (by dsimp only; omega) (by omega) (by dsimp only; omega) (nx2 + 1)
    have hstep : stepV b l ⟨at', a, x, [c0, c1, c2, c3, c4, c5, c6, c7, c8, c9, c10, c11, c12, c13, c14, c15], steps, loads⟩ = doV b (l.getD at' ins0) ⟨at' + 1, a, x, [c0, c1, c2, c3, c4, c5, c6, c7, c8, c9, c10, c11, c12, c13, c14, c15], steps + 1, loads⟩ := rfl
    have hdok := doV_ok hb hki hok1
    have hdl := doV_loads (b := b) (i := l.getD at' ins0) (s := ⟨at' + 1, a, x, [c0, c1, c2, c3, c4, c5, c6, c7, c8, c9, c10, c11, c12, c13, c14, c15], steps + 1, loads⟩)
    rw [← hstep] at hcall hdok hdl
    (repeat ((conv=>whnf);first|refine ω0 ?_|refine ω1 ?_|refine ω2 ?_|refine ω3 ?_|refine ω4 rfl ?_|refine ω5 rfl ?_|refine ω6 ?_|refine ω7 ?_|refine ω8 ?_|refine ⟨rfl,?_⟩|refine ⟨trivial,?_⟩|refine ⟨⟨rfl,Nat.le_of_ble_eq_true rfl⟩,?_⟩|refine ⟨⟨by kernel_rfl,by kernel_rfl⟩,?_⟩|refine ⟨by decide,?_⟩|refine lit_true ?_|refine lit_false ?_))
    refine aw_mix 11 (machB b nx (nx + 1) nx1 (nx1 + 1) ⟨at', a, x, [c0, c1, c2, c3, c4, c5, c6, c7, c8, c9, c10, c11, c12, c13, c14, c15], steps, loads⟩ oi) (fun i => match i with | 10 => true | _ => false) [0, 1, 2, 3, 4, 5, 6, 7, 8, 9, 10] (by kernel_rfl) (by kernel_rfl) (HB.refl _) ?_
    (repeat ((conv=>whnf);first|refine ω0 ?_|refine ω1 ?_|refine ω2 ?_|refine ω3 ?_|refine ω4 rfl ?_|refine ω5 rfl ?_|refine ω6 ?_|refine ω7 ?_|refine ω8 ?_|refine ⟨rfl,?_⟩|refine ⟨trivial,?_⟩|refine ⟨⟨rfl,Nat.le_of_ble_eq_true rfl⟩,?_⟩|refine ⟨⟨by kernel_rfl,by kernel_rfl⟩,?_⟩|refine ⟨by decide,?_⟩|refine lit_true ?_|refine lit_false ?_))
    refine ⟨⟨by first | omega | (dsimp only; omega), by first | omega | (dsimp only; omega)⟩, ?_⟩
    (repeat ((conv=>whnf);first|refine ω0 ?_|refine ω1 ?_|refine ω2 ?_|refine ω3 ?_|refine ω4 rfl ?_|refine ω5 rfl ?_|refine ω6 ?_|refine ω7 ?_|refine ω8 ?_|refine ⟨rfl,?_⟩|refine ⟨trivial,?_⟩|refine ⟨⟨rfl,Nat.le_of_ble_eq_true rfl⟩,?_⟩|refine ⟨⟨by kernel_rfl,by kernel_rfl⟩,?_⟩|refine ⟨by decide,?_⟩|refine lit_true ?_|refine lit_false ?_))
    refine ⟨_, eff_alloc rfl rfl z_op (HB.cons rfl (HB.cons rfl (HB.cons rfl (HB.one rfl)))), fun r h' hr => ?_⟩
    obtain ⟨rfl, rfl⟩ := hr
    (repeat ((conv=>whnf);first|refine ω0 ?_|refine ω1 ?_|refine ω2 ?_|refine ω3 ?_|refine ω4 rfl ?_|refine ω5 rfl ?_|refine ω6 ?_|refine ω7 ?_|refine ω8 ?_|refine ⟨rfl,?_⟩|refine ⟨trivial,?_⟩|refine ⟨⟨rfl,Nat.le_of_ble_eq_true rfl⟩,?_⟩|refine ⟨⟨by kernel_rfl,by kernel_rfl⟩,?_⟩|refine ⟨by decide,?_⟩|refine lit_true ?_|refine lit_false ?_))
    have hc2 := (hcall.tell (h' := ⟨[((2, nx1), .c (splice (splice (runC b ⟨at', a, x, [c0, c1, c2, c3, c4, c5, c6, c7, c8, c9, c10, c11, c12, c13, c14, c15], steps, loads⟩ oi) 1 [int (IntKind.i64.wrap ((at' : Int) + 1))]) 21 [int (IntKind.i64.wrap ((steps : Int) + 1))]))], pmOf (nmN 1 oi) (loads.length * 1), nx2 + 1, 6⟩) ⟨rfl, le_step (le_int hw1) (le_int hw2), trivial⟩ (PmEq.refl _) rfl)
    refine aop_callR rfl rfl (by exact ECallR.args (bs := [.bp (0, nx1) 0, opA (l.getD at' ins0) .any]) ⟨AVle.bp_nm rfl, AVle.ags (cs := [_, _, _, _, _, _, _]) ⟨AVle.refl _, AVle.refl _, AVle.refl _, AVle.refl _, AVle.any _, AVle.refl _, AVle.refl _, trivial⟩, trivial⟩ (hc2.frame [((5, _), .c _), ((3, _), .c _), ((1, _), .c _), ((0, _), .c _)] [] (List.perm_middle (l₁ := [_, _])) (.of_eq (List.append_nil _).symm) rfl)) (fun r h' hq => ?_) (fun xp h' hq => ?_)
    · obtain ⟨h1', ⟨oi', nx', nn', r1, r2, rfl⟩, rfl⟩ := hq
      have hst : stepV b l ⟨at', a, x, [c0, c1, c2, c3, c4, c5, c6, c7, c8, c9, c10, c11, c12, c13, c14, c15], steps, loads⟩ = (none, (stepV b l ⟨at', a, x, [c0, c1, c2, c3, c4, c5, c6, c7, c8, c9, c10, c11, c12, c13, c14, c15], steps, loads⟩).2) := by rw [← r1]
      generalize (stepV b l ⟨at', a, x, [c0, c1, c2, c3, c4, c5, c6, c7, c8, c9, c10, c11, c12, c13, c14, c15], steps, loads⟩).2 = s' at *
      obtain ⟨n1, n2⟩ := stepV_next hst
      obtain ⟨n3, n4⟩ := nexts_lt hf i1 _ n1
      dsimp only at n2 n3 hdl
      refine ⟨r, ⟨[((5, _), .c _), ((3, nx1 + 1), .c [.bp (2, nx1) 0]), ((2, nx1), .c (runC b s' oi')), ((1, nx + 1), .c [int 0]), ((0, nx), .c [u32 0, int 0, .os 0 0 (fun _ => .any) none])], pmOf (nmN 1 oi') (s'.loads.length * 1) ++ [], nx', 6⟩, AVle.refl _, ⟨(List.perm_middle (l₁ := [_, _])), .refl _, rfl⟩, ?_⟩
      (repeat ((conv=>whnf);first|refine ω0 ?_|refine ω1 ?_|refine ω2 ?_|refine ω3 ?_|refine ω4 rfl ?_|refine ω5 rfl ?_|refine ω6 ?_|refine ω7 ?_|refine ω8 ?_|refine ⟨rfl,?_⟩|refine ⟨trivial,?_⟩|refine ⟨⟨rfl,Nat.le_of_ble_eq_true rfl⟩,?_⟩|refine ⟨⟨by kernel_rfl,by kernel_rfl⟩,?_⟩|refine ⟨by decide,?_⟩|refine lit_true ?_|refine lit_false ?_))
      refine back (s', oi', nx') ⟨n4, hdok, r2, by dsimp only; omega, by dsimp only; omega, ?_⟩ (by dsimp only; omega) (ele_tell _ _ rfl rfl (.cons _ (List.Sublist.refl _)) (List.Sublist.refl _) (BxLe.refl _) (by rw [List.append_nil]; exact PmEq.refl _) ⟨AVle.refl _, AVle.refl _, AVle.refl _, AVle.refl _, trivial⟩)
      rw [← i6]
      obtain ⟨m, hm⟩ : ∃ m, l.length - at' = m + 1 := ⟨l.length - at' - 1, by omega⟩
      rw [hm, runV, hst]
      dsimp only
      exact (runV_more hf (l.length - s'.at') m s' n4 (by omega) (by omega)).symm
    · obtain ⟨h1', ⟨v, oi', nx', nn', r1, rfl, r2, rfl⟩, rfl⟩ := hq
      have hst : stepV b l ⟨at', a, x, [c0, c1, c2, c3, c4, c5, c6, c7, c8, c9, c10, c11, c12, c13, c14, c15], steps, loads⟩ = (some v, (stepV b l ⟨at', a, x, [c0, c1, c2, c3, c4, c5, c6, c7, c8, c9, c10, c11, c12, c13, c14, c15], steps, loads⟩).2) := by rw [← r1]
      generalize (stepV b l ⟨at', a, x, [c0, c1, c2, c3, c4, c5, c6, c7, c8, c9, c10, c11, c12, c13, c14, c15], steps, loads⟩).2 = s' at *
      have hres : runI b l = (v, s') := by
        rw [← i6]
        obtain ⟨m, hm⟩ : ∃ m, l.length - at' = m + 1 := ⟨l.length - at' - 1, by omega⟩
        rw [hm, runV, hst]
      rw [hres]
      (conv => whnf)
      refine DCall.like (h := ⟨[((5, _), .c _), ((3, nx1 + 1), .c [.bp (2, nx1) 0]), ((2, nx1), .c (runC b s' oi')), ((1, nx + 1), .c [int 0]), ((0, nx), .c [u32 0, int 0, .os 0 0 (fun _ => .any) none])], pmOf (nmN 1 oi') (s'.loads.length * 1), nx', 6⟩) ⟨(List.perm_middle (l₁ := [_, _])).symm, .of_eq (by rw [List.append_nil]; rfl), rfl⟩ ((catch_spec b s' hdok oi' v nx (nx + 1) nx1 (nx1 + 1) _ nx' _).mono fun u h' hq => ?_)
      obtain ⟨rfl, ⟨⟨x1, x2⟩, x3⟩, ⟨⟨y1, y2⟩, y3⟩, pm, nx7, nn7, rfl, hx, hy⟩ := hq
      dsimp only at hx hy
      subst hx
      subst hy
      refine ret_tells_all rfl ?_ ?_
      · exact ⟨rfl, ⟨rfl, by decide⟩, trivial⟩
      · exact AVle.tups (cs := [_, _]) ⟨AVle.ags (cs := [_, _, _]) ⟨AVle.refl _, AVle.refl _, AVle.os_sl, trivial⟩, AVle.refl _, trivial⟩
theorem run_nil (b : AV) : Tells Try.prog 40 [.v (.pointer none), b] (.tup [outA 0 rn0, int 18]) := by
  refine tells_of_aw Try.func40 rfl rfl fun nx => ?_
  (repeat ((conv=>whnf);first|refine ω0 ?_|refine ω1 ?_|refine ω2 ?_|refine ω3 ?_|refine ω4 rfl ?_|refine ω5 rfl ?_|refine ω6 ?_|refine ω7 ?_|refine ω8 ?_|refine ⟨rfl,?_⟩|refine ⟨trivial,?_⟩|refine ⟨⟨rfl,Nat.le_of_ble_eq_true rfl⟩,?_⟩|refine ⟨⟨by kernel_rfl,by kernel_rfl⟩,?_⟩|refine ⟨by decide,?_⟩|refine lit_true ?_|refine lit_false ?_))
  refine ret_tells_all rfl ?_ ?_
  · exact ⟨rfl, ⟨rfl, by decide⟩, trivial⟩
  · exact AVle.tups (cs := [_, _]) ⟨AVle.ags (cs := [_, _, _]) ⟨AVle.refl _, AVle.refl _, AVle.os_sl0, trivial⟩, AVle.refl _, trivial⟩
theorem run_size (l : List Ins) (b : List Nat) (hbl : b.length ≠ 64) (hl : b.length ≤ 1000000) : Tells Try.prog 40 [.rp [opsA l], bytesA b] (.tup [outA 0 rn0, int (if b.length < 64 then 2 else 3 : Nat)]) := by
  refine tells_of_aw Try.func40 rfl rfl fun nx => ?_
  (repeat ((conv=>whnf);first|refine ω0 ?_|refine ω1 ?_|refine ω2 ?_|refine ω3 ?_|refine ω4 rfl ?_|refine ω5 rfl ?_|refine ω6 ?_|refine ω7 ?_|refine ω8 ?_|refine ⟨rfl,?_⟩|refine ⟨trivial,?_⟩|refine ⟨⟨rfl,Nat.le_of_ble_eq_true rfl⟩,?_⟩|refine ⟨⟨by kernel_rfl,by kernel_rfl⟩,?_⟩|refine ⟨by decide,?_⟩|refine lit_true ?_|refine lit_false ?_))
  refine aop_nilptr rfl (.inl rfl) Try.underlying70 rfl ?_
  (repeat ((conv=>whnf);first|refine ω0 ?_|refine ω1 ?_|refine ω2 ?_|refine ω3 ?_|refine ω4 rfl ?_|refine ω5 rfl ?_|refine ω6 ?_|refine ω7 ?_|refine ω8 ?_|refine ⟨rfl,?_⟩|refine ⟨trivial,?_⟩|refine ⟨⟨rfl,Nat.le_of_ble_eq_true rfl⟩,?_⟩|refine ⟨⟨by kernel_rfl,by kernel_rfl⟩,?_⟩|refine ⟨by decide,?_⟩|refine lit_true ?_|refine lit_false ?_))
  intro c h; cases c
  · have h := not_of h
    (repeat ((conv=>whnf);first|refine ω0 ?_|refine ω1 ?_|refine ω2 ?_|refine ω3 ?_|refine ω4 rfl ?_|refine ω5 rfl ?_|refine ω6 ?_|refine ω7 ?_|refine ω8 ?_|refine ⟨rfl,?_⟩|refine ⟨trivial,?_⟩|refine ⟨⟨rfl,Nat.le_of_ble_eq_true rfl⟩,?_⟩|refine ⟨⟨by kernel_rfl,by kernel_rfl⟩,?_⟩|refine ⟨by decide,?_⟩|refine lit_true ?_|refine lit_false ?_))
    intro c hc
    obtain rfl : c = true := hc.trans (decide_eq_true (by omega))
    (repeat ((conv=>whnf);first|refine ω0 ?_|refine ω1 ?_|refine ω2 ?_|refine ω3 ?_|refine ω4 rfl ?_|refine ω5 rfl ?_|refine ω6 ?_|refine ω7 ?_|refine ω8 ?_|refine ⟨rfl,?_⟩|refine ⟨trivial,?_⟩|refine ⟨⟨rfl,Nat.le_of_ble_eq_true rfl⟩,?_⟩|refine ⟨⟨by kernel_rfl,by kernel_rfl⟩,?_⟩|refine ⟨by decide,?_⟩|refine lit_true ?_|refine lit_false ?_))
    refine ret_tells_all rfl ?_ ?_
    · exact ⟨rfl, ⟨rfl, by decide⟩, trivial⟩
    · rw [if_neg (by omega)]
      exact AVle.tups (cs := [_, _]) ⟨AVle.ags (cs := [_, _, _]) ⟨AVle.refl _, AVle.refl _, AVle.os_sl0, trivial⟩, AVle.refl _, trivial⟩
  · have h := yes_of h
    (repeat ((conv=>whnf);first|refine ω0 ?_|refine ω1 ?_|refine ω2 ?_|refine ω3 ?_|refine ω4 rfl ?_|refine ω5 rfl ?_|refine ω6 ?_|refine ω7 ?_|refine ω8 ?_|refine ⟨rfl,?_⟩|refine ⟨trivial,?_⟩|refine ⟨⟨rfl,Nat.le_of_ble_eq_true rfl⟩,?_⟩|refine ⟨⟨by kernel_rfl,by kernel_rfl⟩,?_⟩|refine ⟨by decide,?_⟩|refine lit_true ?_|refine lit_false ?_))
    refine ret_tells_all rfl ?_ ?_
    · exact ⟨rfl, ⟨rfl, by decide⟩, trivial⟩
    · rw [if_pos (by omega)]
      exact AVle.tups (cs := [_, _]) ⟨AVle.ags (cs := [_, _, _]) ⟨AVle.refl _, AVle.refl _, AVle.os_sl0, trivial⟩, AVle.refl _, trivial⟩
/-- What a run of any program over any bytes tells: an error's number, the value, the end. -/
def vmI (l : List Ins) (b : List Nat) : Nat × (Nat × Rn) :=
  if (checkI l).2 ≠ 0 then ((checkI l).2, (0, rn0)) else if b.length < 64 then (2, (0, rn0)) else if 64 < b.length then (3, (0, rn0)) else (0, runI b l)
theorem vmrun_spec (l : List Ins) (hok : okL l) (hl : l.length ≤ 1000000000) (b : List Nat) (hb : okB b) (hbl : b.length ≤ 1000000) : Tells Try.prog 33 [inss l, bytesA b] (.tup [outA (vmI l b).2.1 (vmI l b).2.2, int (vmI l b).1]) := by
  refine tells_of_aw Try.func33 rfl rfl fun nx => ?_
  (repeat ((conv=>whnf);first|refine ω0 ?_|refine ω1 ?_|refine ω2 ?_|refine ω3 ?_|refine ω4 rfl ?_|refine ω5 rfl ?_|refine ω6 ?_|refine ω7 ?_|refine ω8 ?_|refine ⟨rfl,?_⟩|refine ⟨trivial,?_⟩|refine ⟨⟨rfl,Nat.le_of_ble_eq_true rfl⟩,?_⟩|refine ⟨⟨by kernel_rfl,by kernel_rfl⟩,?_⟩|refine ⟨by decide,?_⟩|refine lit_true ?_|refine lit_false ?_))
  refine aop_tells rfl rfl (new_spec l hok hl) ⟨AVle.refl _, trivial⟩ fun nx1 => ?_
  by_cases hc : (checkI l).2 = 0
  · have hv : newA l = .tup [.rp [opsA l], int 0] := by unfold newA; rw [if_pos hc]
    rw [hv]
    (repeat ((conv=>whnf);first|refine ω0 ?_|refine ω1 ?_|refine ω2 ?_|refine ω3 ?_|refine ω4 rfl ?_|refine ω5 rfl ?_|refine ω6 ?_|refine ω7 ?_|refine ω8 ?_|refine ⟨rfl,?_⟩|refine ⟨trivial,?_⟩|refine ⟨⟨rfl,Nat.le_of_ble_eq_true rfl⟩,?_⟩|refine ⟨⟨by kernel_rfl,by kernel_rfl⟩,?_⟩|refine ⟨by decide,?_⟩|refine lit_true ?_|refine lit_false ?_))
    by_cases hn : b.length = 64
    · have hv : vmI l b = (0, runI b l) := by unfold vmI; rw [if_neg (by omega), if_neg (by omega), if_neg (by omega)]
      rw [hv]
      refine aop_tells rfl rfl (run_spec l hok (check_iff.1 hc) b hb hn) ⟨AVle.refl _, AVle.refl _, trivial⟩ fun nx2 => ?_
      (repeat ((conv=>whnf);first|refine ω0 ?_|refine ω1 ?_|refine ω2 ?_|refine ω3 ?_|refine ω4 rfl ?_|refine ω5 rfl ?_|refine ω6 ?_|refine ω7 ?_|refine ω8 ?_|refine ⟨rfl,?_⟩|refine ⟨trivial,?_⟩|refine ⟨⟨rfl,Nat.le_of_ble_eq_true rfl⟩,?_⟩|refine ⟨⟨by kernel_rfl,by kernel_rfl⟩,?_⟩|refine ⟨by decide,?_⟩|refine lit_true ?_|refine lit_false ?_))
      refine ret_tells_all rfl ?_ ?_
      · exact ⟨rfl, trivial⟩
      · exact AVle.refl _
    · have hv : vmI l b = ((if b.length < 64 then 2 else 3), (0, rn0)) := by
        unfold vmI; rw [if_neg (by omega)]
        split
        · rfl
        · rw [if_pos (by omega)]
      rw [hv]
      refine aop_tells rfl rfl (run_size l b hn hbl) ⟨AVle.refl _, AVle.refl _, trivial⟩ fun nx2 => ?_
      (repeat ((conv=>whnf);first|refine ω0 ?_|refine ω1 ?_|refine ω2 ?_|refine ω3 ?_|refine ω4 rfl ?_|refine ω5 rfl ?_|refine ω6 ?_|refine ω7 ?_|refine ω8 ?_|refine ⟨rfl,?_⟩|refine ⟨trivial,?_⟩|refine ⟨⟨rfl,Nat.le_of_ble_eq_true rfl⟩,?_⟩|refine ⟨⟨by kernel_rfl,by kernel_rfl⟩,?_⟩|refine ⟨by decide,?_⟩|refine lit_true ?_|refine lit_false ?_))
      refine ret_tells_all rfl ?_ ?_
      · exact ⟨rfl, trivial⟩
      · exact AVle.refl _
  · have hv : newA l = .tup [.v (.pointer none), int (checkI l).2] := by unfold newA; rw [if_neg hc]
    have hw : vmI l b = ((checkI l).2, (0, rn0)) := by unfold vmI; rw [if_pos hc]
    rw [hv, hw]
    (repeat ((conv=>whnf);first|refine ω0 ?_|refine ω1 ?_|refine ω2 ?_|refine ω3 ?_|refine ω4 rfl ?_|refine ω5 rfl ?_|refine ω6 ?_|refine ω7 ?_|refine ω8 ?_|refine ⟨rfl,?_⟩|refine ⟨trivial,?_⟩|refine ⟨⟨rfl,Nat.le_of_ble_eq_true rfl⟩,?_⟩|refine ⟨⟨by kernel_rfl,by kernel_rfl⟩,?_⟩|refine ⟨by decide,?_⟩|refine lit_true ?_|refine lit_false ?_))
    intro c hcc
    obtain rfl : c = true := by rw [hcc]; simp; omega
    (repeat ((conv=>whnf);first|refine ω0 ?_|refine ω1 ?_|refine ω2 ?_|refine ω3 ?_|refine ω4 rfl ?_|refine ω5 rfl ?_|refine ω6 ?_|refine ω7 ?_|refine ω8 ?_|refine ⟨rfl,?_⟩|refine ⟨trivial,?_⟩|refine ⟨⟨rfl,Nat.le_of_ble_eq_true rfl⟩,?_⟩|refine ⟨⟨by kernel_rfl,by kernel_rfl⟩,?_⟩|refine ⟨by decide,?_⟩|refine lit_true ?_|refine lit_false ?_))
    refine ret_tells_all rfl ?_ ?_
    · exact ⟨rfl, trivial⟩
    · exact AVle.tups (cs := [_, _]) ⟨AVle.ags (cs := [_, _, _]) ⟨AVle.refl _, AVle.refl _, AVle.os_sl0, trivial⟩, AVle.refl _, trivial⟩
end Go.Proofs.W

namespace Go.Proofs.W
open Go.Vl
set_option maxRecDepth 100000

theorem all6_spec (l : List Ins) (hl : l.length ≤ 1000000) : Tells Try.prog 34 [inss l] (inss l) := by
  refine tells_of_aw Try.func34 rfl rfl fun nx => ?_
  (repeat ((conv=>whnf);first|refine ω0 ?_|refine ω1 ?_|refine ω2 ?_|refine ω3 ?_|refine ω4 rfl ?_|refine ω5 rfl ?_|refine ω6 ?_|refine ω7 ?_|refine ω8 ?_|refine ⟨rfl,?_⟩|refine ⟨trivial,?_⟩|refine ⟨⟨rfl,Nat.le_of_ble_eq_true rfl⟩,?_⟩|refine ⟨⟨by kernel_rfl,by kernel_rfl⟩,?_⟩|refine ⟨by decide,?_⟩|refine lit_true ?_|refine lit_false ?_))
  refine aw_loop (fun s : Nat × Option Nat × Nat => mk 36 [(0, inss l), (3, .os 4 s.1 (fun k => insA (l.getD k ins0)) (nmd s.2.1)), (4, int s.1)] ⟨[], pmOf (nmd s.2.1) (s.1 * 4), s.2.2, 0⟩) (fun s => s.1 ≤ l.length ∧ (s.2.1 = none → s.1 = 0)) (fun s => l.length - s.1) ?_ ?_
  · exact ⟨(0, none, nx), ⟨by simp, fun _ => rfl⟩, ele_mk rfl rfl ⟨AVle.refl _, AVle.os_nil, AVle.refl _, trivial⟩⟩
  · rintro ⟨i, oi, nx2⟩ ⟨h3, h4⟩
    dsimp only at h3 h4
    (repeat ((conv=>whnf);first|refine ω0 ?_|refine ω1 ?_|refine ω2 ?_|refine ω3 ?_|refine ω4 rfl ?_|refine ω5 rfl ?_|refine ω6 ?_|refine ω7 ?_|refine ω8 ?_|refine ⟨rfl,?_⟩|refine ⟨trivial,?_⟩|refine ⟨⟨rfl,Nat.le_of_ble_eq_true rfl⟩,?_⟩|refine ⟨⟨by kernel_rfl,by kernel_rfl⟩,?_⟩|refine ⟨by decide,?_⟩|refine lit_true ?_|refine lit_false ?_))
    intro c h5; cases c
    · have h6 := not_of h5
      dsimp only at h6
      obtain rfl : i = l.length := by omega
      (repeat ((conv=>whnf);first|refine ω0 ?_|refine ω1 ?_|refine ω2 ?_|refine ω3 ?_|refine ω4 rfl ?_|refine ω5 rfl ?_|refine ω6 ?_|refine ω7 ?_|refine ω8 ?_|refine ⟨rfl,?_⟩|refine ⟨trivial,?_⟩|refine ⟨⟨rfl,Nat.le_of_ble_eq_true rfl⟩,?_⟩|refine ⟨⟨by kernel_rfl,by kernel_rfl⟩,?_⟩|refine ⟨by decide,?_⟩|refine lit_true ?_|refine lit_false ?_))
      exact ret_tells rfl AVle.os_sl
    · have h6 := yes_of h5
      dsimp only at h6
      rcases oi with _ | id
      · obtain rfl := h4 rfl
        (repeat ((conv=>whnf);first|refine ω0 ?_|refine ω1 ?_|refine ω2 ?_|refine ω3 ?_|refine ω4 rfl ?_|refine ω5 rfl ?_|refine ω6 ?_|refine ω7 ?_|refine ω8 ?_|refine ⟨rfl,?_⟩|refine ⟨trivial,?_⟩|refine ⟨⟨rfl,Nat.le_of_ble_eq_true rfl⟩,?_⟩|refine ⟨⟨by kernel_rfl,by kernel_rfl⟩,?_⟩|refine ⟨by decide,?_⟩|refine lit_true ?_|refine lit_false ?_))
        (refine aw_draw 23 ?_ ?_ ?_ ?_; (· kernel_rfl); (· kernel_rfl); (· kernel_rfl))
        (repeat ((conv=>whnf);first|refine ω0 ?_|refine ω1 ?_|refine ω2 ?_|refine ω3 ?_|refine ω4 rfl ?_|refine ω5 rfl ?_|refine ω6 ?_|refine ω7 ?_|refine ω8 ?_|refine ⟨rfl,?_⟩|refine ⟨trivial,?_⟩|refine ⟨⟨rfl,Nat.le_of_ble_eq_true rfl⟩,?_⟩|refine ⟨⟨by kernel_rfl,by kernel_rfl⟩,?_⟩|refine ⟨by decide,?_⟩|refine lit_true ?_|refine lit_false ?_))
        refine ⟨⟨by dsimp only; omega, by dsimp only; omega⟩, ?_⟩
        (repeat ((conv=>whnf);first|refine ω0 ?_|refine ω1 ?_|refine ω2 ?_|refine ω3 ?_|refine ω4 rfl ?_|refine ω5 rfl ?_|refine ω6 ?_|refine ω7 ?_|refine ω8 ?_|refine ⟨rfl,?_⟩|refine ⟨trivial,?_⟩|refine ⟨⟨rfl,Nat.le_of_ble_eq_true rfl⟩,?_⟩|refine ⟨⟨by kernel_rfl,by kernel_rfl⟩,?_⟩|refine ⟨by decide,?_⟩|refine lit_true ?_|refine lit_false ?_))
        refine ⟨⟨by dsimp only; omega, by dsimp only; omega⟩, ?_⟩
        (repeat ((conv=>whnf);first|refine ω0 ?_|refine ω1 ?_|refine ω2 ?_|refine ω3 ?_|refine ω4 rfl ?_|refine ω5 rfl ?_|refine ω6 ?_|refine ω7 ?_|refine ω8 ?_|refine ⟨rfl,?_⟩|refine ⟨trivial,?_⟩|refine ⟨⟨rfl,Nat.le_of_ble_eq_true rfl⟩,?_⟩|refine ⟨⟨by kernel_rfl,by kernel_rfl⟩,?_⟩|refine ⟨by decide,?_⟩|refine lit_true ?_|refine lit_false ?_))
        refine ⟨⟨by dsimp only; omega, by dsimp only; omega⟩, ?_⟩
        (repeat ((conv=>whnf);first|refine ω0 ?_|refine ω1 ?_|refine ω2 ?_|refine ω3 ?_|refine ω4 rfl ?_|refine ω5 rfl ?_|refine ω6 ?_|refine ω7 ?_|refine ω8 ?_|refine ⟨rfl,?_⟩|refine ⟨trivial,?_⟩|refine ⟨⟨rfl,Nat.le_of_ble_eq_true rfl⟩,?_⟩|refine ⟨⟨by kernel_rfl,by kernel_rfl⟩,?_⟩|refine ⟨by decide,?_⟩|refine lit_true ?_|refine lit_false ?_))
        refine ⟨⟨by dsimp only; omega, by dsimp only; omega⟩, ?_⟩
        (repeat ((conv=>whnf);first|refine ω0 ?_|refine ω1 ?_|refine ω2 ?_|refine ω3 ?_|refine ω4 rfl ?_|refine ω5 rfl ?_|refine ω6 ?_|refine ω7 ?_|refine ω8 ?_|refine ⟨rfl,?_⟩|refine ⟨trivial,?_⟩|refine ⟨⟨rfl,Nat.le_of_ble_eq_true rfl⟩,?_⟩|refine ⟨⟨by kernel_rfl,by kernel_rfl⟩,?_⟩|refine ⟨by decide,?_⟩|refine lit_true ?_|refine lit_false ?_))
        refine ⟨oneRow_one rfl, by show (0 + 1) * 8 ≤ _; omega, by dsimp only; omega, ?_⟩
        (repeat ((conv=>whnf);first|refine ω0 ?_|refine ω1 ?_|refine ω2 ?_|refine ω3 ?_|refine ω4 rfl ?_|refine ω5 rfl ?_|refine ω6 ?_|refine ω7 ?_|refine ω8 ?_|refine ⟨rfl,?_⟩|refine ⟨trivial,?_⟩|refine ⟨⟨rfl,Nat.le_of_ble_eq_true rfl⟩,?_⟩|refine ⟨⟨by kernel_rfl,by kernel_rfl⟩,?_⟩|refine ⟨by decide,?_⟩|refine lit_true ?_|refine lit_false ?_))
        exact back (0 + 1, some nx2, nx2 + 1) ⟨by dsimp only; omega, (fun h => by cases h)⟩ (by dsimp only; omega) (ele_keep rfl rfl .slnil (.cons_cons _ .slnil) ⟨AVle.refl _, AVle.os_fun (appF_one (fun k hk => absurd hk (Nat.not_lt_zero _)) rfl), le_int (wrap_succ (by dsimp only; omega)), trivial⟩)
      · (repeat ((conv=>whnf);first|refine ω0 ?_|refine ω1 ?_|refine ω2 ?_|refine ω3 ?_|refine ω4 rfl ?_|refine ω5 rfl ?_|refine ω6 ?_|refine ω7 ?_|refine ω8 ?_|refine ⟨rfl,?_⟩|refine ⟨trivial,?_⟩|refine ⟨⟨rfl,Nat.le_of_ble_eq_true rfl⟩,?_⟩|refine ⟨⟨by kernel_rfl,by kernel_rfl⟩,?_⟩|refine ⟨by decide,?_⟩|refine lit_true ?_|refine lit_false ?_))
        (refine aw_draw 23 ?_ ?_ ?_ ?_; (· kernel_rfl); (· kernel_rfl); (· kernel_rfl))
        (repeat ((conv=>whnf);first|refine ω0 ?_|refine ω1 ?_|refine ω2 ?_|refine ω3 ?_|refine ω4 rfl ?_|refine ω5 rfl ?_|refine ω6 ?_|refine ω7 ?_|refine ω8 ?_|refine ⟨rfl,?_⟩|refine ⟨trivial,?_⟩|refine ⟨⟨rfl,Nat.le_of_ble_eq_true rfl⟩,?_⟩|refine ⟨⟨by kernel_rfl,by kernel_rfl⟩,?_⟩|refine ⟨by decide,?_⟩|refine lit_true ?_|refine lit_false ?_))
        refine ⟨⟨by dsimp only; omega, by dsimp only; omega⟩, ?_⟩
        (repeat ((conv=>whnf);first|refine ω0 ?_|refine ω1 ?_|refine ω2 ?_|refine ω3 ?_|refine ω4 rfl ?_|refine ω5 rfl ?_|refine ω6 ?_|refine ω7 ?_|refine ω8 ?_|refine ⟨rfl,?_⟩|refine ⟨trivial,?_⟩|refine ⟨⟨rfl,Nat.le_of_ble_eq_true rfl⟩,?_⟩|refine ⟨⟨by kernel_rfl,by kernel_rfl⟩,?_⟩|refine ⟨by decide,?_⟩|refine lit_true ?_|refine lit_false ?_))
        refine ⟨⟨by dsimp only; omega, by dsimp only; omega⟩, ?_⟩
        (repeat ((conv=>whnf);first|refine ω0 ?_|refine ω1 ?_|refine ω2 ?_|refine ω3 ?_|refine ω4 rfl ?_|refine ω5 rfl ?_|refine ω6 ?_|refine ω7 ?_|refine ω8 ?_|refine ⟨rfl,?_⟩|refine ⟨trivial,?_⟩|refine ⟨⟨rfl,Nat.le_of_ble_eq_true rfl⟩,?_⟩|refine ⟨⟨by kernel_rfl,by kernel_rfl⟩,?_⟩|refine ⟨by decide,?_⟩|refine lit_true ?_|refine lit_false ?_))
        refine ⟨⟨by dsimp only; omega, by dsimp only; omega⟩, ?_⟩
        (repeat ((conv=>whnf);first|refine ω0 ?_|refine ω1 ?_|refine ω2 ?_|refine ω3 ?_|refine ω4 rfl ?_|refine ω5 rfl ?_|refine ω6 ?_|refine ω7 ?_|refine ω8 ?_|refine ⟨rfl,?_⟩|refine ⟨trivial,?_⟩|refine ⟨⟨rfl,Nat.le_of_ble_eq_true rfl⟩,?_⟩|refine ⟨⟨by kernel_rfl,by kernel_rfl⟩,?_⟩|refine ⟨by decide,?_⟩|refine lit_true ?_|refine lit_false ?_))
        refine ⟨⟨by dsimp only; omega, by dsimp only; omega⟩, ?_⟩
        (repeat ((conv=>whnf);first|refine ω0 ?_|refine ω1 ?_|refine ω2 ?_|refine ω3 ?_|refine ω4 rfl ?_|refine ω5 rfl ?_|refine ω6 ?_|refine ω7 ?_|refine ω8 ?_|refine ⟨rfl,?_⟩|refine ⟨trivial,?_⟩|refine ⟨⟨rfl,Nat.le_of_ble_eq_true rfl⟩,?_⟩|refine ⟨⟨by kernel_rfl,by kernel_rfl⟩,?_⟩|refine ⟨by decide,?_⟩|refine lit_true ?_|refine lit_false ?_))
        refine ⟨oneRow_one rfl, by show (i + 1) * 8 ≤ _; omega, by dsimp only; omega, ?_⟩
        (repeat ((conv=>whnf);first|refine ω0 ?_|refine ω1 ?_|refine ω2 ?_|refine ω3 ?_|refine ω4 rfl ?_|refine ω5 rfl ?_|refine ω6 ?_|refine ω7 ?_|refine ω8 ?_|refine ⟨rfl,?_⟩|refine ⟨trivial,?_⟩|refine ⟨⟨rfl,Nat.le_of_ble_eq_true rfl⟩,?_⟩|refine ⟨⟨by kernel_rfl,by kernel_rfl⟩,?_⟩|refine ⟨by decide,?_⟩|refine lit_true ?_|refine lit_false ?_))
        exact back (i + 1, some nx2, nx2 + 1) ⟨by dsimp only; omega, (fun h => by cases h)⟩ (by dsimp only; omega) (ele_keep rfl rfl .slnil (.cons_cons _ .slnil) ⟨AVle.refl _, AVle.os_fun (appF_one (fun k hk => rfl) rfl), le_int (wrap_succ (by dsimp only; omega)), trivial⟩)
end Go.Proofs.W

namespace Go.Proofs.W
open Go.Vl

theorem doV_load (b : List Nat) (i : Ins) (s : Rn) : (doV b i s).2.loads = if (kof i.code).1 = 1 then s.loads ++ [i.k] else s.loads := by
  unfold doV
  split
  all_goals first
    | (rename_i h; rw [if_pos h]; done)
    | (rename_i h; rw [if_neg (by omega)]; done)
    | skip
  have h1 : ¬ (kof i.code).1 = 1 := by assumption
  rw [if_neg h1]
  split
  · split <;> rfl
  · rfl
theorem doV_steps (b : List Nat) (i : Ins) (s : Rn) : (doV b i s).2.steps = s.steps := by
  unfold doV
  split
  all_goals first | rfl | skip
  split
  · split <;> rfl
  · rfl
theorem stepV_load (b : List Nat) (l : List Ins) (s : Rn) : (stepV b l s).2.loads = if kind l s.at' = 1 then s.loads ++ [(l.getD s.at' ins0).k] else s.loads := doV_load b _ _
theorem stepV_steps (b : List Nat) (l : List Ins) (s : Rn) : (stepV b l s).2.steps = s.steps + 1 := doV_steps b _ _
/-- A run's loads only grow. -/
theorem runV_loads (b : List Nat) (l : List Ins) : ∀ f s, ∀ k ∈ s.loads, k ∈ (runV b l f s).2.loads
  | 0, s, k, h => h
  | f + 1, s, k, h => by
    have h1 : k ∈ (stepV b l s).2.loads := by
      rw [stepV_load]
      split
      · exact List.mem_append_left _ h
      · exact h
    unfold runV
    cases he : stepV b l s with
    | mk o s' =>
      rw [he] at h1
      cases o with
      | some v => exact h1
      | none => exact runV_loads b l f s' k h1
def fineL (l : List Nat) : Prop := ∀ k ∈ l, k ≤ 60 ∧ k % 4 = 0
theorem runV_ends {b : List Nat} {l : List Ins} (hf : Formed l) : ∀ f (s : Rn), s.at' < l.length → l.length ≤ s.at' + f → s.steps ≤ s.at' → s.loads.length ≤ s.steps → fineL s.loads →
    fineL (runV b l f s).2.loads ∧ (runV b l f s).2.loads.length < (runV b l f s).2.steps ∧ (runV b l f s).2.steps ≤ l.length
  | 0, s, hs, hl, _, _, _ => by omega
  | f + 1, s, hs, hl, h1, h2, h3 => by
    have e1 := stepV_load b l s
    have e2 := stepV_steps b l s
    unfold runV
    cases h : stepV b l s with
    | mk o s' =>
      rw [h] at e1 e2
      cases o with
      | some v =>
        obtain rfl := stepV_over h
        dsimp only at e1 e2 ⊢
        exact ⟨h3, by omega, by omega⟩
      | none =>
        obtain ⟨n1, n2⟩ := stepV_next h
        obtain ⟨n3, n4⟩ := nexts_lt hf hs _ n1
        dsimp only at e1 e2 ⊢
        refine runV_ends hf f s' n4 (by omega) (by omega) ?_ ?_
        · rw [e1]
          split
          · rw [List.length_append, List.length_singleton]; omega
          · omega
        · rw [e1]
          split
          · rename_i hk
            have hw := (wrong_parts (hf.ok s.at' hs)).2.1
            have hk' : (kof (l.getD s.at' ins0).code).1 = 1 := hk
            intro k hk2
            rcases List.mem_append.1 hk2 with h4 | h4
            · exact h3 k h4
            · obtain rfl := List.mem_singleton.1 h4
              omega
          · exact h3
theorem runI_ends {b : List Nat} {l : List Ins} (hf : Formed l) : fineL (runI b l).2.loads ∧ (runI b l).2.loads.length < (runI b l).2.steps ∧ (runI b l).2.steps ≤ l.length :=
  runV_ends hf l.length rn0 hf.pos (Nat.le_add_left _ _) (Nat.le_refl _) (Nat.le_refl _) (fun k h => by cases h)
theorem doV_blind {b c : List Nat} {i : Ins} {s : Rn} (h : (kof i.code).1 = 1 → wordL b i.k = wordL c i.k) : doV b i s = doV c i s := by
  unfold doV
  split
  · rename_i hk
    rw [h hk]
  all_goals rfl
/-- What a run did not load does not count. -/
theorem runV_blind {b c : List Nat} {l : List Ins} : ∀ f s, (∀ k ∈ (runV b l f s).2.loads, wordL b k = wordL c k) → runV c l f s = runV b l f s
  | 0, s, _ => rfl
  | f + 1, s, h => by
    have h1 : stepV b l s = stepV c l s := by
      refine doV_blind fun hk => ?_
      refine h _ ?_
      have hk' : kind l s.at' = 1 := hk
      have h2 : (l.getD s.at' ins0).k ∈ (stepV b l s).2.loads := by rw [stepV_load, if_pos hk']; simp
      unfold runV
      cases he : stepV b l s with
      | mk o s' =>
        rw [he] at h2
        cases o with
        | some v => exact h2
        | none => exact runV_loads b l f s' _ h2
    unfold runV at h ⊢
    rw [← h1]
    cases he : stepV b l s with
    | mk o s' =>
      rw [he] at h
      cases o with
      | some v => rfl
      | none => exact runV_blind f s' h
theorem runI_blind {b c : List Nat} {l : List Ins} (h : ∀ k ∈ (runI b l).2.loads, wordL b k = wordL c k) : runI c l = runI b l := runV_blind l.length rn0 h
theorem runV_ok {b : List Nat} (hb : okB b) {l : List Ins} (hl : okL l) (hf : Formed l) : ∀ f (s : Rn), s.at' < l.length → s.ok → (runV b l f s).2.ok ∧ (runV b l f s).1 < 4294967296
  | 0, s, _, h => ⟨h, by show 0 < _; decide⟩
  | f + 1, s, ha, h => by
    have h1 : (stepV b l s).2.ok := doV_ok hb (hl.get ha) ⟨h.a, h.x, h.n, h.c⟩
    unfold runV
    cases he : stepV b l s with
    | mk o s' =>
      rw [he] at h1
      cases o with
      | some v =>
        refine ⟨h1, ?_⟩
        have hi := hl.get ha
        have h5 : (doV b (l.getD s.at' ins0) { s with at' := s.at' + 1, steps := s.steps + 1 }).1 = some v := congrArg Prod.fst he
        unfold doV at h5
        split at h5
        all_goals first
          | (cases h5; done)
          | (cases h5; exact hi.2.2.2)
          | (cases h5; exact h.a)
          | skip
        split at h5
        · split at h5
          · cases h5
          · cases h5; dsimp only; decide
        · cases h5
      | none =>
        obtain ⟨n1, n2⟩ := stepV_next he
        exact runV_ok hb hl hf f s' (nexts_lt hf ha _ n1).2 h1
theorem runI_lt {b : List Nat} (hb : okB b) {l : List Ins} (hl : okL l) (hf : Formed l) : (runI b l).1 < 4294967296 := (runV_ok hb hl hf l.length rn0 hf.pos rn0_ok).2

/-- The pruned one does the same. -/
structure Sim (l : List Ins) (s t : Rn) : Prop where
  at' : t.at' = cnt l s.at'
  a : t.a = s.a
  x : t.x = s.x
  cells : t.cells = s.cells
  steps : t.steps = s.steps
  loads : t.loads = s.loads
end Go.Proofs.W

namespace Go.Proofs.W
open Go.Vl
set_option maxRecDepth 100000

theorem vm_awake : vmI [⟨32, 0, 0, 0⟩, ⟨22, 0, 0, 0⟩] (7 :: List.replicate 63 0) = (0, (7, ⟨2, 7, 0, List.replicate 16 0, 2, [0]⟩)) := by kernel_rfl
theorem appF_hi {n k : Nat} {f g : Nat → AV} (h : ¬ k < n) : appF n f g k = g (k - n) := by
  unfold appF
  have e : Nat.blt k n = false := by
    cases h2 : Nat.blt k n with
    | false => rfl
    | true => exact absurd (Nat.le_of_ble_eq_true h2) h
  rw [e]; rfl
theorem getD_rep0 (n k : Nat) : (List.replicate n 0).getD k 0 = 0 := by
  rcases Nat.lt_or_ge k n with h | h <;> simp [List.getD, h]
theorem awake6_spec : Tells Try.prog 38 [] (boolA true) := by
  refine tells_of_aw Try.func38 rfl rfl fun nx => ?_
  (repeat ((conv=>whnf);first|refine ω0 ?_|refine ω2 ?_|refine ω3 ?_|refine ω4 rfl ?_|refine ω5 rfl ?_|refine ω6 ?_|refine ω7 ?_|refine ω8 ?_|refine ⟨rfl,?_⟩|refine ⟨trivial,?_⟩|refine ⟨⟨rfl,Nat.le_of_ble_eq_true rfl⟩,?_⟩|refine ⟨⟨by kernel_rfl,by kernel_rfl⟩,?_⟩|refine ⟨by decide,?_⟩|refine lit_true ?_|refine lit_false ?_))
  refine aw_region ?_
  (repeat ((conv=>whnf);first|refine ω0 ?_|refine ω2 ?_|refine ω3 ?_|refine ω4 rfl ?_|refine ω5 rfl ?_|refine ω6 ?_|refine ω7 ?_|refine ω8 ?_|refine ⟨rfl,?_⟩|refine ⟨trivial,?_⟩|refine ⟨⟨rfl,Nat.le_of_ble_eq_true rfl⟩,?_⟩|refine ⟨⟨by kernel_rfl,by kernel_rfl⟩,?_⟩|refine ⟨by decide,?_⟩|refine lit_true ?_|refine lit_false ?_))
  refine aw_regionX 5 ?_
  (repeat ((conv=>whnf);first|refine ω0 ?_|refine ω1 ?_|refine ω2 ?_|refine ω3 ?_|refine ω4 rfl ?_|refine ω5 rfl ?_|refine ω6 ?_|refine ω7 ?_|refine ω8 ?_|refine ⟨rfl,?_⟩|refine ⟨trivial,?_⟩|refine ⟨⟨rfl,Nat.le_of_ble_eq_true rfl⟩,?_⟩|refine ⟨⟨by kernel_rfl,by kernel_rfl⟩,?_⟩|refine ⟨by decide,?_⟩|refine lit_true ?_|refine lit_false ?_))
  refine AOp.kp (aop_appendZ (m := 63) (n := 1) (oi := none) (kq := .i64) (kn := .i64) (e := 5) rfl rfl rfl (by decide) Try.underlying3 (by kernel_rfl) Try.underlying55 (by kernel_rfl) (.inr rfl) (fun i hi => by cases hi) (fun _ => ?_) (fun _ => by decide) (fun _ => ?_))
  · show (1 + 63) * Try.prog.bytesOf 5 ≤ _
    rw [show Try.prog.bytesOf 5 = 1 by kernel_rfl]; decide
  (repeat ((conv=>whnf);first|refine ω0 ?_|refine ω1 ?_|refine ω2 ?_|refine ω3 ?_|refine ω4 rfl ?_|refine ω5 rfl ?_|refine ω6 ?_|refine ω7 ?_|refine ω8 ?_|refine ⟨rfl,?_⟩|refine ⟨trivial,?_⟩|refine ⟨⟨rfl,Nat.le_of_ble_eq_true rfl⟩,?_⟩|refine ⟨⟨by kernel_rfl,by kernel_rfl⟩,?_⟩|refine ⟨by decide,?_⟩|refine lit_true ?_|refine lit_false ?_))
  have hv := vmrun_spec [⟨32, 0, 0, 0⟩, ⟨22, 0, 0, 0⟩] (by intro i hi; simp at hi; rcases hi with rfl | rfl <;> simp [Ins.ok]) (by simp) (7 :: List.replicate 63 0) (by intro x hx; simp at hx; omega) (by simp)
  rw [vm_awake] at hv
  refine aop_tells rfl rfl hv ⟨AVle.os_sl.trans (AVle.sl_fun (allK_use ⟨⟨trivial, rfl⟩, rfl⟩)), AVle.os_sl.trans (AVle.sl_fun fun k hk => ?_), trivial⟩ fun nx => ?_
  · cases k with
    | zero => rfl
    | succ k =>
      refine (appF_hi (show ¬ (k + 1 < 1) by omega)).trans ?_
      show AV.v (.int .u8 0) = .v (.int .u8 (((List.replicate 63 0).getD k 0 : Nat) : Int))
      rw [getD_rep0]; rfl
  (repeat ((conv=>whnf);first|refine ω0 ?_|refine ω1 ?_|refine ω2 ?_|refine ω3 ?_|refine ω4 rfl ?_|refine ω5 rfl ?_|refine ω6 ?_|refine ω7 ?_|refine ω8 ?_|refine ⟨rfl,?_⟩|refine ⟨trivial,?_⟩|refine ⟨⟨rfl,Nat.le_of_ble_eq_true rfl⟩,?_⟩|refine ⟨⟨by kernel_rfl,by kernel_rfl⟩,?_⟩|refine ⟨by decide,?_⟩|refine lit_true ?_|refine lit_false ?_))
  refine ret_tells rfl (AVle.refl _)
theorem noid_all2 {a b : AV} (h : NoId a) (h' : NoId b) : ∀ c ∈ [a, b], NoId c := fun c hc => by
  simp at hc; rcases hc with rfl | rfl
  · exact h
  · exact h'
theorem noid_slOf {α : Type} {sz : Nat} {e : α → AV} {d : α} {l : List α} (h : ∀ x, ∀ c ∈ (e x).cells, NoId c) : NoId (slOf sz e d l) := NoId.sl fun i _ c hc => h _ c hc
theorem noid_inss (l : List Ins) : NoId (inss l) := noid_slOf fun x c hc => by
  simp [insA, AV.cells] at hc
  rcases hc with rfl | rfl | rfl | rfl <;> exact NoId.v _
theorem noid_ints (l : List Nat) : NoId (ints l) := noid_slOf fun x c hc => by
  have hc : c ∈ [int x] := hc
  simp at hc
  subst hc
  exact NoId.v _
theorem noid_out (v : Nat) (s : Rn) : NoId (outA v s) := NoId.ag fun c hc => by
  simp at hc
  rcases hc with rfl | rfl | rfl
  · exact NoId.v _
  · exact NoId.v _
  · exact noid_ints _
theorem noid_run (v : Nat) (s : Rn) (e : Nat) : NoId (.tup [outA v s, int e]) := NoId.tup (noid_all2 (noid_out v s) (NoId.v _))
theorem vmI_ok {l : List Ins} {b : List Nat} {e v : Nat} {s : Rn} (h : vmI l b = (e, v, s)) (he : e = 0) : Right l ∧ b.length = 64 ∧ runI b l = (v, s) := by
  subst he
  unfold vmI at h
  split at h
  · rename_i hc; exact absurd (congrArg Prod.fst h) hc
  · rename_i hc
    split at h
    · cases h
    · split at h
      · cases h
      · refine ⟨check_iff.1 (by omega), by omega, ?_⟩
        exact congrArg Prod.snd h
theorem HB0 {bx : List (Vl.Id × Own)} : HB [] bx := fun _ _ _ h => by cases h
theorem z_out : zcells Try.prog 65 = some [u32 0, int 0, .os 0 0 (fun _ => .any) none] := by kernel_rfl
/-- 64 bytes, as an array. -/
def b64A (b : List Nat) : AV := .ag (b.map fun k : Nat => u8 k)
theorem vmends_spec (l : List Ins) (hok : okL l) (hl : l.length ≤ maxLen) (b : List Nat) (hb : okB b) (hbl : b.length = 64) : PCall Try.prog 9 [inss l, b64A b] (fun r => r = .v (.bool true)) := by
  refine pcall_of_aw Try.func9 rfl rfl fun nx => ?_
  (repeat ((conv=>whnf);first|refine ω0 ?_|refine ω2 ?_|refine ω3 ?_|refine ω4 rfl ?_|refine ω5 rfl ?_|refine ω6 ?_|refine ω7 ?_|refine ω8 ?_|refine ⟨rfl,?_⟩|refine ⟨trivial,?_⟩|refine ⟨⟨rfl,Nat.le_of_ble_eq_true rfl⟩,?_⟩|refine ⟨⟨by kernel_rfl,by kernel_rfl⟩,?_⟩|refine ⟨by decide,?_⟩|refine lit_true ?_|refine lit_false ?_))
  refine aw_regionX 1 ?_
  refine aop_boxK rfl ?_ ?_
  · rfl
  (repeat ((conv=>whnf);first|refine ω0 ?_|refine ω2 ?_|refine ω3 ?_|refine ω4 rfl ?_|refine ω5 rfl ?_|refine ω6 ?_|refine ω7 ?_|refine ω8 ?_|refine ⟨rfl,?_⟩|refine ⟨trivial,?_⟩|refine ⟨⟨rfl,Nat.le_of_ble_eq_true rfl⟩,?_⟩|refine ⟨⟨by kernel_rfl,by kernel_rfl⟩,?_⟩|refine ⟨by decide,?_⟩|refine lit_true ?_|refine lit_false ?_))
  refine AW.le (ele_freeze (bx := []) (pm := []) (nn := 1) (L := [(0, inss l), (3, .rp (b.map fun k : Nat => u8 k)), (4, boolA false)]) [((0, nx), .c (b.map fun k : Nat => u8 k))] rfl rfl (List.Sublist.refl _) .slnil ⟨Frz.refl _, Frz.bp (List.mem_cons_self ..) rfl, Frz.refl _, trivial⟩) ?_
  (repeat ((conv=>whnf);first|refine ω0 ?_|refine ω1 ?_|refine ω2 ?_|refine ω3 ?_|refine ω4 rfl ?_|refine ω5 rfl ?_|refine ω6 ?_|refine ω7 ?_|refine ω8 ?_|refine ⟨rfl,?_⟩|refine ⟨trivial,?_⟩|refine ⟨⟨rfl,Nat.le_of_ble_eq_true rfl⟩,?_⟩|refine ⟨⟨by kernel_rfl,by kernel_rfl⟩,?_⟩|refine ⟨by decide,?_⟩|refine lit_true ?_|refine lit_false ?_))
  intro c h1; cases c
  · have h1 := not_of h1
    have hl2 : l.length ≤ 200 := by omega
    have hvm := vmrun_spec l hok (by omega) b hb (by omega)
    generalize hV : vmI l b = V at hvm
    obtain ⟨e, v, s⟩ := V
    dsimp only at hvm
    (repeat ((conv=>whnf);first|refine ω0 ?_|refine ω1 ?_|refine ω2 ?_|refine ω3 ?_|refine ω4 rfl ?_|refine ω5 rfl ?_|refine ω6 ?_|refine ω7 ?_|refine ω8 ?_|refine ⟨rfl,?_⟩|refine ⟨trivial,?_⟩|refine ⟨⟨rfl,Nat.le_of_ble_eq_true rfl⟩,?_⟩|refine ⟨⟨by kernel_rfl,by kernel_rfl⟩,?_⟩|refine ⟨by decide,?_⟩|refine lit_true ?_|refine lit_false ?_))
    refine aw_mixN 10 [] (fun i => match i with | 7 => true | 8 => true | _ => false) (fun i => match i with | 2 => true | _ => false) [0, 1, 2, 3, 4, 5, 6, 7, 8, 9] (by kernel_rfl) (by kernel_rfl) (HB.refl _) ?_
    (repeat ((conv=>whnf);first|refine ω0 ?_|refine ω1 ?_|refine ω2 ?_|refine ω3 ?_|refine ω4 rfl ?_|refine ω5 rfl ?_|refine ω6 ?_|refine ω7 ?_|refine ω8 ?_|refine ⟨rfl,?_⟩|refine ⟨trivial,?_⟩|refine ⟨⟨rfl,Nat.le_of_ble_eq_true rfl⟩,?_⟩|refine ⟨⟨by kernel_rfl,by kernel_rfl⟩,?_⟩|refine ⟨by decide,?_⟩|refine lit_true ?_|refine lit_false ?_))
    refine ⟨_, pure_tells rfl rfl rfl (all6_spec l (by omega)) ⟨AVle.refl _, trivial⟩ (noid_inss l), ?_⟩
    (repeat ((conv=>whnf);first|refine ω0 ?_|refine ω1 ?_|refine ω2 ?_|refine ω3 ?_|refine ω4 rfl ?_|refine ω5 rfl ?_|refine ω6 ?_|refine ω7 ?_|refine ω8 ?_|refine ⟨rfl,?_⟩|refine ⟨trivial,?_⟩|refine ⟨⟨rfl,Nat.le_of_ble_eq_true rfl⟩,?_⟩|refine ⟨⟨by kernel_rfl,by kernel_rfl⟩,?_⟩|refine ⟨by decide,?_⟩|refine lit_true ?_|refine lit_false ?_))
    refine ⟨_, pure_arr (n := 64) (e := 5) rfl rfl rfl Try.underlying77 Try.underlying5 rfl (by kernel_rfl) hbl (fun _ => rfl), ?_⟩
    (repeat ((conv=>whnf);first|refine ω0 ?_|refine ω1 ?_|refine ω2 ?_|refine ω3 ?_|refine ω4 rfl ?_|refine ω5 rfl ?_|refine ω6 ?_|refine ω7 ?_|refine ω8 ?_|refine ⟨rfl,?_⟩|refine ⟨trivial,?_⟩|refine ⟨⟨rfl,Nat.le_of_ble_eq_true rfl⟩,?_⟩|refine ⟨⟨by kernel_rfl,by kernel_rfl⟩,?_⟩|refine ⟨by decide,?_⟩|refine lit_true ?_|refine lit_false ?_))
    refine ⟨_, pure_tells rfl rfl rfl hvm ⟨AVle.refl _, AVle.refl _, trivial⟩ (noid_run _ _ _), ?_⟩
    (repeat ((conv=>whnf);first|refine ω0 ?_|refine ω1 ?_|refine ω2 ?_|refine ω3 ?_|refine ω4 rfl ?_|refine ω5 rfl ?_|refine ω6 ?_|refine ω7 ?_|refine ω8 ?_|refine ⟨rfl,?_⟩|refine ⟨trivial,?_⟩|refine ⟨⟨rfl,Nat.le_of_ble_eq_true rfl⟩,?_⟩|refine ⟨⟨by kernel_rfl,by kernel_rfl⟩,?_⟩|refine ⟨by decide,?_⟩|refine lit_true ?_|refine lit_false ?_))
    refine ⟨_, eff_alloc rfl rfl z_out HB0, fun r h' hr => ?_⟩
    obtain ⟨rfl, rfl⟩ := hr
    (repeat ((conv=>whnf);first|refine ω0 ?_|refine ω1 ?_|refine ω2 ?_|refine ω3 ?_|refine ω4 rfl ?_|refine ω5 rfl ?_|refine ω6 ?_|refine ω7 ?_|refine ω8 ?_|refine ⟨rfl,?_⟩|refine ⟨trivial,?_⟩|refine ⟨⟨rfl,Nat.le_of_ble_eq_true rfl⟩,?_⟩|refine ⟨⟨by kernel_rfl,by kernel_rfl⟩,?_⟩|refine ⟨by decide,?_⟩|refine lit_true ?_|refine lit_false ?_))
    refine ⟨_, eff_store rfl rfl rfl rfl rfl rfl rfl (by kernel_rfl) (by kernel_rfl) (by show 0 + 3 ≤ 3; omega) HB0, fun r h' hr => ?_⟩
    subst hr
    (repeat ((conv=>whnf);first|refine ω0 ?_|refine ω1 ?_|refine ω2 ?_|refine ω3 ?_|refine ω4 rfl ?_|refine ω5 rfl ?_|refine ω6 ?_|refine ω7 ?_|refine ω8 ?_|refine ⟨rfl,?_⟩|refine ⟨trivial,?_⟩|refine ⟨⟨rfl,Nat.le_of_ble_eq_true rfl⟩,?_⟩|refine ⟨⟨by kernel_rfl,by kernel_rfl⟩,?_⟩|refine ⟨by decide,?_⟩|refine lit_true ?_|refine lit_false ?_))
    intro c h2; cases c
    · have h2 : e = 0 := by have := bne_no h2; omega
      obtain ⟨hR, _, hrun⟩ := vmI_ok hV h2
      obtain ⟨e1, e2, e3⟩ := runI_ends (b := b) hR.1
      rw [hrun] at e1 e2 e3
      dsimp only at e1 e2 e3
      (repeat ((conv=>whnf);first|refine ω0 ?_|refine ω1 ?_|refine ω2 ?_|refine ω3 ?_|refine ω4 rfl ?_|refine ω5 rfl ?_|refine ω6 ?_|refine ω7 ?_|refine ω8 ?_|refine ⟨rfl,?_⟩|refine ⟨trivial,?_⟩|refine ⟨⟨rfl,Nat.le_of_ble_eq_true rfl⟩,?_⟩|refine ⟨⟨by kernel_rfl,by kernel_rfl⟩,?_⟩|refine ⟨by decide,?_⟩|refine lit_true ?_|refine lit_false ?_))
      refine aw_loop (fun y : Nat × Nat => mk 72 [(0, inss l), (5, .bp (1, nx + 1) 0), (7, int y.1)] ⟨[((1, nx + 1), .c [u32 v, int s.steps, ints s.loads])], [], y.2, 2⟩) (fun y => y.1 ≤ s.loads.length) (fun y => s.loads.length - y.1) ?_ ?_
      · exact ⟨(0, nx + 2), Nat.zero_le _, ele_mk rfl rfl ⟨AVle.refl _, AVle.refl _, AVle.refl _, trivial⟩⟩
      · rintro ⟨i, nx1⟩ g1
        dsimp only at g1
        (repeat ((conv=>whnf);first|refine ω0 ?_|refine ω1 ?_|refine ω2 ?_|refine ω3 ?_|refine ω4 rfl ?_|refine ω5 rfl ?_|refine ω6 ?_|refine ω7 ?_|refine ω8 ?_|refine ⟨rfl,?_⟩|refine ⟨trivial,?_⟩|refine ⟨⟨rfl,Nat.le_of_ble_eq_true rfl⟩,?_⟩|refine ⟨⟨by kernel_rfl,by kernel_rfl⟩,?_⟩|refine ⟨by decide,?_⟩|refine lit_true ?_|refine lit_false ?_))
        intro c g2; cases c
        · have g2 := not_of g2
          dsimp only at g2
          (repeat ((conv=>whnf);first|refine ω0 ?_|refine ω1 ?_|refine ω2 ?_|refine ω3 ?_|refine ω4 rfl ?_|refine ω5 rfl ?_|refine ω6 ?_|refine ω7 ?_|refine ω8 ?_|refine ⟨rfl,?_⟩|refine ⟨trivial,?_⟩|refine ⟨⟨rfl,Nat.le_of_ble_eq_true rfl⟩,?_⟩|refine ⟨⟨by kernel_rfl,by kernel_rfl⟩,?_⟩|refine ⟨by decide,?_⟩|refine lit_true ?_|refine lit_false ?_))
          (intro c hc; obtain rfl : c = true := hc.trans (by first | exact decide_eq_true (by omega) | (simp; omega)); (repeat ((conv=>whnf);first|refine ω0 ?_|refine ω1 ?_|refine ω2 ?_|refine ω3 ?_|refine ω4 rfl ?_|refine ω5 rfl ?_|refine ω6 ?_|refine ω7 ?_|refine ω8 ?_|refine ⟨rfl,?_⟩|refine ⟨trivial,?_⟩|refine ⟨⟨rfl,Nat.le_of_ble_eq_true rfl⟩,?_⟩|refine ⟨⟨by kernel_rfl,by kernel_rfl⟩,?_⟩|refine ⟨by decide,?_⟩|refine lit_true ?_|refine lit_false ?_)))
          (intro c hc; obtain rfl : c = true := hc.trans (by first | exact decide_eq_true (by omega) | (simp; omega)); (repeat ((conv=>whnf);first|refine ω0 ?_|refine ω1 ?_|refine ω2 ?_|refine ω3 ?_|refine ω4 rfl ?_|refine ω5 rfl ?_|refine ω6 ?_|refine ω7 ?_|refine ω8 ?_|refine ⟨rfl,?_⟩|refine ⟨trivial,?_⟩|refine ⟨⟨rfl,Nat.le_of_ble_eq_true rfl⟩,?_⟩|refine ⟨⟨by kernel_rfl,by kernel_rfl⟩,?_⟩|refine ⟨by decide,?_⟩|refine lit_true ?_|refine lit_false ?_)))
          (intro c hc; obtain rfl : c = true := hc.trans (by first | exact decide_eq_true (by omega) | (simp; omega)); (repeat ((conv=>whnf);first|refine ω0 ?_|refine ω1 ?_|refine ω2 ?_|refine ω3 ?_|refine ω4 rfl ?_|refine ω5 rfl ?_|refine ω6 ?_|refine ω7 ?_|refine ω8 ?_|refine ⟨rfl,?_⟩|refine ⟨trivial,?_⟩|refine ⟨⟨rfl,Nat.le_of_ble_eq_true rfl⟩,?_⟩|refine ⟨⟨by kernel_rfl,by kernel_rfl⟩,?_⟩|refine ⟨by decide,?_⟩|refine lit_true ?_|refine lit_false ?_)))
          refine aop_tells rfl rfl awake6_spec trivial fun nx => ?_
          (repeat ((conv=>whnf);first|refine ω0 ?_|refine ω1 ?_|refine ω2 ?_|refine ω3 ?_|refine ω4 rfl ?_|refine ω5 rfl ?_|refine ω6 ?_|refine ω7 ?_|refine ω8 ?_|refine ⟨rfl,?_⟩|refine ⟨trivial,?_⟩|refine ⟨⟨rfl,Nat.le_of_ble_eq_true rfl⟩,?_⟩|refine ⟨⟨by kernel_rfl,by kernel_rfl⟩,?_⟩|refine ⟨by decide,?_⟩|refine lit_true ?_|refine lit_false ?_))
          refine ret_is rfl rfl
        · have g2 := yes_of g2
          dsimp only at g2
          have hi : i < s.loads.length := by omega
          have hm : s.loads.getD i 0 ∈ s.loads := by simp [List.getD, hi]
          obtain ⟨f1, f2⟩ := e1 _ hm
          have f3 : ((((s.loads.getD i 0 : Nat) : Int).tmod 4 != 0) = false) := by
            rw [show ((s.loads.getD i 0 : Nat) : Int).tmod 4 = ((s.loads.getD i 0 % 4 : Nat) : Int) from rfl, f2]; rfl
          (repeat ((conv=>whnf);first|refine ω0 ?_|refine ω1 ?_|refine ω2 ?_|refine ω3 ?_|refine ω4 rfl ?_|refine ω5 rfl ?_|refine ω6 ?_|refine ω7 ?_|refine ω8 ?_|refine ⟨rfl,?_⟩|refine ⟨trivial,?_⟩|refine ⟨⟨rfl,Nat.le_of_ble_eq_true rfl⟩,?_⟩|refine ⟨⟨by kernel_rfl,by kernel_rfl⟩,?_⟩|refine ⟨by decide,?_⟩|refine lit_true ?_|refine lit_false ?_))
          refine ⟨⟨by first | omega | (dsimp only; omega), by first | omega | (dsimp only; omega)⟩, ?_⟩
          (repeat ((conv=>whnf);first|refine ω0 ?_|refine ω1 ?_|refine ω2 ?_|refine ω3 ?_|refine ω4 rfl ?_|refine ω5 rfl ?_|refine ω6 ?_|refine ω7 ?_|refine ω8 ?_|refine ⟨rfl,?_⟩|refine ⟨trivial,?_⟩|refine ⟨⟨rfl,Nat.le_of_ble_eq_true rfl⟩,?_⟩|refine ⟨⟨by kernel_rfl,by kernel_rfl⟩,?_⟩|refine ⟨by decide,?_⟩|refine lit_true ?_|refine lit_false ?_))
          refine ⟨⟨by first | omega | (dsimp only; omega), by first | omega | (dsimp only; omega)⟩, ?_⟩
          (repeat ((conv=>whnf);first|refine ω0 ?_|refine ω1 ?_|refine ω2 ?_|refine ω3 ?_|refine ω4 rfl ?_|refine ω5 rfl ?_|refine ω6 ?_|refine ω7 ?_|refine ω8 ?_|refine ⟨rfl,?_⟩|refine ⟨trivial,?_⟩|refine ⟨⟨rfl,Nat.le_of_ble_eq_true rfl⟩,?_⟩|refine ⟨⟨by kernel_rfl,by kernel_rfl⟩,?_⟩|refine ⟨by decide,?_⟩|refine lit_true ?_|refine lit_false ?_))
          intro c hc
          obtain rfl : c = false := hc.trans (decide_eq_false (show ¬ (((s.loads.getD i 0 : Nat) : Int) > 60) by omega))
          (repeat ((conv=>whnf);first|refine ω0 ?_|refine ω1 ?_|refine ω2 ?_|refine ω3 ?_|refine ω4 rfl ?_|refine ω5 rfl ?_|refine ω6 ?_|refine ω7 ?_|refine ω8 ?_|refine ⟨rfl,?_⟩|refine ⟨trivial,?_⟩|refine ⟨⟨rfl,Nat.le_of_ble_eq_true rfl⟩,?_⟩|refine ⟨⟨by kernel_rfl,by kernel_rfl⟩,?_⟩|refine ⟨by decide,?_⟩|refine lit_true ?_|refine lit_false ?_))
          refine ⟨⟨by first | omega | (dsimp only; omega), by first | omega | (dsimp only; omega)⟩, ?_⟩
          (repeat ((conv=>whnf);first|refine ω0 ?_|refine ω1 ?_|refine ω2 ?_|refine ω3 ?_|refine ω4 rfl ?_|refine ω5 rfl ?_|refine ω6 ?_|refine ω7 ?_|refine ω8 ?_|refine ⟨rfl,?_⟩|refine ⟨trivial,?_⟩|refine ⟨⟨rfl,Nat.le_of_ble_eq_true rfl⟩,?_⟩|refine ⟨⟨by kernel_rfl,by kernel_rfl⟩,?_⟩|refine ⟨by decide,?_⟩|refine lit_true ?_|refine lit_false ?_))
          intro c hc
          obtain rfl : c = false := hc.trans f3
          (repeat ((conv=>whnf);first|refine ω0 ?_|refine ω1 ?_|refine ω2 ?_|refine ω3 ?_|refine ω4 rfl ?_|refine ω5 rfl ?_|refine ω6 ?_|refine ω7 ?_|refine ω8 ?_|refine ⟨rfl,?_⟩|refine ⟨trivial,?_⟩|refine ⟨⟨rfl,Nat.le_of_ble_eq_true rfl⟩,?_⟩|refine ⟨⟨by kernel_rfl,by kernel_rfl⟩,?_⟩|refine ⟨by decide,?_⟩|refine lit_true ?_|refine lit_false ?_))
          exact back (i + 1, _) (by dsimp only; omega) (by dsimp only; omega) (ele_keep rfl rfl (List.Sublist.refl _) .slnil ⟨AVle.refl _, AVle.refl _, le_int (wrap_succ (by dsimp only; omega)), trivial⟩)
    · (repeat ((conv=>whnf);first|refine ω0 ?_|refine ω1 ?_|refine ω2 ?_|refine ω3 ?_|refine ω4 rfl ?_|refine ω5 rfl ?_|refine ω6 ?_|refine ω7 ?_|refine ω8 ?_|refine ⟨rfl,?_⟩|refine ⟨trivial,?_⟩|refine ⟨⟨rfl,Nat.le_of_ble_eq_true rfl⟩,?_⟩|refine ⟨⟨by kernel_rfl,by kernel_rfl⟩,?_⟩|refine ⟨by decide,?_⟩|refine lit_true ?_|refine lit_false ?_))
      refine aop_tells rfl rfl awake6_spec trivial fun nx => ?_
      (repeat ((conv=>whnf);first|refine ω0 ?_|refine ω1 ?_|refine ω2 ?_|refine ω3 ?_|refine ω4 rfl ?_|refine ω5 rfl ?_|refine ω6 ?_|refine ω7 ?_|refine ω8 ?_|refine ⟨rfl,?_⟩|refine ⟨trivial,?_⟩|refine ⟨⟨rfl,Nat.le_of_ble_eq_true rfl⟩,?_⟩|refine ⟨⟨by kernel_rfl,by kernel_rfl⟩,?_⟩|refine ⟨by decide,?_⟩|refine lit_true ?_|refine lit_false ?_))
      refine ret_is rfl rfl
  · (repeat ((conv=>whnf);first|refine ω0 ?_|refine ω1 ?_|refine ω2 ?_|refine ω3 ?_|refine ω4 rfl ?_|refine ω5 rfl ?_|refine ω6 ?_|refine ω7 ?_|refine ω8 ?_|refine ⟨rfl,?_⟩|refine ⟨trivial,?_⟩|refine ⟨⟨rfl,Nat.le_of_ble_eq_true rfl⟩,?_⟩|refine ⟨⟨by kernel_rfl,by kernel_rfl⟩,?_⟩|refine ⟨by decide,?_⟩|refine lit_true ?_|refine lit_false ?_))
    refine ret_is rfl rfl
end Go.Proofs.W

namespace Go.Proofs.W
open Go.Vl
set_option maxRecDepth 100000

def rp64 (b : List Nat) : AV := .rp (b.map fun k : Nat => u8 k)
set_option maxHeartbeats 1000000 in
theorem vmagain_spec (l : List Ins) (hok : okL l) (hl : l.length ≤ maxLen) (b : List Nat) (hb : okB b) (hbl : b.length = 64) (d : List Nat) (hd : okB d) (hdl : d.length = 64) : PCall Try.prog 11 [inss l, b64A b, b64A d] (fun r => r = .v (.bool true)) := by
  refine pcall_of_aw Try.func11 rfl rfl fun nx => ?_
  (repeat ((conv=>whnf);first|refine ω0 ?_|refine ω2 ?_|refine ω3 ?_|refine ω4 rfl ?_|refine ω5 rfl ?_|refine ω6 ?_|refine ω7 ?_|refine ω8 ?_|refine ⟨rfl,?_⟩|refine ⟨trivial,?_⟩|refine ⟨⟨rfl,Nat.le_of_ble_eq_true rfl⟩,?_⟩|refine ⟨⟨by kernel_rfl,by kernel_rfl⟩,?_⟩|refine ⟨by decide,?_⟩|refine lit_true ?_|refine lit_false ?_))
  refine aw_regionX 2 ?_
  refine aop_boxK rfl ?_ ?_
  · rfl
  refine aop_boxK rfl ?_ ?_
  · rfl
  (repeat ((conv=>whnf);first|refine ω0 ?_|refine ω2 ?_|refine ω3 ?_|refine ω4 rfl ?_|refine ω5 rfl ?_|refine ω6 ?_|refine ω7 ?_|refine ω8 ?_|refine ⟨rfl,?_⟩|refine ⟨trivial,?_⟩|refine ⟨⟨rfl,Nat.le_of_ble_eq_true rfl⟩,?_⟩|refine ⟨⟨by kernel_rfl,by kernel_rfl⟩,?_⟩|refine ⟨by decide,?_⟩|refine lit_true ?_|refine lit_false ?_))
  refine AW.le (ele_freeze (bx := []) (pm := []) (nn := 2) (L := [(0, inss l), (4, rp64 b), (5, rp64 d), (6, boolA false)]) [((1, nx + 1), .c (d.map fun k : Nat => u8 k)), ((0, nx), .c (b.map fun k : Nat => u8 k))] rfl rfl (List.Sublist.refl _) .slnil ⟨Frz.refl _, Frz.bp (List.mem_cons_of_mem _ (List.mem_cons_self ..)) rfl, Frz.bp (List.mem_cons_self ..) rfl, Frz.refl _, trivial⟩) ?_
  (repeat ((conv=>whnf);first|refine ω0 ?_|refine ω1 ?_|refine ω2 ?_|refine ω3 ?_|refine ω4 rfl ?_|refine ω5 rfl ?_|refine ω6 ?_|refine ω7 ?_|refine ω8 ?_|refine ⟨rfl,?_⟩|refine ⟨trivial,?_⟩|refine ⟨⟨rfl,Nat.le_of_ble_eq_true rfl⟩,?_⟩|refine ⟨⟨by kernel_rfl,by kernel_rfl⟩,?_⟩|refine ⟨by decide,?_⟩|refine lit_true ?_|refine lit_false ?_))
  intro c h1; cases c
  · have h1 := not_of h1
    have hl2 : l.length ≤ 200 := by omega
    (repeat ((conv=>whnf);first|refine ω0 ?_|refine ω1 ?_|refine ω2 ?_|refine ω3 ?_|refine ω4 rfl ?_|refine ω5 rfl ?_|refine ω6 ?_|refine ω7 ?_|refine ω8 ?_|refine ⟨rfl,?_⟩|refine ⟨trivial,?_⟩|refine ⟨⟨rfl,Nat.le_of_ble_eq_true rfl⟩,?_⟩|refine ⟨⟨by kernel_rfl,by kernel_rfl⟩,?_⟩|refine ⟨by decide,?_⟩|refine lit_true ?_|refine lit_false ?_))
    refine aop_tells rfl rfl (all6_spec l (by omega)) ⟨AVle.refl _, trivial⟩ fun nx1 => ?_
    (repeat ((conv=>whnf);first|refine ω0 ?_|refine ω1 ?_|refine ω2 ?_|refine ω3 ?_|refine ω4 rfl ?_|refine ω5 rfl ?_|refine ω6 ?_|refine ω7 ?_|refine ω8 ?_|refine ⟨rfl,?_⟩|refine ⟨trivial,?_⟩|refine ⟨⟨rfl,Nat.le_of_ble_eq_true rfl⟩,?_⟩|refine ⟨⟨by kernel_rfl,by kernel_rfl⟩,?_⟩|refine ⟨by decide,?_⟩|refine lit_true ?_|refine lit_false ?_))
    refine aop_tells rfl rfl (new_spec l hok (by omega)) ⟨AVle.refl _, trivial⟩ fun nx2 => ?_
    by_cases hR : Right l
    · have hv : newA l = .tup [.rp [opsA l], int 0] := by unfold newA; rw [if_pos (check_iff.2 hR)]
      rw [hv]
      have hrb := run_spec l hok hR b hb hbl
      have hrd := run_spec l hok hR d hd hdl
      generalize runI b l = rb at hrb
      generalize runI d l = rd at hrd
      obtain ⟨v, s⟩ := rb
      obtain ⟨v', s'⟩ := rd
      dsimp only at hrb hrd
      generalize opsA l = O at hrb hrd
      ((repeat ((conv=>whnf);first|refine ω0 ?_|refine ω2 ?_|refine ω3 ?_|refine ω4 rfl ?_|refine ω5 rfl ?_|refine ω6 ?_|refine ω7 ?_|refine ω8 ?_|refine ⟨rfl,?_⟩|refine ⟨trivial,?_⟩|refine ⟨⟨rfl,Nat.le_of_ble_eq_true rfl⟩,?_⟩|refine ⟨⟨by kernel_rfl,by kernel_rfl⟩,?_⟩|refine ⟨by decide,?_⟩|refine lit_true ?_|refine lit_false ?_)); refine aw_region ?_; (repeat ((conv=>whnf);first|refine ω0 ?_|refine ω2 ?_|refine ω3 ?_|refine ω4 rfl ?_|refine ω5 rfl ?_|refine ω6 ?_|refine ω7 ?_|refine ω8 ?_|refine ⟨rfl,?_⟩|refine ⟨trivial,?_⟩|refine ⟨⟨rfl,Nat.le_of_ble_eq_true rfl⟩,?_⟩|refine ⟨⟨by kernel_rfl,by kernel_rfl⟩,?_⟩|refine ⟨by decide,?_⟩|refine lit_true ?_|refine lit_false ?_)))
      refine aw_regionY (fun i => match i with | 1 => true | _ => false) 3 ?_
      (repeat ((conv=>whnf);first|refine ω0 ?_|refine ω1 ?_|refine ω2 ?_|refine ω3 ?_|refine ω4 rfl ?_|refine ω5 rfl ?_|refine ω6 ?_|refine ω7 ?_|refine ω8 ?_|refine ⟨rfl,?_⟩|refine ⟨trivial,?_⟩|refine ⟨⟨rfl,Nat.le_of_ble_eq_true rfl⟩,?_⟩|refine ⟨⟨by kernel_rfl,by kernel_rfl⟩,?_⟩|refine ⟨by decide,?_⟩|refine lit_true ?_|refine lit_false ?_))
      refine aop_arr (n := 64) (e := 5) rfl rfl rfl Try.underlying77 Try.underlying5 rfl (by kernel_rfl) hbl (fun _ => rfl) ?_
      (repeat ((conv=>whnf);first|refine ω0 ?_|refine ω1 ?_|refine ω2 ?_|refine ω3 ?_|refine ω4 rfl ?_|refine ω5 rfl ?_|refine ω6 ?_|refine ω7 ?_|refine ω8 ?_|refine ⟨rfl,?_⟩|refine ⟨trivial,?_⟩|refine ⟨⟨rfl,Nat.le_of_ble_eq_true rfl⟩,?_⟩|refine ⟨⟨by kernel_rfl,by kernel_rfl⟩,?_⟩|refine ⟨by decide,?_⟩|refine lit_true ?_|refine lit_false ?_))
      refine aop_tells rfl rfl (run_nil (bytesA b)) ⟨AVle.refl _, AVle.refl _, trivial⟩ fun nx3 => ?_
      ((repeat ((conv=>whnf);first|refine ω0 ?_|refine ω2 ?_|refine ω3 ?_|refine ω4 rfl ?_|refine ω5 rfl ?_|refine ω6 ?_|refine ω7 ?_|refine ω8 ?_|refine ⟨rfl,?_⟩|refine ⟨trivial,?_⟩|refine ⟨⟨rfl,Nat.le_of_ble_eq_true rfl⟩,?_⟩|refine ⟨⟨by kernel_rfl,by kernel_rfl⟩,?_⟩|refine ⟨by decide,?_⟩|refine lit_true ?_|refine lit_false ?_)); refine aw_region ?_; (repeat ((conv=>whnf);first|refine ω0 ?_|refine ω2 ?_|refine ω3 ?_|refine ω4 rfl ?_|refine ω5 rfl ?_|refine ω6 ?_|refine ω7 ?_|refine ω8 ?_|refine ⟨rfl,?_⟩|refine ⟨trivial,?_⟩|refine ⟨⟨rfl,Nat.le_of_ble_eq_true rfl⟩,?_⟩|refine ⟨⟨by kernel_rfl,by kernel_rfl⟩,?_⟩|refine ⟨by decide,?_⟩|refine lit_true ?_|refine lit_false ?_)); refine aw_region ?_; (repeat ((conv=>whnf);first|refine ω0 ?_|refine ω2 ?_|refine ω3 ?_|refine ω4 rfl ?_|refine ω5 rfl ?_|refine ω6 ?_|refine ω7 ?_|refine ω8 ?_|refine ⟨rfl,?_⟩|refine ⟨trivial,?_⟩|refine ⟨⟨rfl,Nat.le_of_ble_eq_true rfl⟩,?_⟩|refine ⟨⟨by kernel_rfl,by kernel_rfl⟩,?_⟩|refine ⟨by decide,?_⟩|refine lit_true ?_|refine lit_false ?_)))
      refine aw_reset (n := 87) (bx := []) (pm := []) (nx := nx3 + 1) (nn := 0) (df := some []) (L := [(4, rp64 b), (5, rp64 d), (6, boolA false), (7, .rp [O])]) rfl rfl rfl (List.nil_sublist _) .slnil ⟨AVle.refl _, AVle.refl _, AVle.refl _, AVle.refl _, trivial⟩ ?_
      refine aw_regionY (fun i => match i with | 1 => true | _ => false) 3 ?_
      (repeat ((conv=>whnf);first|refine ω0 ?_|refine ω1 ?_|refine ω2 ?_|refine ω3 ?_|refine ω4 rfl ?_|refine ω5 rfl ?_|refine ω6 ?_|refine ω7 ?_|refine ω8 ?_|refine ⟨rfl,?_⟩|refine ⟨trivial,?_⟩|refine ⟨⟨rfl,Nat.le_of_ble_eq_true rfl⟩,?_⟩|refine ⟨⟨by kernel_rfl,by kernel_rfl⟩,?_⟩|refine ⟨by decide,?_⟩|refine lit_true ?_|refine lit_false ?_))
      refine aop_arr (n := 64) (e := 5) rfl rfl rfl Try.underlying77 Try.underlying5 rfl (by kernel_rfl) hbl (fun _ => rfl) ?_
      (repeat ((conv=>whnf);first|refine ω0 ?_|refine ω1 ?_|refine ω2 ?_|refine ω3 ?_|refine ω4 rfl ?_|refine ω5 rfl ?_|refine ω6 ?_|refine ω7 ?_|refine ω8 ?_|refine ⟨rfl,?_⟩|refine ⟨trivial,?_⟩|refine ⟨⟨rfl,Nat.le_of_ble_eq_true rfl⟩,?_⟩|refine ⟨⟨by kernel_rfl,by kernel_rfl⟩,?_⟩|refine ⟨by decide,?_⟩|refine lit_true ?_|refine lit_false ?_))
      refine aop_tells rfl rfl hrb ⟨AVle.refl _, AVle.refl _, trivial⟩ fun nx4 => ?_
      ((repeat ((conv=>whnf);first|refine ω0 ?_|refine ω2 ?_|refine ω3 ?_|refine ω4 rfl ?_|refine ω5 rfl ?_|refine ω6 ?_|refine ω7 ?_|refine ω8 ?_|refine ⟨rfl,?_⟩|refine ⟨trivial,?_⟩|refine ⟨⟨rfl,Nat.le_of_ble_eq_true rfl⟩,?_⟩|refine ⟨⟨by kernel_rfl,by kernel_rfl⟩,?_⟩|refine ⟨by decide,?_⟩|refine lit_true ?_|refine lit_false ?_)))
      refine aw_reset (n := 87) (bx := [((0, nx4), .c [u32 v, int s.steps, ints s.loads])]) (pm := []) (nx := nx4 + 1) (nn := 1) (df := some []) (L := [(4, rp64 b), (5, rp64 d), (6, boolA false), (7, .rp [O]), (12, .bp (0, nx4) 0), (13, int 0)]) rfl rfl rfl (List.Sublist.refl _) .slnil ⟨AVle.refl _, AVle.refl _, AVle.refl _, AVle.refl _, AVle.refl _, AVle.refl _, trivial⟩ ?_
      refine aw_regionY (fun i => match i with | 1 => true | _ => false) 3 ?_
      (repeat ((conv=>whnf);first|refine ω0 ?_|refine ω1 ?_|refine ω2 ?_|refine ω3 ?_|refine ω4 rfl ?_|refine ω5 rfl ?_|refine ω6 ?_|refine ω7 ?_|refine ω8 ?_|refine ⟨rfl,?_⟩|refine ⟨trivial,?_⟩|refine ⟨⟨rfl,Nat.le_of_ble_eq_true rfl⟩,?_⟩|refine ⟨⟨by kernel_rfl,by kernel_rfl⟩,?_⟩|refine ⟨by decide,?_⟩|refine lit_true ?_|refine lit_false ?_))
      refine aop_arr (n := 64) (e := 5) rfl rfl rfl Try.underlying77 Try.underlying5 rfl (by kernel_rfl) hdl (fun _ => rfl) ?_
      (repeat ((conv=>whnf);first|refine ω0 ?_|refine ω1 ?_|refine ω2 ?_|refine ω3 ?_|refine ω4 rfl ?_|refine ω5 rfl ?_|refine ω6 ?_|refine ω7 ?_|refine ω8 ?_|refine ⟨rfl,?_⟩|refine ⟨trivial,?_⟩|refine ⟨⟨rfl,Nat.le_of_ble_eq_true rfl⟩,?_⟩|refine ⟨⟨by kernel_rfl,by kernel_rfl⟩,?_⟩|refine ⟨by decide,?_⟩|refine lit_true ?_|refine lit_false ?_))
      refine aop_tells rfl rfl hrd ⟨AVle.refl _, AVle.refl _, trivial⟩ fun nx5 => ?_
      ((repeat ((conv=>whnf);first|refine ω0 ?_|refine ω2 ?_|refine ω3 ?_|refine ω4 rfl ?_|refine ω5 rfl ?_|refine ω6 ?_|refine ω7 ?_|refine ω8 ?_|refine ⟨rfl,?_⟩|refine ⟨trivial,?_⟩|refine ⟨⟨rfl,Nat.le_of_ble_eq_true rfl⟩,?_⟩|refine ⟨⟨by kernel_rfl,by kernel_rfl⟩,?_⟩|refine ⟨by decide,?_⟩|refine lit_true ?_|refine lit_false ?_)))
      refine aw_reset (n := 87) (bx := [((0, nx4), .c [u32 v, int s.steps, ints s.loads])]) (pm := []) (nx := nx5) (nn := 1) (df := some []) (L := [(4, rp64 b), (5, rp64 d), (6, boolA false), (7, .rp [O]), (12, .bp (0, nx4) 0), (13, int 0)]) rfl rfl rfl (List.Sublist.refl _) .slnil ⟨AVle.refl _, AVle.refl _, AVle.refl _, AVle.refl _, AVle.refl _, AVle.refl _, trivial⟩ ?_
      refine aw_regionY (fun i => match i with | 1 => true | _ => false) 3 ?_
      (repeat ((conv=>whnf);first|refine ω0 ?_|refine ω1 ?_|refine ω2 ?_|refine ω3 ?_|refine ω4 rfl ?_|refine ω5 rfl ?_|refine ω6 ?_|refine ω7 ?_|refine ω8 ?_|refine ⟨rfl,?_⟩|refine ⟨trivial,?_⟩|refine ⟨⟨rfl,Nat.le_of_ble_eq_true rfl⟩,?_⟩|refine ⟨⟨by kernel_rfl,by kernel_rfl⟩,?_⟩|refine ⟨by decide,?_⟩|refine lit_true ?_|refine lit_false ?_))
      refine aop_arr (n := 64) (e := 5) rfl rfl rfl Try.underlying77 Try.underlying5 rfl (by kernel_rfl) hbl (fun _ => rfl) ?_
      (repeat ((conv=>whnf);first|refine ω0 ?_|refine ω1 ?_|refine ω2 ?_|refine ω3 ?_|refine ω4 rfl ?_|refine ω5 rfl ?_|refine ω6 ?_|refine ω7 ?_|refine ω8 ?_|refine ⟨rfl,?_⟩|refine ⟨trivial,?_⟩|refine ⟨⟨rfl,Nat.le_of_ble_eq_true rfl⟩,?_⟩|refine ⟨⟨by kernel_rfl,by kernel_rfl⟩,?_⟩|refine ⟨by decide,?_⟩|refine lit_true ?_|refine lit_false ?_))
      refine aop_tells rfl rfl hrb ⟨AVle.refl _, AVle.refl _, trivial⟩ fun nx6 => ?_
      (repeat ((conv=>whnf);first|refine ω0 ?_|refine ω1 ?_|refine ω2 ?_|refine ω3 ?_|refine ω4 rfl ?_|refine ω5 rfl ?_|refine ω6 ?_|refine ω7 ?_|refine ω8 ?_|refine ⟨rfl,?_⟩|refine ⟨trivial,?_⟩|refine ⟨⟨rfl,Nat.le_of_ble_eq_true rfl⟩,?_⟩|refine ⟨⟨by kernel_rfl,by kernel_rfl⟩,?_⟩|refine ⟨by decide,?_⟩|refine lit_true ?_|refine lit_false ?_))
      intro c hc
      obtain rfl : c = true := hc.trans (beq_self_eq_true _)
      (repeat ((conv=>whnf);first|refine ω0 ?_|refine ω1 ?_|refine ω2 ?_|refine ω3 ?_|refine ω4 rfl ?_|refine ω5 rfl ?_|refine ω6 ?_|refine ω7 ?_|refine ω8 ?_|refine ⟨rfl,?_⟩|refine ⟨trivial,?_⟩|refine ⟨⟨rfl,Nat.le_of_ble_eq_true rfl⟩,?_⟩|refine ⟨⟨by kernel_rfl,by kernel_rfl⟩,?_⟩|refine ⟨by decide,?_⟩|refine lit_true ?_|refine lit_false ?_))
      intro c hc
      obtain rfl : c = true := hc.trans (beq_self_eq_true _)
      (repeat ((conv=>whnf);first|refine ω0 ?_|refine ω1 ?_|refine ω2 ?_|refine ω3 ?_|refine ω4 rfl ?_|refine ω5 rfl ?_|refine ω6 ?_|refine ω7 ?_|refine ω8 ?_|refine ⟨rfl,?_⟩|refine ⟨trivial,?_⟩|refine ⟨⟨rfl,Nat.le_of_ble_eq_true rfl⟩,?_⟩|refine ⟨⟨by kernel_rfl,by kernel_rfl⟩,?_⟩|refine ⟨by decide,?_⟩|refine lit_true ?_|refine lit_false ?_))
      intro c hc
      obtain rfl : c = true := hc.trans (beq_self_eq_true _)
      (repeat ((conv=>whnf);first|refine ω0 ?_|refine ω1 ?_|refine ω2 ?_|refine ω3 ?_|refine ω4 rfl ?_|refine ω5 rfl ?_|refine ω6 ?_|refine ω7 ?_|refine ω8 ?_|refine ⟨rfl,?_⟩|refine ⟨trivial,?_⟩|refine ⟨⟨rfl,Nat.le_of_ble_eq_true rfl⟩,?_⟩|refine ⟨⟨by kernel_rfl,by kernel_rfl⟩,?_⟩|refine ⟨by decide,?_⟩|refine lit_true ?_|refine lit_false ?_))
      refine aop_tells rfl rfl awake6_spec trivial fun nx7 => ?_
      (repeat ((conv=>whnf);first|refine ω0 ?_|refine ω1 ?_|refine ω2 ?_|refine ω3 ?_|refine ω4 rfl ?_|refine ω5 rfl ?_|refine ω6 ?_|refine ω7 ?_|refine ω8 ?_|refine ⟨rfl,?_⟩|refine ⟨trivial,?_⟩|refine ⟨⟨rfl,Nat.le_of_ble_eq_true rfl⟩,?_⟩|refine ⟨⟨by kernel_rfl,by kernel_rfl⟩,?_⟩|refine ⟨by decide,?_⟩|refine lit_true ?_|refine lit_false ?_))
      refine ret_is rfl rfl
    · have hc : (checkI l).2 ≠ 0 := fun h => hR (check_iff.1 h)
      have hv : newA l = .tup [.v (.pointer none), int (checkI l).2] := by unfold newA; rw [if_neg hc]
      rw [hv]
      generalize (checkI l).2 = e at hc
      ((repeat ((conv=>whnf);first|refine ω0 ?_|refine ω2 ?_|refine ω3 ?_|refine ω4 rfl ?_|refine ω5 rfl ?_|refine ω6 ?_|refine ω7 ?_|refine ω8 ?_|refine ⟨rfl,?_⟩|refine ⟨trivial,?_⟩|refine ⟨⟨rfl,Nat.le_of_ble_eq_true rfl⟩,?_⟩|refine ⟨⟨by kernel_rfl,by kernel_rfl⟩,?_⟩|refine ⟨by decide,?_⟩|refine lit_true ?_|refine lit_false ?_)); refine aw_region ?_; (repeat ((conv=>whnf);first|refine ω0 ?_|refine ω2 ?_|refine ω3 ?_|refine ω4 rfl ?_|refine ω5 rfl ?_|refine ω6 ?_|refine ω7 ?_|refine ω8 ?_|refine ⟨rfl,?_⟩|refine ⟨trivial,?_⟩|refine ⟨⟨rfl,Nat.le_of_ble_eq_true rfl⟩,?_⟩|refine ⟨⟨by kernel_rfl,by kernel_rfl⟩,?_⟩|refine ⟨by decide,?_⟩|refine lit_true ?_|refine lit_false ?_)))
      refine aw_regionY (fun i => match i with | 1 => true | _ => false) 3 ?_
      (repeat ((conv=>whnf);first|refine ω0 ?_|refine ω1 ?_|refine ω2 ?_|refine ω3 ?_|refine ω4 rfl ?_|refine ω5 rfl ?_|refine ω6 ?_|refine ω7 ?_|refine ω8 ?_|refine ⟨rfl,?_⟩|refine ⟨trivial,?_⟩|refine ⟨⟨rfl,Nat.le_of_ble_eq_true rfl⟩,?_⟩|refine ⟨⟨by kernel_rfl,by kernel_rfl⟩,?_⟩|refine ⟨by decide,?_⟩|refine lit_true ?_|refine lit_false ?_))
      refine aop_arr (n := 64) (e := 5) rfl rfl rfl Try.underlying77 Try.underlying5 rfl (by kernel_rfl) hbl (fun _ => rfl) ?_
      (repeat ((conv=>whnf);first|refine ω0 ?_|refine ω1 ?_|refine ω2 ?_|refine ω3 ?_|refine ω4 rfl ?_|refine ω5 rfl ?_|refine ω6 ?_|refine ω7 ?_|refine ω8 ?_|refine ⟨rfl,?_⟩|refine ⟨trivial,?_⟩|refine ⟨⟨rfl,Nat.le_of_ble_eq_true rfl⟩,?_⟩|refine ⟨⟨by kernel_rfl,by kernel_rfl⟩,?_⟩|refine ⟨by decide,?_⟩|refine lit_true ?_|refine lit_false ?_))
      refine aop_tells rfl rfl (run_nil (bytesA b)) ⟨AVle.refl _, AVle.refl _, trivial⟩ fun nx3 => ?_
      (repeat ((conv=>whnf);first|refine ω0 ?_|refine ω1 ?_|refine ω2 ?_|refine ω3 ?_|refine ω4 rfl ?_|refine ω5 rfl ?_|refine ω6 ?_|refine ω7 ?_|refine ω8 ?_|refine ⟨rfl,?_⟩|refine ⟨trivial,?_⟩|refine ⟨⟨rfl,Nat.le_of_ble_eq_true rfl⟩,?_⟩|refine ⟨⟨by kernel_rfl,by kernel_rfl⟩,?_⟩|refine ⟨by decide,?_⟩|refine lit_true ?_|refine lit_false ?_))
      (intro c hc; obtain rfl : c = true := hc.trans (by first | exact decide_eq_true (by omega) | (simp; omega)); (repeat ((conv=>whnf);first|refine ω0 ?_|refine ω1 ?_|refine ω2 ?_|refine ω3 ?_|refine ω4 rfl ?_|refine ω5 rfl ?_|refine ω6 ?_|refine ω7 ?_|refine ω8 ?_|refine ⟨rfl,?_⟩|refine ⟨trivial,?_⟩|refine ⟨⟨rfl,Nat.le_of_ble_eq_true rfl⟩,?_⟩|refine ⟨⟨by kernel_rfl,by kernel_rfl⟩,?_⟩|refine ⟨by decide,?_⟩|refine lit_true ?_|refine lit_false ?_)))
      refine aop_tells rfl rfl awake6_spec trivial fun nx4 => ?_
      (repeat ((conv=>whnf);first|refine ω0 ?_|refine ω1 ?_|refine ω2 ?_|refine ω3 ?_|refine ω4 rfl ?_|refine ω5 rfl ?_|refine ω6 ?_|refine ω7 ?_|refine ω8 ?_|refine ⟨rfl,?_⟩|refine ⟨trivial,?_⟩|refine ⟨⟨rfl,Nat.le_of_ble_eq_true rfl⟩,?_⟩|refine ⟨⟨by kernel_rfl,by kernel_rfl⟩,?_⟩|refine ⟨by decide,?_⟩|refine lit_true ?_|refine lit_false ?_))
      refine ret_is rfl rfl
  · (repeat ((conv=>whnf);first|refine ω0 ?_|refine ω1 ?_|refine ω2 ?_|refine ω3 ?_|refine ω4 rfl ?_|refine ω5 rfl ?_|refine ω6 ?_|refine ω7 ?_|refine ω8 ?_|refine ⟨rfl,?_⟩|refine ⟨trivial,?_⟩|refine ⟨⟨rfl,Nat.le_of_ble_eq_true rfl⟩,?_⟩|refine ⟨⟨by kernel_rfl,by kernel_rfl⟩,?_⟩|refine ⟨by decide,?_⟩|refine lit_true ?_|refine lit_false ?_))
    refine ret_is rfl rfl
end Go.Proofs.W

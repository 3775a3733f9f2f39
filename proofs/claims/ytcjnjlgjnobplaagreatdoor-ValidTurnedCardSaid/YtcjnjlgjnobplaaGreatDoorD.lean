/- Ranges over a map that nobody writes: the order is the tape's. -/
import Derived.Test.YtcjnjlgjnobplaaGreatDoorC
import Derived.Maps.RangeRun
import Derived.Sort.Row
import Derived.Sort.Grow
import Derived.Laws.IdiomStrings
import Derived.Shelf.Strings.FuncGrows
import Derived.Scope
import Derived.KernelRfl
import Derived.Test.YtcjnjlgjnobplaaGreatDoorProg
import Derived.Shelf.Strconv.Itoa3
import Derived.Shelf.Lay
import Derived.Ground.NamesProg
import Derived.Lib.ItoaMem
import Derived.Sort.WalkA
import Derived.Shelf.Strings.SlTrimAscii
import Derived.Shelf.Small.Strs
set_option linter.unusedVariables false
set_option linter.unusedSimpArgs false
namespace Go.Vl
open Go.RowKit
variable {P : Program}

theorem aop_rangeM {o : Oper} {t kt et : TypeId} {m : Operand} {es : List (Value × AV)} {E : Env} {K : Env → Prop} {Kp : AV → Env → Prop} (ho : o.op = .range t m) (ht : P.underlying t = some (.map kt et)) (hm : E.ev m = .fm es)
    (hk : K (({ E with h := E.h.addo (.it es []) } : Env).set o.dst (.bp (E.h.nn, E.h.nx) 0))) : AOp P o E K Kp := by
  intro ro X M w0 a w g hs next Q hn hp
  have hr := hs.ev m
  rw [hm] at hr
  generalize hmv : a.eval m = u at hr
  cases hr with
  | fm _ mb ents hb hx hl hke hrp =>
    obtain ⟨h1, h2, _⟩ := hs.obj (x := .it es []) (.mapIter (some mb) ents.length #[] ents.length) (fun X' g' hst hnew => ⟨mb, ents, hnew, (hst.obj _ _ hb hx).1, (hst.obj _ _ hb hx).2, hl, fun k p e q1 q2 => ⟨(hke k p e q1 q2).1, (hke k p e q1 q2).2, (hrp k p e q1 q2).stays hst⟩⟩)
    refine wpIn_of_run (by rw [ho]; intro c h; cases h) ?_
    have : (execOp a.eval o).run P w = .ok (.value (.pointer (some ⟨w.heap.size, 0, none⟩))) (w.alloc (.mapIter (some mb) ents.length #[] ents.length)) := by
      unfold execOp
      simp only [ho, Instr.range, hmv, Sem.run_bind, run_underlying_some ht, Result.andThen_ok, run_getObjG hb]
      simp [newObj, Sem.run]
    rw [this]
    exact hn _ _ _ _ hk (fun i b h => by rw [List.getElem?_append_left (List.getElem?_eq_some_iff.1 h).1]; exact h) (h1.put o.dst (.bp _ _ _ h2))

theorem excl_seto {Y : Nat → Nat → Prop} {g : List Nat} {h : Heap} {nm : Nat} {x : Own} {b o : Nat} (hx : excl Y g ({ h with bx := hseto nm x h.bx } : Heap) b o) : excl Y g h b o := by
  rcases hx with hx | ⟨p, hp, hg⟩ | hx
  · exact .inl hx
  · have : p.1.2 ∈ (hseto nm x h.bx).map (·.1.2) := List.mem_map.2 ⟨p, hp, rfl⟩
    rw [hseto_fst] at this
    obtain ⟨q, hq, he⟩ := List.mem_map.1 this
    exact .inr (.inl ⟨q, hq, by rw [he]; exact hg⟩)
  · exact .inr (.inr hx)
theorem aop_nextM {o : Oper} {it : Operand} {i : Id} {es : List (Value × AV)} {seen : List Nat} {E : Env} {K : Env → Prop} {Kp : AV → Env → Prop} (ho : o.op = .next it false) (hit : E.ev it = .bp i 0) (hes : hgeto i.1 E.h.bx = some (i.2, .it es seen))
    (hmore : ∀ k p, es[k]? = some p → k ∉ seen → K (({ E with h := { E.h with bx := hseto i.1 (.it es (seen ++ [k])) E.h.bx } } : Env).set o.dst (.tup [.v (.bool true), .v p.1, p.2])))
    (hdone : (∀ k, k < es.length → k ∈ seen) → K (E.set o.dst (.tup [.v (.bool false)]))) : AOp P o E K Kp := by
  intro ro X M w0 a w g hs next Q hn hp
  obtain ⟨b, hgb, hown⟩ := hs.hok.bx _ (hgeto_mem hes)
  dsimp only at hgb hown
  have hiv : a.eval it = .pointer (some ⟨b, 0, none⟩) := by
    have := hs.ev it
    rw [hit] at this
    generalize a.eval it = u at this
    cases this with
    | bp _ _ b' hg' => rw [hgb] at hg'; cases hg'; rfl
  obtain ⟨mb, ents, h1, h2, h3, h4, h5⟩ := hown
  have hborn : ∀ x ∈ ents.toArray.toList, x.born < ents.length := fun x hx => by
    obtain ⟨k, hk, rfl⟩ := List.getElem_of_mem hx
    have hk2 : k < es.length := by rw [← h4]; exact hk
    rw [(h5 k _ _ (List.getElem?_eq_getElem hk2) (List.getElem?_eq_getElem hk)).2.1]; exact hk
  refine wpIn_of_run (by intro c h; rw [ho] at h; cases h) ?_
  rcases run_next_at (P := P) w o.type b mb ents.length ents.length seen.toArray ents.toArray ents.length h1 h2 hborn (Nat.le_refl _) with ⟨h0, hrun⟩ | ⟨e, he, w1, hw1, hrun⟩
  · have : (execOp a.eval o).run P w = .ok (.value (.tuple #[.bool false])) w := by
      unfold execOp
      simp only [ho, hiv, hrun, Sem.run_bind, Result.andThen_ok, Sem.run_pure]
    rw [this]
    refine hn _ _ _ g (hdone fun k hk => ?_) (fun _ _ h => h) (hs.put o.dst ?_)
    · have hk2 : k < ents.length := by rw [h4]; exact hk
      have hb := (h5 k _ _ (List.getElem?_eq_getElem hk) (List.getElem?_eq_getElem hk2)).2.1
      rcases Decidable.em (k ∈ seen) with h | h
      · exact h
      · exfalso
        have hem : (leftOf ents.toArray seen.toArray) = #[] := Array.eq_empty_of_size_eq_zero h0
        unfold leftOf at hem
        rw [Array.filter_eq_empty_iff] at hem
        have := hem ents[k] (by simp)
        simp [hb] at this
        exact h this
    · refine .tup [.v (.bool false)] [.bool false] rfl fun k c u hc hu => ?_
      cases k with
      | zero => simp at hc hu; subst hc; subst hu; exact .v _
      | succ k => simp at hc
  · have hem : e ∈ ents ∧ e.born ∉ seen := by
      unfold leftOf at he
      simp at he
      exact he
    obtain ⟨k, hk, hek⟩ := List.getElem_of_mem hem.1
    have hk2 : k < es.length := by rw [← h4]; exact hk
    obtain ⟨q1, q2, q3⟩ := h5 k es[k] ents[k] (List.getElem?_eq_getElem hk2) (List.getElem?_eq_getElem hk)
    rw [hek] at q1 q2 q3
    have s1 : St ro X M w0 E a w1 g := by
      rcases hw1 with rfl | rfl
      · exact hs
      · exact hs.drew
    have hb1 : w1.heap[b]? = some (.mapIter (some mb) ents.length seen.toArray ents.length) := by rcases hw1 with rfl | rfl <;> exact h1
    have hm1 : w1.heap[mb]? = some (.map ents.toArray ents.length) := by rcases hw1 with rfl | rfl <;> exact h2
    have hst : Stays w (excl X g E.h) g w1 (excl X g E.h) g := by
      rcases hw1 with rfl | rfl
      · exact Stays.refl _ _ _
      · exact (evo_drew w).stays (fun _ _ _ h => h.elim) (fun _ _ _ h => h) (fun _ _ h => h)
    have hev := evo_setO (o' := .mapIter (some mb) ents.length (seen ++ [k]).toArray ents.length) hb1 rfl (fun h => by cases h)
    have hne : mb ≠ b := fun h => by rw [h] at h2; rw [h1] at h2; cases h2
    have hnew := s1.setOwn (x := .it es (seen ++ [k])) hes hgb hev (fun hst2 => ⟨mb, ents, setO_same hb1, (setO_other hne).trans hm1, h3, h4, fun k' p' e' r1 r2 => ⟨(h5 k' p' e' r1 r2).1, (h5 k' p' e' r1 r2).2.1, ((h5 k' p' e' r1 r2).2.2.stays hst).stays hst2⟩⟩)
    have : (execOp a.eval o).run P w = .ok (.value (.tuple #[.bool true, e.key, e.val])) (World.setO w1 b (.mapIter (some mb) ents.length (seen ++ [k]).toArray ents.length)) := by
      unfold execOp
      simp only [ho, hiv, hrun, Sem.run_bind, Result.andThen_ok, Sem.run_pure, q2, List.push_toArray]
      rfl
    rw [this]
    refine hn _ _ _ g (hmore k es[k] (List.getElem?_eq_getElem hk2) (by rw [← q2]; exact hem.2)) (fun _ _ h => h) (hnew.put o.dst ?_)
    have hval := ((q3.stays hst).stays (hev.stays (X := excl X g E.h) (X' := excl X g E.h) (g := g) (g' := g) (fun b' o' _ hbb => by
      subst hbb
      exact .inr (.inl ⟨_, hgeto_mem hes, hgb⟩)) (fun _ _ _ h => h) (fun _ _ h => h)))
    refine .tup _ [.bool true, e.key, e.val] rfl fun j c u hc hu => ?_
    rcases j with _ | _ | _ | j
    · simp at hc hu; subst hc; subst hu; exact .v _
    · simp at hc hu; subst hc; subst hu; rw [q1]; exact .v _
    · simp at hc hu; subst hc; subst hu
      exact hval.stays (Stays.less fun b' o' h => excl_seto h)
    · simp at hc
/-- The round's key and value, read behind the step. -/
theorem aop_entry {o : Oper} {it : Operand} {i : Id} {es : List (Value × AV)} {seen : List Nat} {k : Nat} {p : Value × AV} {E : Env} {K : Env → Prop} {Kp : AV → Env → Prop} (ho : o.op = .entry it) (hit : E.ev it = .bp i 0) (hes : hgeto i.1 E.h.bx = some (i.2, .it es (seen ++ [k])))
    (hp : es[k]? = some p) (hk : K (E.set o.dst (.tup [.v p.1, p.2]))) : AOp P o E K Kp := by
  intro ro X M w0 a w g hs next Q hn hpan
  obtain ⟨b, hgb, hown⟩ := hs.hok.bx _ (hgeto_mem hes)
  dsimp only at hgb hown
  have hiv : a.eval it = .pointer (some ⟨b, 0, none⟩) := by
    have := hs.ev it
    rw [hit] at this
    generalize a.eval it = u at this
    cases this with
    | bp _ _ b' hg' => rw [hgb] at hg'; cases hg'; rfl
  obtain ⟨mb, ents, h1, h2, h3, h4, h5⟩ := hown
  have hk2 : k < es.length := (List.getElem?_eq_some_iff.1 hp).1
  have hk3 : k < ents.length := by rw [h4]; exact hk2
  obtain ⟨q1, q2, q3⟩ := h5 k p ents[k] hp (List.getElem?_eq_getElem hk3)
  have hnd : (ents.toArray.toList.map (·.born)).Nodup := by
    have : ents.map (·.born) = List.range ents.length := by
      refine List.ext_getElem (by simp) fun j j1 j2 => ?_
      rw [List.getElem_map, List.getElem_range]
      have hj : j < ents.length := by simpa using j1
      have hj2 : j < es.length := by rw [← h4]; exact hj
      exact (h5 j _ _ (List.getElem?_eq_getElem hj2) (List.getElem?_eq_getElem hj)).2.1
    show (ents.map (·.born)).Nodup
    rw [this]; exact List.nodup_range
  have hrun := run_entry_at (P := P) w b mb ents.length seen.toArray ents.toArray ents.length ents[k] (by rw [q2, List.push_toArray]; exact h1) h2 (by simp) hnd
  refine wpIn_of_run (by intro c h; rw [ho] at h; cases h) ?_
  have : (execOp a.eval o).run P w = .ok (.value (.tuple #[ents[k].key, ents[k].val])) w := by
    unfold execOp
    simp only [ho, hiv, hrun, Sem.run_bind, Result.andThen_ok, Sem.run_pure]
  rw [this]
  refine hn _ _ _ g hk (fun _ _ h => h) (hs.put o.dst ?_)
  refine .tup _ [ents[k].key, ents[k].val] rfl fun j c u hc hu => ?_
  rcases j with _ | _ | j
  · simp at hc hu; subst hc; subst hu; rw [q1]; exact .v _
  · simp at hc hu; subst hc; subst hu; exact q3
  · simp at hc
/-- The iterator stands first. -/
theorem aop_nextH {o : Oper} {it : Operand} {i : Id} {es : List (Value × AV)} {seen : List Nat} {R : List (Id × Own)} {E : Env} {K : Env → Prop} {Kp : AV → Env → Prop} (ho : o.op = .next it false) (hit : E.ev it = .bp i 0) (hR : E.h.bx = (i, .it es seen) :: R)
    (hmore : ∀ k p, es[k]? = some p → k ∉ seen → K (({ E with h := { E.h with bx := (i, .it es (seen ++ [k])) :: R } } : Env).set o.dst (.tup [.v (.bool true), .v p.1, p.2])))
    (hdone : (∀ k, k < es.length → k ∈ seen) → K (E.set o.dst (.tup [.v (.bool false)]))) : AOp P o E K Kp :=
  aop_nextM (seen := seen) ho hit (by rw [hR]; simp [hgeto]) (fun k p h1 h2 => by
    have : hseto i.1 (.it es (seen ++ [k])) E.h.bx = (i, .it es (seen ++ [k])) :: R := by rw [hR]; simp [hseto]
    rw [this]; exact hmore k p h1 h2) hdone
theorem aop_entryH {o : Oper} {it : Operand} {i : Id} {es : List (Value × AV)} {seen : List Nat} {k : Nat} {p : Value × AV} {R : List (Id × Own)} {E : Env} {K : Env → Prop} {Kp : AV → Env → Prop} (ho : o.op = .entry it) (hit : E.ev it = .bp i 0) (hR : E.h.bx = (i, .it es (seen ++ [k])) :: R)
    (hp : es[k]? = some p) (hk : K (E.set o.dst (.tup [.v p.1, p.2]))) : AOp P o E K Kp := aop_entry (seen := seen) ho hit (by rw [hR]; simp [hgeto]) hp hk
end Go.Vl

/- Iterators that hand over one of several rows (a map's keys: in any order). -/
namespace Go.Vl
open Go.RowKit
variable {P : Program}

/-- The iterator hands over a row of S, one behind the other, to whomever. -/
def IterSet (P : Program) (it : FuncId) (first caps : List AV) {α : Type} (e : α → List AV) (S : List α → Prop) : Prop :=
  ∀ (i : Id) (σ : Type) (Cb : σ → List (Id × Own)) (Cp : σ → List (Id × Nat)) (I : List α → σ → Prop) (J : List α → α → σ → Prop), (∀ xs, S xs → Cons P i e xs Cb Cp I J) →
    ∀ s0 nx nn, I [] s0 → ECall P it (first ++ [.yl i] ++ caps) ⟨Cb s0, Cp s0, nx, nn⟩ (fun _ h' => ∃ xs s', S xs ∧ allQ xs I J s' ∧ h'.bx = Cb s' ∧ h'.pm = Cp s')
theorem IterSpec.set {it : FuncId} {first caps : List AV} {α : Type} {e : α → List AV} {xs : List α} (h : IterSpec P it first caps e xs) : IterSet P it first caps e (· = xs) :=
  fun i σ Cb Cp I J hc s0 nx nn h0 => (h i σ Cb Cp I J (hc xs rfl) s0 nx nn h0).mono fun _ _ ⟨s', h1, h2, h3⟩ => ⟨xs, s', rfl, h1, h2, h3⟩
theorem aw_iterS {gop : Operand} {ps : Array Tmp} {asg body : Code} {E : Env} {Q : AExit → Env → Prop} {it : FuncId} {first caps : List AV} {ds : List DA} {σ α : Type} {e : α → List AV} {S : List α → Prop} {first' caps' : List AV}
    (Cb : σ → List (Id × Own)) (Cp : σ → List (Id × Nat)) (I : List α → σ → Prop) (J : List α → α → σ → Prop) (s0 : σ) (hd : E.df = some ds) (hf : E.ev gop = .fn (.func it) first caps) (hit : IterSet P it first' caps' e S) (hl1 : LeL first first') (hl2 : LeL caps caps')
    (hb : ((E.h.addo .df).addo (.lp .ready none E.n E.t ps asg body)).bx = Cb s0) (hp : E.h.pm = Cp s0) (h0 : I [] s0) (hc : ∀ xs, S xs → Cons P (E.h.nn + 1, E.h.nx + 1) e xs Cb Cp I J)
    (hend : ∀ xs s' nx nn, S xs → allQ xs I J s' → rdone (E.h.nn + 1, E.h.nx + 1) { E with h := (E.h.addo .df).addo (.lp .ready none E.n E.t ps asg body), df := some (.col (E.h.nn, E.h.nx) :: ds) } Q ⟨Cb s', Cp s', nx, nn⟩) :
    AW P (.rangeFunc gop ps asg body) E Q := by
  refine aw_range hd hf ?_
  have h1 := hit (E.h.nn + 1, E.h.nx + 1) σ Cb Cp I J hc s0 (E.h.nx + 2) (E.h.nn + 2) h0
  have e1 : (E.h.addo .df).addo (.lp .ready none E.n E.t ps asg body) = ⟨Cb s0, Cp s0, E.h.nx + 2, E.h.nn + 2⟩ := by
    rw [← hb, ← hp]; rfl
  rw [← e1] at h1
  refine ((ECall.args (LeL.append (LeL.append hl1 (LeL.refl _)) hl2) h1)).mono fun r h' hq => ?_
  obtain ⟨xs, s', hS, q1, q2, q3⟩ := hq
  obtain ⟨bx, pm, nx, nn⟩ := h'
  dsimp only at q2 q3
  subst q2; subst q3
  exact hend xs s' nx nn hS q1
theorem aw_forS {gop : Operand} {ps : Array Tmp} {asg body : Code} {E : Env} {Q : AExit → Env → Prop} {it : FuncId} {first caps : List AV} {ds : List DA} {σ α : Type} {e : α → List AV} {S : List α → Prop} {first' caps' : List AV}
    (Cb : σ → List (Id × Own)) (Cp : σ → List (Id × Nat)) (I : List α → σ → Prop) (s0 : σ) (hd : E.df = some ds) (hf : E.ev gop = .fn (.func it) first caps) (hit : IterSet P it first' caps' e S) (hl1 : LeL first first') (hl2 : LeL caps caps')
    (hb : E.h.bx = Cb s0) (hp : E.h.pm = Cp s0) (h0 : I [] s0) (hlen : ∀ x, (e x).length = ps.size)
    (hc : ∀ pre x post s nx nn, S (pre ++ x :: post) → I pre s → AW P asg (roundEnv E.n E.t ⟨((E.h.nn + 1, E.h.nx + 1), .lp .ready none E.n E.t ps asg body) :: ((E.h.nn, E.h.nx), .df) :: Cb s, Cp s, nx, nn⟩ (ps.toList.zip (e x)).reverse)
      (asgQ P (E.h.nn + 1, E.h.nx + 1) body (yPost (fun s => ((E.h.nn + 1, E.h.nx + 1), .lp .ready none E.n E.t ps asg body) :: ((E.h.nn, E.h.nx), .df) :: Cb s) Cp I (fun _ _ _ => False) pre x)))
    (hend : ∀ xs s' nx nn, S xs → I xs s' → Q .normal { E with h := ⟨((E.h.nn + 1, E.h.nx + 1), .lp .exhausted none E.n E.t ps asg body) :: ((E.h.nn, E.h.nx), .df) :: Cb s', Cp s', nx, nn⟩, df := some (.col (E.h.nn, E.h.nx) :: ds) }) :
    AW P (.rangeFunc gop ps asg body) E Q := by
  refine aw_iterS (fun s => ((E.h.nn + 1, E.h.nx + 1), .lp .ready none E.n E.t ps asg body) :: ((E.h.nn, E.h.nx), .df) :: Cb s) Cp I (fun _ _ _ => False) s0 hd hf hit hl1 hl2 ?_ hp h0 ?_ ?_
  · show _ :: _ :: E.h.bx = _
    rw [hb]; rfl
  · intro xs hS pre x post s nx nn hx hI
    subst hx
    exact yield_of_aw (i := (E.h.nn + 1, E.h.nx + 1)) (pd := none) (n := E.n) (t := E.t) (ps := ps) (asg := asg) (body := body) (by simp [hgeto]) (hlen x) (hc pre x post s nx nn hS hI)
  · intro xs s' nx nn hS h
    rcases h with h | ⟨_, _, _, _, h⟩
    · unfold rdone
      simp only [hgeto, Nat.beq_refl, cond_true]
      refine ⟨trivial, (by intro h; cases h), ?_⟩
      simp only [hseto, Nat.beq_refl, cond_true]
      exact hend xs s' nx nn hS h
    · exact h.elim
/-- The numbers that are left, in front of which some are. -/
theorem perm_left {seen : List Nat} {n k : Nat} (hnd : seen.Nodup) (hlt : ∀ j ∈ seen, j < n) (hk : k < n) (hn : k ∉ seen) : ∃ post, (seen ++ k :: post).Perm (List.range n) := by
  refine ⟨(List.range n).filter fun j => decide (j ∉ seen ∧ j ≠ k), ?_⟩
  have hp : ∀ j, j ∈ (List.range n).filter (fun j => decide (j ∉ seen ∧ j ≠ k)) ↔ j < n ∧ j ∉ seen ∧ j ≠ k := fun j => by simp
  generalize hpost : (List.range n).filter (fun j => decide (j ∉ seen ∧ j ≠ k)) = post at hp
  have hpn : post.Nodup := by rw [← hpost]; exact List.nodup_range.filter _
  have hnd2 : (seen ++ k :: post).Nodup := by
    rw [List.nodup_append]
    refine ⟨hnd, List.nodup_cons.2 ⟨fun h => ((hp k).1 h).2.2 rfl, hpn⟩, fun a ha b hb hab => ?_⟩
    subst hab
    rcases List.mem_cons.1 hb with rfl | h
    · exact hn ha
    · exact ((hp a).1 h).2.1 ha
  refine (List.perm_ext_iff_of_nodup hnd2 List.nodup_range).2 fun j => ?_
  rw [List.mem_range, List.mem_append, List.mem_cons, hp]
  constructor
  · rintro (h | rfl | h)
    · exact hlt j h
    · exact hk
    · exact h.1
  · intro h
    by_cases h1 : j ∈ seen
    · exact .inl h1
    · by_cases h2 : j = k
      · exact .inr (.inl h2)
      · exact .inr (.inr ⟨h, h1, h2⟩)
theorem perm_full {seen : List Nat} {n : Nat} (hnd : seen.Nodup) (hlt : ∀ j ∈ seen, j < n) (hall : ∀ k, k < n → k ∈ seen) : seen.Perm (List.range n) := by
  refine (List.perm_ext_iff_of_nodup hnd List.nodup_range).2 fun j => ?_
  rw [List.mem_range]
  exact ⟨hlt j, hall j⟩
end Go.Vl

/- A row that a callee made becomes a box of one's own. -/
namespace Go.Vl
open Go.RowKit
variable {P : Program}

def rowCells (n : Nat) (f : Nat → AV) : List AV := (List.range n).flatMap fun k => (f k).cells
def thawQ (Q : Nat → (Nat → AV) → Prop) (sz : Nat) (r : AV) (h' : Heap) : Prop :=
  ∃ n f, Q n f ∧ ((n = 0 ∧ h'.bx = [] ∧ h'.pm = [] ∧ r = .os sz 0 f none) ∨ ∃ s cap more nx' nn', n ≤ cap ∧ cap * sz ≤ n * sz + more ∧ r = .hs (0, s) 0 n cap ∧ h' = ⟨[((0, s), .c (rowCells n f ++ List.replicate more .any))], [], nx', nn'⟩)
theorem rowCells_get {n sz : Nat} {f : Nat → AV} (hc : ∀ i, i < n → (f i).cells.length = sz) : (rowCells n f).length = n * sz ∧ ∀ i j, i < n → j < sz → (rowCells n f)[i * sz + j]? = (f i).cells[j]? := by
  induction n with
  | zero => exact ⟨by simp [rowCells], fun i j h => by omega⟩
  | succ n ih =>
    obtain ⟨h1, h2⟩ := ih fun i hi => hc i (by omega)
    have e : rowCells (n + 1) f = rowCells n f ++ (f n).cells := by unfold rowCells; rw [List.range_succ, List.flatMap_append]; simp
    have hn := hc n (by omega)
    refine ⟨by rw [e, List.length_append, h1, hn, Nat.succ_mul], fun i j hi hj => ?_⟩
    rw [e]
    by_cases h : i < n
    · rw [List.getElem?_append_left, h2 i j h hj]
      rw [h1]
      have : i * sz + sz ≤ n * sz := by rw [← Nat.succ_mul]; exact Nat.mul_le_mul_right _ h
      omega
    · obtain rfl : i = n := by omega
      rw [List.getElem?_append_right (by rw [h1]; omega), h1]
      congr 1; omega
theorem ecall_thaw {f : FuncId} {args : List AV} {nx sz : Nat} {Q : Nat → (Nat → AV) → Prop} (hz : 0 < sz) (hflat : ∀ n f, Q n f → ∀ k, k < n → ∀ c ∈ (f k).cells, Flat c)
    (hc : ECall P f args ⟨[], [], nx, 0⟩ fun r h' => ∃ n f oi nx' nn', Q n f ∧ (oi = none → n = 0) ∧ r = .os sz n f oi ∧ h' = ⟨[], pmOf oi (n * sz), nx', nn'⟩) :
    ECall P f args ⟨[], [], nx, 0⟩ (thawQ Q sz) := by
  refine ⟨hc.1, fun X w g vs h1 h2 h3 h4 => ?_⟩
  refine (fnWay P f).mono (hc.2 X w g vs h1 h2 h3 h4) fun e w' ⟨r, h', g', a1, a2, a3, a4, a5, a7, a8⟩ => ?_
  cases r with
  | pan x => exact a2.elim
  | ret r =>
    obtain ⟨n, f0, oi, nx', nn', q1, q2, rfl, rfl⟩ := a2
    cases oi with
    | none =>
      obtain rfl := q2 rfl
      exact ⟨.ret (.os sz 0 f0 none), ⟨[], [], nx', nn'⟩, g', a1, ⟨0, f0, q1, .inl ⟨rfl, rfl, rfl, rfl⟩⟩, a3, a4, a5, a7, a8⟩
    | some i =>
      obtain ⟨nm, s⟩ := i
      obtain ⟨u, rfl, a1⟩ := a1
      obtain ⟨b, bvs, be, hgb, hblk, hle⟩ := a4.pm ((nm, s), n * sz) (by simp [pmOf])
      dsimp only at hgb hle
      generalize hu : u = u0 at a1
      cases a1 with
      | oss _ _ _ _ b2 cap vs2 hg2 hlen hcap hcell hroom hcs hrep =>
        subst hu
        dsimp only at hg2
        rw [hgb] at hg2
        cases hg2
        have hflt := hflat n f0 q1
        obtain ⟨rl, rg⟩ := rowCells_get hcs
        have hcapsz : cap * sz ≤ bvs.size := by
          rcases Nat.eq_zero_or_pos (cap * sz) with h0 | h0
          · omega
          · obtain ⟨⟨v, hv⟩, _⟩ := hroom (cap * sz - 1) (by omega)
            rw [cell_of_block hblk] at hv
            have := (Array.getElem?_eq_some_iff.1 hv).1
            omega
        have hnew : ¬ b < w.heap.size := fun hb => by
          have := a8 b (n * sz) (.inr (.inr ⟨((nm, s), n * sz), by simp [pmOf], hgb, Nat.le_refl _⟩)) hb
          rcases this with h | ⟨p, hp, _⟩ | ⟨p, hp, _⟩
          · exact h
          · cases hp
          · cases hp
        have hids : ∀ j, j ∈ Heap.ids (⟨[((0, s), .c (rowCells n f0 ++ List.replicate (bvs.size - n * sz) .any))], [], nx', nn'⟩ : Heap) → j = s := fun j hj => by simpa [Heap.ids] using hj
        refine ⟨.ret (.hs (0, s) 0 n cap), ⟨[((0, s), .c (rowCells n f0 ++ List.replicate (bvs.size - n * sz) .any))], [], nx', nn'⟩, g', ⟨_, rfl, .hs _ _ _ _ b hgb⟩, ⟨n, f0, q1, .inr ⟨s, cap, bvs.size - n * sz, nx', nn', hcap, by omega, rfl, rfl⟩⟩, a3, ?_, fun b' o hx j hj => ?_, a7, fun b' o hx hb => ?_⟩
        · refine ⟨fun p hp => ?_, fun p hp => (by cases hp), by simp [Heap.ids], a4.nx, fun b' o hx => ?_, fun p hp => ⟨(a4.kn p hp).1, fun o hx => ?_⟩⟩
          · obtain rfl := List.mem_singleton.1 hp
            refine ⟨b, hgb, bvs, be, hblk, by rw [List.length_append, rl, List.length_replicate]; omega, fun k c u hk hku => ?_⟩
            rcases Nat.lt_or_ge k (n * sz) with hlt | hge
            · rw [List.getElem?_append_left (by rw [rl]; exact hlt)] at hk
              have hd : k = (k / sz) * sz + k % sz := by rw [Nat.mul_comm]; exact (Nat.div_add_mod k sz).symm
              have hk1 : k / sz < n := Nat.div_lt_of_lt_mul (by rw [Nat.mul_comm]; exact hlt)
              have hk2 : k % sz < sz := Nat.mod_lt _ hz
              rw [hd, rg _ _ hk1 hk2] at hk
              have hv : k < vs2.length := by rw [hlen]; exact hlt
              have hcv := (hcell k _ (List.getElem?_eq_getElem hv)).1
              rw [cell_of_block hblk, hku] at hcv
              cases hcv
              exact hflt _ hk1 c (List.mem_of_getElem? hk) _ _ _ _ _ _ _ (hrep _ _ c _ hk1 hk (by rw [← hd]; exact List.getElem?_eq_getElem hv))
            · rw [List.getElem?_append_right (by rw [rl]; exact hge)] at hk
              obtain rfl : c = .any := by
                have := List.mem_of_getElem? hk
                exact (List.mem_replicate.1 this).2
              exact .any _
          · rcases hx with hx | ⟨p, hp, hg⟩ | ⟨p, hp, _⟩
            · exact a4.bd b' o (.inl hx)
            · obtain rfl := List.mem_singleton.1 hp
              dsimp only at hg
              rw [hgb] at hg; cases hg
              exact lt_of_block hblk
            · cases hp
          · rcases hx with hx | ⟨q, hq, hg⟩ | ⟨q, hq, _⟩
            · exact (a4.kn p hp).2 o (.inl hx)
            · obtain rfl := List.mem_singleton.1 hq
              exact (a4.kn p hp).2 (n * sz) (.inr (.inr ⟨((nm, s), n * sz), by simp [pmOf], hg, Nat.le_refl _⟩))
            · cases hq
        · obtain rfl := hids j hj
          exact a5 b' o hx j (by simp [Heap.ids, pmOf])
        · rcases hx with hx | ⟨p, hp, hg⟩ | ⟨p, hp, _⟩
          · exact hx.elim
          · obtain rfl := List.mem_singleton.1 hp
            dsimp only at hg
            rw [hgb] at hg; cases hg
            exact absurd hb hnew
          · cases hp
end Go.Vl

/- Contracts of the kit's shelf, read as contracts of mine. -/
namespace Go.Vl
open Go.RowKit
variable {P : Program}

theorem args_eq {w : World} {X : Nat → Nat → Prop} {g : List Nat} {us vs : List Value} (h3 : us.length = (vs.map AV.v).length)
    (h4 : ∀ (k : Nat) (c : AV) (u : Value), (vs.map AV.v)[k]? = some c → us[k]? = some u → Rep w X g c u) : us = vs := by
  refine List.ext_getElem (by simpa using h3) fun k hk1 hk2 => ?_
  have := h4 k (.v vs[k]) us[k] (by simp [hk2]) (List.getElem?_eq_getElem hk1)
  generalize us[k] = a at this
  cases this
  rfl
theorem Kn.none {w : World} {X : Nat → Nat → Prop} (h : Kn w X) : Kn w none2 := fun p hp => ⟨(h p hp).1, fun _ h => h⟩
theorem tells_of_callsK {f : FuncId} {vs : List Value} {u : Value} (hcb : callable P f)
    (h : ∀ w, Kn w none2 → Calls P f vs.toArray w fun e w' => e = .returned u ∧ Below w.heap.size w w') : Tells P f (vs.map .v) (.v u) := fun nx => by
  refine ⟨hcb, fun X w g us h1 h2 h3 h4 => ?_⟩
  obtain rfl := args_eq h3 h4
  refine (fnWay P f).mono (w0 := w) (g := g) (R := _) (h w h1.kn.none) fun e w' ⟨he, hb⟩ => ?_
  have hev := Evo.of_below hb
  exact ⟨.ret (.v u), ⟨[], [], nx, 0⟩, g, ⟨u, he, .v _⟩, ⟨AVle.refl _, rfl, rfl⟩, fun _ _ h => h, h1.evo0 hev, fun b o hx i hi => (by cases hi), hev.mono fun b o _ h => h.elim, fun b o h _ => h⟩

theorem tells_of_calls {f : FuncId} {vs : List Value} {u : Value} (hcb : callable P f)
    (h : ∀ w, Calls P f vs.toArray w fun e w' => e = .returned u ∧ Below w.heap.size w w') : Tells P f (vs.map .v) (.v u) := tells_of_callsK hcb fun w _ => h w

/-- A row in a box of one's own is sorted by a function of the shelf. -/
theorem ecall_sort1 {α : Type} [Inhabited α] {f : FuncId} {enc : α → Value} {d d' : Array α} {tl : List AV} {nm s cap nx nn : Nat} (hcb : callable P f) (hd : d'.size = d.size)
    (h : ∀ (w : World) (blk : Nat), Sort.Holds enc w blk 0 d → blk < w.heap.size → Calls P f #[.slice (some ⟨blk, 0, none⟩) d.size cap] w fun e w' => e = .returned (.tuple #[]) ∧ ∃ n os, w' = Sort.grow (Sort.putRow enc (Sort.ahead w n) blk 0 d') os) :
    ECall P f [.hs (nm, s) 0 d.size cap] ⟨[((nm, s), .c (d.toList.map (fun x => .v (enc x)) ++ tl))], [], nx, nn⟩
      fun r h' => r = .tup [] ∧ h' = ⟨[((nm, s), .c (d'.toList.map (fun x => .v (enc x)) ++ tl))], [], nx, nn⟩ := by
  refine ⟨hcb, fun X w g us h1 h2 h3 h4 => ?_⟩
  obtain ⟨b, hgb, vs, ety, hblk, hsz, hrep⟩ := h1.bx _ (.head _)
  dsimp only at hgb
  match us, h3, h4 with
  | [u], _, h4 =>
  have hr := h4 0 _ u rfl rfl
  generalize hu : u = u0 at hr
  cases hr with
  | hs _ _ _ _ b2 hg2 =>
    subst hu
    dsimp only at hg2
    rw [hgb] at hg2
    cases hg2
    have hbl := lt_of_block hblk
    have hlen : d.size ≤ vs.size := by rw [hsz]; simp
    have hH : Sort.Holds enc w b 0 d := fun j hj => by
      refine ⟨?_, by rw [frozen_of_block hblk]; simp⟩
      have hj2 : j < vs.size := by omega
      have := hrep j (.v (enc d[j]!)) vs[j] (by rw [List.getElem?_append_left (by simpa using hj)]; simp [hj]) (Array.getElem?_eq_getElem hj2)
      generalize hv : vs[j] = v at this
      cases this
      rw [cell_of_block hblk, Nat.zero_add, Array.getElem?_eq_getElem hj2, hv]
    refine (fnWay P f).mono (w0 := w) (g := g) (R := _) (h w b hH hbl) fun e w' ⟨he, n, os, hw⟩ => ?_
    have hb' : w'.heap[b]? = some (.cells (Sort.putCells enc 0 d' vs) ety (0, 0)) := by
      subst hw
      rw [Sort.heap_grow_old _ _ (by simpa [Sort.putRow, Sort.mapBlock, Sort.ahead] using hbl)]
      show (w.heap.modify b _)[b]? = _
      rw [Array.getElem?_modify, if_pos rfl, hblk]
      rfl
    have hoth : ∀ k, k < w.heap.size → k ≠ b → w'.heap[k]? = w.heap[k]? := fun k hk hne => by
      subst hw
      rw [Sort.heap_grow_old _ _ (by simpa [Sort.putRow, Sort.mapBlock, Sort.ahead] using hk)]
      show (w.heap.modify b _)[k]? = _
      rw [Array.getElem?_modify, if_neg (Ne.symm hne)]
    have hsize : w.heap.size ≤ w'.heap.size := by
      subst hw
      simp [Sort.grow, Sort.putRow, Sort.mapBlock, Sort.ahead]
    have hM : ∀ b0 o, ¬ excl none2 g ⟨[((nm, s), .c (d.toList.map (fun x => .v (enc x)) ++ tl))], [], nx, nn⟩ b0 o → b0 ≠ b := fun b0 o hn hb0 => hn (.inr (.inl ⟨_, .head _, by rw [hb0]; exact hgb⟩))
    have hev : Evo (excl none2 g ⟨[((nm, s), .c (d.toList.map (fun x => .v (enc x)) ++ tl))], [], nx, nn⟩) w w' := by
      refine ⟨by subst hw; rfl, by subst hw; rfl, by subst hw; rfl, hsize, fun b0 hb0 hn => hoth b0 hb0 (hM b0 0 (hn 0)), fun b0 o hb0 hn => World.cell?_of_block (a := ⟨b0, o, none⟩) (hoth b0 hb0 (hM b0 o hn)), fun b0 us0 e0 fz h0 => ?_, fun b0 l h0 => ?_⟩
      · by_cases hb0 : b0 = b
        · subst hb0
          rw [hblk] at h0
          cases h0
          exact ⟨_, hb', by simp [Sort.putCells]⟩
        · exact ⟨us0, (hoth b0 (lt_of_block h0) hb0).trans h0, rfl⟩
      · by_cases hb0 : b0 = b
        · subst hb0
          rw [hblk] at h0
          cases h0
        · exact ⟨l, (hoth b0 (lt_of_block h0) hb0).trans h0⟩
    have hstay := hev.stays (X := excl X g ⟨[((nm, s), .c (d.toList.map (fun x => .v (enc x)) ++ tl))], [], nx, nn⟩) (X' := excl X g ⟨[((nm, s), .c (d.toList.map (fun x => .v (enc x)) ++ tl))], [], nx, nn⟩) (g := g) (g' := g)
      (fun b0 o _ hm => hm.elim (fun h => h.elim) .inr) (fun _ _ _ h => h) (fun _ _ h => h)
    refine ⟨.ret (.tup []), _, g, ⟨_, he, .tup [] [] rfl (by simp)⟩, ⟨rfl, rfl⟩, fun _ _ h => h, ?_, fun b0 o hx i hi => h2 b0 o hx i hi, hev, fun b0 o h _ => by simpa [excl] using h⟩
    have hids : ∀ b0 o, excl X g ⟨[((nm, s), .c (d'.toList.map (fun x => .v (enc x)) ++ tl))], [], nx, nn⟩ b0 o ↔ excl X g ⟨[((nm, s), .c (d.toList.map (fun x => .v (enc x)) ++ tl))], [], nx, nn⟩ b0 o := fun b0 o => by simp [excl]
    have hX : excl X g ⟨[((nm, s), .c (d'.toList.map (fun x => .v (enc x)) ++ tl))], [], nx, nn⟩ = excl X g ⟨[((nm, s), .c (d.toList.map (fun x => .v (enc x)) ++ tl))], [], nx, nn⟩ := by
      funext b0 o; exact propext (hids b0 o)
    rw [hX]
    refine ⟨fun p hp => ?_, fun p hp => (by cases hp), h1.nodup, h1.nx, fun b0 o hx => ?_, ?_⟩
    · obtain rfl := List.mem_singleton.1 hp
      refine ⟨b, hgb, Sort.putCells enc 0 d' vs, ety, hb', by simp [Sort.putCells, hsz, hd], fun k c u hk hku => ?_⟩
      have hkv : k < vs.size := by have := (Array.getElem?_eq_some_iff.1 hku).1; simpa [Sort.putCells] using this
      have hval : (Sort.putCells enc 0 d' vs)[k]? = some (if 0 ≤ k ∧ k < 0 + d'.size then enc d'[k - 0]! else vs[k]) := by simp [Sort.putCells, hkv]
      rw [hval] at hku
      by_cases hkd : k < d'.size
      · rw [if_pos ⟨Nat.zero_le _, by omega⟩] at hku
        rw [List.getElem?_append_left (by simpa using hkd)] at hk
        simp [hkd] at hk hku
        subst hk; subst hku
        exact .v _
      · rw [if_neg (by omega)] at hku
        rw [List.getElem?_append_right (by simpa using Nat.le_of_not_lt hkd)] at hk
        refine (hrep k c u ?_ (by rw [Array.getElem?_eq_getElem hkv]; exact hku)).stays hstay
        rw [List.getElem?_append_right (by simp; omega)]
        simpa [hd] using hk
    · exact Nat.lt_of_lt_of_le (h1.bd b0 o hx) hsize
    · exact h1.kn.stays hstay
/-- .. an empty one, too. -/
theorem ecall_sort0 {f : FuncId} {sz nx : Nat} {F : Nat → AV} (hcb : callable P f)
    (h : ∀ (p : Option Addr) (cap : Nat) (w : World), Calls P f #[.slice p 0 cap] w fun e w' => e = .returned (.tuple #[]) ∧ w' = w) : Tells P f [.os sz 0 F none] (.tup []) := fun nx => by
  refine ⟨hcb, fun X w g us h1 h2 h3 h4 => ?_⟩
  match us, h3, h4 with
  | [u], _, h4 =>
  have hr := h4 0 _ u rfl rfl
  have key : ∃ p cap, u = .slice p 0 cap := by
    cases hr with
    | os0 _ _ a => exact ⟨a, 0, rfl⟩
    | osn _ _ _ b off vs => exact ⟨_, 0, rfl⟩
  obtain ⟨p, cap, rfl⟩ := key
  refine (fnWay P f).mono (w0 := w) (g := g) (R := _) (h p cap w) fun e w' ⟨he, hw⟩ => ?_
  subst hw
  exact ⟨.ret (.tup []), ⟨[], [], nx, 0⟩, g, ⟨_, he, .tup [] [] rfl (by simp)⟩, ⟨AVle.refl _, rfl, rfl⟩, fun _ _ h => h, h1, h2, Evo.refl _ _, fun b o h _ => h⟩
end Go.Vl

/- Functions of the shelf that write a row in a box of one's own, and that are given plain values besides. -/
namespace Go.Vl
open Go.RowKit
variable {P : Program}

theorem args_put {w : World} {X : Nat → Nat → Prop} {g : List Nat} {i : Id} {n cap b : Nat} {vs us : List Value} (hg : g[i.2]? = some b) (h3 : us.length = (AV.hs i 0 n cap :: vs.map AV.v).length)
    (h4 : ∀ (k : Nat) (c : AV) (u : Value), (AV.hs i 0 n cap :: vs.map AV.v)[k]? = some c → us[k]? = some u → Rep w X g c u) : us = .slice (some ⟨b, 0, none⟩) n cap :: vs := by
  match us, h3, h4 with
  | a :: us, h3, h4 =>
  have ha := h4 0 _ a rfl rfl
  obtain rfl : us = vs := args_eq (by simpa using h3) fun k c v hc hv => h4 (k + 1) c v (by simpa using hc) (by simpa using hv)
  cases ha with
  | hs _ _ _ _ b2 hg2 =>
    rw [hg] at hg2
    cases hg2
    rfl
theorem ecall_put {α : Type} [Inhabited α] {f : FuncId} {enc : α → Value} {d d' : Array α} {tl : List AV} {vs : List Value} {R : AV} {res : Nat → Value} {nm s cap nx nn : Nat} (hcb : callable P f) (hd : d'.size = d.size)
    (hR : ∀ (w : World) (X : Nat → Nat → Prop) (g : List Nat) (b : Nat), g[s]? = some b → Rep w X g R (res b))
    (h : ∀ (w : World) (blk : Nat), Kn w none2 → Sort.Holds enc w blk 0 d → blk < w.heap.size → Calls P f (.slice (some ⟨blk, 0, none⟩) d.size cap :: vs).toArray w fun e w' => e = .returned (res blk) ∧ ∃ n os, w' = Sort.grow (Sort.putRow enc (Sort.ahead w n) blk 0 d') os) :
    ECall P f (.hs (nm, s) 0 d.size cap :: vs.map .v) ⟨[((nm, s), .c (d.toList.map (fun x => .v (enc x)) ++ tl))], [], nx, nn⟩
      fun r h' => r = R ∧ h' = ⟨[((nm, s), .c (d'.toList.map (fun x => .v (enc x)) ++ tl))], [], nx, nn⟩ := by
  refine ⟨hcb, fun X w g us h1 h2 h3 h4 => ?_⟩
  obtain ⟨b, hgb, vs0, ety, hblk, hsz, hrep⟩ := h1.bx _ (.head _)
  dsimp only at hgb
  obtain rfl := args_put hgb h3 h4
  have hbl := lt_of_block hblk
  have hlen : d.size ≤ vs0.size := by rw [hsz]; simp
  have hH : Sort.Holds enc w b 0 d := fun j hj => by
    refine ⟨?_, by rw [frozen_of_block hblk]; simp⟩
    have hj2 : j < vs0.size := by omega
    have := hrep j (.v (enc d[j]!)) vs0[j] (by rw [List.getElem?_append_left (by simpa using hj)]; simp [hj]) (Array.getElem?_eq_getElem hj2)
    generalize hv : vs0[j] = v at this
    cases this
    rw [cell_of_block hblk, Nat.zero_add, Array.getElem?_eq_getElem hj2, hv]
  refine (fnWay P f).mono (w0 := w) (g := g) (R := _) (h w b h1.kn.none hH hbl) fun e w' ⟨he, n, os, hw⟩ => ?_
  have hb' : w'.heap[b]? = some (.cells (Sort.putCells enc 0 d' vs0) ety (0, 0)) := by
    subst hw
    rw [Sort.heap_grow_old _ _ (by simpa [Sort.putRow, Sort.mapBlock, Sort.ahead] using hbl)]
    show (w.heap.modify b _)[b]? = _
    rw [Array.getElem?_modify, if_pos rfl, hblk]
    rfl
  have hoth : ∀ k, k < w.heap.size → k ≠ b → w'.heap[k]? = w.heap[k]? := fun k hk hne => by
    subst hw
    rw [Sort.heap_grow_old _ _ (by simpa [Sort.putRow, Sort.mapBlock, Sort.ahead] using hk)]
    show (w.heap.modify b _)[k]? = _
    rw [Array.getElem?_modify, if_neg (Ne.symm hne)]
  have hsize : w.heap.size ≤ w'.heap.size := by
    subst hw
    simp [Sort.grow, Sort.putRow, Sort.mapBlock, Sort.ahead]
  have hM : ∀ b0 o, ¬ excl none2 g ⟨[((nm, s), .c (d.toList.map (fun x => .v (enc x)) ++ tl))], [], nx, nn⟩ b0 o → b0 ≠ b := fun b0 o hn hb0 => hn (.inr (.inl ⟨_, .head _, by rw [hb0]; exact hgb⟩))
  have hev : Evo (excl none2 g ⟨[((nm, s), .c (d.toList.map (fun x => .v (enc x)) ++ tl))], [], nx, nn⟩) w w' := by
    refine ⟨by subst hw; rfl, by subst hw; rfl, by subst hw; rfl, hsize, fun b0 hb0 hn => hoth b0 hb0 (hM b0 0 (hn 0)), fun b0 o hb0 hn => World.cell?_of_block (a := ⟨b0, o, none⟩) (hoth b0 hb0 (hM b0 o hn)), fun b0 us0 e0 fz h0 => ?_, fun b0 l h0 => ?_⟩
    · by_cases hb0 : b0 = b
      · subst hb0
        rw [hblk] at h0
        cases h0
        exact ⟨_, hb', by simp [Sort.putCells]⟩
      · exact ⟨us0, (hoth b0 (lt_of_block h0) hb0).trans h0, rfl⟩
    · by_cases hb0 : b0 = b
      · subst hb0
        rw [hblk] at h0
        cases h0
      · exact ⟨l, (hoth b0 (lt_of_block h0) hb0).trans h0⟩
  have hstay := hev.stays (X := excl X g ⟨[((nm, s), .c (d.toList.map (fun x => .v (enc x)) ++ tl))], [], nx, nn⟩) (X' := excl X g ⟨[((nm, s), .c (d.toList.map (fun x => .v (enc x)) ++ tl))], [], nx, nn⟩) (g := g) (g' := g)
    (fun b0 o _ hm => hm.elim (fun h => h.elim) .inr) (fun _ _ _ h => h) (fun _ _ h => h)
  refine ⟨.ret R, _, g, ⟨_, he, hR _ _ _ _ hgb⟩, ⟨rfl, rfl⟩, fun _ _ h => h, ?_, fun b0 o hx i hi => h2 b0 o hx i hi, hev, fun b0 o h _ => by simpa [excl] using h⟩
  have hX : excl X g ⟨[((nm, s), .c (d'.toList.map (fun x => .v (enc x)) ++ tl))], [], nx, nn⟩ = excl X g ⟨[((nm, s), .c (d.toList.map (fun x => .v (enc x)) ++ tl))], [], nx, nn⟩ := by
    funext b0 o; exact propext (by simp [excl])
  rw [hX]
  refine ⟨fun p hp => ?_, fun p hp => (by cases hp), h1.nodup, h1.nx, fun b0 o hx => ?_, ?_⟩
  · obtain rfl := List.mem_singleton.1 hp
    refine ⟨b, hgb, Sort.putCells enc 0 d' vs0, ety, hb', by simp [Sort.putCells, hsz, hd], fun k c u hk hku => ?_⟩
    have hkv : k < vs0.size := by have := (Array.getElem?_eq_some_iff.1 hku).1; simpa [Sort.putCells] using this
    have hval : (Sort.putCells enc 0 d' vs0)[k]? = some (if 0 ≤ k ∧ k < 0 + d'.size then enc d'[k - 0]! else vs0[k]) := by simp [Sort.putCells, hkv]
    rw [hval] at hku
    by_cases hkd : k < d'.size
    · rw [if_pos ⟨Nat.zero_le _, by omega⟩] at hku
      rw [List.getElem?_append_left (by simpa using hkd)] at hk
      simp [hkd] at hk hku
      subst hk; subst hku
      exact .v _
    · rw [if_neg (by omega)] at hku
      rw [List.getElem?_append_right (by simpa using Nat.le_of_not_lt hkd)] at hk
      refine (hrep k c u ?_ (by rw [Array.getElem?_eq_getElem hkv]; exact hku)).stays hstay
      rw [List.getElem?_append_right (by simp; omega)]
      simpa [hd] using hk
  · exact Nat.lt_of_lt_of_le (h1.bd b0 o hx) hsize
  · exact h1.kn.stays hstay
end Go.Vl

/- The front of an array of one's own; bytes of one's own as a string. -/
namespace Go.Vl
open Go.RowKit
variable {P : Program}

theorem run_slice_front {w : World} {t e : TypeId} {n : Nat} {d : TypeDesc} (ht : P.underlying t = some (.array n e)) (hd : P.underlying e = some d) (h1 : P.cellsOf e = 1) (b off h : Nat) (hh : h ≤ n) (hn : 0 < n) (k' : IntKind) :
    (Instr.sliceAt t (.pointer (some ⟨b, off, none⟩)) none (some (.int k' h)) none).run P w = .ok (.slice (some ⟨b, off, none⟩) h n) w := by
  have e1 : ¬ n = 0 := by omega
  simp [Instr.sliceAt, run_underlying ht, Instr.sureAddr, Instr.sliceBounds, Instr.sliceBound, asIntOf, hh, e1, run_sizeOf' hd, h1, add_none]
theorem aop_front {o : Oper} {E : Env} {K : Env → Prop} {Kp : AV → Env → Prop} {t e : TypeId} {x hi : Operand} {n h : Nat} {k' : IntKind} {d : TypeDesc} {i : Id} {off : Nat} (ho : o.op = .slice t x none (some hi) none) (hx : E.ev x = .bp i off)
    (hhi : E.ev hi = .v (.int k' h)) (ht : P.underlying t = some (.array n e)) (hd : P.underlying e = some d) (h1 : P.cellsOf e = 1) (hh : h ≤ n) (hn : 0 < n) (hk : K (E.set o.dst (.hs i off h n))) : AOp P o E K Kp := by
  refine AOp.of_yields ⟨(by rw [ho]; intro c hc; cases hc), fun ρ w X g _ hr => .inl ?_⟩ hk
  have r1 := hr x (by rw [ho]; simp [Op.operands])
  have r3 := hr hi (by rw [ho]; simp [Op.operands])
  rw [hx] at r1; rw [hhi] at r3
  have e3 := rep_v r3
  generalize hu : ρ x = u at r1
  cases r1 with
  | bp _ _ b hg =>
    refine ⟨.slice (some ⟨b, off, none⟩) h n, w, ?_, Evo.refl _ _, .hs _ _ _ _ b hg⟩
    unfold execOp
    simp only [ho, hu, Option.map_some, Option.map_none, e3]
    exact run_value (run_slice_front ht hd h1 b off h hh hn k')
/-- Bytes of one's own, as a string. -/
theorem aop_bytes {o : Oper} {E : Env} {K : Env → Prop} {Kp : AV → Env → Prop} {s d e : TypeId} {x : Operand} {i : Id} {off cap : Nat} {cs : List AV} {l : List UInt8} (ho : o.op = .convert s d x) (hx : E.ev x = .hs i off l.length cap)
    (hcs : hget i.1 E.h.bx = some (i.2, cs)) (hl : ∀ j (hj : j < l.length), cs[off + j]? = some (.v (.int .u8 (l[j].toNat : Int)))) (hs : P.underlying s = some (.slice e)) (he : P.underlying e = some (.int .u8)) (hd : P.underlying d = some .string)
    (hk : K (E.set o.dst (.v (.string ⟨l.toArray⟩)))) : AOp P o E K Kp := by
  refine AOp.of_yields ⟨(by rw [ho]; intro c hc; cases hc), fun ρ w X g hok hr => .inl ?_⟩ hk
  have r1 := hr x (by rw [ho]; simp [Op.operands])
  rw [hx] at r1
  obtain ⟨b, hg, vs, e', hb, hvs, hrp⟩ := hok.bx _ (hget_mem hcs)
  dsimp only at hg hvs hrp
  generalize hu : ρ x = u at r1
  cases r1 with
  | hs _ _ _ _ b' hg' =>
    rw [hg] at hg'; cases hg'
    refine ⟨.string ⟨l.toArray⟩, w, ?_, Evo.refl _ _, .v _⟩
    unfold execOp
    simp only [ho, hu]
    refine run_value (run_convert_bytes_back w s d e ⟨b, off, none⟩ cap l hs he hd fun j hj => ?_)
    have hc := hl j hj
    have hlt : off + j < vs.size := by rw [hvs]; exact (List.getElem?_eq_some_iff.1 hc).1
    have := hrp (off + j) _ vs[off + j] hc (Array.getElem?_eq_getElem hlt)
    generalize hv : vs[off + j] = v at this
    cases this
    rw [show (⟨b, off, none⟩ : Addr).add j = ⟨b, off + j, none⟩ from add_none _ _ _, cell_of_block hb, Array.getElem?_eq_getElem hlt, hv]
end Go.Vl

/- Ranges over functions whose body may return. -/
namespace Go.Vl
open Go.RowKit
variable {P : Program}
/-- A range over an iterator; a round goes on, or returns out of the function. -/
theorem aw_forX {gop : Operand} {ps : Array Tmp} {asg body : Code} {E : Env} {Q : AExit → Env → Prop} {it : FuncId} {first caps : List AV} {ds : List DA} {σ α : Type} {e : α → List AV} {xs : List α} {first' caps' : List AV}
    (Cb : σ → List (Id × Own)) (Cp : σ → List (Id × Nat)) (I : List α → σ → Prop) (J : List α → α → σ → Prop) (s0 : σ) (hd : E.df = some ds) (hf : E.ev gop = .fn (.func it) first caps) (hit : IterSpec P it first' caps' e xs) (hl1 : LeL first first') (hl2 : LeL caps caps')
    (hb : E.h.bx = Cb s0) (hp : E.h.pm = Cp s0) (h0 : I [] s0) (hlen : ∀ x, (e x).length = ps.size)
    (hc : ∀ pre x post s nx nn, xs = pre ++ x :: post → I pre s → AW P asg (roundEnv E.n E.t ⟨((E.h.nn + 1, E.h.nx + 1), .lp .ready none E.n E.t ps asg body) :: ((E.h.nn, E.h.nx), .df) :: Cb s, Cp s, nx, nn⟩ (ps.toList.zip (e x)).reverse)
      (asgQ P (E.h.nn + 1, E.h.nx + 1) body (wk fun r h' => (r = .v (.bool true) ∧ ∃ s', I (pre ++ [x]) s' ∧ h'.bx = ((E.h.nn + 1, E.h.nx + 1), .lp .ready none E.n E.t ps asg body) :: ((E.h.nn, E.h.nx), .df) :: Cb s' ∧ h'.pm = Cp s') ∨
        (r = .v (.bool false) ∧ ∃ s', J pre x s' ∧ h'.bx = ((E.h.nn + 1, E.h.nx + 1), .lp .done (some .ret) E.n E.t ps asg body) :: ((E.h.nn, E.h.nx), .df) :: Cb s' ∧ h'.pm = Cp s'))))
    (hend : ∀ s' nx nn, I xs s' → Q .normal { E with h := ⟨((E.h.nn + 1, E.h.nx + 1), .lp .exhausted none E.n E.t ps asg body) :: ((E.h.nn, E.h.nx), .df) :: Cb s', Cp s', nx, nn⟩, df := some (.col (E.h.nn, E.h.nx) :: ds) })
    (hret : ∀ pre x post s' nx nn, xs = pre ++ x :: post → J pre x s' → Q .ret { E with h := ⟨((E.h.nn + 1, E.h.nx + 1), .lp .exhausted (some .ret) E.n E.t ps asg body) :: ((E.h.nn, E.h.nx), .df) :: Cb s', Cp s', nx, nn⟩, df := some (.col (E.h.nn, E.h.nx) :: ds) }) :
    AW P (.rangeFunc gop ps asg body) E Q := by
  refine aw_iter (σ := σ × Bool) (fun s => ((E.h.nn + 1, E.h.nx + 1), .lp (bif s.2 then .done else .ready) (bif s.2 then some .ret else none) E.n E.t ps asg body) :: ((E.h.nn, E.h.nx), .df) :: Cb s.1) (fun s => Cp s.1) (fun pre s => s.2 = false ∧ I pre s.1) (fun pre x s => s.2 = true ∧ J pre x s.1) (s0, false) hd hf hit hl1 hl2 ?_ hp ⟨rfl, h0⟩ ?_ ?_
  · show _ :: _ :: E.h.bx = _
    rw [hb]; rfl
  · rintro pre x post ⟨s, b⟩ nx nn hx ⟨hb0, hI⟩
    dsimp only at hb0 hI
    subst hb0
    refine (yield_of_aw (i := (E.h.nn + 1, E.h.nx + 1)) (pd := none) (n := E.n) (t := E.t) (ps := ps) (asg := asg) (body := body) (by simp [hgeto]) (hlen x) (hc pre x post s nx nn hx hI)).wk.mono fun r h' hq => ?_
    cases r with
    | pan x => exact hq.elim
    | ret r =>
      rcases hq with ⟨hr, s', h1, h2, h3⟩ | ⟨hr, s', h1, h2, h3⟩
      · exact ⟨(s', false), .inl ⟨hr, rfl, h1⟩, h2, h3⟩
      · exact ⟨(s', true), .inr ⟨hr, rfl, h1⟩, h2, h3⟩
  · rintro ⟨s', b⟩ nx nn h
    rcases h with ⟨hb0, h⟩ | ⟨pre, x, post, hx, hb0, h⟩
    · dsimp only at hb0 h
      subst hb0
      unfold rdone
      simp only [hgeto, Nat.beq_refl, cond_true, cond_false]
      refine ⟨trivial, (by intro h; cases h), ?_⟩
      simp only [hseto, Nat.beq_refl, cond_true]
      exact hend s' nx nn h
    · dsimp only at hb0 h
      subst hb0
      unfold rdone
      simp only [hgeto, Nat.beq_refl, cond_true, cond_false]
      refine ⟨trivial, (by intro h; cases h), ?_⟩
      simp only [hseto, Nat.beq_refl, cond_true]
      exact hret pre x post s' nx nn hx h
end Go.Vl

/- An array that stands ahead of other cells, as a slice. -/
namespace Go.Vl
open Go.RowKit
variable {P : Program}

theorem run_slice_ahead {t e : TypeId} {d : TypeDesc} {n : Nat} {w : World} (ht : P.underlying t = some (.array n e)) (hd : P.underlying e = some d) (h1 : P.cellsOf e = 1) (b off : Nat) (hn : 0 < n) :
    (Instr.sliceAt t (.pointer (some ⟨b, off, none⟩)) none none none).run P w = .ok (.slice (some ⟨b, off, none⟩) n n) w := by
  simp [Instr.sliceAt, run_underlying ht, Instr.sureAddr, Instr.sliceBounds, run_sizeOf' hd, h1, add_none]
theorem yields_ahead {o : Oper} {E : Env} {t e : TypeId} {x : Operand} {n : Nat} {d : TypeDesc} {cs : List AV} (ho : o.op = .slice t x none none none) (hx : E.ev x = .rp cs)
    (ht : P.underlying t = some (.array n e)) (hd : P.underlying e = some d) (h1 : P.cellsOf e = 1) (hn0 : 0 < n) (hn : n ≤ cs.length) (hc : ∀ c ∈ cs, c.cells = [c]) : Yields P o E (.sl 1 n (fun j => cs.getD j .any)) := by
  refine ⟨(by rw [ho]; intro c hc; cases hc), fun ρ w X g hk hr => .inl ?_⟩
  have r1 := hr x (by rw [ho]; simp [Op.operands])
  rw [hx] at r1
  generalize hu : ρ x = u at r1
  cases r1 with
  | rp _ b off vs hvs hcell hrep =>
    refine ⟨.slice (some ⟨b, off, none⟩) n n, w, ?_, Evo.refl _ _, ?_⟩
    · unfold execOp
      simp only [ho, hu, Option.map_none]
      exact run_value (run_slice_ahead ht hd h1 b off hn0)
    · refine .sl _ _ _ b off n (vs.take n) (by simp; omega) (Nat.le_refl _) (fun k u hk => ?_) (fun i hi => ?_) (fun i j c u hi hj hu => ?_)
      · rw [List.getElem?_take] at hk
        split at hk
        · exact hcell k u hk
        · cases hk
      · have hi2 : i < cs.length := by omega
        have : cs.getD i .any ∈ cs := by simp [List.getD, hi2]
        rw [hc _ this]; rfl
      · have hi2 : i < cs.length := by omega
        have hm : cs.getD i .any ∈ cs := by simp [List.getD, hi2]
        rw [hc _ hm] at hj
        cases j with
        | zero =>
          simp only [List.getElem?_cons_zero, Option.some.injEq] at hj
          subst hj
          rw [List.getElem?_take] at hu
          split at hu
          · exact hrep i _ u (by simp [List.getD, hi2]) (by simpa using hu)
          · cases hu
        | succ j => simp at hj
theorem aop_ahead {o : Oper} {E : Env} {K : Env → Prop} {Kp : AV → Env → Prop} {t e : TypeId} {x : Operand} {n : Nat} {d : TypeDesc} {cs : List AV} (ho : o.op = .slice t x none none none) (hx : E.ev x = .rp cs)
    (ht : P.underlying t = some (.array n e)) (hd : P.underlying e = some d) (h1 : P.cellsOf e = 1) (hn0 : 0 < n) (hn : n ≤ cs.length) (hc : ∀ c ∈ cs, c.cells = [c]) (hk : K (E.set o.dst (.sl 1 n (fun j => cs.getD j .any)))) : AOp P o E K Kp :=
  AOp.of_yields (yields_ahead ho hx ht hd h1 hn0 hn hc) hk
end Go.Vl

/- As VlX, with operations that look at memory of one's own which effects turn: such a look stands ahead of every effect that comes behind it. -/
namespace Go.Vl
open Go.RowKit
variable {P : Program}

def PureNow (P : Program) (ops : Array Oper) (o : Oper) (E : Env) (r : AV) : Prop :=
  ∀ E' : Env, E'.h = E.h → (∀ k, k ∈ o.looksAt ops → E'.t k = E.t k) → GY P ops o E' r
theorem PureNow.congr {ops : Array Oper} {o : Oper} {E E' : Env} {r : AV} (h : PureNow P ops o E r) (hh : E'.h = E.h) (ht : ∀ k, k ∈ o.looksAt ops → E'.t k = E.t k) : PureNow P ops o E' r :=
  fun E'' h1 h2 => h E'' (h1.trans hh) fun k hk => (h2 k hk).trans (ht k hk)
def MixL3 (P : Program) (ops : Array Oper) (B : List (Id × Own)) (eff ld : Nat → Bool) : List Nat → Env → (Env → Prop) → Prop
  | [], E, K => K E
  | i :: l, E, K => ∃ o, ops[i]? = some o ∧ (match eff i with
    | true => ∃ R, Eff P ops B o E R ∧ ∀ r h', R r h' → MixL3 P ops B eff ld l (({ E with h := h' } : Env).set o.dst r) K
    | false => match ld i with
      | true => ∃ r, PureNow P ops o E r ∧ MixL3 P ops B eff ld l (E.set o.dst r) K
      | false => ∃ r, PureAll P ops B o E r ∧ MixL3 P ops B eff ld l (E.set o.dst r) K)
theorem MixL3.front {ops : Array Oper} {B : List (Id × Own)} {eff ld : Nat → Bool} {K : Env → Prop} {j : Nat} {oj : Oper} (hj : ops[j]? = some oj) : ∀ (l1 l2 : List Nat) (E : Env),
    (∀ i ∈ l1, eff i = false ∧ (ld i = true → eff j = false) ∧ ∀ oi, ops[i]? = some oi → oi.apart ops oj = true) → MixL3 P ops B eff ld (l1 ++ j :: l2) E K → MixL3 P ops B eff ld (j :: (l1 ++ l2)) E K
  | [], l2, E, _, h => h
  | i :: l1, l2, E, hap, h => by
    obtain ⟨oi, h1, h2⟩ := h
    obtain ⟨he, hld, ha⟩ := hap i (by simp)
    obtain ⟨a1, a2, a3⟩ := Oper.apart_spec (ha oi h1)
    have back : ∀ {ri : AV} {E1 : Env}, E1.h = E.h ∨ ld i = false → (∀ k, k ∈ oi.looksAt ops → E1.t k = E.t k) → (match ld i with | true => PureNow P ops oi E ri | false => PureAll P ops B oi E ri) →
        (match ld i with | true => PureNow P ops oi E1 ri | false => PureAll P ops B oi E1 ri) := fun hh ht hp => by
      cases hli : ld i with
      | true => simp only [hli] at hp ⊢; exact hp.congr (hh.resolve_right (by rw [hli]; simp)) ht
      | false => simp only [hli] at hp ⊢; exact hp.congr ht
    simp only [he] at h2
    have h2' : ∃ ri, (match ld i with | true => PureNow P ops oi E ri | false => PureAll P ops B oi E ri) ∧ MixL3 P ops B eff ld (l1 ++ j :: l2) (E.set oi.dst ri) K := by
      cases hli : ld i with
      | true => simp only [hli] at h2 ⊢; exact h2
      | false => simp only [hli] at h2 ⊢; exact h2
    obtain ⟨ri, h3, h4⟩ := h2'
    have close : ∀ {E1 : Env}, (match ld i with | true => PureNow P ops oi E1 ri | false => PureAll P ops B oi E1 ri) → MixL3 P ops B eff ld (l1 ++ l2) (E1.set oi.dst ri) K → MixL3 P ops B eff ld (i :: (l1 ++ l2)) E1 K := fun hp hk => by
      refine ⟨oi, h1, ?_⟩
      simp only [he]
      cases hli : ld i with
      | true => simp only [hli] at hp ⊢; exact ⟨ri, hp, hk⟩
      | false => simp only [hli] at hp ⊢; exact ⟨ri, hp, hk⟩
    obtain ⟨o, h5, h6⟩ := MixL3.front hj l1 l2 _ (fun i' hi' => hap i' (List.mem_cons_of_mem _ hi')) h4
    rw [hj] at h5
    cases h5
    refine ⟨oj, hj, ?_⟩
    cases hej : eff j with
    | true =>
      have hli : ld i = false := by
        cases h : ld i with
        | false => rfl
        | true => rw [hld h] at hej; cases hej
      simp only [hej] at h6 ⊢
      obtain ⟨R, q1, q2⟩ := h6
      refine ⟨R, q1.congr (by rw [Env.set_h]) fun k hk => (Env.set_other (fun e => a1 k e hk)).symm, fun r h' hr => ?_⟩
      have q3 := q2 r h' hr
      refine close (back (.inr hli) (fun k hk => Env.set_other (fun e => a3 k e hk)) h3) ?_
      rw [set_heap, Env.set_comm (d := oi.dst) (d' := oj.dst) (fun k hk => a2 k hk)] at q3
      exact q3
    | false =>
      simp only [hej] at h6 ⊢
      cases hlj : ld j with
      | true =>
        simp only [hlj] at h6 ⊢
        obtain ⟨rj, q1, q2⟩ := h6
        refine ⟨rj, q1.congr (by rw [Env.set_h]) fun k hk => (Env.set_other (fun e => a1 k e hk)).symm, close (back (.inl (by rw [Env.set_h])) (fun k hk => Env.set_other (fun e => a3 k e hk)) h3) ?_⟩
        rw [Env.set_comm (d := oi.dst) (d' := oj.dst) (fun k hk => a2 k hk)] at q2
        exact q2
      | false =>
        simp only [hlj] at h6 ⊢
        obtain ⟨rj, q1, q2⟩ := h6
        refine ⟨rj, q1.congr fun k hk => (Env.set_other (fun e => a1 k e hk)).symm, close (back (.inl (by rw [Env.set_h])) (fun k hk => Env.set_other (fun e => a3 k e hk)) h3) ?_⟩
        rw [Env.set_comm (d := oi.dst) (d' := oj.dst) (fun k hk => a2 k hk)] at q2
        exact q2
/-- What is looked up of an order: each operation once; none waits for one behind; each waits for those ahead, or they only yield and are apart. -/
def ordM3 (ops : Array Oper) (m : Nat) (eff ld : Nat → Bool) (L : List Nat) : Bool :=
  let bf := Region.before ops
  Nat.ble m ops.size && (ordB ops m && (L.all (fun i => Nat.blt i m) && ((List.range m).all (fun i => L.contains i) && (go bf L))))
where
  go (bf : Array Nat) : List Nat → Bool
    | [] => true
    | i :: l => (l.all fun j => match ops[i]?, ops[j]? with
      | some oi, some oj => (!Nat.beq i j) && ((oi.after.toList.all fun e => !Region.binds .any e || !Nat.beq e.on j) && ((bf.getD j 0).testBit i || (!eff i && (!(ld i && eff j) && oi.apart ops oj))))
      | _, _ => false) && ((match ops[i]? with | some oi => oi.after.toList.all fun e => !Region.binds .any e || !Nat.beq e.on i | none => false) && go bf l)
def PairM3 (ops : Array Oper) (eff ld : Nat → Bool) (i j : Nat) : Prop :=
  i ≠ j ∧ ∀ oi oj, ops[i]? = some oi → ops[j]? = some oj → (∀ e ∈ oi.after, Region.binds .any e = true → e.on ≠ j) ∧ (((Region.before ops).getD j 0).testBit i = true ∨ (eff i = false ∧ (ld i = true → eff j = false) ∧ oi.apart ops oj = true))
theorem ordM3_go {ops : Array Oper} {eff ld : Nat → Bool} : ∀ {L : List Nat}, ordM3.go ops eff ld (Region.before ops) L = true →
    L.Pairwise (PairM3 ops eff ld) ∧ ∀ i ∈ L, ∀ oi, ops[i]? = some oi → ∀ e ∈ oi.after, Region.binds .any e = true → e.on ≠ i
  | [], _ => ⟨.nil, by simp⟩
  | i :: l, h => by
    simp only [ordM3.go, Bool.and_eq_true] at h
    obtain ⟨h1, h2, h3⟩ := h
    obtain ⟨q1, q2⟩ := ordM3_go h3
    refine ⟨List.pairwise_cons.2 ⟨fun j hj => ?_, q1⟩, fun k hk => ?_⟩
    · have := List.all_eq_true.1 h1 j hj
      split at this
      · rename_i oi oj hi hj'
        simp only [Bool.and_eq_true, Bool.or_eq_true, List.all_eq_true] at this
        obtain ⟨p1, p2, p3⟩ := this
        refine ⟨beq_no p1, fun oi' oj' hi2 hj2 => ?_⟩
        rw [hi] at hi2; rw [hj'] at hj2
        cases hi2; cases hj2
        refine ⟨fun e he hb => ?_, p3.imp id fun h => by
          simp at h
          exact ⟨h.1, fun hl => h.2.1.resolve_left (by rw [hl]; simp), h.2.2⟩⟩
        rcases p2 e (Array.mem_toList_iff.2 he) with h | h
        · simp [hb] at h
        · exact beq_no h
      · cases this
    · rcases List.mem_cons.1 hk with rfl | hk
      · intro oi hi e he hb
        rw [hi] at h2
        have := List.all_eq_true.1 h2 e (Array.mem_toList_iff.2 he)
        simp only [hb, Bool.not_true, Bool.false_or] at this
        exact beq_no this
      · exact q2 k hk

theorem mix_any3 {ops : Array Oper} {m : Nat} {B : List (Id × Own)} {eff ld : Nat → Bool} {Q : Exit → Act → World → Prop} (hk : OrdOk ops m) (hm : m ≤ ops.size)
    {ro : Option Nat} {X M : Nat → Nat → Prop} {w0 : World} {g0 : List Nat} {K : Env → Prop}
    (hq : ∀ E a w g, K E → (∀ (i b : Nat), g0[i]? = some b → g[i]? = some b) → St ro X M w0 E a w g → wpOpsIn (Fr ro) 0 P ops Q (List.range' m (ops.size - m)) a w) :
    ∀ (n : Nat) (L : List Nat) (listed : Array Bool) (E : Env) (a : Act) (w : World) (g : List Nat), L.length = n → L.Pairwise (PairM3 ops eff ld) → (∀ i ∈ L, i < m) →
      (∀ i ∈ L, ∀ oi, ops[i]? = some oi → ∀ e ∈ oi.after, Region.binds .any e = true → e.on ≠ i) → listed.size = ops.size → DC ops listed →
    (∀ i, i < ops.size → (listed.getD i true = false ↔ i ∈ L ∨ m ≤ i)) → MixL3 P ops B eff ld L E K → HB B E.h.bx → (∀ (i b : Nat), g0[i]? = some b → g[i]? = some b) → St ro X M w0 E a w g → wpAnyIn (Fr ro) 0 P .any ops Q (n + (ops.size - m)) listed a w := by
  intro n
  induction n with
  | zero =>
    intro L listed E a w g hl _ _ _ hsz hd hun hrun _ hg hs
    have : L = [] := List.eq_nil_of_length_eq_zero hl
    subst this
    rw [Nat.zero_add]
    exact tail_any hk _ m listed a w (by omega) (Nat.le_refl _) hsz hd (fun i hi => by simpa using hun i hi) (hq E a w g hrun hg hs)
  | succ n ih =>
    intro L listed E a w g hl hpw hlt hself hsz hd hun hrun hB hg hs
    rw [Nat.add_right_comm]
    obtain ⟨k, L', rfl⟩ : ∃ k L', L = k :: L' := by cases L with | nil => simp at hl | cons k L' => exact ⟨k, L', rfl⟩
    have hkm : k < m := hlt k (by simp)
    have hklt : k < ops.size := by omega
    have hko : ops[k]? = some ops[k] := Array.getElem?_eq_getElem hklt
    have hkr : k ∈ Region.ready .any ops listed := by
      refine mem_ready_iff.2 ⟨(hun k hklt).2 (by simp), _, hko, fun e he hb => ?_⟩
      have hb' := hk.back k _ hko e he hb
      rw [listed_bool (by omega)]
      cases hl : listed.getD e.on true with
      | true => simpa using hl
      | false =>
        rcases (hun e.on (by omega)).1 hl with h' | h'
        · rcases List.mem_cons.1 h' with h' | h'
          · exact absurd h' (hself k (by simp) _ hko e he hb)
          · exact absurd rfl (((List.pairwise_cons.1 hpw).1 _ h').2 _ _ hko (Array.getElem?_eq_getElem (by omega)) |>.1 e he hb)
        · omega
    refine ⟨fun h0 => (by rw [h0] at hkr; cases hkr), fun j hj => ?_⟩
    obtain ⟨h1, oj, hoj, h2⟩ := mem_ready_iff.1 hj
    have hjlt := (Array.getElem?_eq_some_iff.1 hoj).1
    have hjL : j ∈ k :: L' := by
      rcases (hun j hjlt).1 h1 with h' | h'
      · exact h'
      · have hb := hk.tail k j oj hoj h' (by omega)
        have := before_listed hd hsz hoj h2 hb
        have h3 := (hun k (by omega)).2 (by simp)
        rw [listed_bool (by omega)] at this
        simp [h3] at this
    obtain ⟨l1, l2, hl12⟩ := List.append_of_mem hjL
    rw [hl12] at hrun hpw hun hlt hl hself
    have hl1 : ∀ i ∈ l1, PairM3 ops eff ld i j := fun i hi => (List.pairwise_append.1 hpw).2.2 i hi j (by simp)
    obtain ⟨o, ho, hrun'⟩ := MixL3.front hoj l1 l2 E (fun i hi => by
      obtain ⟨hne, hp⟩ := hl1 i hi
      have hilt : i < ops.size := Nat.lt_of_lt_of_le (hlt i (by simp [hi])) hm
      rcases (hp _ _ (Array.getElem?_eq_getElem hilt) hoj).2 with hb | ⟨hb, hb2, hb'⟩
      · have := before_listed hd hsz hoj h2 hb
        have h3 := (hun i hilt).2 (by simp [hi])
        rw [listed_bool (by omega)] at this
        simp [h3] at this
      · exact ⟨hb, hb2, fun oi hoi => by rw [Array.getElem?_eq_getElem hilt] at hoi; cases hoi; exact hb'⟩) hrun
    rw [hoj] at ho
    cases ho
    have hnext : ∀ E' a' w' g', MixL3 P ops B eff ld (l1 ++ l2) E' K → HB B E'.h.bx → (∀ (i b : Nat), g0[i]? = some b → g'[i]? = some b) → St ro X M w0 E' a' w' g' → wpAnyIn (Fr ro) 0 P .any ops Q (n + (ops.size - m)) (listed.setIfInBounds j true) a' w' := by
      intro E' a' w' g' hm' hB' hg' hs'
      have hsub : (l1 ++ l2).Sublist (l1 ++ j :: l2) := List.Sublist.append (List.Sublist.refl _) (List.sublist_cons_self _ _)
      refine ih (l1 ++ l2) _ E' a' w' g' (by simp at hl ⊢; omega) (hpw.sublist hsub) (fun i hi => hlt i (hsub.subset hi)) (fun i hi => hself i (hsub.subset hi)) (by simp [hsz]) (hd.set hsz hk hj) (fun i hi => ?_) hm' hB' hg' hs'
      rw [listed_set (by omega)]
      by_cases hij : i = j
      · subst hij
        simp only [if_true]
        constructor
        · intro h; cases h
        · intro h
          exfalso
          have h5 := List.pairwise_append.1 hpw
          rcases h with h | h
          · rcases List.mem_append.1 h with h | h
            · exact (h5.2.2 i h i (by simp)).1 rfl
            · exact ((List.pairwise_cons.1 h5.2.1).1 i h).1 rfl
          · have := hlt i (by simp); omega
      · rw [if_neg hij, hun i hi]
        simp [hij]
    cases hej : eff j with
    | true =>
      simp only [hej] at hrun'
      obtain ⟨R, ⟨q0, q1⟩, q2⟩ := hrun'
      unfold wpOpIn
      simp only [hoj, Region.wanted, q0, if_true]
      exact q1 E rfl (fun _ _ => rfl) ro X M w0 a w g hs _ _ (fun E' a' w' g' hE hgg hs' => by
        obtain ⟨r, h', p1, p2, rfl⟩ := hE
        exact hnext _ a' w' g' (q2 r h' p1) (by rw [Env.set_h]; exact p2) (fun i b hi => hgg i b (hg i b hi)) hs') (fun x E' a' w' g' v hk' => hk'.elim)
    | false =>
      simp only [hej] at hrun'
      cases hlj : ld j with
      | true =>
        simp only [hlj] at hrun'
        obtain ⟨r, q1, q2⟩ := hrun'
        exact (q1 E rfl fun _ _ => rfl).does hoj hs fun a' w' hs' => hnext _ a' w' g q2 (by rw [Env.set_h]; exact hB) hg hs'
      | false =>
        simp only [hlj] at hrun'
        obtain ⟨r, q1, q2⟩ := hrun'
        exact (q1 E hB fun _ _ => rfl).does hoj hs fun a' w' hs' => hnext _ a' w' g q2 (by rw [Env.set_h]; exact hB) hg hs'

/-- Reckoned: what the table tells (a look at the present memory, else without any), and effects as they come. -/
def aM3 (P : Program) (ops : Array Oper) (eff ld : Nat → Bool) : List Nat → Env → (Env → Prop) → Prop
  | [], E, K => K E
  | i :: l, E, K => match ops[i]? with
    | none => False
    | some o => match eff i with
        | true => ∃ R, Eff P ops [] o E R ∧ ∀ r h', R r h' → aM3 P ops eff ld l (({ E with h := h' } : Env).set o.dst r) K
        | false => match ld i with
          | true => ∃ r, PureNow P ops o E r ∧ splitV r fun r => aM3 P ops eff ld l (E.set o.dst r) K
          | false => match o.guard with
            | some _ => False
            | none => match apure P o.op { E with h := ⟨[], [], 0, 0⟩ } with
              | some (C, r) => condK C (splitV r fun r => aM3 P ops eff ld l (E.set o.dst r) K)
              | none => False
theorem aM3_use {ops : Array Oper} {eff ld : Nat → Bool} {K : Env → Prop} : ∀ {L : List Nat} {E : Env}, aM3 P ops eff ld L E K → MixL3 P ops [] eff ld L E K
  | [], E, h => h
  | i :: l, E, h => by
    unfold aM3 at h
    split at h
    · exact h.elim
    · rename_i o ho
      refine ⟨o, ho, ?_⟩
      cases he : eff i with
      | true =>
        simp only [he] at h ⊢
        obtain ⟨R, q1, q2⟩ := h
        exact ⟨R, q1, fun r h' hr => aM3_use (q2 r h' hr)⟩
      | false =>
        simp only [he] at h ⊢
        cases hl : ld i with
        | true =>
          simp only [hl] at h ⊢
          obtain ⟨r, q1, q2⟩ := h
          exact ⟨r, q1, aM3_use (splitV_use q2)⟩
        | false =>
          simp only [hl] at h ⊢
          split at h
          · exact h.elim
          · rename_i hg
            split at h
            · rename_i C r hp
              obtain ⟨q1, q2⟩ := condK_use h
              refine ⟨r, fun E' hb ht => ?_, aM3_use (splitV_use q2)⟩
              unfold GY
              simp only [hg]
              exact apure_sound (apure_more (E := { E with h := ⟨[], [], 0, 0⟩ }) (E' := E') hb (ev_congr (E := { E with h := ⟨[], [], 0, 0⟩ }) ht) hp) q1
            · exact h.elim
/-- A look that the table tells over the present memory. -/
theorem now_apure {ops : Array Oper} {o : Oper} {E : Env} {C : Option Prop} {r : AV} (hg : o.guard = none) (hp : apure P o.op E = some (C, r)) (hC : condP C) : PureNow P ops o E r := fun E' hh ht => by
  unfold GY
  simp only [hg]
  exact apure_sound (apure_more (E := E) (E' := E') (by rw [hh]; exact HB.refl _) (ev_congr ht) hp) hC
/-- A region that draws, effects among what it does; from m on it is forced. -/
theorem aw_mix3 {id : Nat} {ops : Array Oper} {E : Env} {Q : AExit → Env → Prop} (m : Nat) (eff ld : Nat → Bool) (L : List Nat) (hf : P.follows .mixedOrders = true) (hb : ordM3 ops m eff ld L = true)
    (h : aM3 P ops eff ld L E fun E' => aK P ops (ops.toList.drop m) E' (Q .normal) (fun x E => Q (.panic x) E)) : AW P (.region id ops true) E Q := by
  simp only [ordM3, Bool.and_eq_true, List.all_eq_true] at hb
  obtain ⟨h0, h00, h1, h2, h3⟩ := hb
  have hm := ble_true h0
  obtain ⟨h4, h5⟩ := ordM3_go h3
  have hlt : ∀ i ∈ L, i < m := fun i hi => blt_true (h1 i hi)
  have hall : ∀ i, i < m → i ∈ L := fun i hi => by simpa using h2 i (List.mem_range.2 hi)
  have hnd : L.Nodup := h4.imp fun h => h.1
  have hlen : L.length = m := by
    have p : L.Perm (List.range m) := (List.perm_ext_iff_of_nodup hnd List.nodup_range).2 fun i => ⟨fun hi => List.mem_range.2 (hlt i hi), fun hi => hall i (List.mem_range.1 hi)⟩
    simpa using p.length_eq
  unfold AW
  intro ro X M w0 a w g g0 hg hs
  refine wpIn_region_any hf ?_
  have hs' : St ro X M w0 E a { w with drawn := w.drawn + 1 } g := hs.drew
  have key := mix_any3 (eff := eff) (ld := ld) (g0 := g0) (K := fun E' => aK P ops (ops.toList.drop m) E' (Q .normal) (fun x E => Q (.panic x) E)) (Q := lift ro X M w0 g0 Q) (P := P) (X := X) (M := M) (w0 := w0) (ro := ro) (B := []) (ordOk h00) hm (fun E' a' w' g' hk hg' hs'' => by
      have := aK_sound (P := P) (ops := ops) (K := Q .normal) (X := X) (M := M) (w0 := w0) (g0 := g0) (Kp := fun x E => Q (.panic x) E) (ro := ro) (Q := lift ro X M w0 g0 Q) (fun E a w g hk hg hs => ⟨.normal, E, g, hk, rfl, hg, hs⟩) (fun x E a w g v hk hg hs hr => ⟨.panic x, E, g, hk, ⟨v, rfl, hr⟩, hg, hs⟩) (ops.toList.drop m) m E' a' w' g' (fun j => .inl (by simp)) hg' hs'' hk
      simpa using this) m L (Array.replicate ops.size false) E a _ g hlen h4 hlt h5 (by simp) (fun k o ho hl => by
      have hk := (Array.getElem?_eq_some_iff.1 ho).1
      simp [Array.getD_eq_getD_getElem?, hk] at hl) (fun i hi => by
      have : (Array.replicate ops.size false).getD i true = false := by simp [Array.getD_eq_getD_getElem?, hi]
      simp only [this, true_iff]
      rcases Nat.lt_or_ge i m with h | h
      · exact .inl (hall i h)
      · exact .inr h) (aM3_use h) (fun _ _ _ h => by cases h) hg hs'
  have e : m + (ops.size - m) = ops.size := by omega
  rw [e] at key
  exact key

end Go.Vl

/- A walk cut in two where ways meet again; rows of cells in a box, element by element. -/
namespace Go.Vl
open Go.RowKit
variable {P : Program}

/-- Behind the first part the env is one of a family. -/
def cutQ {ι : Type} (F : ι → Env) (J : ι → Prop) (Q : AExit → Env → Prop) : AExit → Env → Prop := fun e E' =>
  match e with
  | .normal => ∃ i, J i ∧ ELe E' (F i)
  | e => Q e E'
theorem aw_mid {ι : Type} (F : ι → Env) (J : ι → Prop) {x y : Code} {E : Env} {Q : AExit → Env → Prop} (h : AW P x E (cutQ F J Q)) (hk : ∀ i, J i → AW P y (F i) Q) : AW P x E (seqQ P y Q) :=
  h.mono fun ex E' h' => by
    cases ex with
    | normal => obtain ⟨i, hI, hl⟩ := h'; exact AW.le hl (hk i hI)
    | exit i => exact h'
    | goto i => exact h'
    | ret => exact h'
    | panic i => exact h'
theorem cut_use {ι : Type} {F : ι → Env} {J : ι → Prop} {y : Code} {Q : AExit → Env → Prop} (hk : ∀ i, J i → AW P y (F i) Q) : ∀ ex E', cutQ F J Q ex E' → seqQ P y Q ex E' := fun ex E' h' => by
  cases ex with
  | normal => obtain ⟨i, hI, hl⟩ := h'; exact AW.le hl (hk i hI)
  | exit i => exact h'
  | goto i => exact h'
  | ret => exact h'
  | panic i => exact h'
theorem seqQ_mono {y : Code} {Q Q' : AExit → Env → Prop} (h : ∀ ex E, Q ex E → Q' ex E) : ∀ ex E, seqQ P y Q ex E → seqQ P y Q' ex E := fun ex E h' => by
  cases ex with
  | normal => exact AW.mono h' h
  | exit i => exact h _ _ h'
  | goto i => exact h _ _ h'
  | ret => exact h _ _ h'
  | panic i => exact h _ _ h'
/-- The cut behind the second part. -/
theorem aw_mid2 {ι : Type} (F : ι → Env) (J : ι → Prop) {x y1 y : Code} {E : Env} {Q : AExit → Env → Prop} (h : AW P x E (seqQ P y1 (cutQ F J Q))) (hk : ∀ i, J i → AW P y (F i) Q) : AW P x E (seqQ P y1 (seqQ P y Q)) :=
  h.mono (seqQ_mono (cut_use hk))
theorem aw_mid3 {ι : Type} (F : ι → Env) (J : ι → Prop) {x y1 y2 y : Code} {E : Env} {Q : AExit → Env → Prop} (h : AW P x E (seqQ P y1 (seqQ P y2 (cutQ F J Q)))) (hk : ∀ i, J i → AW P y (F i) Q) : AW P x E (seqQ P y1 (seqQ P y2 (seqQ P y Q))) :=
  h.mono (seqQ_mono (seqQ_mono (cut_use hk)))
theorem aw_midB {ι : Type} (F : ι → Env) (J : ι → Prop) {k : Nat} {x y : Code} {E : Env} {Q : AExit → Env → Prop} (h : AW P x E (blockQ k (cutQ F J Q))) (hk : ∀ i, J i → AW P y (F i) Q) : AW P x E (blockQ k (seqQ P y Q)) := by
  have key : ∀ ex E', cutQ F J Q ex E' → seqQ P y Q ex E' := fun ex E' h' => by
    cases ex with
    | normal => obtain ⟨i, hI, hl⟩ := h'; exact AW.le hl (hk i hI)
    | exit i => exact h'
    | goto i => exact h'
    | ret => exact h'
    | panic i => exact h'
  refine h.mono fun ex E' h' => ?_
  cases ex with
  | exit i =>
    simp only [blockQ] at h' ⊢
    cases hb : Nat.beq i k with
    | true => simp only [hb, cond_true] at h' ⊢; exact key .normal _ h'
    | false => simp only [hb, cond_false] at h' ⊢; exact h'
  | normal => exact key .normal _ h'
  | goto i => exact h'
  | ret => exact h'
  | panic i => exact h'
theorem blockQ_mono {k : Nat} {Q Q' : AExit → Env → Prop} (h : ∀ ex E, Q ex E → Q' ex E) : ∀ ex E, blockQ k Q ex E → blockQ k Q' ex E := fun ex E h' => by
  cases ex with
  | exit i =>
    simp only [blockQ] at h' ⊢
    cases hb : Nat.beq i k with
    | true => simp only [hb, cond_true] at h' ⊢; exact h _ _ h'
    | false => simp only [hb, cond_false] at h' ⊢; exact h _ _ h'
  | normal => exact h _ _ h'
  | goto i => exact h _ _ h'
  | ret => exact h _ _ h'
  | panic i => exact h _ _ h'
theorem aw_mid2B {ι : Type} (F : ι → Env) (J : ι → Prop) {k : Nat} {x y1 y : Code} {E : Env} {Q : AExit → Env → Prop} (h : AW P x E (seqQ P y1 (blockQ k (cutQ F J Q)))) (hk : ∀ i, J i → AW P y (F i) Q) : AW P x E (seqQ P y1 (blockQ k (seqQ P y Q))) :=
  h.mono (seqQ_mono (blockQ_mono (cut_use hk)))
section
variable {α : Type} [Inhabited α]
/-- A row in a box, and what room there is behind it. -/
def rowG (E : α → AV) (d : Array α) (tl : List AV) : List AV := d.toList.map E ++ tl
omit [Inhabited α] in
theorem rowG_len {E : α → AV} {d : Array α} {tl : List AV} : (rowG E d tl).length = d.size + tl.length := by simp [rowG]
theorem rowG_get {E : α → AV} {d : Array α} {tl : List AV} {i : Nat} (hi : i < d.size) : (rowG E d tl).getD i .any = E d[i]! := by
  unfold rowG
  rw [List.getD, List.getElem?_append_left (by simpa using hi)]
  simp [hi]
omit [Inhabited α] in
theorem rowG_set {E : α → AV} {d : Array α} {tl : List AV} {i : Nat} {x : α} (hi : i < d.size) : splice (rowG E d tl) i [E x] = rowG E (d.setIfInBounds i x) tl := by
  have key : ∀ (l : List α) (i : Nat), i < l.length → splice (l.map E ++ tl) i [E x] = (l.set i x).map E ++ tl := by
    intro l
    induction l with
    | nil => intro i h; cases h
    | cons z l ih =>
      intro i h
      cases i with
      | zero => rfl
      | succ i => show E z :: splice (l.map E ++ tl) i _ = _; rw [ih i (by simpa using h)]; rfl
  unfold rowG
  rw [key _ _ (by simpa using hi)]
  simp
omit [Inhabited α] in
theorem rowG_in {E : α → AV} {d : Array α} {tl : List AV} {i : Nat} (hi : i < d.size) : i + 1 ≤ (rowG E d tl).length := by rw [rowG_len]; omega
theorem ixge {x : Int} {i : Nat} (h : x = (i : Int)) : 0 ≤ x := by omega
theorem ixlt {x : Int} {i n : Nat} (h : x = (i : Int)) (hn : i < n) : x < (n : Int) := by omega
theorem ixof {x : Int} {i c : Nat} (hc : c = 1) (h : x = (i : Int)) : 0 + x.toNat * c = i := by subst hc; subst h; omega
omit [Inhabited α] in
theorem eff_row {ops : Array Oper} {o : Oper} {e : Env} {t : TypeId} {p x : Operand} {E : α → AV} {nm s off j : Nat} {d : Array α} {tl : List AV} {z : α} (hg : o.guard = none) (ho : o.op = .store t p x) (hd : o.dst = none) (hp : e.ev p = .bp (nm, s) off) (hoff : off = j)
    (hx : e.ev x = E z) (h1 : isOne (E z) = true) (h2 : okCell (E z) = true) (hcs : hget nm e.h.bx = some (s, rowG E d tl)) (ht : (P.underlying t).isSome = true) (hn : P.cellsOf t = 1) (hj : j < d.size) :
    Eff P ops [] o e fun _ h' => h' = { e.h with bx := hset nm (rowG E (d.setIfInBounds j z) tl) e.h.bx } := by
  subst hoff
  have hcl : (E z).cells = [E z] := by cases h : E z <;> first | rfl | (rw [h] at h1; simp [isOne] at h1)
  have k := eff_store (P := P) (ops := ops) (B := []) (E := e) (cs := rowG E d tl) (i := (nm, s)) hg ho hd hp hcs (by rw [hx]; exact h2) (by rw [hx, hcl]; simp [h1]) ht (by rw [hx, hcl, hn]; rfl) (by rw [hx, hcl]; exact rowG_in hj) (fun _ _ _ h => by cases h)
  rw [hx, hcl, rowG_set hj] at k
  exact k
theorem now_row {ops : Array Oper} {o : Oper} {e : Env} {t : TypeId} {td : TypeDesc} {p : Operand} {E : α → AV} {nm s off j : Nat} {d : Array α} {tl : List AV} (hg : o.guard = none) (ho : o.op = .load t p) (hp : e.ev p = .bp (nm, s) off) (hoff : off = j)
    (hcs : hget nm e.h.bx = some (s, rowG E d tl)) (ht : P.underlying t = some td) (ha : agD td = false) (hj : j < d.size) : PureNow P ops o e (E d[j]!) := by
  subst hoff
  refine now_apure hg (C := some (s = s ∧ off < (rowG E d tl).length)) ?_ ⟨rfl, by rw [rowG_len]; omega⟩
  rw [← rowG_get (E := E) (tl := tl) hj]
  show apure P o.op e = _
  rw [ho]
  simp only [apure, aload, hp, hcs, ht, ha, cond_false]
end
end Go.Vl

/- Rows in boxes of one's own: append onto them (in place, or into a new box), cut them. -/
namespace Go.Vl
open Go.RowKit
variable {P : Program}

theorem AOp.any {o : Oper} {E : Env} {K : Env → Prop} {Kp : AV → Env → Prop} (h : AOp P o E K) : AOp P o E K Kp := fun ro X M w0 a w g hs next Q hn _ => h ro X M w0 a w g hs next Q hn fun _ _ _ _ _ _ h => h.elim
theorem news_one {w : World} {X : Nat → Nat → Prop} {g : List Nat} {m sz : Nat} {f' : Nat → AV} {news : List Value} (hpos : 0 < sz) (hnl : news.length = m * sz) (hncs : ∀ i, i < m → (f' i).cells.length = sz)
    (hnr : ∀ (i j : Nat) (c : AV) (u : Value), i < m → (f' i).cells[j]? = some c → news[i * sz + j]? = some u → Rep w X g c u) (hone : oneRow m f') : ∀ u ∈ news, u.oneCell' = true := by
  intro u hu
  obtain ⟨k, hk, hku⟩ := List.getElem_of_mem hu
  have hdm := Nat.div_add_mod k sz
  have hmod := Nat.mod_lt k hpos
  have hdiv : k / sz < m := by rw [Nat.div_lt_iff_lt_mul hpos]; omega
  have hlt : k % sz < (f' (k / sz)).cells.length := by rw [hncs _ hdiv]; exact hmod
  have hrep := hnr (k / sz) (k % sz) _ u hdiv (List.getElem?_eq_getElem hlt) (by
    rw [Nat.mul_comm, hdm, List.getElem?_eq_getElem hk, hku])
  exact isOne_sound (List.all_eq_true.1 (hone _ hdiv) _ (List.getElem_mem hlt)) hrep
theorem news_rep {w : World} {X : Nat → Nat → Prop} {g : List Nat} {m sz : Nat} {f' : Nat → AV} {news : List Value} (hpos : 0 < sz) (hnl : news.length = m * sz) (hncs : ∀ i, i < m → (f' i).cells.length = sz)
    (hnr : ∀ (i j : Nat) (c : AV) (u : Value), i < m → (f' i).cells[j]? = some c → news[i * sz + j]? = some u → Rep w X g c u) :
    ∀ (k : Nat) (c : AV) (u : Value), (rowCells m f')[k]? = some c → news[k]? = some u → Rep w X g c u := by
  intro k c u hc hu
  obtain ⟨rl, rg⟩ := rowCells_get hncs
  have hk : k < m * sz := by rw [← hnl]; exact (List.getElem?_eq_some_iff.1 hu).1
  have hdm := Nat.div_add_mod k sz
  have hmod := Nat.mod_lt k hpos
  have hdiv : k / sz < m := by rw [Nat.div_lt_iff_lt_mul hpos]; exact hk
  have e : k = k / sz * sz + k % sz := by rw [Nat.mul_comm]; exact hdm.symm
  rw [e, rg _ _ hdiv hmod] at hc
  exact hnr _ _ c u hdiv hc (by rw [← e]; exact hu)
/-- A row in a box grows by another row. -/
theorem aop_appendB {o : Oper} {E : Env} {K : Env → Prop} {Kp : AV → Env → Prop} {s x : Operand} {t e : TypeId} {n szx m cap : Nat} {f' : Nat → AV} {i : Id} {cs : List AV}
    (ho : o.op = .call { callee := .builtin .append, args := #[s, x], argTypes := #[t, t] }) (hs : E.ev s = .hs i 0 n cap)
    (hx : E.ev x = .sl szx m f' ∨ ∃ oj, E.ev x = .os szx m f' oj)
    (ht : P.underlying t = some (.slice e)) (hg : growOk P e = true) (hszx : m = 0 ∨ szx = P.cellsOf e)
    (hcs : hget i.1 E.h.bx = some (i.2, cs)) (hcap : n ≤ cap) (hcl : cap * P.cellsOf e ≤ cs.length) (hone : oneRow m f')
    (hroom0 : m ≠ 0 → (n + m) * P.bytesOf e ≤ 140737488355328) (hlen0 : m ≠ 0 → n + m ≤ 9223372036854775807)
    (hk0 : m = 0 → K (E.set o.dst (.hs i 0 n cap)))
    (hk1 : m ≠ 0 → n + m ≤ cap → K (({ E with h := { E.h with bx := hset i.1 (splice cs (n * P.cellsOf e) (rowCells m f')) E.h.bx } } : Env).set o.dst (.hs i 0 (n + m) cap)))
    (hk2 : m ≠ 0 → ¬ n + m ≤ cap → ∀ ncap, n + m ≤ ncap → K (({ E with h := E.h.add (cs.take (n * P.cellsOf e) ++ rowCells m f' ++ List.replicate ((ncap - (n + m)) * P.cellsOf e) .any) } : Env).set o.dst (.hs (E.h.nn, E.h.nx) 0 (n + m) ncap))) : AOp P o E K Kp := by
  intro ro X M w0 a w g hst next Q hn hpan
  obtain ⟨inf, z, hi, hz, hzs, hsi, hpos, hby⟩ := growOk_spec hg
  have hmem := hget_mem hcs
  obtain ⟨b, hgb, vs, ev, hb, hvs, hr⟩ := hst.hok.bx _ hmem
  dsimp only at hgb hvs hr
  have hsv : a.eval s = .slice (some ⟨b, 0, none⟩) n cap := by
    have := hst.ev s
    rw [hs] at this
    generalize a.eval s = u at this
    cases this with
    | hs _ _ _ _ b' hg' => rw [hgb] at hg'; cases hg'; rfl
  have hxr : Rep w (excl X g E.h) g (.sl szx m f') (a.eval x) := by
    have := hst.ev x
    rcases hx with hx | ⟨oj, hx⟩
    · rw [hx] at this; exact this
    · rw [hx] at this; exact sl_of_os this
  have hexec : ∀ {u : Value} {w' : World}, (Builtin.append_ #[t, t] o.type #[a.eval s, a.eval x]).run P w = .ok u w' → (execOp a.eval o).run P w = .ok (.value u) w' := by
    intro u w' h
    unfold execOp
    simp only [ho, resolve]
    simp [invoke, builtin, h]
  by_cases hm : m = 0
  · subst hm
    have hrun : (Builtin.append_ #[t, t] o.type #[a.eval s, a.eval x]).run P w = .ok (a.eval s) w := by
      have key : ∀ (xb : Option Addr) (xc : Nat), (Builtin.append_ #[t, t] o.type #[.slice (some ⟨b, 0, none⟩) n cap, .slice xb 0 xc]).run P w = .ok (.slice (some ⟨b, 0, none⟩) n cap) w := by
        intro xb xc
        have hfc : (Builtin.firstCells inf.size 0 (.slice xb 0 xc)).run P w = .ok #[] w := by
          cases xb with
          | none => simp [Builtin.firstCells]
          | some ad => simpa using run_firstCells_some (P := P) w inf.size 0 ad 0 xc [] (by simp) (by simp)
        simp [Builtin.append_, run_underlying ht, sizeOf, typeInfo, hi, Builtin.lenOf, hcap, hfc, storeCells]
      rw [hsv]
      generalize a.eval x = ux at hxr
      cases hxr with
      | sl0 _ _ xa xc => exact key _ _
      | sl _ _ _ b off cap vs hlen' hcap => exact key _ _
    refine wpIn_of_run (by rw [ho]; intro c h; cases h) ?_
    rw [hexec hrun]
    have := hst.ev s
    rw [hs] at this
    exact hn _ _ _ g (hk0 rfl) (fun _ _ h => h) (hst.put o.dst this)
  · have hroom := hroom0 hm
    have hlen := hlen0 hm
    have hszx' : szx = P.cellsOf e := hszx.resolve_left hm
    subst hszx'
    obtain ⟨ax, xcap, news, hxv, hnl, hncell, hncs, hnr⟩ := app_slice hxr hm
    have hnone := news_one hpos hnl hncs hnr hone
    have hnrep := news_rep hpos hnl hncs hnr
    obtain ⟨rl, rg⟩ := rowCells_get hncs
    have hvl : vs.toList.length = cs.length := by simpa using hvs
    by_cases hfit : n + m ≤ cap
    · have hnm : (n + m) * P.cellsOf e ≤ cap * P.cellsOf e := Nat.mul_le_mul_right _ hfit
      rw [Nat.add_mul] at hnm
      have hr2 := run_append_in (P := P) w t o.type e ev inf ht hi b n cap vs hb ax m xcap news (by rw [hnl, hsi]) hncell hnone hfit (by rw [hsi, hnl]; omega)
      rw [hsi] at hr2
      have hnew := hst.setRow (cs := splice cs (n * P.cellsOf e) (rowCells m f')) (vs := (vs.toList.take (n * P.cellsOf e) ++ news ++ vs.toList.drop (n * P.cellsOf e + news.length)).toArray) hcs hgb hb
        (by simp only [splice_def, List.length_append, List.length_take, List.length_drop, Array.length_toList, rl, hnl]; omega)
        (by simp only [List.size_toArray, List.length_append, List.length_take, List.length_drop, Array.length_toList, hnl]; omega)
        (fun k c u hk1 hk2 => by
          simp only [List.append_assoc] at hk2
          rw [splice_get _ _ _ (by simp only [Array.length_toList]; omega)] at hk2
          rw [splice_def] at hk1
          rw [splice_get _ _ _ (by rw [rl]; omega)] at hk1
          rw [hnl] at hk2
          rw [rl] at hk1
          split at hk1
          · rename_i h2; rw [if_pos h2] at hk2; exact hr k c u hk1 (by simpa using hk2)
          · rename_i h2
            rw [if_neg h2] at hk2
            split at hk1
            · rename_i h3; rw [if_pos h3] at hk2; exact hnrep _ c u hk1 hk2
            · rename_i h3; rw [if_neg h3] at hk2; exact hr k c u hk1 (by simpa using hk2))
      refine wpIn_of_run (by rw [ho]; intro c h; cases h) ?_
      rw [hexec (by rw [hsv, hxv]; exact hr2)]
      exact hn _ _ _ g (hk1 hm hfit) (fun _ _ h => h) (hnew.put o.dst (.hs _ _ _ _ b hgb))
    · have hnc : n * P.cellsOf e ≤ cap * P.cellsOf e := Nat.mul_le_mul_right _ hcap
      have hol : (vs.toList.take (n * P.cellsOf e)).length = n * P.cellsOf e := by rw [List.length_take]; omega
      have hocell : ∀ (j : Nat) (u : Value), (vs.toList.take (n * P.cellsOf e))[j]? = some u → w.cell? ((⟨b, 0, none⟩ : Addr).add j) = some u := fun j u hu => by
        rw [add_none, Nat.zero_add, cell_of_block hb]
        rw [List.getElem?_take] at hu
        split at hu
        · simpa using hu
        · cases hu
      have hr2 := run_append_grow (P := P) w t o.type e inf z ht hi hz ⟨b, 0, none⟩ n cap (vs.toList.take (n * P.cellsOf e)) (by rw [hol, hsi]) hocell ax m xcap news (by rw [hnl, hsi]) hncell (by omega) (by omega) (growslice_fits (by omega) (by rw [hby]; exact hroom))
      have hge := grownCap_ge w (n + m) cap e
      generalize grownCap w (n + m) cap e = ncap at hr2 hge
      have hst2 := hst.drew
      obtain ⟨h3, h4⟩ := hst2.box (cs := cs.take (n * P.cellsOf e) ++ rowCells m f' ++ List.replicate ((ncap - (n + m)) * P.cellsOf e) .any) (vs := (vs.toList.take (n * P.cellsOf e)).toArray ++ news.toArray ++ Builtin.zeroCells z.cells (ncap - (n + m))) e
        (by simp only [Array.toList_append, List.length_append, Array.length_toList, size_zeroCells, hzs, List.length_take, List.length_replicate, rl, hnl, List.size_toArray]; omega)
        (fun k c u hc hu => by
          have hevo : Evo none2 w w.drew := evo_drew w
          simp only [Array.toList_append] at hu
          rw [List.append_assoc] at hc hu
          by_cases h1 : k < n * P.cellsOf e
          · rw [List.getElem?_append_left (by rw [List.length_take]; omega), List.getElem?_take, if_pos h1] at hc
            rw [List.getElem?_append_left (by simp only [List.length_take, Array.length_toList] at *; omega)] at hu
            rw [List.getElem?_take, if_pos h1] at hu
            exact (hr k c u hc (by simpa using hu)).evo0 hevo
          · rw [List.getElem?_append_right (by rw [List.length_take]; omega), List.length_take, Nat.min_eq_left (by omega)] at hc
            rw [List.getElem?_append_right (by simp only [List.length_take, Array.length_toList] at *; omega)] at hu
            simp only [hol] at hu
            by_cases h2 : k - n * P.cellsOf e < m * P.cellsOf e
            · rw [List.getElem?_append_left (by rw [rl]; exact h2)] at hc
              rw [List.getElem?_append_left (by rw [hnl]; exact h2)] at hu
              exact (hnrep _ c u hc hu).evo0 hevo
            · rw [List.getElem?_append_right (by rw [rl]; omega)] at hc
              have := List.mem_of_getElem? hc
              rw [(List.mem_replicate.1 this).2]
              exact .any _)
      refine wpIn_of_run (by rw [ho]; intro c h; cases h) ?_
      rw [hexec (by rw [hsv, hxv]; exact hr2)]
      refine hn _ _ _ _ (hk2 hm hfit ncap hge) (fun i b h => by rw [List.getElem?_append_left (List.getElem?_eq_some_iff.1 h).1]; exact h) (h3.put o.dst ?_)
      refine .hs _ _ _ _ w.heap.size ?_
      generalize hX : excl X (g ++ [w.drew.heap.size]) (E.h.add (cs.take (n * P.cellsOf e) ++ rowCells m f' ++ List.replicate ((ncap - (n + m)) * P.cellsOf e) .any)) = X2 at h4
      cases h4 with
      | bp _ _ b' hg' => exact hg'
theorem box_rep {w : World} {X : Nat → Nat → Prop} {g : List Nat} {i : Id} {b : Nat} (h : Rep w X g (.bp i 0) (.pointer (some ⟨b, 0, none⟩))) : g[i.2]? = some b := by
  cases h with
  | bp _ _ b' hg' => exact hg'
/-- An empty row that nobody owns grows into a box. -/
theorem aop_appendB0 {o : Oper} {E : Env} {K : Env → Prop} {Kp : AV → Env → Prop} {s x : Operand} {t e : TypeId} {sz szx m : Nat} {f f' : Nat → AV}
    (ho : o.op = .call { callee := .builtin .append, args := #[s, x], argTypes := #[t, t] }) (hs : E.ev s = .os sz 0 f none)
    (hx : E.ev x = .sl szx m f' ∨ ∃ oj, E.ev x = .os szx m f' oj)
    (ht : P.underlying t = some (.slice e)) (hg : growOk P e = true) (hszx : szx = P.cellsOf e) (hm : m ≠ 0) (hone : oneRow m f')
    (hroom : m * P.bytesOf e ≤ 140737488355328) (hlen : m ≤ 9223372036854775807)
    (hk2 : ∀ ncap, m ≤ ncap → K (({ E with h := E.h.add (rowCells m f' ++ List.replicate ((ncap - m) * P.cellsOf e) .any) } : Env).set o.dst (.hs (E.h.nn, E.h.nx) 0 m ncap))) : AOp P o E K Kp := by
  intro ro X M w0 a w g hst next Q hn hpan
  obtain ⟨inf, z, hi, hz, hzs, hsi, hpos, hby⟩ := growOk_spec hg
  subst hszx
  have hxr : Rep w (excl X g E.h) g (.sl (P.cellsOf e) m f') (a.eval x) := by
    have := hst.ev x
    rcases hx with hx | ⟨oj, hx⟩
    · rw [hx] at this; exact this
    · rw [hx] at this; exact sl_of_os this
  have hexec : ∀ {u : Value} {w' : World}, (Builtin.append_ #[t, t] o.type #[a.eval s, a.eval x]).run P w = .ok u w' → (execOp a.eval o).run P w = .ok (.value u) w' := by
    intro u w' h
    unfold execOp
    simp only [ho, resolve]
    simp [invoke, builtin, h]
  obtain ⟨ax, xcap, news, hxv, hnl, hncell, hncs, hnr⟩ := app_slice hxr hm
  have hnrep := news_rep hpos hnl hncs hnr
  obtain ⟨rl, rg⟩ := rowCells_get hncs
  have hrun : ∃ ncap, m ≤ ncap ∧ (Builtin.append_ #[t, t] o.type #[a.eval s, a.eval x]).run P w = .ok (.slice (some ⟨w.heap.size, 0, none⟩) m ncap) (w.drew.alloc (.cells (news.toArray ++ Builtin.zeroCells z.cells (ncap - m)) e)) := by
    have hsr := hst.ev s
    rw [hs] at hsr
    rw [hxv]
    generalize a.eval s = us at hsr
    have key : ∀ ad : Option Addr, us = .slice ad 0 0 → ∃ ncap, m ≤ ncap ∧ (Builtin.append_ #[t, t] o.type #[us, .slice (some ax) m xcap]).run P w = .ok (.slice (some ⟨w.heap.size, 0, none⟩) m ncap) (w.drew.alloc (.cells (news.toArray ++ Builtin.zeroCells z.cells (ncap - m)) e)) := by
      rintro ad rfl
      cases ad with
      | none => exact ⟨_, grownCap_ge w m 0 e, run_append_nil (P := P) w t o.type e inf z ht hi hz ax m xcap news (by rw [hnl, hsi]) hncell (by omega) (by omega) (by rw [hby]; omega)⟩
      | some ad =>
        have hr := run_append_grow (P := P) w t o.type e inf z ht hi hz ad 0 0 [] (by simp) (by simp) ax m xcap news (by rw [hnl, hsi]) hncell (by omega) (by omega) (growslice_fits (by omega) (by rw [hby, Nat.zero_add]; exact hroom))
        rw [Nat.zero_add] at hr
        exact ⟨_, grownCap_ge w m 0 e, by simpa using hr⟩
    cases hsr with
    | os0 _ _ ad => exact key ad rfl
    | osn _ _ _ b off vs => exact key _ rfl
  obtain ⟨ncap, hnc, hr⟩ := hrun
  obtain ⟨h3, h4⟩ := hst.drew.box (cs := rowCells m f' ++ List.replicate ((ncap - m) * P.cellsOf e) .any) (vs := news.toArray ++ Builtin.zeroCells z.cells (ncap - m)) e
    (by simp only [Array.toList_append, List.length_append, Array.length_toList, size_zeroCells, hzs, List.length_replicate, rl, hnl])
    (fun k c u hc hu => by
      simp only [Array.toList_append] at hu
      by_cases h2 : k < m * P.cellsOf e
      · rw [List.getElem?_append_left (by rw [rl]; exact h2)] at hc
        rw [List.getElem?_append_left (by rw [hnl]; exact h2)] at hu
        exact (hnrep _ c u hc hu).evo0 (evo_drew w)
      · rw [List.getElem?_append_right (by rw [rl]; omega)] at hc
        have := List.mem_of_getElem? hc
        rw [(List.mem_replicate.1 this).2]
        exact .any _)
  refine wpIn_of_run (by rw [ho]; intro c h; cases h) ?_
  rw [hexec hr]
  exact hn _ _ _ _ (hk2 ncap hnc) (fun i b h => by rw [List.getElem?_append_left (List.getElem?_eq_some_iff.1 h).1]; exact h) (h3.put o.dst (.hs _ _ _ _ w.heap.size (box_rep h4)))
/-- Zeros, in a box of one's own: append(nil, make([]E, m)...). -/
theorem aop_appendZB0 {o : Oper} {E : Env} {K : Env → Prop} {Kp : AV → Env → Prop} {s x : Operand} {t e : TypeId} {sz m : Nat} {f : Nat → AV} {tn : TypeId} {kn kq : IntKind}
    (ho : o.op = .call { callee := .builtin .append, args := #[s, x], argTypes := #[t, tn] }) (hs : E.ev s = .os sz 0 f none)
    (hx : E.ev x = .v (.int kq m)) (hm : m ≠ 0) (htn : P.underlying tn = some (.int kn)) (ht : P.underlying t = some (.slice e)) (hg : growOk P e = true)
    (hroom : m * P.bytesOf e ≤ 140737488355328) (hlen : m ≤ 9223372036854775807)
    (hk2 : ∀ ncap, m ≤ ncap → K (({ E with h := E.h.add (List.replicate (ncap * P.cellsOf e) .any) } : Env).set o.dst (.hs (E.h.nn, E.h.nx) 0 m ncap))) : AOp P o E K Kp := by
  intro ro X M w0 a w g hst next Q hn hpan
  obtain ⟨inf, z, hi, hz, hzs, hsi, hpos, hby⟩ := growOk_spec hg
  have hxv : a.eval x = .int kq m := by
    have := hst.ev x
    rw [hx] at this
    generalize a.eval x = u at this
    cases this; rfl
  have hexec : ∀ {u : Value} {w' : World}, (Builtin.append_ #[t, tn] o.type #[a.eval s, a.eval x]).run P w = .ok u w' → (execOp a.eval o).run P w = .ok (.value u) w' := by
    intro u w' h
    unfold execOp
    simp only [ho, resolve]
    simp [invoke, builtin, h]
  have hrun : ∃ ncap, m ≤ ncap ∧ (Builtin.append_ #[t, tn] o.type #[a.eval s, a.eval x]).run P w = .ok (.slice (some ⟨w.heap.size, 0, none⟩) m ncap) (w.drew.alloc (.cells (([] : List Value).toArray ++ Builtin.zeroCells z.cells m ++ Builtin.zeroCells z.cells (ncap - m)) e)) := by
    have hsr := hst.ev s
    rw [hs] at hsr
    rw [hxv]
    generalize a.eval s = us at hsr
    have key : ∀ ad : Option Addr, us = .slice ad 0 0 → ∃ ncap, m ≤ ncap ∧ (Builtin.append_ #[t, tn] o.type #[us, .int kq m]).run P w = .ok (.slice (some ⟨w.heap.size, 0, none⟩) m ncap) (w.drew.alloc (.cells (([] : List Value).toArray ++ Builtin.zeroCells z.cells m ++ Builtin.zeroCells z.cells (ncap - m)) e)) := by
      rintro ad rfl
      have hr := Go.Lib.run_append_grow_zeros (P := P) w t tn o.type e inf z kq kn ht htn hi hz ad 0 0 [] (by cases ad with
        | none => simp [Builtin.firstCells]
        | some a0 => simpa using run_firstCells_some (P := P) w.drew inf.size 0 a0 0 0 [] (by simp) (by simp)) m (by omega) (by omega) (by omega) (by omega) (by rw [hby]; omega) (growslice_fits (by omega) (by rw [hby, Nat.zero_add]; exact hroom))
      rw [Nat.zero_add] at hr
      exact ⟨_, grownCap_ge w m 0 e, hr⟩
    cases hsr with
    | os0 _ _ ad => exact key ad rfl
    | osn _ _ _ b off vs => exact key _ rfl
  obtain ⟨ncap, hnc, hr⟩ := hrun
  obtain ⟨h3, h4⟩ := hst.drew.box (cs := List.replicate (ncap * P.cellsOf e) .any) (vs := ([] : List Value).toArray ++ Builtin.zeroCells z.cells m ++ Builtin.zeroCells z.cells (ncap - m)) e
    (by
      simp only [Array.toList_append, List.length_append, Array.length_toList, size_zeroCells, hzs, List.length_replicate, List.length_nil, Nat.zero_add, ← Nat.add_mul]
      congr 1; omega)
    (fun k c u hc hu => by
      have := List.mem_of_getElem? hc
      rw [(List.mem_replicate.1 this).2]
      exact .any _)
  refine wpIn_of_run (by rw [ho]; intro c h; cases h) ?_
  rw [hexec hr]
  exact hn _ _ _ _ (hk2 ncap hnc) (fun i b h => by rw [List.getElem?_append_left (List.getElem?_eq_some_iff.1 h).1]; exact h) (h3.put o.dst (.hs _ _ _ _ w.heap.size (box_rep h4)))
/-- The front of a row in a box. -/
theorem yields_cutB {o : Oper} {E : Env} {t e : TypeId} {x hi : Operand} {n l cap : Nat} {i : Id} {k' : IntKind} {d : TypeDesc} (ho : o.op = .slice t x none (some hi) none) (hx : E.ev x = .hs i 0 n cap)
    (hhi : E.ev hi = .v (.int k' (l : Int))) (ht : P.underlying t = some (.slice e)) (hd : P.underlying e = some d) (hl : l ≤ cap) (hc : 0 < cap) : Yields P o E (.hs i 0 l cap) := by
  refine ⟨(by rw [ho]; intro c hc; cases hc), fun ρ w X g hk hr => .inl ?_⟩
  have r1 := hr x (by rw [ho]; simp [Op.operands])
  have r3 := hr hi (by rw [ho]; simp [Op.operands])
  rw [hx] at r1; rw [hhi] at r3
  have e3 := rep_v r3
  generalize hu : ρ x = u at r1
  cases r1 with
  | hs _ _ _ _ b hgb =>
    have hN : (Instr.sliceBounds true n cap none (some (.int k' (l : Int))) none).run P w = .ok (0, l, cap) w := by
      have e5 : (0 : Int) ≤ (l : Int) := by omega
      have e6 : (l : Int) ≤ (cap : Int) := by omega
      simp [Instr.sliceBounds, Instr.sliceBound, asIntOf, hl]
    have hcl : ¬ cap = 0 := by omega
    refine ⟨.slice (some ⟨b, 0, none⟩) l cap, w, ?_, Evo.refl _ _, .hs _ _ _ _ b hgb⟩
    unfold execOp
    simp only [ho, hu, Option.map_some, e3, Option.map_none]
    refine run_value ?_
    simp [Instr.sliceAt, Sem.run_bind, run_underlying ht, Result.andThen_ok, Instr.slice, hN, run_sizeOf' hd, Sem.run_pure, add_none, hcl]
theorem aop_cutB {o : Oper} {E : Env} {K : Env → Prop} {Kp : AV → Env → Prop} {t e : TypeId} {x hi : Operand} {n l cap : Nat} {i : Id} {k' : IntKind} {d : TypeDesc} (ho : o.op = .slice t x none (some hi) none) (hx : E.ev x = .hs i 0 n cap)
    (hhi : E.ev hi = .v (.int k' (l : Int))) (ht : P.underlying t = some (.slice e)) (hd : P.underlying e = some d) (hl : l ≤ cap) (hc : 0 < cap) (hk : K (E.set o.dst (.hs i 0 l cap))) : AOp P o E K Kp :=
  AOp.of_yields (yields_cutB ho hx hhi ht hd hl hc) hk
end Go.Vl

/- An empty row that nobody owns: what room it has, its front. -/
namespace Go.Vl
open Go.RowKit
variable {P : Program}

theorem empty_val {w : World} {X : Nat → Nat → Prop} {g : List Nat} {sz : Nat} {f : Nat → AV} {u : Value} (h : Rep w X g (.os sz 0 f none) u) : ∃ ad, u = .slice ad 0 0 := by
  cases h with
  | os0 _ _ ad => exact ⟨ad, rfl⟩
  | osn _ _ _ b off vs => exact ⟨_, rfl⟩
theorem aop_cap0 {o : Oper} {E : Env} {K : Env → Prop} {Kp : AV → Env → Prop} {x : Operand} {t e : TypeId} {sz : Nat} {f : Nat → AV} (ho : o.op = .call { callee := .builtin .cap, args := #[x], argTypes := #[t] })
    (hx : E.ev x = .os sz 0 f none) (ht : P.underlying t = some (.slice e)) (hk : K (E.set o.dst (.v (.int .i64 0)))) : AOp P o E K Kp := by
  refine AOp.of_yields (r := .v (.int .i64 0)) ⟨(by rw [ho]; intro c hc; cases hc), fun ρ w X g hk hr => .inl ?_⟩ hk
  have r1 := hr x (by rw [ho]; simp [Op.operands, Call.operands])
  rw [hx] at r1
  obtain ⟨ad, hu⟩ := empty_val r1
  refine ⟨.int .i64 0, w, ?_, Evo.refl _ _, .v _⟩
  unfold execOp
  simp only [ho, resolve]
  simp [invoke, builtin, hu, Builtin.cap_, run_underlying ht, goInt]
theorem aop_cut0 {o : Oper} {E : Env} {K : Env → Prop} {Kp : AV → Env → Prop} {t e : TypeId} {x hi : Operand} {sz : Nat} {f : Nat → AV} {k' : IntKind} {d : TypeDesc} (ho : o.op = .slice t x none (some hi) none) (hx : E.ev x = .os sz 0 f none)
    (hhi : E.ev hi = .v (.int k' 0)) (ht : P.underlying t = some (.slice e)) (hd : P.underlying e = some d) (hk : K (E.set o.dst (.os sz 0 f none))) : AOp P o E K Kp := by
  refine AOp.of_yields (r := .os sz 0 f none) ⟨(by rw [ho]; intro c hc; cases hc), fun ρ w X g hk hr => .inl ?_⟩ hk
  have r1 := hr x (by rw [ho]; simp [Op.operands])
  have r3 := hr hi (by rw [ho]; simp [Op.operands])
  rw [hx] at r1; rw [hhi] at r3
  have e3 := rep_v r3
  obtain ⟨ad, hu⟩ := empty_val r1
  have hN : (Instr.sliceBounds true 0 0 none (some (.int k' 0)) none).run P w = .ok (0, 0, 0) w := by
    simp [Instr.sliceBounds, Instr.sliceBound, asIntOf]
  cases ad with
  | none =>
    refine ⟨.slice none 0 0, w, ?_, Evo.refl _ _, .os0 _ _ _⟩
    unfold execOp
    simp only [ho, hu, Option.map_some, e3, Option.map_none]
    refine run_value ?_
    simp [Instr.sliceAt, Sem.run_bind, run_underlying ht, Result.andThen_ok, Instr.slice, hN, run_sizeOf' hd, Sem.run_pure, add_none]
  | some ad =>
    refine ⟨.slice (some ad) 0 0, w, ?_, Evo.refl _ _, .os0 _ _ _⟩
    unfold execOp
    simp only [ho, hu, Option.map_some, e3, Option.map_none]
    refine run_value ?_
    simp [Instr.sliceAt, Sem.run_bind, run_underlying ht, Result.andThen_ok, Instr.slice, hN, run_sizeOf' hd, Sem.run_pure, add_none]
end Go.Vl

namespace Go.Vl
variable {P : Program}
/-- aop_callF where the part the callee has stands in front and stays there. -/
theorem aop_callP {o : Oper} {E : Env} {K : Env → Prop} {Kp : AV → Env → Prop} {fo : Operand} {args : Array Operand} {tys : Array TypeId} {f : FuncId} {first caps xs : List AV} {h1 : Heap} {Q : AV → Heap → Prop} {bx1 : List (Id × Own)} {pm1 : List (Id × Nat)}
    (rb : List (Id × Own)) (rp : List (Id × Nat)) (nn : Nat) (ho : o.op = .call { callee := .value fo, args := args, argTypes := tys }) (hf : E.ev fo = .fn (.func f) first caps) (hbx : E.h.bx = bx1 ++ rb) (hpm : E.h.pm = rp ++ pm1)
    (hl : LeL (first ++ args.toList.map E.ev ++ caps) xs) (hc : ECall P f xs h1 Q) (hbl : BxLe bx1 h1.bx) (hpe : PmEq pm1 h1.pm) (hn : h1.nx = E.h.nx)
    (hk : ∀ r h', Q r h' → K (({ E with h := ⟨h'.bx ++ rb, rp ++ h'.pm, h'.nx, nn⟩ } : Env).set o.dst r)) : AOp P o E K Kp := by
  have h2 : ECall P f xs ⟨bx1, pm1, h1.nx, h1.nn⟩ Q := hc.tell hbl hpe rfl
  have h3 := (ECall.frame (h := E.h) h2 rb rp (by rw [hbx]) (by rw [hpm]; exact List.perm_append_comm) hn).args hl
  refine aop_call ho hf h3 fun r h' hq => ?_
  obtain ⟨h1', q1, rfl⟩ := hq
  exact ⟨r, ⟨h1'.bx ++ rb, rp ++ h1'.pm, h1'.nx, nn⟩, AVle.refl _, ⟨.refl _, List.perm_append_comm.map _, rfl⟩, hk r h1' q1⟩
theorem AVle.fn_caps {f : Fn} {cs ds : List AV} (h : LeL cs ds) : AVle (.fn f [] cs) (.fn f [] ds) := by
  intro w X g u hr
  cases hr with
  | fn _ _ _ v1 v2 n1 n2 r1 r2 =>
    refine .fn _ _ _ v1 v2 n1 (n2.trans h.get.1) r1 ?_
    intro k c u hc hu
    have hk : k < cs.length := by rw [h.get.1]; exact (List.getElem?_eq_some_iff.1 hc).1
    exact h.get.2 k _ c (List.getElem?_eq_getElem hk) hc w X g u (r2 k _ u (List.getElem?_eq_getElem hk) hu)
theorem agd_congr {ops : Array Oper} {o : Oper} {E E' : Env} {j : Nat} {want : Bool} {x : Option Bool} (hg : o.guard = some (j, want)) (ht : ∀ k, k ∈ o.looksAt ops → E'.t k = E.t k) (h : agb (agd ops E j) = some x) : agb (agd ops E' j) = some x := by
  unfold agd at h ⊢
  cases hd : (ops[j]?).bind (·.dst) with
  | none => simp [hd, agb] at h
  | some d => simp only [hd] at h ⊢; rw [ht d (mem_looks_of_guard hg hd)]; exact h
/-- A guarded operation whose guard says no, wherever it stands. -/
theorem pure_no {ops : Array Oper} {B : List (Id × Own)} {o : Oper} {E : Env} {j : Nat} {want c : Bool} (hg : o.guard = some (j, want)) (hd : agb (agd ops E j) = some (some c)) (hc : (c == want) = false) : PureAll P ops B o E (.v undef) := fun E' _ ht => by
  unfold GY
  simp only [hg]
  exact ⟨some c, agd_congr hg ht hd, .inr ⟨(fun h => by rw [Option.some.inj h, beq_self_eq_true] at hc; cases hc), trivial⟩⟩
/-- One whose guard says yes, by the table. -/
theorem pure_yes {ops : Array Oper} {B : List (Id × Own)} {o : Oper} {E : Env} {j : Nat} {want c : Bool} {C : Option Prop} {r : AV} (hg : o.guard = some (j, want)) (hd : agb (agd ops E j) = some (some c)) (hc : (c == want) = true)
    (hp : apure P o.op { E with h := ⟨B, [], 0, 0⟩ } = some (C, r)) (hC : condP C) : PureAll P ops B o E r := fun E' hb ht => by
  unfold GY
  simp only [hg]
  exact ⟨some c, agd_congr hg ht hd, .inl ⟨by rw [beq_iff_eq.1 hc], apure_sound (apure_more (E := { E with h := ⟨B, [], 0, 0⟩ }) (E' := E') hb (ev_congr (E := { E with h := ⟨B, [], 0, 0⟩ }) ht) hp) hC⟩⟩
end Go.Vl

/- Rows of elements of several cells in boxes of one's own: read, written, cleared; their tails. -/
namespace Go.Vl
open Go.RowKit
variable {P : Program}
section
variable {α : Type} [Inhabited α]
/-- A row in a box, of elements of several cells, and what room there is behind it. -/
def rowK (E : α → List AV) (d : Array α) (tl : List AV) : List AV := d.toList.flatMap E ++ tl
omit [Inhabited α] in
theorem flatE_len {E : α → List AV} {k : Nat} (hk : ∀ x, (E x).length = k) : ∀ l : List α, (l.flatMap E).length = l.length * k
  | [] => by simp
  | x :: l => by rw [List.flatMap_cons, List.length_append, hk, flatE_len hk l, List.length_cons, Nat.succ_mul]; omega
omit [Inhabited α] in
theorem rowK_len {E : α → List AV} {k : Nat} (hk : ∀ x, (E x).length = k) {d : Array α} {tl : List AV} : (rowK E d tl).length = d.size * k + tl.length := by
  unfold rowK; rw [List.length_append, flatE_len hk]; simp
omit [Inhabited α] in
theorem flatE_get {E : α → List AV} {k : Nat} (hk : ∀ x, (E x).length = k) {tl : List AV} : ∀ (l : List α) (i : Nat) (h : i < l.length), ((l.flatMap E ++ tl).drop (i * k)).take k = E l[i]
  | [], i, h => by cases h
  | x :: l, 0, _ => by
    rw [List.flatMap_cons, List.append_assoc, Nat.zero_mul, List.drop_zero, List.take_append_of_le_length (by rw [hk]; exact Nat.le_refl _), List.take_of_length_le (by rw [hk]; exact Nat.le_refl _)]; rfl
  | x :: l, i + 1, h => by
    have e : (E x ++ (l.flatMap E ++ tl)).drop ((i + 1) * k) = (l.flatMap E ++ tl).drop (i * k) := by
      rw [List.drop_append, List.drop_of_length_le (by rw [hk, Nat.succ_mul]; omega), hk, Nat.succ_mul, Nat.add_sub_cancel]; rfl
    rw [List.flatMap_cons, List.append_assoc, e]
    exact flatE_get hk l i (by simpa using h)
theorem rowK_get {E : α → List AV} {k : Nat} (hk : ∀ x, (E x).length = k) {d : Array α} {tl : List AV} {i : Nat} (hi : i < d.size) : ((rowK E d tl).drop (i * k)).take k = E d[i]! := by
  unfold rowK
  rw [flatE_get hk d.toList i (by simpa using hi)]
  simp [hi]
omit [Inhabited α] in
theorem splice_app {a b vs : List AV} {off : Nat} : splice (a ++ b) (a.length + off) vs = a ++ splice b off vs := by
  rw [splice_def, splice_def, List.take_append, List.drop_append]
  have h1 : a.take (a.length + off) = a := List.take_of_length_le (by omega)
  have h2 : a.drop (a.length + off + vs.length) = [] := List.drop_of_length_le (by omega)
  rw [h1, h2, show a.length + off - a.length = off by omega, show a.length + off + vs.length - a.length = off + vs.length by omega]
  simp
omit [Inhabited α] in
theorem splice_whole {a b vs : List AV} (h : a.length = vs.length) : splice (a ++ b) 0 vs = vs ++ b := by
  rw [splice_def, Nat.zero_add, ← h, List.drop_left']
  · simp
  · rfl
omit [Inhabited α] in
theorem flatE_set {E : α → List AV} {k : Nat} (hk : ∀ x, (E x).length = k) {tl : List AV} {x : α} : ∀ (l : List α) (i : Nat), i < l.length → splice (l.flatMap E ++ tl) (i * k) (E x) = (l.set i x).flatMap E ++ tl
  | [], i, h => by cases h
  | y :: l, 0, _ => by
    rw [List.flatMap_cons, List.append_assoc, Nat.zero_mul, splice_whole (by rw [hk, hk])]; simp [List.flatMap_cons]
  | y :: l, i + 1, h => by
    rw [List.flatMap_cons, List.append_assoc, Nat.succ_mul, Nat.add_comm, show k + i * k = (E y).length + i * k by rw [hk], splice_app, flatE_set hk l i (by simpa using h)]
    simp [List.flatMap_cons]
omit [Inhabited α] in
theorem rowK_set {E : α → List AV} {k : Nat} (hk : ∀ x, (E x).length = k) {d : Array α} {tl : List AV} {i : Nat} {x : α} (hi : i < d.size) : splice (rowK E d tl) (i * k) (E x) = rowK E (d.setIfInBounds i x) tl := by
  unfold rowK
  rw [flatE_set hk _ _ (by simpa using hi)]
  simp
omit [Inhabited α] in
theorem rowK_in {E : α → List AV} {k : Nat} (hk : ∀ x, (E x).length = k) {d : Array α} {tl : List AV} {i : Nat} (hi : i < d.size) : i * k + k ≤ (rowK E d tl).length := by
  rw [rowK_len hk, ← Nat.succ_mul]
  exact Nat.le_trans (Nat.mul_le_mul_right k hi) (Nat.le_add_right _ _)
theorem ixoK {x : Int} {i c k : Nat} (hc : c = k) (h : x = (i : Int)) : 0 + x.toNat * c = i * k := by subst hc; subst h; simp
theorem aload_rowK {E : α → List AV} {k : Nat} (hk : ∀ x, (E x).length = k) {h : Heap} {t : TypeId} {nm s off j : Nat} {d : Array α} {tl : List AV} (hcs : hget nm h.bx = some (s, rowK E d tl)) (ht : (P.underlying t).map agD = some true) (hn : P.cellsOf t = k) (hoff : off = j * k) (hj : j < d.size) :
    aload P t h (.bp (nm, s) off) = some (some (s = s), .ag (E d[j]!)) := by
  subst hoff
  obtain ⟨td, ht, ha⟩ := Option.map_eq_some_iff.1 ht
  have hl : Nat.ble (0 + k) ((rowK E d tl).drop (j * k)).length = true := Nat.ble_eq_true_of_le (by rw [List.length_drop]; have := rowK_in (tl := tl) hk hj; omega)
  unfold aload
  simp only [hcs, ht, ha, cond_true, apart, hn, hl, List.drop_zero, rowK_get hk hj, Option.map_some]
theorem apure_rowK {E : α → List AV} {k : Nat} (hk : ∀ x, (E x).length = k) {o : Op} {e : Env} {t : TypeId} {p : Operand} {nm s off j : Nat} {d : Array α} {tl : List AV} (ho : o = .load t p) (hp : e.ev p = .bp (nm, s) off) (hoff : off = j * k)
    (hcs : hget nm e.h.bx = some (s, rowK E d tl)) (ht : (P.underlying t).map agD = some true) (hn : P.cellsOf t = k) (hj : j < d.size) : apure P o e = some (some (s = s), .ag (E d[j]!)) := by
  rw [ho]
  show aload P t e.h (e.ev p) = _
  rw [hp]
  exact aload_rowK hk hcs ht hn hoff hj
theorem yields_rowK {E : α → List AV} {k : Nat} (hk : ∀ x, (E x).length = k) {o : Oper} {e : Env} {t : TypeId} {p : Operand} {nm s off j : Nat} {d : Array α} {tl : List AV} (ho : o.op = .load t p) (hp : e.ev p = .bp (nm, s) off) (hoff : off = j * k)
    (hcs : hget nm e.h.bx = some (s, rowK E d tl)) (ht : (P.underlying t).map agD = some true) (hn : P.cellsOf t = k) (hj : j < d.size) : Yields P o e (.ag (E d[j]!)) := by
  refine apure_sound (C := some (s = s)) ?_ rfl
  rw [ho]
  show aload P t e.h (e.ev p) = _
  rw [hp]
  exact aload_rowK hk hcs ht hn hoff hj
theorem now_rowK {E : α → List AV} {k : Nat} (hk : ∀ x, (E x).length = k) {ops : Array Oper} {o : Oper} {e : Env} {t : TypeId} {p : Operand} {nm s off j : Nat} {d : Array α} {tl : List AV} (hg : o.guard = none) (ho : o.op = .load t p) (hp : e.ev p = .bp (nm, s) off) (hoff : off = j * k)
    (hcs : hget nm e.h.bx = some (s, rowK E d tl)) (ht : (P.underlying t).map agD = some true) (hn : P.cellsOf t = k) (hj : j < d.size) : PureNow P ops o e (.ag (E d[j]!)) := by
  refine now_apure hg (C := some (s = s)) ?_ rfl
  rw [ho]
  show aload P t e.h (e.ev p) = _
  rw [hp]
  exact aload_rowK hk hcs ht hn hoff hj
omit [Inhabited α] in
theorem eff_rowK {E : α → List AV} {k : Nat} (hk : ∀ x, (E x).length = k) {ops : Array Oper} {o : Oper} {e : Env} {t : TypeId} {p x : Operand} {nm s off j : Nat} {d : Array α} {tl : List AV} {z : α} (hg : o.guard = none) (ho : o.op = .store t p x) (hd : o.dst = none) (hp : e.ev p = .bp (nm, s) off) (hoff : off = j * k)
    (hx : e.ev x = .ag (E z)) (h1 : (E z).all isOne = true) (h2 : okCell (.ag (E z)) = true) (hcs : hget nm e.h.bx = some (s, rowK E d tl)) (ht : (P.underlying t).isSome = true) (hn : P.cellsOf t = k) (hj : j < d.size) :
    Eff P ops [] o e fun _ h' => h' = { e.h with bx := hset nm (rowK E (d.setIfInBounds j z) tl) e.h.bx } := by
  subst hoff
  have hcl : (AV.ag (E z)).cells = E z := rfl
  have q := eff_store (P := P) (ops := ops) (B := []) (E := e) (cs := rowK E d tl) (i := (nm, s)) hg ho hd hp hcs (by rw [hx]; exact h2) (by rw [hx, hcl]; exact h1) ht (by rw [hx, hcl, hk, hn]; exact Nat.beq_refl _) (by rw [hx, hcl, hk]; exact rowK_in hk hj) (fun _ _ _ h => by cases h)
  rw [hx, hcl, rowK_set hk hj] at q
  exact q
omit [Inhabited α] in
theorem aop_storeK {E : α → List AV} {k : Nat} (hk : ∀ x, (E x).length = k) {o : Oper} {e : Env} {K : Env → Prop} {Kp : AV → Env → Prop} {t : TypeId} {p x : Operand} {nm s off j : Nat} {d : Array α} {tl : List AV} {z : α} (ho : o.op = .store t p x) (hd : o.dst = none) (hp : e.ev p = .bp (nm, s) off) (hoff : off = j * k)
    (hx : e.ev x = .ag (E z)) (h1 : (E z).all isOne = true) (h2 : okCell (.ag (E z)) = true) (hcs : hget nm e.h.bx = some (s, rowK E d tl)) (ht : (P.underlying t).isSome = true) (hn : P.cellsOf t = k) (hj : j < d.size)
    (hK : K { e with h := { e.h with bx := hset nm (rowK E (d.setIfInBounds j z) tl) e.h.bx } }) : AOp P o e K Kp := by
  subst hoff
  have hcl : (AV.ag (E z)).cells = E z := rfl
  refine AOp.any (aop_store ho hp hcs (by rw [hx]; exact h2) (by rw [hx, hcl]; exact h1) ht (by rw [hx, hcl, hk, hn]; exact Nat.beq_refl _) (by rw [hx, hcl, hk]; exact rowK_in hk hj) ?_)
  rw [hx, hcl, rowK_set hk hj, hd]
  exact hK
end
/-- The tail of a row in a box. -/
theorem yields_tailB {o : Oper} {E : Env} {t e : TypeId} {x lo : Operand} {n l cap : Nat} {i : Id} {k' : IntKind} {d : TypeDesc} (ho : o.op = .slice t x (some lo) none none) (hx : E.ev x = .hs i 0 n cap)
    (hlo : E.ev lo = .v (.int k' (l : Int))) (ht : P.underlying t = some (.slice e)) (hd : P.underlying e = some d) (hl : l ≤ n) (hn : n ≤ cap) (hc : l < cap) : Yields P o E (.hs i (l * P.cellsOf e) (n - l) (cap - l)) := by
  refine ⟨(by rw [ho]; intro c hc; cases hc), fun ρ w X g hk hr => .inl ?_⟩
  have r1 := hr x (by rw [ho]; simp [Op.operands])
  have r3 := hr lo (by rw [ho]; simp [Op.operands])
  rw [hx] at r1; rw [hlo] at r3
  have e3 := rep_v r3
  generalize hu : ρ x = u at r1
  cases r1 with
  | hs _ _ _ _ b hgb =>
    have hN : (Instr.sliceBounds true n cap (some (.int k' (l : Int))) none none).run P w = .ok (l, n, cap) w := by
      have e5 : (0 : Int) ≤ (l : Int) := by omega
      have e6 : (l : Int) ≤ (n : Int) := by omega
      simp [Instr.sliceBounds, Instr.sliceBound, asIntOf, hl, hn]
    have hcl : ¬ cap = l := by omega
    refine ⟨.slice (some ⟨b, l * P.cellsOf e, none⟩) (n - l) (cap - l), w, ?_, Evo.refl _ _, .hs _ _ _ _ b hgb⟩
    unfold execOp
    simp only [ho, hu, Option.map_some, e3, Option.map_none]
    refine run_value ?_
    simp [Instr.sliceAt, Sem.run_bind, run_underlying ht, Result.andThen_ok, Instr.slice, hN, run_sizeOf' hd, Sem.run_pure, add_none, hcl]
/-- A slice of a row in a box is cleared. -/
theorem aop_clearB {o : Oper} {E : Env} {K : Env → Prop} {Kp : AV → Env → Prop} {s : Operand} {t e : TypeId} {i : Id} {off n cap : Nat} {cs : List AV} {z : Value}
    (ho : o.op = .call { callee := .builtin .clear, args := #[s], argTypes := #[t] }) (hd : o.dst = none) (hs : E.ev s = .hs i off n cap) (hn : n ≠ 0)
    (ht : P.underlying t = some (.slice e)) (hz : (P.info? e).bind (·.zero) = some z) (hsz : z.cells.size = P.cellsOf e) (h1 : z.cells.all (·.oneCell') = true)
    (hcs : hget i.1 E.h.bx = some (i.2, cs)) (hle : off + n * P.cellsOf e ≤ cs.length)
    (hk : K { E with h := { E.h with bx := hset i.1 (splice cs off (List.replicate (n * P.cellsOf e) .any)) E.h.bx } }) : AOp P o E K Kp := by
  intro ro X M w0 a w g hst next Q hn' hpan
  have hmem := hget_mem hcs
  obtain ⟨b, hg, vs, e', hb, hvs, hr⟩ := hst.hok.bx _ hmem
  dsimp only at hg hvs hr
  have hsv : a.eval s = .slice (some ⟨b, off, none⟩) n cap := by
    have := hst.ev s
    rw [hs] at this
    generalize a.eval s = u at this
    cases this with
    | hs _ _ _ _ b' hg' => rw [hg] at hg'; cases hg'; rfl
  have hnl : (Builtin.zeroCells z.cells n).toList.length = n * P.cellsOf e := by rw [Array.length_toList, size_zeroCells, hsz]
  have hone : ∀ v ∈ (Builtin.zeroCells z.cells n).toList, v.oneCell' = true := by
    intro v hv
    rw [Builtin.zeroCells, Array.toList_map, List.mem_map] at hv
    obtain ⟨j, hj, rfl⟩ := hv
    have hpos : 0 < z.cells.size := by
      rcases Nat.eq_zero_or_pos z.cells.size with h0 | h0
      · rw [h0] at hj; simp at hj
      · exact h0
    have hm := Nat.mod_lt j hpos
    have e2 : z.cells[j % z.cells.size]! = z.cells[j % z.cells.size] := by simp [hm]
    rw [e2]
    exact Array.all_eq_true.1 h1 _ hm
  have hst2 := run_storeCells_at P b off e' (Builtin.zeroCells z.cells n).toList 0 vs w hb (by rw [hnl, Nat.add_zero]; simpa [hvs] using hle) hone
  simp only [Nat.add_zero] at hst2
  obtain ⟨m, rfl⟩ : ∃ m, n = m + 1 := ⟨n - 1, by omega⟩
  have hrun : (execOp a.eval o).run P w = .ok (.value (.tuple #[])) (w.setRow b (vs.toList.take off ++ (Builtin.zeroCells z.cells (m + 1)).toList ++ vs.toList.drop (off + (Builtin.zeroCells z.cells (m + 1)).toList.length)).toArray) := by
    have hcl : (Builtin.clear_ #[t] o.type #[.slice (some ⟨b, off, none⟩) (m + 1) cap]).run P w = .ok (.tuple #[]) (w.setRow b (vs.toList.take off ++ (Builtin.zeroCells z.cells (m + 1)).toList ++ vs.toList.drop (off + (Builtin.zeroCells z.cells (m + 1)).toList.length)).toArray) := by
      simp only [Builtin.clear_]
      simp [run_underlying ht, run_zeroValue' hz, hst2]
    unfold execOp
    simp only [ho, resolve]
    simp [invoke, builtin, hsv, hcl]
  have hnew := hst.setRow (cs := splice cs off (List.replicate ((m + 1) * P.cellsOf e) .any)) (vs := (vs.toList.take off ++ (Builtin.zeroCells z.cells (m + 1)).toList ++ vs.toList.drop (off + (Builtin.zeroCells z.cells (m + 1)).toList.length)).toArray) hcs hg hb
    (by simp only [splice_def, List.length_append, List.length_take, List.length_drop, List.length_replicate, hnl]; simp only [Array.length_toList]; omega)
    (by simp only [List.size_toArray, List.length_append, List.length_take, List.length_drop, hnl]; simp only [Array.length_toList]; omega)
    (fun k c u hk1 hk2 => by
      simp only [List.append_assoc] at hk2
      rw [splice_get _ _ _ (by rw [hnl]; simpa [hvs] using hle)] at hk2
      rw [splice_def, splice_get _ _ _ (by rw [List.length_replicate]; exact hle)] at hk1
      rw [hnl] at hk2
      rw [List.length_replicate] at hk1
      split at hk1
      · rename_i h2; rw [if_pos h2] at hk2; exact hr k c u hk1 (by simpa using hk2)
      · rename_i h2
        rw [if_neg h2] at hk2
        split at hk1
        · rw [(List.mem_replicate.1 (List.mem_of_getElem? hk1)).2]; exact .any _
        · rename_i h3; rw [if_neg h3] at hk2; exact hr k c u hk1 (by simpa using hk2))
  refine wpIn_of_run (by rw [ho]; intro c h; cases h) ?_
  rw [hrun]
  refine hn' _ _ _ g ?_ (fun _ _ h => h) (hnew.put o.dst (.v (.tuple #[])))
  rw [hd]
  exact hk
end Go.Vl

/- Boxes in another order; more rows of elements of several cells. -/
namespace Go.Vl
open Go.RowKit
variable {P : Program}
theorem ele_tellP {E : Env} {n : Nat} {bx : List (Id × Own)} {pm : List (Id × Nat)} {nx nn : Nat} {L : List (Nat × AV)} (bx'' bx' : List (Id × Own)) (pm' : List (Id × Nat)) (hn : E.n = n) (hx : E.h.nx = nx) (h0 : bx''.Perm E.h.bx) (hb : bx'.Sublist bx'') (hp : pm'.Sublist E.h.pm)
    (eb : BxLe bx' bx) (ep : PmEq pm' pm) (hL : LeT E.t L) : ELe E (mk n L ⟨bx, pm, nx, nn⟩ E.df) :=
  (ele_like (E := E) (h' := ⟨bx'', E.h.pm, E.h.nx, E.h.nn⟩) ⟨h0.map _, .refl _, rfl⟩).trans (ele_tell (E := { E with h := ⟨bx'', E.h.pm, E.h.nx, E.h.nn⟩ }) bx' pm' hn hx hb hp eb ep hL)
variable {α : Type}
theorem rowK_push {E : α → List AV} {k : Nat} (hk : ∀ x, (E x).length = k) {l : List α} {tl : List AV} {x : α} (h : k ≤ tl.length) : splice (rowK E l.toArray tl) (l.length * k) (E x) = rowK E (l ++ [x]).toArray (tl.drop k) := by
  unfold rowK
  have e1 : l.length * k = (l.flatMap E).length := (flatE_len hk l).symm
  show splice (l.flatMap E ++ tl) (l.length * k) (E x) = (l ++ [x]).flatMap E ++ tl.drop k
  rw [e1]
  have := splice_app (a := l.flatMap E) (b := tl) (off := 0) (vs := E x)
  rw [Nat.add_zero] at this
  rw [this, splice_def, Nat.zero_add, hk]
  simp
theorem rowK_take {E : α → List AV} {k : Nat} (hk : ∀ x, (E x).length = k) {l : List α} {tl : List AV} : (rowK E l.toArray tl).take (l.length * k) = l.flatMap E := by
  unfold rowK
  show (l.flatMap E ++ tl).take (l.length * k) = _
  rw [← flatE_len hk l, List.take_left]
theorem rowK_one {E : α → List AV} {l : List α} {x : α} {tl : List AV} : l.flatMap E ++ E x ++ tl = rowK E (l ++ [x]).toArray tl := by
  unfold rowK
  simp [List.flatMap_append]
/-- A row in a box that is let go. -/
theorem frz_rowK [Inhabited α] {bs : List (Nat × Own)} {i : Id} {n cap k : Nat} {E : α → List AV} (hk : ∀ x, (E x).length = k) {e : α → AV} (he : ∀ x, (e x).cells = E x) {d : α} {l : List α} {tl : List AV} (hn : l.length = n) (hm : (i.2, .c (rowK E l.toArray tl)) ∈ bs) (hcap : n ≤ cap) :
    Frz bs (.hs i 0 n cap) (slOf k e d l) := by
  subst hn
  have hle : l.length * k ≤ (rowK E l.toArray tl).length := by rw [rowK_len hk]; simp
  refine Frz.hs hm hcap (.inr (by rw [Nat.zero_add]; exact hle)) (fun j _ => by rw [he, hk]) (fun j hj q c hc => ⟨c, ?_, AVle.refl _⟩) (by rw [Nat.zero_add]; exact hle)
  rw [he] at hc
  have hq : q < k := by have := (List.getElem?_eq_some_iff.1 hc).1; rwa [hk] at this
  have hg := rowK_get (E := E) (tl := tl) hk (d := l.toArray) (i := j) (by simpa using hj)
  have hx : (l.toArray)[j]! = l.getD j d := by simp [List.getD, hj]
  rw [hx] at hg
  rw [← hg, List.getElem?_take, if_pos hq, List.getElem?_drop] at hc
  rw [Nat.zero_add]
  exact hc
end Go.Vl

/- Maps from pairs of numbers to truths: what they give, how they are written. -/
namespace Go.Vl
open Go.RowKit
variable {P : Program}

def keyA (x : Int × Int) : Value := .agg #[.int .i64 x.1, .int .i64 x.2]
def kA (x : Int × Int) : AV := .ag [.v (.int .i64 x.1), .v (.int .i64 x.2)]
def entA (x : Int × Int) : Value × AV := (keyA x, .v (.bool true))
theorem rep_kA {w : World} {X : Nat → Nat → Prop} {g : List Nat} {x : Int × Int} {u : Value} (h : Rep w X g (kA x) u) : u = keyA x := by
  cases h with
  | ag _ vs hn h =>
    match vs, hn with
    | [a, b], _ =>
      have h0 := rep_v (h 0 _ a rfl rfl)
      have h1 := rep_v (h 1 _ b rfl rfl)
      subst h0 h1; rfl
theorem kA_rep {w : World} {X : Nat → Nat → Prop} {g : List Nat} {x : Int × Int} : Rep w X g (kA x) (keyA x) :=
  .ag [_, _] [_, _] rfl fun k c u hc hu => by
    match k, hc, hu with
    | 0, hc, hu => simp at hc hu; subst hc; subst hu; exact .v _
    | 1, hc, hu => simp at hc hu; subst hc; subst hu; exact .v _
structure PairT (P : Program) (kt e : TypeId) : Prop where
  arr : P.underlying kt = some (.array 2 e)
  el : P.underlying e = some (.int .i64)
  sz : P.cellsOf e = 1
  ok : aeqOk P 8 kt = true
  p0 : ∀ a : Int × Int, apart P e [.v (.int .i64 a.1), .v (.int .i64 a.2)] 0 = some (.v (.int .i64 a.1))
  p1 : ∀ a : Int × Int, apart P e [.v (.int .i64 a.1), .v (.int .i64 a.2)] 1 = some (.v (.int .i64 a.2))
  eq : ∀ a b : Int × Int, aeq P 8 kt (kA a) (kA b) = some (a.1 == b.1 && (a.2 == b.2 && true))
theorem pair_dec (a b : Int × Int) : (a.1 == b.1 && (a.2 == b.2 && true)) = decide (a = b) := by
  rw [Bool.eq_iff_iff]
  simp [Prod.ext_iff]
theorem PairT.equal {kt e : TypeId} (h : PairT P kt e) (a b : Int × Int) (w : World) : (Op.equal kt (keyA a) (keyA b)).run P w = .ok (decide (a = b)) w := by
  rw [← pair_dec]
  exact aeq_sound 8 10000 kt (kA a) (kA b) _ _ _ w (fun _ _ => False) [] (by omega) (h.eq a b) h.ok kA_rep kA_rep
theorem PairT.checkI {kt e : TypeId} (h : PairT P kt e) (a : Int) (b : Bool) (n : Nat) (w : World) : (Instr.checkKey b (n + 1) e (.int .i64 a)).run P w = .ok () w := by
  unfold Instr.checkKey
  simp only [Sem.run_bind, run_underlying h.el, Result.andThen_ok, Sem.run_pure]
theorem PairT.check {kt e : TypeId} (h : PairT P kt e) (a : Int × Int) (b : Bool) (w : World) : (Instr.checkKey b 10000 kt (keyA a)).run P w = .ok () w := by
  have hsz := run_sizeOf' (w := w) h.el
  rw [h.sz] at hsz
  have hr : ∀ (k : Nat) (c : AV) (u : Value), [AV.v (.int .i64 a.1), .v (.int .i64 a.2)][k]? = some c → [Value.int .i64 a.1, .int .i64 a.2][k]? = some u → Rep w (fun _ _ => False) [] c u := fun k c u hc hu => by
    match k, hc, hu with
    | 0, hc, hu => simp at hc hu; subst hc; subst hu; exact .v _
    | 1, hc, hu => simp at hc hu; subst hc; subst hu; exact .v _
  obtain ⟨u0, q0, r0⟩ := apart_sound (vs := [Value.int .i64 a.1, .int .i64 a.2]) (h.p0 a) rfl hr
  obtain ⟨u1, q1, r1⟩ := apart_sound (vs := [Value.int .i64 a.1, .int .i64 a.2]) (h.p1 a) rfl hr
  have := rep_v r0; subst this
  have := rep_v r1; subst this
  obtain ⟨n, hn⟩ : ∃ n, 10000 = n + 1 + 1 := ⟨9998, rfl⟩
  rw [hn]
  unfold keyA Instr.checkKey
  simp only [Sem.run_bind, run_underlying h.arr, Result.andThen_ok]
  simp only [Std.Legacy.Range.forIn_eq_forIn_range', Std.Legacy.Range.size, Nat.sub_zero, Nat.add_sub_cancel, Nat.div_one, List.range'_succ, List.range'_zero, List.forIn_cons, List.forIn_nil]
  simp [Sem.run_bind, hsz, q0, q1, h.checkI]
theorem PairT.ask {kt e : TypeId} (h : PairT P kt e) (x : Int × Int) (w : World) : ∀ (es : List (Int × Int)) (ents : List MapEntry) (i : Nat), ents.length = es.length → (∀ (k : Nat) (p : Int × Int) (en : MapEntry), es[k]? = some p → ents[k]? = some en → en.key = keyA p) →
    (x ∉ es ∧ (Instr.findAsking kt (keyA x) ents i).run P w = .ok none w) ∨ ∃ j en, ents[j]? = some en ∧ es[j]? = some x ∧ (Instr.findAsking kt (keyA x) ents i).run P w = .ok (some (i + j, en.val)) w
  | [], [], i, _, _ => .inl ⟨by simp, by simp [Instr.findAsking]⟩
  | [], en :: ents, i, hn, _ => by simp at hn
  | p :: es, [], i, hn, _ => by simp at hn
  | p :: es, en :: ents, i, hn, hk => by
    have h0 := hk 0 p en rfl rfl
    unfold Instr.findAsking
    rw [h0]
    simp only [Sem.run_bind, h.equal, Result.andThen_ok]
    by_cases hx : x = p
    · refine .inr ⟨0, en, rfl, by simp [hx], ?_⟩
      simp [hx]
    · rcases h.ask x w es ents (i + 1) (by simpa using hn) (fun k p' e' h1 h2 => hk (k + 1) p' e' (by simpa using h1) (by simpa using h2)) with ⟨h1, h2⟩ | ⟨j, e', h1, h2, h3⟩
      · refine .inl ⟨by simp [hx, h1], ?_⟩
        simp [hx, h2]
      · refine .inr ⟨j + 1, e', by simpa using h1, by simpa using h2, ?_⟩
        simp [hx, h3]; omega
theorem PairT.find {kt e : TypeId} (h : PairT P kt e) (x : Int × Int) (w : World) (es : List (Int × Int)) (ents : List MapEntry) (hn : ents.length = es.length) (hk : ∀ (k : Nat) (p : Int × Int) (en : MapEntry), es[k]? = some p → ents[k]? = some en → en.key = keyA p) :
    (x ∉ es ∧ (Instr.findKey kt (keyA x) ents).run P w = .ok none w) ∨ ∃ j en, ents[j]? = some en ∧ es[j]? = some x ∧ (Instr.findKey kt (keyA x) ents).run P w = .ok (some (j, en.val)) w := by
  unfold Instr.findKey
  match es, ents, hn, hk with
  | [], [], _, _ => exact .inl ⟨by simp, by simp [Sem.run_bind, run_underlying h.arr, Instr.findNow]⟩
  | p :: es, en :: ents, hn, hk =>
    have e0 : Instr.findNow (.array 2 e) (keyA x) (en :: ents) 0 = none := by simp [Instr.findNow, Instr.sameNow]
    rcases h.ask x w (p :: es) (en :: ents) 0 hn hk with ⟨h1, h2⟩ | ⟨j, e', h1, h2, h3⟩
    · exact .inl ⟨h1, by simp only [Sem.run_bind, run_underlying h.arr, Result.andThen_ok, e0, h2]⟩
    · refine .inr ⟨j, e', h1, h2, ?_⟩
      simp only [Sem.run_bind, run_underlying h.arr, Result.andThen_ok, e0, h3, Nat.zero_add]
theorem aop_lookupA {o : Oper} {t kt e et : TypeId} {m k : Operand} {x : Int × Int} {i : Id} {es : List (Int × Int)} {E : Env} {K : Env → Prop} {Kp : AV → Env → Prop} (ho : o.op = .lookup t m k false) (ht : P.underlying t = some (.map kt et)) (hp : PairT P kt e)
    (hz : (P.info? et).bind (·.zero) = some (.bool false)) (hm : E.ev m = .om i) (hkv : E.ev k = kA x) (hes : hgeto i.1 E.h.bx = some (i.2, .mp (es.map entA))) (hK : K (E.set o.dst (.v (.bool (decide (x ∈ es)))))) : AOp P o E K Kp := by
  refine AOp.of_yields (r := .v (.bool (decide (x ∈ es)))) ⟨(by rw [ho]; intro c hc; cases hc), fun ρ w X g hk hr => .inl ?_⟩ hK
  have r1 := hr m (by rw [ho]; simp [Op.operands])
  have r2 := hr k (by rw [ho]; simp [Op.operands])
  rw [hm] at r1; rw [hkv] at r2
  have e2 := rep_kA r2
  obtain ⟨b, hgb, hown⟩ := hk.bx _ (hgeto_mem hes)
  dsimp only at hgb hown
  obtain ⟨ents, h1, h2, h3⟩ := hown
  have hmv : ρ m = .map (some b) := by
    generalize ρ m = u at r1
    cases r1 with
    | om _ b' hg' => rw [hgb] at hg'; cases hg'; rfl
  rw [List.length_map] at h2
  have hkk : ∀ (k : Nat) (p : Int × Int) (en : MapEntry), es[k]? = some p → ents[k]? = some en → en.key = keyA p := fun k p en q1 q2 => (h3 k (entA p) en (by simp [q1]) q2).1
  have hg := run_getObjG (P := P) h1
  refine ⟨.bool (decide (x ∈ es)), w, ?_, Evo.refl _ _, .v _⟩
  unfold execOp
  simp only [ho, hmv, e2]
  refine run_value ?_
  unfold Instr.lookup
  simp only [Sem.run_bind, run_underlying ht, Result.andThen_ok, hg, Sem.run_pure, hp.check]
  rcases hp.find x w es ents h2 hkk with ⟨hn, hf⟩ | ⟨j, en, q1, q2, hf⟩
  · have hzz := run_zeroValue' (w := w) hz
    simp only [hf, Result.andThen_ok, Sem.run_pure]
    simp [hn, Sem.run_bind, hzz]
  · have hv := rep_v (h3 j (entA x) en (by simp [q2]) q1).2.2
    simp only [hf, Result.andThen_ok, Sem.run_pure]
    simp [hv, List.mem_of_getElem? q2]
def addA (x : Int × Int) (es : List (Int × Int)) : List (Int × Int) := if x ∈ es then es else es ++ [x]
theorem mapUpdate_runA {t kt e et : TypeId} {x : Int × Int} {es : List (Int × Int)} {w : World} {X : Nat → Nat → Prop} {g : List Nat} {b : Nat} (ht : P.underlying t = some (.map kt et)) (hp : PairT P kt e) (hb : OwnRep w X g b (.mp (es.map entA))) :
    ∃ ents' : List MapEntry, (Instr.mapUpdate t (.map (some b)) (keyA x) (.bool true)).run P w = .ok () (World.setO w b (.map ents'.toArray ents'.length)) ∧ ents'.length = ((addA x es).map entA).length ∧
      ∀ (k : Nat) (p : Value × AV) (en : MapEntry), ((addA x es).map entA)[k]? = some p → ents'[k]? = some en → en.key = p.1 ∧ en.born = k ∧ Rep w X g p.2 en.val := by
  obtain ⟨ents, h1, h2, h3⟩ := hb
  rw [List.length_map] at h2
  have hkk : ∀ (k : Nat) (p : Int × Int) (en : MapEntry), es[k]? = some p → ents[k]? = some en → en.key = keyA p := fun k p en q1 q2 => (h3 k (entA p) en (by simp [q1]) q2).1
  have hg := run_getObjG (P := P) h1
  rcases hp.find x w es ents h2 hkk with ⟨hn, hf⟩ | ⟨j, e0, q1, q2, hf⟩
  · refine ⟨ents ++ [⟨keyA x, .bool true, ents.length⟩], ?_, by unfold addA; rw [if_neg hn]; simp [h2], fun k p en r1 r2 => ?_⟩
    · unfold Instr.mapUpdate
      simp only [Sem.run_bind, run_underlying ht, Result.andThen_ok, hg, hp.check, hf]
      rw [run_setObjG h1]
      simp
    · unfold addA at r1
      rw [if_neg hn, List.map_append] at r1
      rcases Nat.lt_or_ge k es.length with hlt | hge
      · rw [List.getElem?_append_left (by simpa using hlt)] at r1
        rw [List.getElem?_append_left (by omega)] at r2
        exact h3 k p en r1 r2
      · rw [List.getElem?_append_right (by simpa using hge)] at r1
        rw [List.getElem?_append_right (by omega)] at r2
        have : k = es.length := by
          have := (List.getElem?_eq_some_iff.1 r1).1; simp at this; omega
        subst this
        rw [List.length_map, Nat.sub_self] at r1
        rw [h2, Nat.sub_self] at r2
        simp at r1 r2
        subst r1; subst r2
        exact ⟨rfl, rfl, .v _⟩
  · have hj : j < ents.length := (List.getElem?_eq_some_iff.1 q1).1
    have hje : ents[j] = e0 := (List.getElem?_eq_some_iff.1 q1).2
    have h0 := h3 j (entA x) e0 (by simp [q2]) q1
    have hv := rep_v h0.2.2
    have hkey : e0.key = keyA x := h0.1
    have hmem : x ∈ es := List.mem_of_getElem? q2
    refine ⟨ents.set j ⟨keyA x, .bool true, e0.born⟩, ?_, by unfold addA; rw [if_pos hmem]; simp [h2], fun k p en r1 r2 => ?_⟩
    · unfold Instr.mapUpdate
      simp only [Sem.run_bind, run_underlying ht, Result.andThen_ok, hg, hp.check, hf]
      have hks : (Instr.keyThatStays (((ents.toArray[j]?).map (·.key)).getD (keyA x)) (keyA x)).run P w = .ok (keyA x) w := by
        have hsb : Instr.sameBits 10000 (keyA x) (keyA x) = true := by
          obtain ⟨n, hn⟩ : ∃ n, 10000 = n + 1 := ⟨9999, rfl⟩
          rw [hn]; simp [keyA, Instr.sameBits]
        simp [q1, hkey, Instr.keyThatStays, hsb]
      simp only [hks, Result.andThen_ok]
      rw [run_setObjG h1]
      congr 2
      simp only [List.length_set]
      congr 1
      apply Array.ext'
      simp only [Array.toList_modify, List.modify_eq_set, Option.map_eq_map]
      rw [List.getElem?_eq_getElem hj]
      simp [hje]
    · unfold addA at r1
      rw [if_pos hmem] at r1
      rw [List.getElem?_set] at r2
      by_cases hjk : j = k
      · subst hjk
        simp [hj] at r2
        subst r2
        have e1 := h3 j p e0 r1 q1
        exact ⟨hkey.symm.trans e1.1, e1.2.1, by
          have : p = entA x := by rw [List.getElem?_map, q2] at r1; exact (Option.some.inj r1).symm
          subst this; exact .v _⟩
      · simp [hjk] at r2
        exact h3 k p en r1 r2
theorem aop_updateA {o : Oper} {t kt e et : TypeId} {m k v : Operand} {x : Int × Int} {i : Id} {es : List (Int × Int)} {E : Env} {K : Env → Prop} (ho : o.op = .mapUpdate t m k v ∨ o.op = .insert t m k v) (ht : P.underlying t = some (.map kt et)) (hp : PairT P kt e)
    (hm : E.ev m = .om i) (hkv : E.ev k = kA x) (hv : E.ev v = .v (.bool true)) (hes : hgeto i.1 E.h.bx = some (i.2, .mp (es.map entA)))
    (hK : K (({ E with h := { E.h with bx := hseto i.1 (.mp ((addA x es).map entA)) E.h.bx } } : Env).set o.dst .any)) : AOp P o E K := by
  intro ro X M w0 a w g hs next Q hn hp'
  obtain ⟨b, hgb, hown⟩ := hs.hok.bx _ (hgeto_mem hes)
  dsimp only at hgb hown
  have hmv : a.eval m = .map (some b) := by
    have := hs.ev m
    rw [hm] at this
    generalize a.eval m = u at this
    cases this with
    | om _ b' hg' => rw [hgb] at hg'; cases hg'; rfl
  have hkv' : a.eval k = keyA x := by
    have := hs.ev k
    rw [hkv] at this
    exact rep_kA this
  have hvv : a.eval v = .bool true := by
    have := hs.ev v
    rw [hv] at this
    exact rep_v this
  obtain ⟨ents', h1, h2, h3⟩ := mapUpdate_runA (x := x) ht hp hown
  obtain ⟨ents, hb0, _⟩ := hown
  have hev := evo_setO (o' := .map ents'.toArray ents'.length) hb0 rfl (fun h => by cases h)
  have hnew := hs.setOwn (x := .mp ((addA x es).map entA)) hes hgb hev (fun hst => ⟨ents', setO_same hb0, h2, fun k p e q1 q2 => ⟨(h3 k p e q1 q2).1, (h3 k p e q1 q2).2.1, (h3 k p e q1 q2).2.2.stays hst⟩⟩)
  refine wpIn_of_run (by intro c h; rcases ho with ho | ho <;> (rw [ho] at h; cases h)) ?_
  have : (execOp a.eval o).run P w = .ok .skip (World.setO w b (.map ents'.toArray ents'.length)) := by
    unfold execOp
    rcases ho with ho | ho <;> (simp only [ho, hmv, hkv', hvv, Sem.run_bind, h1, Result.andThen_ok, Sem.run_pure])
  rw [this]
  exact hn _ _ _ g hK (fun _ _ h => h) (hnew.put o.dst (.any _))
end Go.Vl

/- A guarded call that tells. -/
namespace Go.Vl
variable {P : Program}
theorem pure_yesT {ops : Array Oper} {B : List (Id × Own)} {o : Oper} {E : Env} {j : Nat} {want c : Bool} {fo : Operand} {args : Array Operand} {tys : Array TypeId} {f : FuncId} {first caps qs : List AV} {s : AV} (hg : o.guard = some (j, want)) (hd : agb (agd ops E j) = some (some c)) (hw : (c == want) = true)
    (ho : o.op = .call { callee := .value fo, args := args, argTypes := tys }) (hf : E.ev fo = .fn (.func f) first caps)
    (hc : Tells P f qs s) (hl : LeL (first ++ args.toList.map E.ev ++ caps) qs) (hid : NoId s) : PureAll P ops B o E s := fun E' _ ht => by
  unfold GY
  simp only [hg]
  refine ⟨some c, agd_congr hg ht hd, .inl ⟨by rw [beq_iff_eq.1 hw], ?_⟩⟩
  have hev := ev_congr ht
  refine yields_tells ho (by rw [hev fo (by rw [ho]; simp [Op.operands, Call.operands])]; exact hf) hc ?_ hid
  rw [map_congr fun x hm => hev x (by rw [ho]; simp only [Op.operands, Call.operands]; exact Array.mem_append_right _ (Array.mem_toList_iff.1 hm))]
  exact hl
/-- Truths, told literally. -/
theorem pure_yesB {ops : Array Oper} {B : List (Id × Own)} {o : Oper} {E : Env} {j : Nat} {want c b b' : Bool} {C : Option Prop} (hg : o.guard = some (j, want)) (hd : agb (agd ops E j) = some (some c)) (hc : (c == want) = true)
    (hp : apure P o.op { E with h := ⟨B, [], 0, 0⟩ } = some (C, .v (.bool b))) (hC : condP C) (hb : b = b') : PureAll P ops B o E (.v (.bool b')) := hb ▸ pure_yes hg hd hc hp hC
theorem pure_bool {ops : Array Oper} {B : List (Id × Own)} {o : Oper} {E : Env} {b b' : Bool} {C : Option Prop} (hg : o.guard = none)
    (hp : apure P o.op { E with h := ⟨B, [], 0, 0⟩ } = some (C, .v (.bool b))) (hC : condP C) (hb : b = b') : PureAll P ops B o E (.v (.bool b')) := hb ▸ pure_apure hg hp hC
end Go.Vl

/- Regions that draw, with two effects that stand in no order: one of them hangs on nothing, and nothing hangs on it. -/
namespace Go.Vl
open Go.RowKit
variable {P : Program}

theorem MixL.mono {ops : Array Oper} {B : List (Id × Own)} {eff : Nat → Bool} {K K' : Env → Prop} : ∀ {L : List Nat} {E : Env}, (∀ E, K E → K' E) → MixL P ops B eff L E K → MixL P ops B eff L E K'
  | [], E, hk, h => hk E h
  | i :: l, E, hk, h => by
    obtain ⟨o, h1, h2⟩ := h
    refine ⟨o, h1, ?_⟩
    cases he : eff i with
    | true =>
      simp only [he] at h2 ⊢
      obtain ⟨R, q1, q2⟩ := h2
      exact ⟨R, q1, fun r h' hr => MixL.mono hk (q2 r h' hr)⟩
    | false =>
      simp only [he] at h2 ⊢
      obtain ⟨r, q1, q2⟩ := h2
      exact ⟨r, q1, MixL.mono hk q2⟩
theorem MixL.app {ops : Array Oper} {B : List (Id × Own)} {eff : Nat → Bool} {K : Env → Prop} {L2 : List Nat} : ∀ {L : List Nat} {E : Env}, MixL P ops B eff L E (fun E' => MixL P ops B eff L2 E' K) → MixL P ops B eff (L ++ L2) E K
  | [], E, h => h
  | i :: l, E, h => by
    obtain ⟨o, h1, h2⟩ := h
    refine ⟨o, h1, ?_⟩
    cases he : eff i with
    | true =>
      simp only [he] at h2 ⊢
      obtain ⟨R, q1, q2⟩ := h2
      exact ⟨R, q1, fun r h' hr => MixL.app (q2 r h' hr)⟩
    | false =>
      simp only [he] at h2 ⊢
      obtain ⟨r, q1, q2⟩ := h2
      exact ⟨r, q1, MixL.app q2⟩

theorem mix_two {ops : Array Oper} {m : Nat} {B : List (Id × Own)} {eff : Nat → Bool} {Q : Exit → Act → World → Prop} (hk : OrdOk ops m) (hm : m ≤ ops.size)
    {ro : Option Nat} {X M : Nat → Nat → Prop} {w0 : World} {g0 : List Nat} {K : Env → Prop} {a0 c0 : Nat} {rest : List Nat} (hea : eff a0 = true) (hec : eff c0 = true) (hac : a0 ≠ c0) (ham : a0 < m)
    (hself0 : ∀ oi, ops[a0]? = some oi → ∀ e ∈ oi.after, Region.binds .any e = true → e.on ≠ a0)
    (hna : ∀ i, i ≠ a0 → i < m → ∀ oi, ops[i]? = some oi → ∀ e ∈ oi.after, Region.binds .any e = true → e.on ≠ a0)
    (hq : ∀ E a w g, K E → (∀ (i b : Nat), g0[i]? = some b → g[i]? = some b) → St ro X M w0 E a w g → wpOpsIn (Fr ro) 0 P ops Q (List.range' m (ops.size - m)) a w) :
    ∀ (n : Nat) (pre : List Nat) (listed : Array Bool) (E : Env) (a : Act) (w : World) (g : List Nat), pre.length + rest.length + 2 = n → (pre ++ c0 :: rest).Pairwise (PairM ops eff) → (pre ++ (rest ++ [a0])).Pairwise (PairM ops eff) → (∀ i ∈ pre ++ c0 :: rest, i < m) → (a0 ∉ pre ++ c0 :: rest) →
      (∀ i ∈ pre ++ c0 :: rest, ∀ oi, ops[i]? = some oi → ∀ e ∈ oi.after, Region.binds .any e = true → e.on ≠ i) → listed.size = ops.size → DC ops listed →
    (∀ i, i < ops.size → (listed.getD i true = false ↔ (i = a0 ∨ i ∈ pre ++ c0 :: rest) ∨ m ≤ i)) → (∀ i ∈ pre, eff i = false) →
    MixL P ops B eff pre E (fun E' => MixL P ops B eff (a0 :: c0 :: rest) E' K ∧ MixL P ops B eff (c0 :: (rest ++ [a0])) E' K) → HB B E.h.bx → (∀ (i b : Nat), g0[i]? = some b → g[i]? = some b) → St ro X M w0 E a w g → wpAnyIn (Fr ro) 0 P .any ops Q (n + (ops.size - m)) listed a w := by
  intro n
  induction n with
  | zero => intro pre _ _ _ _ _ hl; omega
  | succ n ih =>
    intro pre listed E a w g hl hpw hpc hlt hnm hself hsz hd hun hpe hrun hB hg hs
    rw [Nat.add_right_comm]
    obtain ⟨k, L', hkL⟩ : ∃ k L', pre ++ c0 :: rest = k :: L' := by
      cases pre with
      | nil => exact ⟨_, _, rfl⟩
      | cons k l => exact ⟨_, _, rfl⟩
    have hkmem : k ∈ pre ++ c0 :: rest := by rw [hkL]; simp
    have hkm : k < m := hlt k hkmem
    have hka : k ≠ a0 := fun e => hnm (e ▸ hkmem)
    have hklt : k < ops.size := by omega
    have hko : ops[k]? = some ops[k] := Array.getElem?_eq_getElem hklt
    have hpk := hpw
    rw [hkL] at hpk
    have hkr : k ∈ Region.ready .any ops listed := by
      refine mem_ready_iff.2 ⟨(hun k hklt).2 (.inl (.inr hkmem)), _, hko, fun e he hb => ?_⟩
      have hb' := hk.back k _ hko e he hb
      rw [listed_bool (by omega)]
      cases hl : listed.getD e.on true with
      | true => simpa using hl
      | false =>
        rcases (hun e.on (by omega)).1 hl with (h' | h') | h'
        · exact absurd h' (hna k hka hkm _ hko e he hb)
        · rw [hkL] at h'
          rcases List.mem_cons.1 h' with h' | h'
          · exact absurd h' (hself k hkmem _ hko e he hb)
          · exact absurd rfl (((List.pairwise_cons.1 hpk).1 _ h').2 _ _ hko (Array.getElem?_eq_getElem (by omega)) |>.1 e he hb)
        · omega
    refine ⟨fun h0 => (by rw [h0] at hkr; cases hkr), fun j hj => ?_⟩
    obtain ⟨h1, oj, hoj, h2⟩ := mem_ready_iff.1 hj
    have hjlt := (Array.getElem?_eq_some_iff.1 hoj).1
    have hjL : j = a0 ∨ j ∈ pre ++ c0 :: rest := by
      rcases (hun j hjlt).1 h1 with h' | h'
      · exact h'
      · have hb := hk.tail k j oj hoj h' (by omega)
        have := before_listed hd hsz hoj h2 hb
        have h3 := (hun k (by omega)).2 (.inl (.inr hkmem))
        rw [listed_bool (by omega)] at this
        simp [h3] at this
    -- nothing that is still to come stands before j
    have hnb : ∀ i, (i = a0 ∨ i ∈ pre ++ c0 :: rest) → ((Region.before ops).getD j 0).testBit i = true → False := fun i hi hb => by
      have hilt : i < ops.size := by
        rcases hi with rfl | hi
        · omega
        · have := hlt i hi; omega
      have := before_listed hd hsz hoj h2 hb
      have h3 := (hun i hilt).2 (.inl hi)
      rw [listed_bool (by omega)] at this
      simp [h3] at this
    have hset : ∀ (L2 : List Nat), (∀ i, i < ops.size → i ≠ j → (((i = a0 ∨ i ∈ pre ++ c0 :: rest) ∨ m ≤ i) ↔ (i ∈ L2 ∨ m ≤ i))) → j ∉ L2 → j < m → ∀ i, i < ops.size → ((listed.setIfInBounds j true).getD i true = false ↔ i ∈ L2 ∨ m ≤ i) := fun L2 hL hj2 hjm i hi => by
      rw [listed_set (by omega)]
      by_cases hij : i = j
      · subst hij
        simp only [if_true]
        constructor
        · intro h; cases h
        · intro h
          exfalso
          rcases h with h | h
          · exact hj2 h
          · omega
      · rw [if_neg hij, hun i hi]
        exact hL i hi hij
    have heffect : ∀ (L2 : List Nat), L2.length = n → L2.Pairwise (PairM ops eff) → (∀ i ∈ L2, i < m) → (∀ i ∈ L2, ∀ oi, ops[i]? = some oi → ∀ e ∈ oi.after, Region.binds .any e = true → e.on ≠ i) → (∀ i, i < ops.size → i ≠ j → (((i = a0 ∨ i ∈ pre ++ c0 :: rest) ∨ m ≤ i) ↔ (i ∈ L2 ∨ m ≤ i))) → j ∉ L2 → j < m → eff j = true → MixL P ops B eff (j :: L2) E K → wpOpIn (Fr ro) 0 P ops Q j (wpAnyIn (Fr ro) 0 P Region.Mode.any ops Q (n + (ops.size - m)) (listed.setIfInBounds j true)) a w := fun L2 e1 e2 e3 e4 e5 e6 e7 e8 e9 => by
      obtain ⟨o, ho, hrun'⟩ := e9
      rw [hoj] at ho
      cases ho
      simp only [e8] at hrun'
      obtain ⟨R, ⟨q0, q1⟩, q2⟩ := hrun'
      unfold wpOpIn
      simp only [hoj, Region.wanted, q0, if_true]
      exact q1 E rfl (fun _ _ => rfl) ro X M w0 a w g hs _ _ (fun E' a' w' g' hE hgg hs' => by
        obtain ⟨r, h', p1, p2, rfl⟩ := hE
        exact mix_any hk hm hq n L2 _ _ a' w' g' e1 e2 e3 e4 (by simp [hsz]) (hd.set hsz hk hj) (hset L2 e5 e6 e7) (q2 r h' p1) (by rw [Env.set_h]; exact p2) (fun i b hi => hgg i b (hg i b hi)) hs') (fun x E' a' w' g' v hk' => hk'.elim)
    rcases hjL with rfl | hjL
    · have h5 := List.pairwise_append.1 hpc
      obtain h6 := MixL.front hoj pre (c0 :: rest) E (fun i hi => by
        obtain ⟨_, hp⟩ := h5.2.2 i hi j (by simp)
        have hilt : i < ops.size := by have := hlt i (by simp [hi]); omega
        rcases (hp _ _ (Array.getElem?_eq_getElem hilt) hoj).2 with hb | ⟨hb, hb'⟩
        · exact (hnb i (.inr (by simp [hi])) hb).elim
        · exact ⟨hb, fun oi hoi => by rw [Array.getElem?_eq_getElem hilt] at hoi; cases hoi; exact hb'⟩) (MixL.app (MixL.mono (fun _ h => h.1) hrun))
      exact heffect (pre ++ c0 :: rest) (by simp; omega) hpw hlt hself (fun i _ hij => by simp [hij]) hnm ham hea h6
    · have hjm := hlt j hjL
      have hja : j ≠ a0 := fun e => hnm (e ▸ hjL)
      rcases List.mem_append.1 hjL with hjp | hjp
      · obtain ⟨l1, l2, rfl⟩ := List.append_of_mem hjp
        have hej := hpe j hjp
        have hpw' : (l1 ++ j :: (l2 ++ c0 :: rest)).Pairwise (PairM ops eff) := by simpa using hpw
        have hl1 : ∀ i ∈ l1, PairM ops eff i j := fun i hi => (List.pairwise_append.1 hpw').2.2 i hi j (by simp)
        obtain ⟨o, ho, hrun'⟩ := MixL.front hoj l1 l2 E (fun i hi => by
          have hilt : i < ops.size := by have := hlt i (by simp [hi]); omega
          rcases ((hl1 i hi).2 _ _ (Array.getElem?_eq_getElem hilt) hoj).2 with hb | ⟨hb, hb'⟩
          · exact (hnb i (.inr (by simp [hi])) hb).elim
          · exact ⟨hb, fun oi hoi => by rw [Array.getElem?_eq_getElem hilt] at hoi; cases hoi; exact hb'⟩) hrun
        rw [hoj] at ho
        cases ho
        simp only [hej] at hrun'
        obtain ⟨r, q1, q2⟩ := hrun'
        have hsub : (l1 ++ l2 ++ c0 :: rest).Sublist (l1 ++ j :: l2 ++ c0 :: rest) := by simp [List.Sublist.append_left]
        have hsub2 : (l1 ++ l2 ++ (rest ++ [a0])).Sublist (l1 ++ j :: l2 ++ (rest ++ [a0])) := by simp
        have hnj : j ∉ l1 ++ l2 ++ c0 :: rest := fun h => by
          have h5 := List.pairwise_append.1 hpw'
          rw [List.append_assoc] at h
          rcases List.mem_append.1 h with h | h
          · exact (h5.2.2 j h j (by simp)).1 rfl
          · exact ((List.pairwise_cons.1 h5.2.1).1 j h).1 rfl
        refine (q1 E hB fun _ _ => rfl).does hoj hs fun a' w' hs' => ih (l1 ++ l2) _ _ a' w' g (by simp at hl ⊢; omega) (hpw.sublist hsub) (hpc.sublist hsub2) (fun i hi => hlt i (hsub.subset hi)) (fun h => hnm (hsub.subset h)) (fun i hi => hself i (hsub.subset hi)) (by simp [hsz]) (hd.set hsz hk hj) (fun i hi => ?_) (fun i hi => hpe i (by rcases List.mem_append.1 hi with h | h <;> simp [h])) q2 (by rw [Env.set_h]; exact hB) hg hs'
        have e := hset (a0 :: (l1 ++ l2 ++ c0 :: rest)) (fun i _ hij => by simp [hij]) (by simp only [List.mem_cons, not_or]; exact ⟨hja, hnj⟩) hjm i hi
        rw [e, List.mem_cons]
      · rcases List.mem_cons.1 hjp with rfl | hjr
        · have h6 := MixL.front hoj pre (rest ++ [a0]) E (fun i hi => by
            have hilt : i < ops.size := by have := hlt i (by simp [hi]); omega
            rcases (((List.pairwise_append.1 hpw).2.2 i hi j (by simp)).2 _ _ (Array.getElem?_eq_getElem hilt) hoj).2 with hb | ⟨hb, hb'⟩
            · exact (hnb i (.inr (by simp [hi])) hb).elim
            · exact ⟨hb, fun oi hoi => by rw [Array.getElem?_eq_getElem hilt] at hoi; cases hoi; exact hb'⟩) (MixL.app (MixL.mono (fun _ h => h.2) hrun))
          have h5 := List.pairwise_append.1 hpw
          refine heffect (pre ++ (rest ++ [a0])) (by simp; omega) hpc (fun i hi => ?_) (fun i hi => ?_) (fun i _ hij => by simp [hij, or_assoc, or_comm, or_left_comm]) (fun h => ?_) hjm hec h6
          · simp only [List.mem_append, List.mem_singleton] at hi
            rcases hi with hi | hi | rfl
            · exact hlt i (by simp [hi])
            · exact hlt i (by simp [hi])
            · exact ham
          · simp only [List.mem_append, List.mem_singleton] at hi
            rcases hi with hi | hi | rfl
            · exact hself i (by simp [hi])
            · exact hself i (by simp [hi])
            · exact hself0
          · simp only [List.mem_append, List.mem_singleton] at h
            rcases h with h | h | h
            · exact (h5.2.2 j h j (by simp)).1 rfl
            · exact ((List.pairwise_cons.1 h5.2.1).1 j h).1 rfl
            · exact hja h
        · exfalso
          have hp := ((List.pairwise_cons.1 (List.pairwise_append.1 hpw).2.1).1 j hjr).2 _ _ (Array.getElem?_eq_getElem (by have := hlt c0 (by simp); omega)) hoj
          rcases hp.2 with hb | ⟨hb, _⟩
          · exact hnb c0 (.inr (by simp)) hb
          · rw [hec] at hb; cases hb

def ordM2 (ops : Array Oper) (m : Nat) (eff : Nat → Bool) (pre : List Nat) (a0 c0 : Nat) (rest : List Nat) : Bool :=
  let bf := Region.before ops
  Nat.ble m ops.size && (ordB ops m && ((pre ++ c0 :: rest).all (fun i => Nat.blt i m && !Nat.beq i a0) && ((List.range m).all (fun i => Nat.beq i a0 || (pre ++ c0 :: rest).contains i) && (ordM.go ops eff bf (pre ++ c0 :: rest) && (ordM.go ops eff bf (pre ++ (rest ++ [a0])) &&
    (eff a0 && (eff c0 && (Nat.blt a0 m && (pre.all (fun i => !eff i) && ((List.range m).all (fun i => Nat.beq i a0 || match ops[i]? with | some oi => oi.after.toList.all fun e => !Region.binds .any e || !Nat.beq e.on a0 | none => false) && Nat.beq (pre.length + rest.length + 2) m))))))))))
/-- As aw_mixN, with two effects that stand in no order: a0 hangs on nothing among the first m, and nothing on it. -/
theorem aw_mix2 {id : Nat} {ops : Array Oper} {E : Env} {Q : AExit → Env → Prop} (m : Nat) (B : List (Id × Own)) (eff tl : Nat → Bool) (pre : List Nat) (a0 c0 : Nat) (rest : List Nat) (hf : P.follows .mixedOrders = true) (hb : ordM2 ops m eff pre a0 c0 rest = true) (hB : HB B E.h.bx)
    (h : aN P ops B eff tl pre E fun E' => aN P ops B eff tl (a0 :: c0 :: rest) E' (fun E' => aK P ops (ops.toList.drop m) E' (Q .normal) (fun x E => Q (.panic x) E)) ∧ aN P ops B eff tl (c0 :: (rest ++ [a0])) E' (fun E' => aK P ops (ops.toList.drop m) E' (Q .normal) (fun x E => Q (.panic x) E))) : AW P (.region id ops true) E Q := by
  simp only [ordM2, Bool.and_eq_true, List.all_eq_true] at hb
  obtain ⟨h0, h00, h1, h2, h3, h3c, hea, hec, ha, hp, hn, hl⟩ := hb
  have hm := ble_true h0
  obtain ⟨h4, h5⟩ := ordM_go h3
  obtain ⟨h4c, h5c⟩ := ordM_go h3c
  have hlt : ∀ i ∈ pre ++ c0 :: rest, i < m := fun i hi => blt_true (h1 i hi).1
  have hnm : a0 ∉ pre ++ c0 :: rest := fun hi => beq_no (h1 a0 hi).2 rfl
  have hall : ∀ i, i < m → i = a0 ∨ i ∈ pre ++ c0 :: rest := fun i hi => by
    have := h2 i (List.mem_range.2 hi)
    simpa using this
  have ham : a0 < m := blt_true ha
  have hac : a0 ≠ c0 := fun e => hnm (by simp [e])
  have hself0 := h5c a0 (by simp)
  have hpe : ∀ i ∈ pre, eff i = false := fun i hi => by simpa using hp i hi
  have hlen : pre.length + rest.length + 2 = m := by simpa using hl
  have hna : ∀ i, i ≠ a0 → i < m → ∀ oi, ops[i]? = some oi → ∀ e ∈ oi.after, Region.binds .any e = true → e.on ≠ a0 := fun i hne hi oi ho e he hb => by
    have := hn i (List.mem_range.2 hi)
    rw [ho] at this
    simp only [Bool.or_eq_true, List.all_eq_true] at this
    rcases this with h | h
    · exact absurd (by simpa using h) hne
    · have := h e (Array.mem_toList_iff.2 he)
      simp only [hb, Bool.not_true, Bool.false_or] at this
      exact beq_no (by simpa using this)
  unfold AW
  intro ro X M w0 a w g g0 hg hs
  refine wpIn_region_any hf ?_
  have hs' : St ro X M w0 E a { w with drawn := w.drawn + 1 } g := hs.drew
  have key := mix_two (eff := eff) (a0 := a0) (c0 := c0) (rest := rest) (g0 := g0) (K := fun E' => aK P ops (ops.toList.drop m) E' (Q .normal) (fun x E => Q (.panic x) E)) (Q := lift ro X M w0 g0 Q) (P := P) (X := X) (M := M) (w0 := w0) (ro := ro) (B := B) (ordOk h00) hm hea hec hac ham hself0 hna (fun E' a' w' g' hk hg' hs'' => by
      have := aK_sound (P := P) (ops := ops) (K := Q .normal) (X := X) (M := M) (w0 := w0) (g0 := g0) (Kp := fun x E => Q (.panic x) E) (ro := ro) (Q := lift ro X M w0 g0 Q) (fun E a w g hk hg hs => ⟨.normal, E, g, hk, rfl, hg, hs⟩) (fun x E a w g v hk hg hs hr => ⟨.panic x, E, g, hk, ⟨v, rfl, hr⟩, hg, hs⟩) (ops.toList.drop m) m E' a' w' g' (fun j => .inl (by simp)) hg' hs'' hk
      simpa using this) m pre (Array.replicate ops.size false) E a _ g hlen h4 h4c hlt hnm h5 (by simp) (fun k o ho hl => by
      have hk := (Array.getElem?_eq_some_iff.1 ho).1
      simp [Array.getD_eq_getD_getElem?, hk] at hl) (fun i hi => by
      have : (Array.replicate ops.size false).getD i true = false := by simp [Array.getD_eq_getD_getElem?, hi]
      simp only [this, true_iff]
      rcases Nat.lt_or_ge i m with h | h
      · exact .inl (hall i h)
      · exact .inr h) hpe (MixL.mono (fun _ q => ⟨aN_use q.1, aN_use q.2⟩) (aN_use h)) hB hg hs'
  have e : m + (ops.size - m) = ops.size := by omega
  rw [e] at key
  exact key
end Go.Vl

/- Rows that a function of the shelf makes; predicates that are handed to it. -/
namespace Go.Vl
open Go.RowKit
variable {P : Program}

theorem tells_of_row {f : FuncId} {ars : List AV} {vs xs : List Value} {t : TypeId} (hcb : callable P f) (has : ∀ w X g (us : List Value), us.length = ars.length → (∀ (k : Nat) (c : AV) (u : Value), ars[k]? = some c → us[k]? = some u → Rep w X g c u) → us = vs)
    (h : ∀ w, Kn w none2 → Calls P f vs.toArray w fun e w' => ∃ A, e = .returned (.slice (some ⟨A, 0, none⟩) xs.length xs.length) ∧ w.heap.size ≤ A ∧ w'.ownsRow w.heap.size t 1 (.slice (some ⟨A, 0, none⟩) xs.length xs.length) xs.length xs ∧ Below w.heap.size w w') :
    Tells P f ars (.sl 1 xs.length fun k => .v (xs.getD k undef)) := fun nx => by
  refine ⟨hcb, fun X w g us h1 h2 h3 h4 => ?_⟩
  obtain rfl := has _ _ _ us h3 h4
  refine (fnWay P f).mono (w0 := w) (g := g) (R := _) (h w h1.kn.none) fun e w' ⟨A, he, hA, hown, hb⟩ => ?_
  have hev := Evo.of_below hb
  refine ⟨.ret (.sl 1 xs.length fun k => .v (xs.getD k undef)), ⟨[], [], nx, 0⟩, g, ⟨_, he, ?_⟩, ⟨AVle.refl _, rfl, rfl⟩, fun _ _ h => h, h1.evo0 hev, fun b o hx i hi => (by cases hi), hev.mono fun b o _ h => h.elim, fun b o h _ => h⟩
  obtain ⟨hl, hv⟩ := hown
  rcases hv with ⟨hv, _⟩ | ⟨A', cap, cur, hv, _, hblk, hn, _, hsz, htk⟩
  · cases hv
  · cases hv
    have hnx : ∀ o, ¬ excl X g ⟨[], [], nx, 0⟩ A o := fun o hx => by
      have := h1.bd _ _ hx
      omega
    refine .sl 1 xs.length _ A 0 _ xs (by omega) (Nat.le_refl _) (fun k u hu => ⟨?_, hnx _⟩) (fun i _ => rfl) (fun i j c u hi hc hu => ?_)
    · have hk := (List.getElem?_eq_some_iff.1 hu).1
      rw [cell_of_block hblk, Nat.zero_add]
      have : (cur.toList.take (xs.length * 1))[k]? = some u := by rw [htk]; exact hu
      rw [List.getElem?_take] at this
      split at this
      · simpa using this
      · cases this
    · cases j with
      | zero =>
        simp only [AV.cells, List.getElem?_cons_zero, Option.some.injEq] at hc
        subst hc
        rw [Nat.mul_one, Nat.add_zero] at hu
        have : xs.getD i undef = u := by rw [List.getD_eq_getElem?_getD, hu]; rfl
        rw [this]
        exact .v _
      | succ j => simp [AV.cells] at hc
theorem below_of_evo {w w' : World} (h : Evo none2 w w') : Below w.heap.size w w' := ⟨h.os, h.tape, h.output, h.size, fun b hb => h.blk b hb fun o q => q⟩
theorem pred_of_tells {g : FuncId} {p : Nat → Bool} (h : ∀ x : Nat, x ≤ 1114111 → Tells P g [.v (.int .i32 x)] (.v (.bool (p x)))) (w : World) (hw : Kn w none2) : Go.Proofs.PredGrows P g #[] p w := fun W x hx hWw => by
  have hk : HOk W (excl none2 [] ⟨[], [], 0, 0⟩) [] ⟨[], [], 0, 0⟩ := ⟨by simp, by simp, by simp [Heap.ids], rfl, fun b o hx => (by rcases hx with hx | ⟨p, hp, _⟩ | ⟨p, hp, _⟩ <;> first | exact hx.elim | cases hp), fun p hp => ⟨by obtain ⟨⟨e, fz, h1⟩, _⟩ := hw p hp; exact ⟨e, fz, (hWw.block _ (lt_of_block h1)).trans h1⟩, fun o hx => (by rcases hx with hx | ⟨p, hp, _⟩ | ⟨p, hp, _⟩ <;> first | exact hx.elim | cases hp)⟩⟩
  have hc := (h x hx 0).2 none2 W [] [.int .i32 x] hk (fun _ _ hx => hx.elim) rfl (fun k c u hc hu => by
    cases k with
    | zero => simp at hc hu; subst hc; subst hu; exact .v _
    | succ k => simp at hc)
  refine Calls.mono (show Calls P g _ W _ from hc) fun e w' ⟨r, h', g', a1, a2, _, _, _, a3, _⟩ => ?_
  cases r with
  | pan x => exact a2.elim
  | ret r =>
    obtain ⟨u, rfl, e2⟩ := a1
    have := a2.1 _ _ _ _ e2
    cases this
    refine ⟨rfl, below_of_evo (a3.mono fun b o _ hx => ?_)⟩
    rcases hx with hx | ⟨p, hp, _⟩ | ⟨p, hp, _⟩
    · exact hx
    · cases hp
    · cases hp
theorem fn_le {f : FuncId} : AVle (.fn (.func f) [] []) (.v (.func (.func f) #[] #[])) := fun w X g u hr => by
  cases hr with
  | fn _ _ _ v1 v2 h1 h2 _ _ =>
    have e1 : v1 = [] := List.eq_nil_of_length_eq_zero h1
    have e2 : v2 = [] := List.eq_nil_of_length_eq_zero h2
    subst e1; subst e2
    exact .v _
end Go.Vl

/- Functions of the shelf that look at a row of plain values. -/
namespace Go.Vl
open Go.RowKit
variable {P : Program}

theorem tells_row1 {f : FuncId} {xs vs : List Value} {u : Value} (hcb : callable P f)
    (h0 : xs.length = 0 → ∀ (a : Option Addr) (cap : Nat) w, Kn w none2 → Calls P f (Value.slice a 0 cap :: vs).toArray w fun e w' => e = .returned u ∧ Below w.heap.size w w')
    (h1 : ∀ (b off cap : Nat) w, Kn w none2 → (∀ (j : Nat) x, xs[j]? = some x → w.cell? ⟨b, off + j, none⟩ = some x) → b < w.heap.size → xs.length ≤ cap → 0 < xs.length → Calls P f (Value.slice (some ⟨b, off, none⟩) xs.length cap :: vs).toArray w fun e w' => e = .returned u ∧ Below w.heap.size w w') :
    Tells P f (.sl 1 xs.length (fun k => .v (xs.getD k undef)) :: vs.map .v) (.v u) := fun nx => by
  refine ⟨hcb, fun X w g us k1 k2 k3 k4 => ?_⟩
  match us, k3, k4 with
  | a :: us, k3, k4 =>
  have ha := k4 0 _ a rfl rfl
  obtain rfl : us = vs := args_eq (by simpa using k3) fun k c v hc hv => k4 (k + 1) c v (by simpa using hc) (by simpa using hv)
  have hk := k1.kn.none
  have key : Calls P f (a :: us).toArray w fun e w' => e = .returned u ∧ Below w.heap.size w w' := by
    generalize hxs : (fun k => AV.v (xs.getD k undef)) = F at ha
    generalize hn : xs.length = n at ha
    cases ha with
    | sl0 _ _ a0 cap => exact h0 hn a0 cap w hk
    | sl _ _ _ b off cap ws hlen hcap hcell hc hrep =>
      rcases Nat.eq_zero_or_pos n with hz | hz
      · subst hz
        exact h0 hn _ cap w hk
      · subst hn
        have hat : ∀ (j : Nat) x, xs[j]? = some x → w.cell? ⟨b, off + j, none⟩ = some x := fun j x hx => by
          have hj := (List.getElem?_eq_some_iff.1 hx).1
          have hw : j < ws.length := by omega
          have hr := hrep j 0 (.v (xs.getD j undef)) ws[j] hj (by rw [← hxs]; rfl) (by rw [Nat.mul_one, Nat.add_zero]; exact List.getElem?_eq_getElem hw)
          have e : ws[j] = xs.getD j undef := by generalize ws[j] = q at hr; cases hr; rfl
          rw [(hcell j _ (List.getElem?_eq_getElem hw)).1, e, List.getD_eq_getElem?_getD, hx]
          rfl
        have hb : b < w.heap.size := World.block_lt_of_cell? w _ (hat 0 xs[0] (List.getElem?_eq_getElem hz))
        exact h1 b off cap w hk hat hb hcap hz
  refine (fnWay P f).mono (w0 := w) (g := g) (R := _) key fun e w' ⟨he, hb⟩ => ?_
  have hev := Evo.of_below hb
  exact ⟨.ret (.v u), ⟨[], [], nx, 0⟩, g, ⟨u, he, .v _⟩, ⟨AVle.refl _, rfl, rfl⟩, fun _ _ h => h, k1.evo0 hev, fun b o hx i hi => (by cases hi), hev.mono fun b o _ h => h.elim, fun b o h _ => h⟩
end Go.Vl

/- Scopes of labels through which no run jumps. -/
namespace Go.Vl
open Go.RowKit
variable {P : Program}

section
variable {F : Fence} {n : Nat} {b : Frame} {a : Act} {k : List Item} {cs : List Frame} {w : World} {Q : Exit → Act → World → Prop}
theorem stepR_scope' {c : Code} : step P (lone (b.atR a (.code (.scope c) :: k)) cs w) = .next (lone (b.atR a (.code c :: .inScope c :: k)) cs w) :=
  step_lone_go (by simp [stepG, stepG.exec, Frame.atR])
theorem stepR_inScope' {c : Code} : step P (lone (b.atR a (.inScope c :: k)) cs w) = .next (lone (b.atR a k) cs w) :=
  step_lone_go (by simp [stepG, stepG.exec, Frame.atR])
theorem wpIn_scope' {c : Code} (h : c.wpIn F n P (Exit.noGoto Q) a w) : (Code.scope c).wpIn F n P Q a w := by
  intro b k cs hro hb hr
  have h0 : (lone (b.atR a (.code (.scope c) :: k)) cs w).fenced P F := fenced_calm hb hr rfl
  obtain ⟨e, a₁, w₁, hq, harr⟩ := h b (.inScope c :: k) cs hro hb hr
  cases e with
  | normal => exact ⟨.normal, a₁, w₁, hq, .head h0 stepR_scope' (StepsIn.trans harr (.one (fenced_calm hb hr rfl) stepR_inScope'))⟩
  | exit id' =>
    have hx : exitTo id' (.inScope c :: k) = exitTo id' k := by simp [exitTo]
    exact ⟨.exit id', a₁, w₁, hq, fun k' hk => .head h0 stepR_scope' (harr.1 k' (by rw [hx]; exact hk)),
      fun hr' hk => let ⟨k₁, h1, h2⟩ := harr.2 hr' (by rw [hx]; exact hk); ⟨k₁, h1, .head h0 stepR_scope' h2⟩⟩
  | goto l => exact hq.elim
  | ret => exact ⟨_, a₁, w₁, hq, .of_steps (.one h0 stepR_scope') harr⟩
  | panic ch => exact ⟨_, a₁, w₁, hq, .of_steps (.one h0 stepR_scope') harr⟩
  | outgrown => exact ⟨_, a₁, w₁, hq, .of_steps (.one h0 stepR_scope') harr⟩
end
def scopeQ (Q : AExit → Env → Prop) : AExit → Env → Prop
  | .goto _, _ => False
  | e, E => Q e E
theorem aw_scope {c : Code} {E : Env} {Q : AExit → Env → Prop} (h : AW P c E (scopeQ Q)) : AW P (.scope c) E Q := by
  unfold AW
  intro r X M w0 a w g g0 hg hs
  unfold AW at h
  refine wpIn_scope' (wpIn_mono (h r X M w0 a w g g0 hg hs) fun ex a' w' hq => ?_)
  obtain ⟨ax, E', g', q, hx, hg', s⟩ := hq
  cases ax with
  | goto l => exact q.elim
  | normal => cases (hx : ex = .normal); exact ⟨.normal, E', g', q, rfl, hg', s⟩
  | ret => cases (hx : ex = .ret); exact ⟨.ret, E', g', q, rfl, hg', s⟩
  | exit id => cases (hx : ex = .exit id); exact ⟨.exit id, E', g', q, rfl, hg', s⟩
  | panic x =>
    obtain ⟨v, hv, hr⟩ := hx
    subst hv
    exact ⟨.panic x, E', g', q, ⟨v, rfl, hr⟩, hg', s⟩
end Go.Vl

/- Regions that draw, with effects that stand in no order: what each order of them leads to is told by a tree. -/
namespace Go.Vl
open Go.RowKit
variable {P : Program}

/-- Ways: an effect, pure operations that hang on it, what comes then; or another way. -/
inductive MT where
  | nil
  | br (e : Nat) (ps : List Nat) (t : MT) (o : MT)
def MT.path : MT → List Nat
  | nil => []
  | br e ps t _ => e :: (ps ++ t.path)
def MT.heads : MT → List Nat
  | nil => []
  | br e _ _ o => e :: o.heads
def MT.ob (P : Program) (ops : Array Oper) (B : List (Id × Own)) (eff : Nat → Bool) : MT → Bool → Env → (Env → Prop) → Prop
  | nil, true, E, K => K E
  | nil, false, _, _ => True
  | br e ps t o, _, E, K => (MixL P ops B eff [e] E fun E' => MixL P ops B eff ps E' fun E' => t.ob P ops B eff true E' K) ∧ o.ob P ops B eff false E K
def MT.obN (P : Program) (ops : Array Oper) (B : List (Id × Own)) (eff tl : Nat → Bool) : MT → Bool → Env → (Env → Prop) → Prop
  | nil, true, E, K => K E
  | nil, false, _, _ => True
  | br e ps t o, _, E, K => (aN P ops B eff tl (e :: ps) E fun E' => t.obN P ops B eff tl true E' K) ∧ o.obN P ops B eff tl false E K
theorem MixL.split {ops : Array Oper} {B : List (Id × Own)} {eff : Nat → Bool} {K : Env → Prop} {e : Nat} {L : List Nat} {E : Env} (h : MixL P ops B eff (e :: L) E K) : MixL P ops B eff [e] E fun E' => MixL P ops B eff L E' K := by
  obtain ⟨o, h1, h2⟩ := h
  refine ⟨o, h1, ?_⟩
  cases he : eff e with
  | true => simp only [he] at h2 ⊢; obtain ⟨R, q1, q2⟩ := h2; exact ⟨R, q1, fun r h' hr => q2 r h' hr⟩
  | false => simp only [he] at h2 ⊢; obtain ⟨r, q1, q2⟩ := h2; exact ⟨r, q1, q2⟩
theorem MT.ob_use {ops : Array Oper} {B : List (Id × Own)} {eff tl : Nat → Bool} {K : Env → Prop} : ∀ (t : MT) (b : Bool) (E : Env), t.obN P ops B eff tl b E K → t.ob P ops B eff b E K
  | nil, true, _, h => h
  | nil, false, _, _ => trivial
  | br e ps t o, _, E, h => ⟨(MixL.mono (fun _ q => MixL.mono (fun _ q => MT.ob_use t true _ q) q) (aN_use h.1).split), MT.ob_use o false E h.2⟩
def sameL (a S : List Nat) : Bool := Nat.beq a.length S.length && (a.all fun i => S.contains i) && S.all fun i => a.contains i
def MT.comp (eff : Nat → Bool) (bf : Array Nat) (t : MT) : Bool := t.path.all fun x => (eff x && t.heads.contains x) || t.path.any fun y => (bf.getD x 0).testBit y
/-- As ordM.go, and effects may stand in no order. -/
def ordW (ops : Array Oper) (eff : Nat → Bool) (bf : Array Nat) : List Nat → Bool
  | [] => true
  | i :: l => (l.all fun j => match ops[i]?, ops[j]? with
    | some oi, some oj => (!Nat.beq i j) && ((oi.after.toList.all fun e => !Region.binds .any e || !Nat.beq e.on j) && (eff i || ((bf.getD j 0).testBit i || oi.apart ops oj)))
    | _, _ => false) && ((match ops[i]? with | some oi => oi.after.toList.all fun e => !Region.binds .any e || !Nat.beq e.on i | none => false) && ordW ops eff bf l)
def PairW (ops : Array Oper) (eff : Nat → Bool) (i j : Nat) : Prop :=
  i ≠ j ∧ ∀ oi oj, ops[i]? = some oi → ops[j]? = some oj → (∀ e ∈ oi.after, Region.binds .any e = true → e.on ≠ j) ∧ (eff i = true ∨ ((Region.before ops).getD j 0).testBit i = true ∨ oi.apart ops oj = true)
theorem ordW_go {ops : Array Oper} {eff : Nat → Bool} : ∀ {L : List Nat}, ordW ops eff (Region.before ops) L = true →
    L.Pairwise (PairW ops eff) ∧ ∀ i ∈ L, ∀ oi, ops[i]? = some oi → ∀ e ∈ oi.after, Region.binds .any e = true → e.on ≠ i
  | [], _ => ⟨.nil, by simp⟩
  | i :: l, h => by
    simp only [ordW, Bool.and_eq_true] at h
    obtain ⟨h1, h2, h3⟩ := h
    obtain ⟨q1, q2⟩ := ordW_go h3
    refine ⟨List.pairwise_cons.2 ⟨fun j hj => ?_, q1⟩, fun k hk => ?_⟩
    · have := List.all_eq_true.1 h1 j hj
      split at this
      · rename_i oi oj hi hj'
        simp only [Bool.and_eq_true, Bool.or_eq_true, List.all_eq_true] at this
        obtain ⟨p1, p2, p3⟩ := this
        refine ⟨beq_no p1, fun oi' oj' hi2 hj2 => ?_⟩
        rw [hi] at hi2; rw [hj'] at hj2
        cases hi2; cases hj2
        refine ⟨fun e he hb => ?_, p3⟩
        rcases p2 e (Array.mem_toList_iff.2 he) with h | h
        · simp [hb] at h
        · exact beq_no h
      · cases this
    · rcases List.mem_cons.1 hk with rfl | hk
      · intro oi hi e he hb
        rw [hi] at h2
        have := List.all_eq_true.1 h2 e (Array.mem_toList_iff.2 he)
        simp only [hb, Bool.not_true, Bool.false_or] at this
        exact beq_no this
      · exact q2 k hk
theorem pairM_of {ops : Array Oper} {eff : Nat → Bool} {L : List Nat} (hpe : ∀ i ∈ L, eff i = false) (h : L.Pairwise (PairW ops eff)) : L.Pairwise (PairM ops eff) :=
  h.imp_of_mem fun {a b} ha _ hp => ⟨hp.1, fun oi oj hi hj => ⟨(hp.2 oi oj hi hj).1, by
    rcases (hp.2 oi oj hi hj).2 with h | h | h
    · rw [hpe a ha] at h; cases h
    · exact .inl h
    · exact .inr ⟨hpe a ha, h⟩⟩⟩
def MT.ck (ops : Array Oper) (eff : Nat → Bool) (bf : Array Nat) : MT → List Nat → List Nat → Bool
  | nil, _, _ => true
  | br e ps t o, acc, S => eff e && ((ps.all fun i => !eff i) && (ordW ops eff bf (acc ++ e :: (ps ++ t.path)) && (sameL (e :: (ps ++ t.path)) S && (t.comp eff bf && (t.ck ops eff bf (acc ++ ps) t.path && o.ck ops eff bf acc S)))))
theorem sameL_use {a S : List Nat} (h : sameL a S = true) : a.length = S.length ∧ ∀ i, i ∈ a ↔ i ∈ S := by
  unfold sameL at h
  simp only [Bool.and_eq_true, List.all_eq_true, List.contains_iff_mem] at h
  exact ⟨Nat.eq_of_beq_eq_true h.1.1, fun i => ⟨h.1.2 i, h.2 i⟩⟩
theorem MT.alt {ops : Array Oper} {B : List (Id × Own)} {eff : Nat → Bool} {K : Env → Prop} {j : Nat} {acc S : List Nat} : ∀ (t : MT), j ∈ t.heads → t.ck ops eff (Region.before ops) acc S = true →
    ∃ (ps : List Nat) (t' : MT), eff j = true ∧ (∀ i ∈ ps, eff i = false) ∧ ordW ops eff (Region.before ops) (acc ++ j :: (ps ++ t'.path)) = true ∧ sameL (j :: (ps ++ t'.path)) S = true ∧ t'.comp eff (Region.before ops) = true ∧ t'.ck ops eff (Region.before ops) (acc ++ ps) t'.path = true ∧
      ∀ b E, t.ob P ops B eff b E K → MixL P ops B eff [j] E fun E' => MixL P ops B eff ps E' fun E' => t'.ob P ops B eff true E' K
  | nil, h, _ => by cases h
  | br e ps t o, h, hc => by
    simp only [MT.ck, Bool.and_eq_true] at hc
    obtain ⟨c1, c2, c3, c4, c5, c6, c7⟩ := hc
    by_cases hj : j = e
    · subst hj
      exact ⟨ps, t, c1, fun i hi => by simpa using List.all_eq_true.1 c2 i hi, c3, c4, c5, c6, fun b E h => by cases b <;> exact h.1⟩
    · rcases List.mem_cons.1 h with h | h
      · exact absurd h hj
      · obtain ⟨ps', t', d1, d2, d3, d4, d5, d6, d7⟩ := MT.alt o h c7
        exact ⟨ps', t', d1, d2, d3, d4, d5, d6, fun b E h => d7 false E (by cases b <;> exact h.2)⟩
theorem mix_tree {ops : Array Oper} {m : Nat} {B : List (Id × Own)} {eff : Nat → Bool} {Q : Exit → Act → World → Prop} (hk : OrdOk ops m) (hm : m ≤ ops.size)
    {ro : Option Nat} {X M : Nat → Nat → Prop} {w0 : World} {g0 : List Nat} {K : Env → Prop}
    (hq : ∀ E a w g, K E → (∀ (i b : Nat), g0[i]? = some b → g[i]? = some b) → St ro X M w0 E a w g → wpOpsIn (Fr ro) 0 P ops Q (List.range' m (ops.size - m)) a w) :
    ∀ (n : Nat) (pre acc : List Nat) (t : MT) (listed : Array Bool) (E : Env) (a : Act) (w : World) (g : List Nat), pre.length + t.path.length = n → pre.Sublist acc → (∀ i ∈ pre, eff i = false) → (pre ++ t.path).Pairwise (PairW ops eff) → (∀ i ∈ pre ++ t.path, i < m) →
      (∀ i ∈ pre ++ t.path, ∀ oi, ops[i]? = some oi → ∀ e ∈ oi.after, Region.binds .any e = true → e.on ≠ i) → t.comp eff (Region.before ops) = true → t.ck ops eff (Region.before ops) acc t.path = true → listed.size = ops.size → DC ops listed →
    (∀ i, i < ops.size → (listed.getD i true = false ↔ i ∈ pre ++ t.path ∨ m ≤ i)) →
    MixL P ops B eff pre E (fun E' => t.ob P ops B eff true E' K) → HB B E.h.bx → (∀ (i b : Nat), g0[i]? = some b → g[i]? = some b) → St ro X M w0 E a w g → wpAnyIn (Fr ro) 0 P .any ops Q (n + (ops.size - m)) listed a w := by
  intro n
  induction n with
  | zero =>
    intro pre acc t listed E a w g hl _ hpe hpw hlt hself _ _ hsz hd hun hrun hB hg hs
    cases t with
    | nil => exact mix_any hk hm hq 0 pre listed E a w g (by simpa [MT.path] using hl) (pairM_of hpe (by simpa [MT.path] using hpw)) (by simpa [MT.path] using hlt) (by simpa [MT.path] using hself) hsz hd (by simpa [MT.path] using hun) hrun hB hg hs
    | br e ps t o => simp [MT.path] at hl
  | succ n ih =>
    intro pre acc t listed E a w g hl hac hpe hpw hlt hself hcomp hck hsz hd hun hrun hB hg hs
    cases t with
    | nil => exact mix_any hk hm hq (n + 1) pre listed E a w g (by simpa [MT.path] using hl) (pairM_of hpe (by simpa [MT.path] using hpw)) (by simpa [MT.path] using hlt) (by simpa [MT.path] using hself) hsz hd (by simpa [MT.path] using hun) hrun hB hg hs
    | br e0 ps0 t0 o0 =>
    generalize hT : MT.br e0 ps0 t0 o0 = T at *
    rw [Nat.add_right_comm]
    obtain ⟨k, L', hkL⟩ : ∃ k L', pre ++ T.path = k :: L' := by
      subst hT
      cases pre with
      | nil => exact ⟨_, _, rfl⟩
      | cons k l => exact ⟨_, _, rfl⟩
    have hkmem : k ∈ pre ++ T.path := by rw [hkL]; simp
    have hkm : k < m := hlt k hkmem
    have hklt : k < ops.size := by omega
    have hko : ops[k]? = some ops[k] := Array.getElem?_eq_getElem hklt
    have hpk := hpw
    rw [hkL] at hpk
    have hkr : k ∈ Region.ready .any ops listed := by
      refine mem_ready_iff.2 ⟨(hun k hklt).2 (.inl hkmem), _, hko, fun e he hb => ?_⟩
      have hb' := hk.back k _ hko e he hb
      rw [listed_bool (by omega)]
      cases hl : listed.getD e.on true with
      | true => simpa using hl
      | false =>
        rcases (hun e.on (by omega)).1 hl with h' | h'
        · rw [hkL] at h'
          rcases List.mem_cons.1 h' with h' | h'
          · exact absurd h' (hself k hkmem _ hko e he hb)
          · exact absurd rfl (((List.pairwise_cons.1 hpk).1 _ h').2 _ _ hko (Array.getElem?_eq_getElem (by omega)) |>.1 e he hb)
        · omega
    refine ⟨fun h0 => (by rw [h0] at hkr; cases hkr), fun j hj => ?_⟩
    obtain ⟨h1, oj, hoj, h2⟩ := mem_ready_iff.1 hj
    have hjlt := (Array.getElem?_eq_some_iff.1 hoj).1
    have hjL : j ∈ pre ++ T.path := by
      rcases (hun j hjlt).1 h1 with h' | h'
      · exact h'
      · have hb := hk.tail k j oj hoj h' (by omega)
        have := before_listed hd hsz hoj h2 hb
        have h3 := (hun k (by omega)).2 (.inl hkmem)
        rw [listed_bool (by omega)] at this
        simp [h3] at this
    have hnb : ∀ i, i ∈ pre ++ T.path → ((Region.before ops).getD j 0).testBit i = true → False := fun i hi hb => by
      have hilt : i < ops.size := by have := hlt i hi; omega
      have := before_listed hd hsz hoj h2 hb
      have h3 := (hun i hilt).2 (.inl hi)
      rw [listed_bool (by omega)] at this
      simp [h3] at this
    have hset : ∀ (L2 : List Nat), (∀ i, i ≠ j → (i ∈ pre ++ T.path ↔ i ∈ L2)) → j ∉ L2 → j < m → ∀ i, i < ops.size → ((listed.setIfInBounds j true).getD i true = false ↔ i ∈ L2 ∨ m ≤ i) := fun L2 hL hj2 hjm i hi => by
      rw [listed_set (by omega)]
      by_cases hij : i = j
      · subst hij
        simp only [if_true]
        constructor
        · intro h; cases h
        · intro h
          exfalso
          rcases h with h | h
          · exact hj2 h
          · omega
      · rw [if_neg hij, hun i hi, hL i hij]
    have hjm := hlt j hjL
    rcases List.mem_append.1 hjL with hjp | hjp
    · obtain ⟨l1, l2, rfl⟩ := List.append_of_mem hjp
      have hej := hpe j hjp
      have hpw' : (l1 ++ j :: (l2 ++ T.path)).Pairwise (PairW ops eff) := by simpa using hpw
      have hl1 : ∀ i ∈ l1, PairW ops eff i j := fun i hi => (List.pairwise_append.1 hpw').2.2 i hi j (by simp)
      obtain ⟨o, ho, hrun'⟩ := MixL.front hoj l1 l2 E (fun i hi => by
        have hilt : i < ops.size := by have := hlt i (by simp [hi]); omega
        have hb := hpe i (by simp [hi])
        rcases ((hl1 i hi).2 _ _ (Array.getElem?_eq_getElem hilt) hoj).2 with hb' | hb' | hb'
        · rw [hb] at hb'; cases hb'
        · exact (hnb i (by simp [hi]) hb').elim
        · exact ⟨hb, fun oi hoi => by rw [Array.getElem?_eq_getElem hilt] at hoi; cases hoi; exact hb'⟩) hrun
      rw [hoj] at ho
      cases ho
      simp only [hej] at hrun'
      obtain ⟨r, q1, q2⟩ := hrun'
      have hsub : (l1 ++ l2 ++ T.path).Sublist (l1 ++ j :: l2 ++ T.path) := by simp [List.Sublist.append_left]
      have hnj : j ∉ l1 ++ l2 ++ T.path := fun h => by
        have h5 := List.pairwise_append.1 hpw'
        rw [List.append_assoc] at h
        rcases List.mem_append.1 h with h | h
        · exact (h5.2.2 j h j (by simp)).1 rfl
        · exact ((List.pairwise_cons.1 h5.2.1).1 j h).1 rfl
      refine (q1 E hB fun _ _ => rfl).does hoj hs fun a' w' hs' => ih (l1 ++ l2) acc T _ _ a' w' g (by simp at hl ⊢; omega) ((by simp [List.Sublist.append_left] : (l1 ++ l2).Sublist (l1 ++ j :: l2)).trans hac) (fun i hi => hpe i (by rcases List.mem_append.1 hi with h | h <;> simp [h])) (hpw.sublist hsub) (fun i hi => hlt i (hsub.subset hi)) (fun i hi => hself i (hsub.subset hi)) hcomp hck (by simp [hsz]) (hd.set hsz hk hj) (hset _ (fun i hij => by simp [hij]) hnj hjm) q2 (by rw [Env.set_h]; exact hB) hg hs'
    · have hcj := List.all_eq_true.1 hcomp j hjp
      simp only [Bool.or_eq_true, Bool.and_eq_true, List.any_eq_true] at hcj
      rcases hcj with ⟨_, hcj⟩ | ⟨y, hy, hby⟩
      rotate_left
      · exact (hnb y (by simp [hy]) hby).elim
      obtain ⟨ps, t', d1, d2, d3, d4, d5, d6, d7⟩ := MT.alt (P := P) (B := B) (K := K) T (List.contains_iff_mem.1 hcj) hck
      obtain ⟨e1, e2⟩ := ordW_go d3
      obtain ⟨s1, s2⟩ := sameL_use d4
      have hfull : (pre ++ j :: (ps ++ t'.path)).Pairwise (PairW ops eff) := e1.sublist (hac.append (List.Sublist.refl _))
      have h5 := List.pairwise_append.1 hfull
      have hmem : ∀ i, i ∈ pre ++ T.path ↔ i = j ∨ i ∈ (pre ++ ps) ++ t'.path := fun i => by
        rw [List.mem_append, ← s2]
        simp only [List.mem_cons, List.mem_append]
        constructor
        · rintro (h | h | h | h)
          · exact .inr (.inl (.inl h))
          · exact .inl h
          · exact .inr (.inl (.inr h))
          · exact .inr (.inr h)
        · rintro (h | (h | h) | h)
          · exact .inr (.inl h)
          · exact .inl h
          · exact .inr (.inr (.inl h))
          · exact .inr (.inr (.inr h))
      have hnew : ((pre ++ ps) ++ t'.path).Sublist (pre ++ j :: (ps ++ t'.path)) := by
        rw [List.append_assoc]
        exact List.Sublist.append (List.Sublist.refl _) (List.sublist_cons_self _ _)
      have hnj : j ∉ (pre ++ ps) ++ t'.path := fun h => by
        rw [List.append_assoc] at h
        rcases List.mem_append.1 h with h | h
        · exact (h5.2.2 j h j (by simp)).1 rfl
        · exact ((List.pairwise_cons.1 h5.2.1).1 j h).1 rfl
      have h6 : MixL P ops B eff (j :: (pre ++ [])) E (fun E' => MixL P ops B eff ps E' fun E' => t'.ob P ops B eff true E' K) := MixL.front hoj pre [] E (fun i hi => by
        have hilt : i < ops.size := by have := hlt i (by simp [hi]); omega
        have hb := hpe i hi
        rcases ((h5.2.2 i hi j (by simp)).2 _ _ (Array.getElem?_eq_getElem hilt) hoj).2 with hb' | hb' | hb'
        · rw [hb] at hb'; cases hb'
        · exact (hnb i (by simp [hi]) hb').elim
        · exact ⟨hb, fun oi hoi => by rw [Array.getElem?_eq_getElem hilt] at hoi; cases hoi; exact hb'⟩) (MixL.app (MixL.mono (fun E' h => d7 true E' h) hrun))
      rw [List.append_nil] at h6
      obtain ⟨o, ho, hrun'⟩ := h6
      rw [hoj] at ho
      cases ho
      simp only [d1] at hrun'
      obtain ⟨R, ⟨q0, q1⟩, q2⟩ := hrun'
      unfold wpOpIn
      simp only [hoj, Region.wanted, q0, if_true]
      refine q1 E rfl (fun _ _ => rfl) ro X M w0 a w g hs _ _ (fun E' a' w' g' hE hgg hs' => ?_) (fun x E' a' w' g' v hk' => hk'.elim)
      obtain ⟨r, h', p1, p2, rfl⟩ := hE
      refine ih (pre ++ ps) (acc ++ ps) t' _ _ a' w' g' ?_ (hac.append (List.Sublist.refl _)) (fun i hi => ?_) (hfull.sublist hnew) (fun i hi => hlt i ((hmem i).2 (.inr hi))) (fun i hi => hself i ((hmem i).2 (.inr hi))) d5 d6 (by simp [hsz]) (hd.set hsz hk hj) (hset _ (fun i hij => by rw [hmem]; simp [hij]) hnj hjm) (MixL.app (q2 r h' p1)) (by rw [Env.set_h]; exact p2) (fun i b hi => hgg i b (hg i b hi)) hs'
      · simp only [List.length_cons, List.length_append] at s1 hl ⊢; omega
      · rcases List.mem_append.1 hi with h | h
        · exact hpe i h
        · exact d2 i h

def ordT (ops : Array Oper) (m : Nat) (eff : Nat → Bool) (pre : List Nat) (t : MT) : Bool :=
  let bf := Region.before ops
  Nat.ble m ops.size && (ordB ops m && ((pre ++ t.path).all (fun i => Nat.blt i m) && ((List.range m).all (fun i => (pre ++ t.path).contains i) && (ordW ops eff bf (pre ++ t.path) && (pre.all (fun i => !eff i) && (t.comp eff bf && t.ck ops eff bf pre t.path))))))
/-- As aw_mixN, with effects that stand in no order: all their orders by a tree. -/
theorem aw_mixT {id : Nat} {ops : Array Oper} {E : Env} {Q : AExit → Env → Prop} (m : Nat) (B : List (Id × Own)) (eff tl : Nat → Bool) (pre : List Nat) (t : MT) (hf : P.follows .mixedOrders = true) (hb : ordT ops m eff pre t = true) (hB : HB B E.h.bx)
    (h : aN P ops B eff tl pre E fun E' => t.obN P ops B eff tl true E' fun E' => aK P ops (ops.toList.drop m) E' (Q .normal) (fun x E => Q (.panic x) E)) : AW P (.region id ops true) E Q := by
  simp only [ordT, Bool.and_eq_true, List.all_eq_true] at hb
  obtain ⟨h0, h00, h1, h2, h3, h4, h5, h6⟩ := hb
  have hm := ble_true h0
  obtain ⟨g4, g5⟩ := ordW_go h3
  have hlt : ∀ i ∈ pre ++ t.path, i < m := fun i hi => blt_true (h1 i hi)
  have hall : ∀ i, i < m → i ∈ pre ++ t.path := fun i hi => by simpa using h2 i (List.mem_range.2 hi)
  have hnd : (pre ++ t.path).Nodup := g4.imp fun h => h.1
  have hlen : pre.length + t.path.length = m := by
    have p : (pre ++ t.path).Perm (List.range m) := (List.perm_ext_iff_of_nodup hnd List.nodup_range).2 fun i => ⟨fun hi => List.mem_range.2 (hlt i hi), fun hi => hall i (List.mem_range.1 hi)⟩
    simpa using p.length_eq
  unfold AW
  intro ro X M w0 a w g g0 hg hs
  refine wpIn_region_any hf ?_
  have hs' : St ro X M w0 E a { w with drawn := w.drawn + 1 } g := hs.drew
  have key := mix_tree (eff := eff) (g0 := g0) (K := fun E' => aK P ops (ops.toList.drop m) E' (Q .normal) (fun x E => Q (.panic x) E)) (Q := lift ro X M w0 g0 Q) (P := P) (X := X) (M := M) (w0 := w0) (ro := ro) (B := B) (ordOk h00) hm (fun E' a' w' g' hk hg' hs'' => by
      have := aK_sound (P := P) (ops := ops) (K := Q .normal) (X := X) (M := M) (w0 := w0) (g0 := g0) (Kp := fun x E => Q (.panic x) E) (ro := ro) (Q := lift ro X M w0 g0 Q) (fun E a w g hk hg hs => ⟨.normal, E, g, hk, rfl, hg, hs⟩) (fun x E a w g v hk hg hs hr => ⟨.panic x, E, g, hk, ⟨v, rfl, hr⟩, hg, hs⟩) (ops.toList.drop m) m E' a' w' g' (fun j => .inl (by simp)) hg' hs'' hk
      simpa using this) m pre pre t (Array.replicate ops.size false) E a _ g hlen (List.Sublist.refl _) (fun i hi => by simpa using h4 i hi) g4 hlt g5 h5 h6 (by simp) (fun k o ho hl => by
      have hk := (Array.getElem?_eq_some_iff.1 ho).1
      simp [Array.getD_eq_getD_getElem?, hk] at hl) (fun i hi => by
      have : (Array.replicate ops.size false).getD i true = false := by simp [Array.getD_eq_getD_getElem?, hi]
      simp only [this, true_iff]
      rcases Nat.lt_or_ge i m with h | h
      · exact .inl (hall i h)
      · exact .inr h) (MixL.mono (fun _ q => MT.ob_use t true _ q) (aN_use h)) hB hg hs'
  have e : m + (ops.size - m) = ops.size := by omega
  rw [e] at key
  exact key
end Go.Vl

/- Appending what stands in a box of one's own; parts of rows in boxes, as pure operations. -/
namespace Go.Vl
open Go.RowKit
variable {P : Program}

theorem appSrc_hs {E : Env} {x : Operand} {i : Id} {off m cap szx : Nat} {cs : List AV} {f' : Nat → AV} (hs : E.ev x = .hs i off m cap) (hcs : m ≠ 0 → hget i.1 E.h.bx = some (i.2, cs)) (hle : m ≠ 0 → off + m * szx ≤ cs.length)
    (hc : ∀ j, j < m → (f' j).cells.length = szx) (hf : ∀ j q, j < m → q < szx → (f' j).cells[q]? = cs[off + (j * szx + q)]?) : AppSrc E x szx m f' := by
  intro ro X M w0 a w g hst
  have hsa := hst.ev x
  rw [hs] at hsa
  generalize a.eval x = u at hsa
  cases hsa with
  | hs _ _ _ _ b' hg' =>
    refine ⟨fun h => by subst h; exact ⟨_, _, rfl⟩, fun h => ?_⟩
    obtain ⟨b, hg, vs, e', hb, hvs, hr⟩ := hst.hok.bx _ (hget_mem (hcs h))
    dsimp only at hg hvs hr
    have hle := hle h
    rw [hg] at hg'; cases hg'
    refine ⟨⟨b', off, none⟩, cap, (vs.toList.drop off).take (m * szx), rfl, by simp only [List.length_take, List.length_drop, Array.length_toList]; omega, fun j u hu => ?_, hc, fun i' j c u hi hj hu => ?_⟩
    · rw [List.getElem?_take] at hu
      split at hu
      · rw [List.getElem?_drop] at hu
        rw [add_none, cell_of_block hb]
        simpa using hu
      · cases hu
    · have hjl : j < szx := by rw [← hc i' hi]; exact (List.getElem?_eq_some_iff.1 hj).1
      have hlt : i' * szx + j < m * szx := by
        have : (i' + 1) * szx ≤ m * szx := Nat.mul_le_mul_right _ hi
        rw [Nat.add_mul, Nat.one_mul] at this
        omega
      rw [List.getElem?_take, if_pos hlt, List.getElem?_drop] at hu
      rw [hf i' j hi hjl] at hj
      exact hr (off + (i' * szx + j)) c u hj (by simpa using hu)
theorem eff_appendH {ops : Array Oper} {B : List (Id × Own)} {o : Oper} {E : Env} {s x : Operand} {t e : TypeId} {sz n szx m off cap : Nat} {f f' : Nat → AV} {oi : Option Id} {i : Id} {cs : List AV} (hB : HB B E.h.bx) (hg : o.guard = none)
    (ho : o.op = .call { callee := .builtin .append, args := #[s, x], argTypes := #[t, t] }) (hs : E.ev s = .os sz n f oi)
    (hx : E.ev x = .hs i off m cap) (hcs : m ≠ 0 → hget i.1 E.h.bx = some (i.2, cs)) (hle : m ≠ 0 → off + m * szx ≤ cs.length)
    (hc : ∀ j, j < m → (f' j).cells.length = szx) (hf : ∀ j q, j < m → q < szx → (f' j).cells[q]? = cs[off + (j * szx + q)]?)
    (ht : P.underlying t = some (.slice e)) (hgr : growOk P e = true) (hsz : (n = 0 ∧ oi = none) ∨ sz = P.cellsOf e) (hszx : m = 0 ∨ szx = P.cellsOf e)
    (hperm : ∀ i, oi = some i → permGet i.1 E.h.pm = some (i.2, n * P.cellsOf e)) (hone : oneRow m f')
    (hroom0 : m ≠ 0 → (n + m) * P.bytesOf e ≤ 140737488355328) (hlen0 : m ≠ 0 → n + m ≤ 9223372036854775807) :
    Eff P ops B o E fun r h' => (m = 0 ∧ r = .os sz n f oi ∧ h' = E.h) ∨ (m ≠ 0 ∧ r = .os (P.cellsOf e) (n + m) (appF n f f') (some (E.h.nn, E.h.nx)) ∧ h' = E.h.grow oi ((n + m) * P.cellsOf e)) := by
  refine ⟨hg, fun E' hh htt => ?_⟩
  have hev := ev_congr htt
  have es : E'.ev s = E.ev s := hev s (by rw [ho]; simp [Op.operands, Call.operands])
  have ex : E'.ev x = E.ev x := hev x (by rw [ho]; simp [Op.operands, Call.operands])
  refine aop_appendS ho (es.trans hs) (appSrc_hs (ex.trans hx) (fun h => by rw [hh]; exact hcs h) hle hc hf) ht hgr hsz hszx (by rw [hh]; exact hperm) hone hroom0 hlen0 (fun hm => ?_) (fun hm => ?_)
  · exact ⟨_, E'.h, .inl ⟨hm, rfl, hh⟩, by rw [hh]; exact hB, rfl⟩
  · exact ⟨_, _, .inr ⟨hm, by rw [hh], by rw [hh]⟩, by rw [hh]; cases oi <;> exact hB, rfl⟩
theorem pure_yields1 {ops : Array Oper} {B : List (Id × Own)} {o : Oper} {E : Env} {r : AV} (hg : o.guard = none) (h : ∀ E' : Env, (∀ x ∈ o.op.operands, E'.ev x = E.ev x) → Yields P o E' r) : PureAll P ops B o E r := fun E' _ htt => by
  unfold GY
  simp only [hg]
  have hev := ev_congr htt
  exact h E' fun x hx => hev x hx
theorem pure_cutB {ops : Array Oper} {B : List (Id × Own)} {o : Oper} {E : Env} {t e : TypeId} {x hi : Operand} {n l cap : Nat} {i : Id} {k' : IntKind} {d : TypeDesc} (hg : o.guard = none) (ho : o.op = .slice t x none (some hi) none) (hx : E.ev x = .hs i 0 n cap)
    (hhi : E.ev hi = .v (.int k' (l : Int))) (ht : P.underlying t = some (.slice e)) (hd : P.underlying e = some d) (hl : l ≤ cap) (hc : 0 < cap) : PureAll P ops B o E (.hs i 0 l cap) :=
  pure_yields1 hg fun E' h => yields_cutB ho ((h x (by rw [ho]; simp [Op.operands])).trans hx) ((h hi (by rw [ho]; simp [Op.operands])).trans hhi) ht hd hl hc
theorem pure_tailB {ops : Array Oper} {B : List (Id × Own)} {o : Oper} {E : Env} {t e : TypeId} {x lo : Operand} {n l cap : Nat} {i : Id} {k' : IntKind} {d : TypeDesc} (hg : o.guard = none) (ho : o.op = .slice t x (some lo) none none) (hx : E.ev x = .hs i 0 n cap)
    (hlo : E.ev lo = .v (.int k' (l : Int))) (ht : P.underlying t = some (.slice e)) (hd : P.underlying e = some d) (hl : l ≤ n) (hn : n ≤ cap) : ∃ off, (l < cap → off = l * P.cellsOf e) ∧ PureAll P ops B o E (.hs i off (n - l) (cap - l)) := by
  rcases Nat.lt_or_ge l cap with hc | hc
  · exact ⟨_, fun _ => rfl, pure_yields1 hg fun E' h => yields_tailB ho ((h x (by rw [ho]; simp [Op.operands])).trans hx) ((h lo (by rw [ho]; simp [Op.operands])).trans hlo) ht hd hl hn hc⟩
  · have el : l = cap := by omega
    have en : n = cap := by omega
    subst el; subst en
    refine ⟨0, fun h => absurd h (Nat.lt_irrefl _), pure_yields1 hg fun E' h => ⟨(by rw [ho]; intro c hc; cases hc), fun ρ w X g hk hr => .inl ?_⟩⟩
    have r1 := hr x (by rw [ho]; simp [Op.operands])
    have r3 := hr lo (by rw [ho]; simp [Op.operands])
    rw [(h x (by rw [ho]; simp [Op.operands])).trans hx] at r1; rw [(h lo (by rw [ho]; simp [Op.operands])).trans hlo] at r3
    have e3 := rep_v r3
    generalize hu : ρ x = u at r1
    cases r1 with
    | hs _ _ _ _ b hgb =>
      have hN : (Instr.sliceBounds true n n (some (.int k' (n : Int))) none none).run P w = .ok (n, n, n) w := by
        have e5 : (0 : Int) ≤ (n : Int) := by omega
        simp [Instr.sliceBounds, Instr.sliceBound, asIntOf]
      refine ⟨.slice (some ⟨b, 0, none⟩) (n - n) (n - n), w, ?_, Evo.refl _ _, .hs _ _ _ _ b hgb⟩
      unfold execOp
      simp only [ho, hu, Option.map_some, e3, Option.map_none]
      refine run_value ?_
      simp [Instr.sliceAt, Sem.run_bind, run_underlying ht, Result.andThen_ok, Instr.slice, hN, run_sizeOf' hd, Sem.run_pure, add_none]
end Go.Vl

/- What is told is what comes back. -/
namespace Go.Vl
open Go.RowKit
variable {P : Program}

theorem pcall_of_tells {f : FuncId} {ars : List AV} {s : AV} (h : Tells P f ars s) : PCall P f ars (fun r => r = s) := fun nx => by
  refine ⟨(h nx).1, fun X w g us h1 h2 h3 h4 => ?_⟩
  refine (fnWay P f).mono (w0 := w) (g := g) ((h nx).2 X w g us h1 h2 h3 h4) fun e w' ⟨r, h', g', a1, a2, a3⟩ => ?_
  cases r with
  | pan x => exact a2.elim
  | ret r =>
    obtain ⟨u, e1, e2⟩ := a1
    exact ⟨.ret s, h', g', ⟨u, e1, a2.1 _ _ _ _ e2⟩, ⟨rfl, a2.2⟩, a3⟩
end Go.Vl

namespace Go.Proofs.W

/-- A condition. -/
structure Cnd where
  arg : Int
  op : Int
  mask : Nat
  value : Nat
deriving DecidableEq
def cnd0 : Cnd := ⟨0, 0, 0, 0⟩
def M64 : Nat := 18446744073709551615
def Cnd.ok (c : Cnd) : Prop := c.mask < 18446744073709551616 ∧ c.value < 18446744073709551616
def rightC (c : Cnd) : Bool := decide (0 ≤ c.arg) && decide (c.arg ≤ 5) && decide (1 ≤ c.op) && decide (c.op ≤ 7) && (decide (c.op = 7) || decide (c.mask = 0))
/-- A number, less the bits of another one. -/
def clrB (v m : Nat) : Nat := v &&& (18446744073709551615 - m)
def isC (b : Bool) : Cnd × Nat := (cnd0, if b then 1 else 2)
def asC (c : Cnd) (op : Int) (v : Nat) : Cnd × Nat := (⟨c.arg, op, 0, v⟩, 0)
def underC (c : Cnd) (v : Nat) : Cnd × Nat := if v = 0 then isC false else if v = 1 then asC c 1 0 else asC c 3 v
def overC (c : Cnd) (v : Nat) : Cnd × Nat := if v = 0 then isC true else if v = 18446744073709551615 then asC c 1 v else asC c 6 v
def bitsC (c : Cnd) : Cnd × Nat := if clrB c.value c.mask ≠ 0 then isC false else if c.mask = 0 then isC true else if c.mask = 18446744073709551615 then asC c 1 c.value else (c, 0)
def formC (c : Cnd) : Cnd × Nat :=
  if c.op = 3 then underC c c.value
  else if c.op = 6 then overC c c.value
  else if c.op = 7 then bitsC c
  else if c.op = 4 then (if c.value = 18446744073709551615 then isC true else underC c (c.value + 1))
  else if c.op = 5 then (if c.value = 18446744073709551615 then isC false else overC c (c.value + 1))
  else (c, 0)
def normC (c : Cnd) : Cnd × Nat := if rightC c then formC c else isC false
/-- Does a condition hold? -/
def holdsC (c : Cnd) (a : Nat) : Bool :=
  if c.op = 1 then decide (a = c.value)
  else if c.op = 2 then !decide (a = c.value)
  else if c.op = 3 then decide (a < c.value)
  else if c.op = 4 then decide (a ≤ c.value)
  else if c.op = 5 then decide (a > c.value)
  else if c.op = 6 then decide (a ≥ c.value)
  else decide (a &&& c.mask = c.value)
theorem rightC_iff {c : Cnd} : rightC c = true ↔ 0 ≤ c.arg ∧ c.arg ≤ 5 ∧ 1 ≤ c.op ∧ c.op ≤ 7 ∧ (c.op = 7 ∨ c.mask = 0) := by
  simp [rightC, and_assoc]
theorem clr_bit {v m : Nat} (hm : m < 2 ^ 64) (i : Nat) : (clrB v m).testBit i = (v.testBit i && (decide (i < 64) && !m.testBit i)) := by
  unfold clrB
  rw [Nat.testBit_and, show (18446744073709551615 : Nat) - m = 2 ^ 64 - (m + 1) by omega, Nat.testBit_two_pow_sub_succ hm]
set_option maxRecDepth 10000 in
theorem clr_zero {v m : Nat} (hv : v < 2 ^ 64) (hm : m < 2 ^ 64) : clrB v m = 0 ↔ v ||| m = m := by
  have hb : ∀ i, ¬ i < 64 → v.testBit i = false := fun i hi => Nat.testBit_lt_two_pow (Nat.lt_of_lt_of_le hv (Nat.pow_le_pow_right (by decide) (by omega)))
  constructor
  · intro h
    refine Nat.eq_of_testBit_eq fun i => ?_
    have h1 := clr_bit (v := v) hm i
    rw [h, Nat.zero_testBit] at h1
    rw [Nat.testBit_or]
    by_cases hi : i < 64
    · rw [decide_eq_true hi] at h1
      revert h1
      cases v.testBit i <;> cases m.testBit i <;> decide
    · rw [hb i hi]; simp
  · intro h
    refine Nat.eq_of_testBit_eq fun i => ?_
    rw [clr_bit hm, Nat.zero_testBit]
    have h1 := congrArg (·.testBit i) h
    simp only [Nat.testBit_or] at h1
    revert h1
    cases v.testBit i <;> cases m.testBit i <;> simp
/-- A normal form holds where the condition does. -/
theorem normC_holds {c : Cnd} (ho : c.ok) (hr : rightC c = true) {a : Nat} (ha : a < 18446744073709551616) :
    ((normC c).2 = 1 → holdsC c a = true) ∧ ((normC c).2 = 2 → holdsC c a = false) ∧ ((normC c).2 = 0 → rightC (normC c).1 = true ∧ (normC c).1.arg = c.arg ∧ holdsC (normC c).1 a = holdsC c a) := by
  obtain ⟨h1, h2, h3, h4, h5⟩ := rightC_iff.1 hr
  obtain ⟨o1, o2⟩ := ho
  obtain ⟨arg, op, mask, value⟩ := c
  dsimp only at h1 h2 h3 h4 h5 o1 o2
  unfold normC
  rw [if_pos hr]
  have hop : op = 1 ∨ op = 2 ∨ op = 3 ∨ op = 4 ∨ op = 5 ∨ op = 6 ∨ op = 7 := by omega
  rcases hop with rfl | rfl | rfl | rfl | rfl | rfl | rfl
  · simp [formC, hr]
  · simp [formC, hr]
  · obtain rfl : mask = 0 := by omega
    simp only [formC, if_true, underC]
    split
    · simp [isC, holdsC]; (first | omega | rfl | exact decide_eq_decide.2 (by omega))
    · split
      · simp [asC, holdsC, rightC, h1, h2]; (first | omega | rfl | exact decide_eq_decide.2 (by omega))
      · simp [asC, holdsC, rightC, h1, h2]; try rfl
  · obtain rfl : mask = 0 := by omega
    simp only [formC]
    simp only [show ((4 : Int) = 3) = False by simp, show ((4 : Int) = 6) = False by simp, show ((4 : Int) = 7) = False by simp, if_false, if_true]
    split
    · simp [isC, holdsC]; (first | omega | rfl | exact decide_eq_decide.2 (by omega))
    · simp only [underC]
      split
      · omega
      · split
        · simp [asC, holdsC, rightC, h1, h2]; (first | omega | rfl | exact decide_eq_decide.2 (by omega))
        · simp [asC, holdsC, rightC, h1, h2]; (first | omega | rfl | exact decide_eq_decide.2 (by omega))
  · obtain rfl : mask = 0 := by omega
    simp only [formC]
    simp only [show ((5 : Int) = 3) = False by simp, show ((5 : Int) = 6) = False by simp, show ((5 : Int) = 7) = False by simp, show ((5 : Int) = 4) = False by simp, if_false, if_true]
    split
    · simp [isC, holdsC]; (first | omega | rfl | exact decide_eq_decide.2 (by omega))
    · simp only [overC]
      split
      · omega
      · split
        · simp [asC, holdsC, rightC, h1, h2]; (first | omega | rfl | exact decide_eq_decide.2 (by omega))
        · simp [asC, holdsC, rightC, h1, h2]; (first | omega | rfl | exact decide_eq_decide.2 (by omega))
  · obtain rfl : mask = 0 := by omega
    simp only [formC]
    simp only [show ((6 : Int) = 3) = False by simp, if_false, if_true, overC]
    split
    · simp [isC, holdsC]; (first | omega | rfl | exact decide_eq_decide.2 (by omega))
    · split
      · simp [asC, holdsC, rightC, h1, h2]; (first | omega | rfl | exact decide_eq_decide.2 (by omega))
      · simp [asC, holdsC, rightC, h1, h2]
  · simp only [formC]
    simp only [show ((7 : Int) = 3) = False by simp, show ((7 : Int) = 6) = False by simp, if_false, if_true, bitsC]
    have hor : a &&& mask ||| mask = mask := by
      refine Nat.eq_of_testBit_eq fun i => ?_
      rw [Nat.testBit_or, Nat.testBit_and]
      cases a.testBit i <;> cases mask.testBit i <;> rfl
    split
    · rename_i hz
      have hz' : ¬ (value ||| mask = mask) := fun h => hz ((clr_zero o2 o1).2 h)
      have : ¬ (a &&& mask = value) := fun h => hz' (by rw [← h]; exact hor)
      simp [isC, holdsC, this]
    · rename_i hz
      have hz' : value ||| mask = mask := (clr_zero o2 o1).1 (Decidable.not_not.1 hz)
      split
      · rename_i hm
        subst hm
        have : value = 0 := by simpa using hz'
        simp [isC, holdsC, this]
      · split
        · rename_i hm
          subst hm
          have hmask : a &&& 18446744073709551615 = a := by
            rw [show (18446744073709551615 : Nat) = 2 ^ 64 - 1 by decide, Nat.and_two_pow_sub_one_eq_mod]
            exact Nat.mod_eq_of_lt (by simpa using ha)
          simp [asC, holdsC, rightC, h1, h2, hmask]; rfl
        · simp [hr]
/-- As the reference says it. -/
def refC (c : Cnd) : Cnd × Nat :=
  if c.op = 4 ∧ c.value = 18446744073709551615 then (cnd0, 1)
  else if c.op = 5 ∧ c.value = 18446744073709551615 then (cnd0, 2)
  else
    let c := if c.op = 4 ∨ c.op = 5 then ⟨c.arg, c.op * 3 - 9, c.mask, c.value + 1⟩ else c
    if c.op = 3 ∧ c.value = 0 ∨ c.op = 7 ∧ c.value ||| c.mask ≠ c.mask then (cnd0, 2)
    else if c.op = 6 ∧ c.value = 0 ∨ c.op = 7 ∧ c.mask = 0 then (cnd0, 1)
    else if c.op = 3 ∧ c.value = 1 then (⟨c.arg, 1, c.mask, 0⟩, 0)
    else if c.op = 6 ∧ c.value = 18446744073709551615 then (⟨c.arg, 1, c.mask, c.value⟩, 0)
    else if c.op = 7 ∧ c.mask = 18446744073709551615 then (⟨c.arg, 1, 0, c.value⟩, 0)
    else (c, 0)
theorem refC_eq {c : Cnd} (ho : c.ok) (hr : rightC c = true) : refC c = normC c := by
  obtain ⟨h1, h2, h3, h4, h5⟩ := rightC_iff.1 hr
  obtain ⟨o1, o2⟩ := ho
  obtain ⟨arg, op, mask, value⟩ := c
  dsimp only at h1 h2 h3 h4 h5 o1 o2
  unfold normC
  rw [if_pos hr]
  have hop : op = 1 ∨ op = 2 ∨ op = 3 ∨ op = 4 ∨ op = 5 ∨ op = 6 ∨ op = 7 := by omega
  have hz := clr_zero o2 o1
  rcases hop with rfl | rfl | rfl | rfl | rfl | rfl | rfl
  · simp [formC, refC]
  · simp [formC, refC]
  · obtain rfl : mask = 0 := by omega
    simp [formC, refC, underC, isC, asC]
    repeat' split
    all_goals simp_all
  · obtain rfl : mask = 0 := by omega
    simp [formC, refC, underC, isC, asC]
    repeat' split
    all_goals simp_all
  · obtain rfl : mask = 0 := by omega
    simp [formC, refC, overC, isC, asC]
    repeat' split
    all_goals simp_all
    all_goals omega
  · obtain rfl : mask = 0 := by omega
    simp [formC, refC, overC, isC, asC]
    repeat' split
    all_goals simp_all
  · simp [formC, refC, bitsC, isC, asC, hz]
    repeat' split
    all_goals simp_all
end Go.Proofs.W

namespace Go.Proofs.W
open Go.Vl

/-- An instruction. -/
structure Ins where
  code : Nat
  jt : Nat
  jf : Nat
  k : Nat
deriving DecidableEq
def ins0 : Ins := ⟨0, 0, 0, 0⟩
def Ins.ok (i : Ins) : Prop := i.code < 65536 ∧ i.jt < 256 ∧ i.jf < 256 ∧ i.k < 4294967296
def aloneL : List (Nat × Nat) := [(32, 1), (0, 2), (96, 3), (128, 4), (1, 5), (97, 6), (129, 7), (2, 8), (3, 9), (7, 10), (135, 11), (132, 12), (5, 13), (6, 14), (22, 15)]
def bothL : List (Nat × Nat) := [(4, 16), (20, 17), (36, 18), (52, 19), (68, 20), (84, 21), (100, 22), (116, 23), (164, 24), (21, 25), (37, 26), (53, 27), (69, 28)]
def lk (l : List (Nat × Nat)) (c : Nat) : Option Nat := (l.find? (fun p => p.1 == c)).map (·.2)
def clr8 (c : Nat) : Nat := c - 8 * ((c / 8) % 2)
/-- What a code means: its kind (0: none), is its other side X? -/
def kof (c : Nat) : Nat × Bool := match lk aloneL c with
  | some k => (k, false)
  | none => match lk bothL (clr8 c) with
    | some k => (k, (c / 8) % 2 == 1)
    | none => (0, false)
theorem lk_some {l : List (Nat × Nat)} {c k : Nat} (h : lk l c = some k) : (c, k) ∈ l := by
  unfold lk at h
  rw [Option.map_eq_some_iff] at h
  obtain ⟨p, h1, h2⟩ := h
  have := List.find?_some h1
  have hm := List.mem_of_find?_eq_some h1
  simp at this
  obtain ⟨a, b⟩ := p
  dsimp only at this h2
  subst this; subst h2
  exact hm
theorem lk_none {l : List (Nat × Nat)} {c : Nat} (h : lk l c = none) : ∀ p ∈ l, p.1 ≠ c := by
  unfold lk at h
  rw [Option.map_eq_none_iff, List.find?_eq_none] at h
  intro p hp
  have := h p hp
  simpa using this
theorem kof_le (c : Nat) : (kof c).1 ≤ 28 := by
  unfold kof
  split
  · rename_i k h
    have := lk_some h
    have hd : ∀ p ∈ aloneL, p.2 ≤ 28 := by decide
    exact hd _ this
  · split
    · rename_i k h
      have := lk_some h
      have hd : ∀ p ∈ bothL, p.2 ≤ 28 := by decide
      exact hd _ this
    · simp
/-- As the reference asks. -/
def refOf (c : Nat) : Nat × Bool :=
  match [32, 0, 96, 128, 1, 97, 129, 2, 3, 7, 135, 132, 5, 6, 22].findIdx? (fun a => c == a) with
  | some i => (i + 1, false)
  | none => match [4, 20, 36, 52, 68, 84, 100, 116, 164, 21, 37, 53, 69].findIdx? (fun a => c == a || c == a + 8) with
    | some i => (i + 16, c != [4, 20, 36, 52, 68, 84, 100, 116, 164, 21, 37, 53, 69].getD i 0)
    | none => (0, false)
theorem refOf_small : ∀ c, c < 256 → refOf c = kof c := by decide +kernel
theorem kof_big {c : Nat} (h : 256 ≤ c) : kof c = (0, false) := by
  have h1 : lk aloneL c = none := by
    cases hl : lk aloneL c with
    | none => rfl
    | some k =>
      have := lk_some hl
      have hd : ∀ p ∈ aloneL, p.1 < 256 := by decide
      have := hd _ this; dsimp only at this; omega
  have h2 : lk bothL (clr8 c) = none := by
    cases hl : lk bothL (clr8 c) with
    | none => rfl
    | some k =>
      have := lk_some hl
      have hd : ∀ p ∈ bothL, p.1 < 200 := by decide
      have := hd _ this; unfold clr8 at this; dsimp only at this; omega
  simp [kof, h1, h2]
theorem refOf_big {c : Nat} (h : 256 ≤ c) : refOf c = (0, false) := by
  have h1 : [32, 0, 96, 128, 1, 97, 129, 2, 3, 7, 135, 132, 5, 6, 22].findIdx? (fun a => c == a) = none := by
    rw [List.findIdx?_eq_none_iff]
    have hd : ∀ a ∈ [32, 0, 96, 128, 1, 97, 129, 2, 3, 7, 135, 132, 5, 6, 22], a < 256 := by decide
    intro a ha
    have := hd a ha
    simp; omega
  have h2 : [4, 20, 36, 52, 68, 84, 100, 116, 164, 21, 37, 53, 69].findIdx? (fun a => c == a || c == a + 8) = none := by
    rw [List.findIdx?_eq_none_iff]
    have hd : ∀ a ∈ [4, 20, 36, 52, 68, 84, 100, 116, 164, 21, 37, 53, 69], a < 200 := by decide
    intro a ha
    have := hd a ha
    simp; omega
  simp [refOf, h1, h2]
theorem refOf_eq (c : Nat) : refOf c = kof c := by
  rcases Nat.lt_or_ge c 256 with h | h
  · exact refOf_small c h
  · rw [refOf_big h, kof_big h]

/-- What is wrong with an instruction alone; rest: how many stand behind it. -/
def wrongI (i : Ins) (rest : Nat) : Nat :=
  let (kind, x) := kof i.code
  if kind = 0 then 5
  else if kind = 1 ∧ (i.k % 4 ≠ 0 ∨ 64 ≤ i.k) then 6
  else if (kind = 3 ∨ kind = 6 ∨ kind = 8 ∨ kind = 9) ∧ 16 ≤ i.k then 7
  else if x = false ∧ kind = 19 ∧ i.k = 0 then 8
  else if x = false ∧ (kind = 22 ∨ kind = 23) ∧ 31 < i.k then 9
  else if (kind = 13 ∧ rest ≤ i.k) ∨ (25 ≤ kind ∧ (rest ≤ i.jt ∨ rest ≤ i.jf)) then 10
  else 0
/-- The list's first three points: where, and what. -/
def formedI (l : List Ins) : Nat × Nat :=
  if l.length = 0 then (0, 4)
  else if 4096 < l.length then (0, 3)
  else match (List.range l.length).find? (fun n => wrongI (l.getD n ins0) (l.length - 1 - n) != 0) with
    | some n => (n, wrongI (l.getD n ins0) (l.length - 1 - n))
    | none => if (kof (l.getD (l.length - 1) ins0).code).1 = 14 ∨ (kof (l.getD (l.length - 1) ins0).code).1 = 15 then (0, 0) else (l.length - 1, 11)
end Go.Proofs.W

namespace Go.Proofs.W
open Go.Vl
set_option maxRecDepth 100000

def int (n : Int) : AV := .v (.int .i64 n)
def u8 (n : Int) : AV := .v (.int .u8 n)
def u16 (n : Int) : AV := .v (.int .u16 n)
def u32 (n : Int) : AV := .v (.int .u32 n)
def boolA (b : Bool) : AV := .v (.bool b)
def insA (i : Ins) : AV := .ag [u16 i.code, u8 i.jt, u8 i.jf, u32 i.k]
def inss (l : List Ins) : AV := slOf 4 insA ins0 l
def ints (l : List Nat) : AV := slOf 1 (fun n : Nat => int n) 0 l
def bools (l : List Bool) : AV := slOf 1 boolA false l
def u16s (l : List Nat) : AV := slOf 1 (fun n : Nat => u16 n) 0 l

def codeM (l : List (Nat × Nat)) : List (Value × AV) := l.map fun p => (.int .u16 (p.1 : Nat), int (p.2 : Nat))
theorem alook_code (l : List (Nat × Nat)) (c : Nat) : alook (.int .u16 (c : Nat)) (codeM l) = (lk l c).map fun k => int (k : Nat) := by
  induction l with
  | nil => rfl
  | cons p l ih =>
    unfold codeM at ih ⊢
    simp only [List.map_cons, alook]
    unfold lk at ih ⊢
    rw [List.find?_cons]
    have : keyIs (.int .u16 (c : Nat)) (.int .u16 (p.1 : Nat)) = (p.1 == c) := by
      simp only [keyIs, kindEq, Bool.true_and]
      rw [Bool.eq_iff_iff]; simp; omega
    rw [this]
    cases h : p.1 == c
    · simpa using ih
    · simp
theorem keysFit_code (l : List (Nat × Nat)) : keysFit (.int .u16) (codeM l) = true := by
  simp [keysFit, codeM, keyFit, kindEq]
end Go.Proofs.W

namespace Go.Proofs.W
open Go.Vl
set_option maxRecDepth 100000

theorem bne_no {a b : Int} (h : false = (a != b)) : a = b := by simpa using h.symm
theorem bne_yes {a b : Int} (h : true = (a != b)) : a ≠ b := by simpa using h.symm
def looked (i : Ins) (k : Nat) (x : Bool) (r : Nat) : AV := .ag [u16 i.code, u8 i.jt, u8 i.jf, u32 i.k, int k, boolA x, int r]
theorem fct_b0 {a b : Int} : (false = (a == b)) ↔ a ≠ b := by rw [eq_comm]; simp
theorem fct_b1 {a b : Int} : (true = (a == b)) ↔ a = b := by rw [eq_comm]; simp
theorem fct_n0 {a b : Int} : (false = (a != b)) ↔ a = b := by rw [eq_comm]; simp
theorem fct_n1 {a b : Int} : (true = (a != b)) ↔ a ≠ b := by rw [eq_comm]; simp
theorem fct_d0 {p : Prop} [Decidable p] : (false = decide p) ↔ ¬ p := by rw [eq_comm]; simp
theorem fct_d1 {p : Prop} [Decidable p] : (true = decide p) ↔ p := by rw [eq_comm]; simp
end Go.Proofs.W

namespace Go.Proofs.W
open Go.Vl
set_option maxRecDepth 100000

def u64 (n : Int) : AV := .v (.int .u64 n)
def cndA (c : Cnd) : AV := .ag [int c.arg, int c.op, u64 c.mask, u64 c.value]
def cnds (l : List Cnd) : AV := slOf 4 cndA cnd0 l
theorem right_spec (c : Cnd) : Tells Tryz.prog 56 [cndA c] (boolA (rightC c)) := by
  refine tells_of_aw Tryz.func56 rfl rfl fun nx => ?_
  (repeat' (refine stp ?_; intro c h; cases c))
  all_goals
    refine stp ?_
    refine ret_tells rfl (le_bool ?_)
    (try simp only [fct_b0, fct_b1, fct_d0, fct_d1, fct_n0, fct_n1] at *)
    simp [rightC]
    omega
theorem u64_andNot {a b : Nat} (ha : a < 18446744073709551616) (hb : b < 18446744073709551616) : bitsI .andNot .u64 a b = ((clrB a b : Nat) : Int) :=
  bits_andNot (k := .u64) ha hb (by
    have : a &&& (2 ^ IntKind.u64.bits - 1 - b) ≤ a := Nat.and_le_left
    have : a &&& (2 ^ IntKind.u64.bits - 1 - b) < 18446744073709551616 := by omega
    simp [IntKind.wrap, IntKind.signed, IntKind.bits] at this ⊢
    omega)
def mostC (c : Cnd) : Cnd × Nat := if c.value = 18446744073709551615 then isC true else underC c (c.value + 1)
def aboveC (c : Cnd) : Cnd × Nat := if c.value = 18446744073709551615 then isC false else overC c (c.value + 1)
theorem u64_succ {v : Nat} (h : v < 18446744073709551616) (h2 : v ≠ 18446744073709551615) : IntKind.u64.wrap ((v : Int) + 1) = ((v + 1 : Nat) : Int) := by
  simp [IntKind.wrap, IntKind.signed, IntKind.bits]
  omega
theorem le_u64 {a b : Int} (h : a = b) : AVle (.v (.int .u64 a)) (u64 b) := h ▸ AVle.refl _
def fn0 (f : Nat) : AV := .fn (.func f) [] []
end Go.Proofs.W

namespace Go.Proofs.W
open Go.Vl
set_option maxRecDepth 100000

theorem NoId.fm {es : List (Value × AV)} (h : ∀ p ∈ es, NoId p.2) : NoId (.fm es) := fun w X g g' u hr => by
  cases hr with
  | fm _ b ents hb hx hn hk hr => exact .fm es b ents hb hx hn hk fun k p e hp he => h p (List.mem_of_getElem? hp) w X g g' _ (hr k p e hp he)
theorem noid_cnd (c : Cnd) (n : Int) : NoId (.tup [cndA c, int n]) := NoId.tup (by
  intro x hx
  simp only [List.mem_cons, List.not_mem_nil, or_false] at hx
  rcases hx with rfl | rfl
  · exact NoId.ag (by intro y hy; simp only [List.mem_cons, List.not_mem_nil, or_false] at hy; rcases hy with rfl | rfl | rfl | rfl <;> exact NoId.v _)
  · exact NoId.v _)
theorem right10_spec (c : Cnd) : Tells Tryz.prog 45 [cndA c] (boolA (rightC c)) := by
  refine tells_of_aw Tryz.func45 rfl rfl fun nx => ?_
  (repeat' (refine stp ?_; intro c h; cases c))
  all_goals
    refine stp ?_
    refine ret_tells rfl (le_bool ?_)
    (try simp only [fct_b0, fct_b1, fct_d0, fct_d1, fct_n0, fct_n1] at *)
    simp [rightC]
    omega
theorem u64_or {a b : Nat} (ha : a < 18446744073709551616) (hb : b < 18446744073709551616) : bitsI .or .u64 a b = ((a ||| b : Nat) : Int) :=
  bits_or (k := .u64) ha hb (by
    have : a ||| b < 2 ^ 64 := Nat.or_lt_two_pow ha hb
    simp [IntKind.wrap, IntKind.signed, IntKind.bits] at this ⊢
    omega)
theorem u64_and {a b : Nat} (ha : a < 18446744073709551616) (hb : b < 18446744073709551616) : bitsI .and .u64 a b = ((a &&& b : Nat) : Int) :=
  bits_and (k := .u64) ha hb (by
    have : a &&& b ≤ a := Nat.and_le_left
    simp [IntKind.wrap, IntKind.signed, IntKind.bits] at this ⊢
    omega)
end Go.Proofs.W

namespace Go.Proofs.W
open Go.Vl
set_option maxRecDepth 100000

theorem hold1_spec (a : Nat) (c : Cnd) : Tells Tryz.prog 84 [u64 a, cndA c] (boolA (decide (a = c.value))) := by
  refine tells_of_aw Tryz.func84 rfl rfl fun nx => ?_
  refine stp ?_
  intro c h; cases c
  all_goals
    refine stp ?_
    refine ret_tells rfl (le_bool ?_)
    (try simp only [fct_b0, fct_b1, fct_d0, fct_d1, fct_n0, fct_n1] at *)
    first | omega | (simp; omega)
theorem hold2_spec (a : Nat) (c : Cnd) : Tells Tryz.prog 85 [u64 a, cndA c] (boolA (!decide (a = c.value))) := by
  refine tells_of_aw Tryz.func85 rfl rfl fun nx => ?_
  refine stp ?_
  intro c h; cases c
  all_goals
    refine stp ?_
    refine ret_tells rfl (le_bool ?_)
    (try simp only [fct_b0, fct_b1, fct_d0, fct_d1, fct_n0, fct_n1] at *)
    first | omega | (simp; omega)
theorem hold3_spec (a : Nat) (c : Cnd) : Tells Tryz.prog 86 [u64 a, cndA c] (boolA (decide (a < c.value))) := by
  refine tells_of_aw Tryz.func86 rfl rfl fun nx => ?_
  refine stp ?_
  intro c h; cases c
  all_goals
    refine stp ?_
    refine ret_tells rfl (le_bool ?_)
    (try simp only [fct_b0, fct_b1, fct_d0, fct_d1, fct_n0, fct_n1] at *)
    first | omega | (simp; omega)
theorem hold4_spec (a : Nat) (c : Cnd) : Tells Tryz.prog 87 [u64 a, cndA c] (boolA (decide (a ≤ c.value))) := by
  refine tells_of_aw Tryz.func87 rfl rfl fun nx => ?_
  refine stp ?_
  intro c h; cases c
  all_goals
    refine stp ?_
    refine ret_tells rfl (le_bool ?_)
    (try simp only [fct_b0, fct_b1, fct_d0, fct_d1, fct_n0, fct_n1] at *)
    first | omega | (simp; omega)
theorem hold5_spec (a : Nat) (c : Cnd) : Tells Tryz.prog 88 [u64 a, cndA c] (boolA (decide (a > c.value))) := by
  refine tells_of_aw Tryz.func88 rfl rfl fun nx => ?_
  refine stp ?_
  intro c h; cases c
  all_goals
    refine stp ?_
    refine ret_tells rfl (le_bool ?_)
    (try simp only [fct_b0, fct_b1, fct_d0, fct_d1, fct_n0, fct_n1] at *)
    first | omega | (simp; omega)
theorem hold6_spec (a : Nat) (c : Cnd) : Tells Tryz.prog 89 [u64 a, cndA c] (boolA (decide (a ≥ c.value))) := by
  refine tells_of_aw Tryz.func89 rfl rfl fun nx => ?_
  refine stp ?_
  intro c h; cases c
  all_goals
    refine stp ?_
    refine ret_tells rfl (le_bool ?_)
    (try simp only [fct_b0, fct_b1, fct_d0, fct_d1, fct_n0, fct_n1] at *)
    first | omega | (simp; omega)
theorem hold7_spec (a : Nat) (c : Cnd) (ha : a < 18446744073709551616) (ho : c.ok) : Tells Tryz.prog 90 [u64 a, cndA c] (boolA (decide (a &&& c.mask = c.value))) := by
  refine tells_of_aw Tryz.func90 rfl rfl fun nx => ?_
  refine stp ?_
  intro c h; cases c
  all_goals
    rw [u64_and ha ho.1] at h
    refine stp ?_
    refine ret_tells rfl (le_bool ?_)
    (try simp only [fct_b0, fct_b1, fct_d0, fct_d1, fct_n0, fct_n1] at *)
    first | omega | (simp; omega)
def strA (s : ByteArray) : AV := .v (.string s)
def opsL : List AV := [
  .ag [strA ⟨#[61, 61]⟩, fn0 84],
  .ag [strA ⟨#[33, 61]⟩, fn0 85],
  .ag [strA ⟨#[60]⟩, fn0 86],
  .ag [strA ⟨#[60, 61]⟩, fn0 87],
  .ag [strA ⟨#[62]⟩, fn0 88],
  .ag [strA ⟨#[62, 61]⟩, fn0 89],
  .ag [strA ⟨#[38]⟩, fn0 90]]
theorem ops_spec : Tells Tryz.prog 63 [] (.sl 2 7 (rowF opsL)) := by
  refine tells_of_aw Tryz.func63 rfl rfl fun nx => ?_
  refine stp ?_
  refine ret_tells rfl (le_rowF ⟨⟨⟨⟨⟨⟨⟨trivial, rfl⟩, rfl⟩, rfl⟩, rfl⟩, rfl⟩, rfl⟩, rfl⟩)
def args6 (a0 a1 a2 a3 a4 a5 : Nat) : AV := .ag [u64 a0, u64 a1, u64 a2, u64 a3, u64 a4, u64 a5]
theorem noid_cndA (c : Cnd) : NoId (cndA c) := NoId.ag (by intro y hy; simp only [List.mem_cons, List.not_mem_nil, or_false] at hy; rcases hy with rfl | rfl | rfl | rfl <;> exact NoId.v _)
theorem noid_ops : NoId (.sl 2 7 (rowF opsL)) := NoId.sl (by
  intro i hi x hx
  match i, hi with
  | 0, _ | 1, _ | 2, _ | 3, _ | 4, _ | 5, _ | 6, _ => rcases List.mem_cons.1 hx with rfl | hx; exact NoId.v _; rcases List.mem_cons.1 hx with rfl | hx; exact NoId.fn (by simp) (by simp); cases hx)
theorem ixc {c i : Nat} (h : c = 1) : 0 + Int.toNat ((i : Nat) : Int) * c = i := by subst h; omega
end Go.Proofs.W

/- Decimals: what reads the table of powers of ten. -/
namespace Go.Proofs
open Go.Shelf
shelf_lay LaysM.n171 Nm 171 at Tryz as Tryz.laysM171
end Go.Proofs
namespace Go.Proofs.W
open Go.Vl Go.Shelf Go.RowKit
set_option maxRecDepth 100000

theorem tab_pow {w : World} (h : Kn w none2) : Lib.TabIs Tryz.prog w "internal/strconv.uint64pow10" .u64 Lib.pow10Tab := by
  obtain ⟨⟨e, fz, h1⟩, _⟩ := h (3, (Go.Lib.pow10Tab.map fun z => Value.int .u64 z).toArray) (by unfold tabs; exact List.mem_cons_self)
  unfold Lib.TabIs World.var?
  rw [show Tryz.prog.globalNamed "internal/strconv.uint64pow10" = some 3 from by kernel_rfl]
  simp only [Option.bind_some]
  rw [h1]
theorem kn_of_tab {W : World} (h : Lib.TabIs Tryz.prog W "internal/strconv.uint64pow10" .u64 Lib.pow10Tab) : Kn W none2 := by
  unfold Lib.TabIs World.var? at h
  rw [show Tryz.prog.globalNamed "internal/strconv.uint64pow10" = some 3 from by kernel_rfl, Option.bind_some] at h
  intro p hp
  unfold tabs at hp
  obtain rfl := List.mem_singleton.1 hp
  refine ⟨?_, fun _ h => h⟩
  split at h
  · rename_i cs e fz hb
    cases h
    exact ⟨_, _, hb⟩
  · cases h
theorem below_drewK (w : World) : ∀ n, Below w.heap.size w (w.drewN n)
  | 0 => Below.refl _ _
  | n + 1 => (below_drewK w n).drew
theorem below_growN (w : World) (k : Nat) (os : Array Obj) : Below w.heap.size w (Sort.grow (w.drewN k) os) := by
  have h := below_drewK w k
  refine ⟨h.os, h.tape, h.output, Nat.le_trans h.size (by simp [Sort.grow]), fun j hj => ?_⟩
  rw [Sort.heap_grow_old _ _ (Nat.lt_of_lt_of_le hj h.size)]
  exact h.block j hj
def decB (n : Nat) : ByteArray := ⟨(Lib.decDigits n).toArray⟩
theorem itoa_nat (n : Nat) : Lib.itoa (n : Int) = Lib.decDigits n := by
  unfold Lib.itoa
  rw [if_neg (by omega)]
  rfl
theorem itoa_spec (n : Nat) (hn : n ≤ 9223372036854775807) : Tells Tryz.prog 62 [int n] (strA (decB n)) :=
  tells_of_callsK (vs := [.int .i64 n]) ⟨_, Tryz.func62, rfl, rfl⟩ fun w hk => (Any.strconv_Itoa Tryz.laysM171 n (by omega) (by omega) w (tab_pow hk)).mono fun e w' ⟨h1, k, os, h2⟩ => ⟨by rw [h1, itoa_nat]; rfl, by rw [h2]; exact below_growN w k os⟩
end Go.Proofs.W

/- Decimals of any number of 64 bits. -/
namespace Go.Proofs.W
open Go.Vl Go.Shelf Go.RowKit
set_option maxRecDepth 100000

theorem numd_spec (n : Nat) (h1 : 1 ≤ n) (h2 : n < 18446744073709551616) : Tells Tryz.prog 126 [u64 n] (int (Lib.nDigits n : Nat)) :=
  tells_of_callsK (vs := [.int .u64 n]) ⟨_, Tryz.func126, rfl, rfl⟩ fun w hk => (Any.internal_strconv_numDigits { Tryz.laysM171 with } n h1 h2 w (tab_pow hk)).mono fun e w' ⟨h1, h2⟩ => ⟨h1, h2 ▸ Below.refl _ _⟩
theorem small_spec (n : Nat) (h : n < 100) : Tells Tryz.prog 125 [int n] (strA (decB n)) :=
  tells_of_callsK (vs := [.int .i64 n]) ⟨_, Tryz.func125, rfl, rfl⟩ fun w hk => (Any.internal_strconv_small { Tryz.laysM171 with } n h w).mono fun e w' ⟨h1, h2⟩ => ⟨h1, h2 ▸ Below.refl _ _⟩
def byV (b : UInt8) : Value := .int .u8 (b.toNat : Int)
def zer (k : Nat) : List AV := List.replicate k (.v (.int .u8 0))
theorem zer_row {k : Nat} (h : k ≤ 24) : zer 24 = (Array.replicate k (0 : UInt8)).toList.map (fun b => AV.v (byV b)) ++ zer (24 - k) := by
  unfold zer
  rw [Array.toList_replicate, List.map_replicate, show byV 0 = .int .u8 0 from rfl, List.replicate_append_replicate]
  congr 1
  omega
theorem nd_le {n : Nat} (h1 : 1 ≤ n) (h : n < 18446744073709551616) : Lib.nDigits n ≤ 20 := by
  have := Lib.numDigits_eq n h1 h
  split at this <;> omega
def fmtC (n : Nat) : List AV := (Lib.decDigits n).map (fun b => AV.v (byV b)) ++ zer (24 - Lib.nDigits n)
theorem fmt10_spec (n : Nat) (h1 : 1 ≤ n) (h : n < 18446744073709551616) (s nx : Nat) :
    ECall Tryz.prog 127 [.hs (0, s) 0 (Lib.nDigits n) 24, u64 n] ⟨[((0, s), .c (zer 24))], [], nx, 1⟩ fun r h' => r = .tup [] ∧ h' = ⟨[((0, s), .c (fmtC n))], [], nx, 1⟩ := by
  have h20 := nd_le h1 h
  have hd : (Array.replicate (Lib.nDigits n) (0 : UInt8)).size = Lib.nDigits n := Array.size_replicate
  rw [zer_row (k := Lib.nDigits n) (by omega)]
  have := ecall_put (P := Tryz.prog) (enc := byV) (d := Array.replicate (Lib.nDigits n) (0 : UInt8)) (d' := (Lib.decDigits n).toArray) (tl := zer (24 - Lib.nDigits n)) (vs := [.int .u64 n]) (R := .tup []) (res := fun _ => .tuple #[]) (nm := 0) (s := s) (cap := 24) (nx := nx) (nn := 1) (f := 127) ⟨_, Tryz.func127, rfl, rfl⟩ (by rw [hd, List.size_toArray, Lib.decDigits_length]) (fun _ _ _ _ _ => .tup [] [] rfl (by simp)) (fun w blk hk hH hb => by
    have k := Any.internal_strconv_formatBase10 { Tryz.laysM171 with } blk 0 24 n (Array.replicate (Lib.nDigits n) 0) w hH (by rw [hd]; exact Lib.lt_pow_nDigits n) h (by rw [hd]; omega)
    refine k.mono fun e w' ⟨h1, q, v', dk, h2, hF⟩ => ⟨h1, q, #[], ?_⟩
    rw [hd] at hF
    have e1 : dk = (Lib.decDigits n).toArray := by
      refine Array.ext (by rw [hF.size, List.size_toArray, Lib.decDigits_length]) fun j hj1 hj2 => ?_
      have hj3 : j < (Lib.decDigits n).length := by simpa using hj2
      have := Lib.row_is_numeral hF j hj3
      have e3 : dk[j]! = dk[j] := by simp [hj1]
      exact e3.symm.trans (this.symm.trans (by simp))
    have e2 : (Sort.putRow byV w blk 0 dk).drewN q = Sort.putRow byV (Sort.ahead w q) blk 0 dk := by
      have := putRow_drewN byV w 0 q blk 0 dk
      rw [Nat.zero_add] at this
      exact this
    rw [h2, ← e1]
    show (Sort.putRow byV w blk 0 dk).drewN q = _
    rw [e2]
    unfold Sort.grow
    rw [Array.append_empty])
  rw [hd] at this
  exact this
theorem fmt_at {n j : Nat} (hj : j < (Lib.decDigits n).length) : (fmtC n)[0 + j]? = some (.v (.int .u8 ((Lib.decDigits n)[j].toNat : Int))) := by
  unfold fmtC
  rw [Nat.zero_add, List.getElem?_append_left (by simpa using hj), List.getElem?_map, List.getElem?_eq_getElem hj]
  rfl
set_option maxHeartbeats 1000000 in
theorem fmtuint_spec (n : Nat) (hn : n < 18446744073709551616) : Tells Tryz.prog 112 [u64 n, int 10] (strA (decB n)) := by
  refine tells_of_aw Tryz.func112 rfl rfl fun nx => ?_
  refine stp ?_
  intro c t1; cases c
  · have t1 := not_of t1
    have h1 : 1 ≤ n := by omega
    have h20 := nd_le h1 hn
    refine stp ?_
    refine aop_tells rfl rfl (numd_spec n h1 hn) ⟨AVle.refl _, trivial⟩ fun nx2 => ?_
    refine stpR ?_
    refine aw_regionY (fun n => match n with | 0 => true | _ => false) 2 ?_
    refine stp ?_
    refine aop_front (n := 24) (h := Lib.nDigits n) rfl rfl rfl Tryz.underlying170 Tryz.underlying5 (by kernel_rfl) (by omega) (by decide) ?_
    refine stp ?_
    refine aop_callF (xs := [.hs (0, nx) 0 (Lib.nDigits n) 24, u64 n]) [] [] 1 rfl rfl rfl rfl ⟨AVle.refl _, AVle.refl _, trivial⟩ (fmt10_spec n h1 hn nx _) (BxLe.refl _) (PmEq.refl _) rfl fun r h' hq => ?_
    obtain ⟨rfl, rfl⟩ := hq
    refine stpR ?_
    refine aw_regionY (fun n => match n with | 0 => true | 1 => true | _ => false) 3 ?_
    refine stp ?_
    refine aop_front (n := 24) (h := Lib.nDigits n) rfl rfl rfl Tryz.underlying170 Tryz.underlying5 (by kernel_rfl) (by omega) (by decide) ?_
    refine stp ?_
    refine aop_bytes (l := Lib.decDigits n) (cap := 24) (off := 0) (i := (0, nx)) rfl (by rw [Lib.decDigits_length]; rfl) rfl (fun j hj => fmt_at hj) Tryz.underlying121 Tryz.underlying5 Tryz.underlying9 ?_
    refine stp ?_
    exact ret_tells rfl (AVle.refl _)
  · have t1 := yes_of t1
    refine stp ?_
    refine aop_tells rfl rfl (small_spec n (by omega)) ⟨le_int (wrap_id (by omega) (by omega)), trivial⟩ fun nx2 => ?_
    refine stp ?_
    exact ret_tells rfl (AVle.refl _)
end Go.Proofs.W

namespace Go.Proofs
open Go.Shelf
shelf_lay Lays.n160 Nm 160 at Tryz as Tryz.lays160
shelf_lay Lays.n137 Nm 137 at Tryz as Tryz.lays137
end Go.Proofs
namespace Go.Proofs.W
open Go.Vl Go.Shelf
set_option maxRecDepth 100000

def lettersB : ByteArray := ⟨#[97, 98, 99, 100, 101, 102, 103, 104, 105, 106, 107, 108, 109, 110, 111, 112, 113, 114, 115, 116, 117, 118, 119, 120, 121, 122]⟩
def signsB : ByteArray := ⟨#[97, 98, 99, 100, 101, 102, 103, 104, 105, 106, 107, 108, 109, 110, 111, 112, 113, 114, 115, 116, 117, 118, 119, 120, 121, 122, 48, 49, 50, 51, 52, 53, 54, 55, 56, 57, 95]⟩
theorem trim_spec (s : ByteArray) (hs : s.size ≤ 9223372036854775807) : Tells Tryz.prog 57 [.v (.string s), .v (.string signsB)] (.v (.string ⟨(Lib.trimS s.data.toList signsB.data.toList).toArray⟩)) :=
  tells_of_calls (vs := [.string s, .string signsB]) ⟨_, Tryz.func57, rfl, rfl⟩ fun w => Any.strings_Trim_laid Tryz.lays160 (by kernel_rfl) s signsB w hs (by decide) (ascii_of_all (by decide))
theorem idxByte_spec (s : ByteArray) (c : Int) : Tells Tryz.prog 58 [.v (.string s), .v (.int .u8 c)] (.v (.int .i64 (Lib.indexByte s.data.toList c.toNat.toUInt8))) :=
  tells_of_calls (vs := [.string s, .int .u8 c]) ⟨_, Tryz.func58, rfl, rfl⟩ fun w => (Any.strings_IndexByte Tryz.lays137 s c w).mono fun e w' ⟨h1, h2⟩ => ⟨h1, by subst h2; exact ⟨rfl, rfl, rfl, Nat.le_refl _, fun _ _ => rfl⟩⟩
theorem dropW_nil {p : UInt8 → Bool} : ∀ {l : List UInt8}, l.dropWhile p = [] ↔ l.all p = true
  | [] => by simp
  | x :: l => by
    rw [List.dropWhile_cons, List.all_cons]
    cases h : p x
    · simp
    · simp only [if_true, Bool.true_and]; exact dropW_nil
theorem dropW_head {p : UInt8 → Bool} : ∀ {l : List UInt8} {y : UInt8} {ys : List UInt8}, l.dropWhile p = y :: ys → p y = false
  | [], y, ys, h => by simp at h
  | x :: l, y, ys, h => by
    rw [List.dropWhile_cons] at h
    cases hx : p x
    · rw [hx] at h
      simp at h
      rw [← h.1]; exact hx
    · rw [hx] at h
      simp only [if_true] at h
      exact dropW_head h
theorem trimS_nil (l cs : List UInt8) : Lib.trimS l cs = [] ↔ l.all (cs.contains ·) = true := by
  unfold Lib.trimS Lib.trimLeftS Lib.trimRightS
  rw [dropW_nil, List.all_reverse]
  constructor
  · intro h
    cases hq : l.reverse.dropWhile (cs.contains ·) with
    | nil => rw [dropW_nil, List.all_reverse] at hq; exact hq
    | cons y ys =>
      have hy := dropW_head hq
      rw [hq, List.all_cons, hy] at h
      cases h
  · intro h
    have : l.reverse.dropWhile (cs.contains ·) = [] := by rw [dropW_nil, List.all_reverse]; exact h
    rw [this]; rfl
theorem idx_nonneg (l : List UInt8) (c : UInt8) : (0 ≤ Lib.indexByte l c ↔ c ∈ l) ∧ -1 ≤ Lib.indexByte l c := by
  induction l with
  | nil => simp [Lib.indexByte]
  | cons b l ih =>
    obtain ⟨h1, h2⟩ := ih
    unfold Lib.indexByte
    by_cases hb : b = c
    · subst hb; simp
    · have hbe : (b == c) = false := by simpa using hb
      rw [hbe]
      simp only [Bool.false_eq_true, if_false]
      by_cases hi : Lib.indexByte l c = -1
      · have : ¬ c ∈ l := fun h => by have := h1.2 h; omega
        rw [if_pos (by rw [hi]; rfl)]
        simp [this, Ne.symm hb]
      · rw [if_neg (by simpa using hi)]
        have hm : c ∈ l := h1.1 (by omega)
        simp [hm]
        omega
def defaultL : List UInt8 := [100, 101, 102, 97, 117, 108, 116]
def x32L : List UInt8 := [120, 51, 50]
/-- May a name be? -/
def nameB (l : List UInt8) : Bool := !(l == []) && (!(l == defaultL) && (!(l == x32L) && (decide (l.length ≤ 30) && (l.all (signsB.data.toList.contains ·) && lettersB.data.toList.contains (l.headD 0)))))
theorem nameB_out1 {l : List UInt8} (h : false = !(l == [])) : nameB l = false := by rw [nameB, ← h]; rfl
theorem nameB_out2 {l : List UInt8} (h : false = !(l == defaultL)) : nameB l = false := by rw [nameB, ← h]; simp
theorem nameB_out3 {l : List UInt8} (h : false = !(l == x32L)) : nameB l = false := by rw [nameB, ← h]; simp
theorem nameB_out4 {l : List UInt8} (h : ¬ l.length ≤ 30) : nameB l = false := by rw [nameB, decide_eq_false h]; simp
theorem nameB_out5 {l : List UInt8} (h : ¬ l.all (signsB.data.toList.contains ·) = true) : nameB l = false := by rw [nameB, Bool.not_eq_true _ |>.mp h]; simp
theorem nameB_in {l : List UInt8} (h1 : true = !(l == [])) (h2 : true = !(l == defaultL)) (h3 : true = !(l == x32L)) (h4 : l.length ≤ 30) (h5 : l.all (signsB.data.toList.contains ·) = true) : nameB l = lettersB.data.toList.contains (l.headD 0) := by
  rw [nameB, ← h1, ← h2, ← h3, decide_eq_true h4, h5]; rfl
theorem head_get {s : ByteArray} (h : ¬ s.data.toList = []) : 0 < s.size := by
  rcases Nat.eq_zero_or_pos s.size with h0 | h0
  · exfalso; apply h
    have : s.data.toList.length = 0 := h0
    exact List.length_eq_zero_iff.1 this
  · exact h0
theorem mk_toList (l : List UInt8) : (⟨l.toArray⟩ : ByteArray).toList = l := by rw [Lib.toList_data]
theorem named_spec (s : ByteArray) (hs : s.size ≤ 9223372036854775807) : Tells Tryz.prog 33 [.v (.string s)] (boolA (nameB s.data.toList)) := by
  have hsz : s.size = s.data.toList.length := rfl
  refine tells_of_aw Tryz.func33 rfl rfl fun nx => ?_
  refine stp ?_
  intro c t1
  rw [Lib.toList_data, Lib.toList_data] at t1
  cases c
  · refine stp ?_
    exact ret_tells rfl (le_bool (nameB_out1 t1).symm)
  refine stp ?_
  intro c t2
  rw [Lib.toList_data, Lib.toList_data] at t2
  cases c
  · refine stp ?_
    exact ret_tells rfl (le_bool (nameB_out2 t2).symm)
  refine stp ?_
  intro c t3
  rw [Lib.toList_data, Lib.toList_data] at t3
  cases c
  · refine stp ?_
    exact ret_tells rfl (le_bool (nameB_out3 t3).symm)
  refine stp ?_
  intro c t4; cases c
  · refine stp ?_
    exact ret_tells rfl (le_bool (nameB_out4 (by have := not_of t4; omega)).symm)
  have h4 : s.data.toList.length ≤ 30 := by have := yes_of t4; omega
  refine stp ?_
  refine aop_tells rfl rfl (trim_spec s hs) ⟨AVle.refl _, AVle.refl _, trivial⟩ fun nx1 => ?_
  refine stp ?_
  intro c t5
  rw [mk_toList, Lib.toList_data] at t5
  cases c
  · have h5 : ¬ Lib.trimS s.data.toList signsB.data.toList = [] := by simpa using t5
    rw [trimS_nil] at h5
    refine stp ?_
    exact ret_tells rfl (le_bool (nameB_out5 h5).symm)
  have h5 : Lib.trimS s.data.toList signsB.data.toList = [] := by simpa using t5
  rw [trimS_nil] at h5
  have h0 : ¬ s.data.toList = [] := by simpa using t1
  refine stp ?_
  refine ⟨⟨by decide, by have := head_get h0; show (0 : Int) < (s.size : Int); omega⟩, ?_⟩
  refine stp ?_
  refine aop_tells rfl rfl (idxByte_spec lettersB _) ⟨AVle.refl _, AVle.refl _, trivial⟩ fun nx2 => ?_
  refine stp ?_
  intro c t6
  refine stp ?_
  have e1 : (((s.data.getD (Int.toNat 0) 0).toNat : Int)).toNat.toUInt8 = s.data.toList.headD 0 := by
    have hh : s.data.getD 0 0 = s.data.toList.headD 0 := by
      have := head_get h0
      cases hq : s.data.toList with
      | nil => exact absurd hq h0
      | cons x xs =>
        have h2 : s.data = (x :: xs).toArray := by rw [← hq]
        rw [h2]; rfl
    show (((s.data.getD 0 0).toNat : Int)).toNat.toUInt8 = _
    rw [hh, Int.toNat_natCast]
    simp
  refine ret_tells rfl (le_bool (t6.trans ?_))
  rw [nameB_in t1 t2 t3 h4 h5, e1, Bool.eq_iff_iff, decide_eq_true_eq]
  exact (idx_nonneg _ _).1.trans (by simp)
end Go.Proofs.W

namespace Go.Proofs.W
open Go.Vl
set_option maxRecDepth 100000

def belowF (n : Int) : AV := .fn (.func 121) [] [.rp [int n]]
theorem f30_spec (n : Int) (h : 0 ≤ n ∧ n ≤ 100000) : Tells Tryz.prog 121 [.rp [int n]] (int (n - 1)) := by
  refine tells_of_aw Tryz.func121 rfl rfl fun nx => ?_
  refine stp ?_
  refine ret_tells rfl (le_int (wrap_id (by omega) (by omega)))
theorem f29_spec (n : Int) : Tells Tryz.prog 105 [int n] (belowF n) := by
  refine tells_of_aw Tryz.func105 rfl rfl fun nx => ?_
  (repeat ((conv=>whnf);first|refine ω0 ?_|refine ω1 ?_|refine ω2 ?_|refine ω3 ?_|refine ω4 rfl ?_|refine ω5 rfl ?_|refine ω6 ?_|refine ω7 ?_|refine ⟨rfl,?_⟩|refine ⟨trivial,?_⟩|refine ⟨⟨rfl,Nat.le_of_ble_eq_true rfl⟩,?_⟩|refine ⟨⟨by kernel_rfl,by kernel_rfl⟩,?_⟩|refine ⟨by decide,?_⟩|refine lit_true ?_|refine lit_false ?_))
  refine AW.le (ele_freeze (L := [(2, belowF n)]) (bx := []) (pm := []) (nn := 0) [((0, nx), .c [int n])] rfl rfl (List.Sublist.refl _) (List.Sublist.refl _) ⟨Frz.fn trivial ⟨Frz.bp (.head _) rfl, trivial⟩, trivial⟩) ?_
  refine stp ?_
  refine ret_tells rfl (AVle.refl _)

def rowsL : List AV := [
  .ag [.v (.string ⟨#[107, 105, 108, 108]⟩), .v (.int .u32 2147483648), .v .nilFunc],
  .ag [.v (.string ⟨#[107, 105, 108, 108, 95, 116, 104, 114, 101, 97, 100]⟩), .v (.int .u32 0), .v .nilFunc],
  .ag [.v (.string ⟨#[116, 114, 97, 112]⟩), .v (.int .u32 196608), .v .nilFunc],
  .ag [.v (.string ⟨#[101, 114, 114, 110, 111]⟩), .v (.int .u32 327680), belowF 4096],
  .ag [.v (.string ⟨#[110, 111, 116, 105, 102, 121]⟩), .v (.int .u32 2143289344), .v .nilFunc],
  .ag [.v (.string ⟨#[116, 114, 97, 99, 101]⟩), .v (.int .u32 2146435072), belowF 65536],
  .ag [.v (.string ⟨#[108, 111, 103]⟩), .v (.int .u32 2147221504), .v .nilFunc],
  .ag [.v (.string ⟨#[97, 108, 108, 111, 119]⟩), .v (.int .u32 2147418112), .v .nilFunc]]
def rowsA : AV := .sl 3 8 (rowF rowsL)
theorem f28_spec : Tells Tryz.prog 72 [] rowsA := by
  refine tells_of_aw Tryz.func72 rfl rfl fun nx => ?_
  refine stp ?_
  refine aop_tells rfl rfl (f29_spec 4096) ⟨AVle.refl _, trivial⟩ fun nx => ?_
  refine stp ?_
  refine aop_tells rfl rfl (f29_spec 65536) ⟨AVle.refl _, trivial⟩ fun nx => ?_
  refine stp ?_
  refine ret_tells rfl (le_rowF ⟨⟨⟨⟨⟨⟨⟨⟨trivial, rfl⟩, rfl⟩, rfl⟩, rfl⟩, rfl⟩, rfl⟩, rfl⟩, rfl⟩)
theorem f26_out (k : Int) (h : k < 1 ∨ 8 < k) : Tells Tryz.prog 51 [int k] (.tup [.ag [.v (.string ⟨#[]⟩), .v (.int .u32 0), .v .nilFunc], boolA false]) := by
  refine tells_of_aw Tryz.func51 rfl rfl fun nx => ?_
  refine stp ?_
  refine aop_tells rfl rfl f28_spec trivial fun nx => ?_
  refine stp ?_
  intro c h1; cases c
  · refine stp ?_
    intro c h2; cases c
    · simp at h1 h2; omega
    · refine stp ?_
      (refine ret_tells_all rfl ?_ ?_; (· exact ⟨rfl, trivial⟩)); exact AVle.refl _
  · refine stp ?_
    (refine ret_tells_all rfl ?_ ?_; (· exact ⟨rfl, trivial⟩)); exact AVle.refl _
theorem f26_in (k : Nat) (h : k < 8) : Tells Tryz.prog 51 [int (k + 1)] (.tup [rowF rowsL k, boolA true]) := by
  refine tells_of_aw Tryz.func51 rfl rfl fun nx => ?_
  refine stp ?_
  refine aop_tells rfl rfl f28_spec trivial fun nx => ?_
  refine stp ?_
  intro c h1; cases c
  · refine stp ?_
    rcases k with _ | _ | _ | _ | _ | _ | _ | _ | k
    iterate 8
      · refine ⟨⟨by decide, by decide⟩, ?_⟩
        refine stp ?_
        (refine ret_tells_all rfl ?_ ?_; (· exact ⟨rfl, trivial⟩)); exact AVle.refl _
    · omega
  · simp at h1; omega
def most9 (k : Int) : Int := if k = 4 then 4095 else if k = 6 then 65535 else 0
theorem most9_spec (k : Int) : Tells Tryz.prog 28 [int k] (int (most9 k)) := by
  refine tells_of_aw Tryz.func28 rfl rfl fun nx => ?_
  refine stp ?_
  intro c hc
  cases c
  · refine stp ?_
    intro d hd
    cases d
    · refine stp ?_
      refine ret_tells rfl (le_int ?_)
      simp at hc hd; simp [most9, hc, hd]
    · refine stp ?_
      refine ret_tells rfl (le_int ?_)
      simp at hc hd; simp [most9, hc, hd]
  · refine stp ?_
    refine ret_tells rfl (le_int ?_)
    simp at hc; simp [most9, hc]
def act (k n : Int) : AV := .ag [int k, int n]
def right9 (k n : Int) : Bool := decide (1 ≤ k) && decide (k ≤ 8) && decide (0 ≤ n) && decide (n ≤ most9 k)
end Go.Proofs.W

namespace Go.Proofs.W
open Go.Vl
set_option maxRecDepth 100000

theorem f27_nil (s : ByteArray) (c : Int) : Tells Tryz.prog 52 [.ag [.v (.string s), .v (.int .u32 c), .v .nilFunc]] (int 0) := by
  refine tells_of_aw Tryz.func52 rfl rfl fun nx => ?_
  refine stp ?_
  refine ret_tells rfl (AVle.refl _)
theorem f27_below (s : ByteArray) (c n : Int) (h : 0 ≤ n ∧ n ≤ 100000) : Tells Tryz.prog 52 [.ag [.v (.string s), .v (.int .u32 c), belowF n]] (int (n - 1)) := by
  refine tells_of_aw Tryz.func52 rfl rfl fun nx => ?_
  refine stp ?_
  refine aop_tells rfl rfl (f30_spec n h) ⟨AVle.refl _, trivial⟩ fun nx => ?_
  refine stp ?_
  refine ret_tells rfl (AVle.refl _)
theorem row_most (k : Nat) (h : k < 8) : ∃ s c m, rowF rowsL k = .ag [.v (.string s), .v (.int .u32 c), m] ∧ (m = .v .nilFunc ∨ ∃ n, m = belowF n) ∧ Tells Tryz.prog 52 [rowF rowsL k] (int (most9 (k + 1))) := by
  rcases k with _ | _ | _ | _ | _ | _ | _ | _ | k
  · exact ⟨_, _, _, rfl, .inl rfl, f27_nil _ _⟩
  · exact ⟨_, _, _, rfl, .inl rfl, f27_nil _ _⟩
  · exact ⟨_, _, _, rfl, .inl rfl, f27_nil _ _⟩
  · exact ⟨_, _, _, rfl, .inr ⟨_, rfl⟩, f27_below _ _ 4096 (by decide)⟩
  · exact ⟨_, _, _, rfl, .inl rfl, f27_nil _ _⟩
  · exact ⟨_, _, _, rfl, .inr ⟨_, rfl⟩, f27_below _ _ 65536 (by decide)⟩
  · exact ⟨_, _, _, rfl, .inl rfl, f27_nil _ _⟩
  · exact ⟨_, _, _, rfl, .inl rfl, f27_nil _ _⟩
  · omega
theorem right9_out {k n : Int} (h : k < 1 ∨ 8 < k) : right9 k n = false := by simp [right9]; omega
theorem f22_in (k n : Int) (m : AV) (s : ByteArray) (c : Int) (hm : m = .v .nilFunc ∨ ∃ n, m = belowF n) (hk : 1 ≤ k ∧ k ≤ 8)
    (h26 : Tells Tryz.prog 51 [int k] (.tup [.ag [.v (.string s), .v (.int .u32 c), m], boolA true])) (h27 : Tells Tryz.prog 52 [.ag [.v (.string s), .v (.int .u32 c), m]] (int (most9 k))) :
    Tells Tryz.prog 29 [act k n] (boolA (right9 k n)) := by
  refine tells_of_aw Tryz.func29 rfl rfl fun nx => ?_
  refine stp ?_
  refine aop_tells rfl rfl h26 ⟨AVle.refl _, trivial⟩ fun nx => ?_
  rcases hm with rfl | ⟨n', rfl⟩
  all_goals
    refine stp ?_
    (refine aw_draw 13 ?_ ?_ ?_ ?_; (· kernel_rfl); (· kernel_rfl); (· kernel_rfl))
    refine stp ?_
    intro c h1; cases c
    · refine stp ?_
      refine ret_tells rfl (le_bool ?_)
      simp at h1; simp [right9]; omega
    refine stp ?_
    refine ex_yields (yields_tells rfl rfl h27 ⟨AVle.refl _, trivial⟩ (NoId.v _)) ?_
    refine stp ?_
    intro c h2; cases c
    · refine stp ?_
      refine ret_tells rfl (le_bool ?_)
      simp at h1 h2; simp [right9]; omega
    · refine stp ?_
      refine ret_tells rfl (le_bool ?_)
      simp at h1 h2; simp [right9]; omega
theorem f22_spec (k n : Int) : Tells Tryz.prog 29 [act k n] (boolA (right9 k n)) := by
  by_cases hk : k < 1 ∨ 8 < k
  · refine tells_of_aw Tryz.func29 rfl rfl fun nx => ?_
    refine stp ?_
    refine aop_tells rfl rfl (f26_out k hk) ⟨AVle.refl _, trivial⟩ fun nx => ?_
    refine stp ?_
    (refine aw_draw 13 ?_ ?_ ?_ ?_; (· kernel_rfl); (· kernel_rfl); (· kernel_rfl))
    refine stp ?_
    refine ret_tells rfl (le_bool (right9_out hk).symm)
  · obtain ⟨j, hj, rfl⟩ : ∃ j : Nat, j < 8 ∧ k = (j : Int) + 1 := ⟨(k - 1).toNat, by omega, by omega⟩
    obtain ⟨s, c, m, hr, ho, hm⟩ := row_most j hj
    have h26 := f26_in j hj
    rw [hr] at h26 hm
    exact f22_in _ n m s c ho (by omega) h26 hm
/-- Actions, as data. -/
abbrev A2 := Int × Int
def actP (a : A2) : AV := act a.1 a.2
def acts (l : List A2) : AV := slOf 2 actP (0, 0) l
theorem idx_at {α : Type} {p : α → Bool} {l : List α} {i : Nat} (d : α) (hi : i < l.length) (hb : ∀ j, j < i → p (l.getD j d) = false) (h : p (l.getD i d) = true) : l.findIdx? p = some i := by
  rw [List.findIdx?_eq_some_iff_getElem]
  refine ⟨hi, by simpa [List.getD, hi] using h, fun j hj => ?_⟩
  have := hb j hj
  have hj' : j < l.length := by omega
  simpa [List.getD, hj'] using this
theorem idx_none {α : Type} {p : α → Bool} {l : List α} (d : α) (hb : ∀ j, j < l.length → p (l.getD j d) = false) : l.findIdx? p = none := by
  rw [List.findIdx?_eq_none_iff]
  intro x hx
  obtain ⟨j, hj, rfl⟩ := List.getElem_of_mem hx
  have := hb j hj
  simpa [List.getD, hj] using this
def optI : Option Nat → Int
  | some i => i
  | none => -1
def wrongA (a : A2) : Bool := !right9 a.1 a.2
theorem optI_nonneg (o : Option Nat) : decide (0 ≤ optI o) = o.isSome := by cases o <;> simp [optI]
/-- The strictest of some: the last among those of the least kind. -/
def strict (a : A2) (l : List A2) : A2 := l.foldl (fun m x => if x.1 ≤ m.1 then x else m) a
def strictest (l : List A2) : A2 × Int :=
  match l with
  | [] => ((0, 0), 4)
  | a :: r => if (l.findIdx? wrongA).isSome then ((0, 0), 16) else (strict a r, 0)
end Go.Proofs.W

namespace Go.Proofs.W
open Go.Vl
set_option maxRecDepth 100000

/-- A rule, a policy. -/
structure Rul where
  name : ByteArray
  act : A2
  conds : List Cnd
structure Pol where
  dflt : A2
  x32 : Bool
  rules : List Rul
def rul0 : Rul := ⟨⟨#[]⟩, (0, 0), []⟩
def rulA (r : Rul) : AV := .ag [strA r.name, int r.act.1, int r.act.2, cnds r.conds]
def ruls (l : List Rul) : AV := slOf 4 rulA rul0 l
def polA (p : Pol) : AV := .ag [int p.dflt.1, int p.dflt.2, boolA p.x32, ruls p.rules]
theorem idxf_int (l : List Int) (p : Int → Bool) (f : Nat) (hl : l.length ≤ 1000000000) (hp : ∀ i, i < l.length → Tells Tryz.prog f [int (l.getD i 0)] (boolA (p (l.getD i 0)))) :
    Tells Tryz.prog 81 [slOf 1 int 0 l, fn0 f] (int (optI (l.findIdx? p))) := by
  refine tells_of_aw Tryz.func81 rfl rfl fun nx => ?_
  refine stp ?_
  refine aw_loop (fun s : Nat × Nat => mk 19 [(0, slOf 1 int 0 l), (1, fn0 f), (7, int l.length), (8, int s.1)] ⟨[], [], s.2, 0⟩) (fun s => s.1 ≤ l.length ∧ ∀ j, j < s.1 → p (l.getD j 0) = false) (fun s => l.length - s.1) ?_ ?_
  · exact ⟨(0, nx), ⟨by simp, by intro j hj; simp at hj⟩, ele_mk rfl rfl ⟨AVle.refl _, AVle.refl _, AVle.refl _, AVle.refl _, trivial⟩⟩
  · rintro ⟨i, nx⟩ ⟨h1, h2⟩
    dsimp only at h1 h2
    refine stp ?_
    intro c h3; cases c
    · have h3 := not_of h3
      dsimp only at h3
      refine stp ?_
      refine ret_tells rfl (le_int ?_)
      rw [idx_none 0 (fun j hj => h2 j (by omega))]; rfl
    · have h3 := yes_of h3
      dsimp only at h3
      have hi : i < l.length := by omega
      refine stp ?_
      refine ⟨⟨by dsimp only; omega, by dsimp only; omega⟩, ?_⟩
      refine stp ?_
      refine aop_tells rfl rfl (hp i hi) ⟨AVle.refl _, trivial⟩ fun nx' => ?_
      intro c h4; cases c
      · refine stp ?_
        refine back (i + 1, nx') ⟨by dsimp only; omega, fun j hj => ?_⟩ (by dsimp only; omega) (ele_mk rfl rfl ⟨AVle.refl _, AVle.refl _, AVle.refl _, le_int (wrap_succ (by dsimp only; omega)), trivial⟩)
        dsimp only at hj
        rcases Nat.lt_or_ge j i with h | h
        · exact h2 j h
        · obtain rfl : j = i := by omega
          exact h4.symm
      · refine stp ?_
        refine ret_tells rfl (le_int ?_)
        rw [idx_at 0 hi h2 h4.symm]; rfl
theorem cntf_int (l : List Int) (p : Int → Bool) (f : Nat) (hl : l.length ≤ 1000000000) (hp : ∀ i, i < l.length → Tells Tryz.prog f [int (l.getD i 0)] (boolA (p (l.getD i 0)))) :
    Tells Tryz.prog 59 [slOf 1 int 0 l, fn0 f] (boolA (l.any p)) := by
  refine tells_of_aw Tryz.func59 rfl rfl fun nx => ?_
  refine stp ?_
  refine aop_tells rfl rfl (idxf_int l p f hl hp) ⟨AVle.refl _, AVle.refl _, trivial⟩ fun nx' => ?_
  refine stp ?_
  intro c h; cases c
  all_goals
    refine stp ?_
    refine ret_tells rfl (le_bool ?_)
    rw [h, ← List.findIdx?_isSome]
    exact optI_nonneg _
theorem idxf_cnd (l : List Cnd) (p : Cnd → Bool) (f : Nat) (hl : l.length ≤ 1000000000) (hp : ∀ i, i < l.length → Tells Tryz.prog f [cndA (l.getD i cnd0)] (boolA (p (l.getD i cnd0)))) :
    Tells Tryz.prog 39 [slOf 4 cndA cnd0 l, fn0 f] (int (optI (l.findIdx? p))) := by
  refine tells_of_aw Tryz.func39 rfl rfl fun nx => ?_
  refine stp ?_
  refine aw_loop (fun s : Nat × Nat => mk 19 [(0, slOf 4 cndA cnd0 l), (1, fn0 f), (7, int l.length), (8, int s.1)] ⟨[], [], s.2, 0⟩) (fun s => s.1 ≤ l.length ∧ ∀ j, j < s.1 → p (l.getD j cnd0) = false) (fun s => l.length - s.1) ?_ ?_
  · exact ⟨(0, nx), ⟨by simp, by intro j hj; simp at hj⟩, ele_mk rfl rfl ⟨AVle.refl _, AVle.refl _, AVle.refl _, AVle.refl _, trivial⟩⟩
  · rintro ⟨i, nx⟩ ⟨h1, h2⟩
    dsimp only at h1 h2
    refine stp ?_
    intro c h3; cases c
    · have h3 := not_of h3
      dsimp only at h3
      refine stp ?_
      refine ret_tells rfl (le_int ?_)
      rw [idx_none cnd0 (fun j hj => h2 j (by omega))]; rfl
    · have h3 := yes_of h3
      dsimp only at h3
      have hi : i < l.length := by omega
      refine stp ?_
      refine ⟨⟨by dsimp only; omega, by dsimp only; omega⟩, ?_⟩
      refine stp ?_
      refine aop_tells rfl rfl (hp i hi) ⟨AVle.refl _, trivial⟩ fun nx' => ?_
      intro c h4; cases c
      · refine stp ?_
        refine back (i + 1, nx') ⟨by dsimp only; omega, fun j hj => ?_⟩ (by dsimp only; omega) (ele_mk rfl rfl ⟨AVle.refl _, AVle.refl _, AVle.refl _, le_int (wrap_succ (by dsimp only; omega)), trivial⟩)
        dsimp only at hj
        rcases Nat.lt_or_ge j i with h | h
        · exact h2 j h
        · obtain rfl : j = i := by omega
          exact h4.symm
      · refine stp ?_
        refine ret_tells rfl (le_int ?_)
        rw [idx_at cnd0 hi h2 h4.symm]; rfl
theorem cntf_cnd (l : List Cnd) (p : Cnd → Bool) (f : Nat) (hl : l.length ≤ 1000000000) (hp : ∀ i, i < l.length → Tells Tryz.prog f [cndA (l.getD i cnd0)] (boolA (p (l.getD i cnd0)))) :
    Tells Tryz.prog 19 [slOf 4 cndA cnd0 l, fn0 f] (boolA (l.any p)) := by
  refine tells_of_aw Tryz.func19 rfl rfl fun nx => ?_
  refine stp ?_
  refine aop_tells rfl rfl (idxf_cnd l p f hl hp) ⟨AVle.refl _, AVle.refl _, trivial⟩ fun nx' => ?_
  refine stp ?_
  intro c h; cases c
  all_goals
    refine stp ?_
    refine ret_tells rfl (le_bool ?_)
    rw [h, ← List.findIdx?_isSome]
    exact optI_nonneg _
theorem idxf_rul (l : List Rul) (p : Rul → Bool) (f : Nat) (hl : l.length ≤ 1000000000) (hp : ∀ i, i < l.length → Tells Tryz.prog f [rulA (l.getD i rul0)] (boolA (p (l.getD i rul0)))) :
    Tells Tryz.prog 53 [slOf 4 rulA rul0 l, fn0 f] (int (optI (l.findIdx? p))) := by
  refine tells_of_aw Tryz.func53 rfl rfl fun nx => ?_
  refine stp ?_
  refine aw_loop (fun s : Nat × Nat => mk 19 [(0, slOf 4 rulA rul0 l), (1, fn0 f), (7, int l.length), (8, int s.1)] ⟨[], [], s.2, 0⟩) (fun s => s.1 ≤ l.length ∧ ∀ j, j < s.1 → p (l.getD j rul0) = false) (fun s => l.length - s.1) ?_ ?_
  · exact ⟨(0, nx), ⟨by simp, by intro j hj; simp at hj⟩, ele_mk rfl rfl ⟨AVle.refl _, AVle.refl _, AVle.refl _, AVle.refl _, trivial⟩⟩
  · rintro ⟨i, nx⟩ ⟨h1, h2⟩
    dsimp only at h1 h2
    refine stp ?_
    intro c h3; cases c
    · have h3 := not_of h3
      dsimp only at h3
      refine stp ?_
      refine ret_tells rfl (le_int ?_)
      rw [idx_none rul0 (fun j hj => h2 j (by omega))]; rfl
    · have h3 := yes_of h3
      dsimp only at h3
      have hi : i < l.length := by omega
      refine stp ?_
      refine ⟨⟨by dsimp only; omega, by dsimp only; omega⟩, ?_⟩
      refine stp ?_
      refine aop_tells rfl rfl (hp i hi) ⟨AVle.refl _, trivial⟩ fun nx' => ?_
      intro c h4; cases c
      · refine stp ?_
        refine back (i + 1, nx') ⟨by dsimp only; omega, fun j hj => ?_⟩ (by dsimp only; omega) (ele_mk rfl rfl ⟨AVle.refl _, AVle.refl _, AVle.refl _, le_int (wrap_succ (by dsimp only; omega)), trivial⟩)
        dsimp only at hj
        rcases Nat.lt_or_ge j i with h | h
        · exact h2 j h
        · obtain rfl : j = i := by omega
          exact h4.symm
      · refine stp ?_
        refine ret_tells rfl (le_int ?_)
        rw [idx_at rul0 hi h2 h4.symm]; rfl
theorem cntf_rul (l : List Rul) (p : Rul → Bool) (f : Nat) (hl : l.length ≤ 1000000000) (hp : ∀ i, i < l.length → Tells Tryz.prog f [rulA (l.getD i rul0)] (boolA (p (l.getD i rul0)))) :
    Tells Tryz.prog 30 [slOf 4 rulA rul0 l, fn0 f] (boolA (l.any p)) := by
  refine tells_of_aw Tryz.func30 rfl rfl fun nx => ?_
  refine stp ?_
  refine aop_tells rfl rfl (idxf_rul l p f hl hp) ⟨AVle.refl _, AVle.refl _, trivial⟩ fun nx' => ?_
  refine stp ?_
  intro c h; cases c
  all_goals
    refine stp ?_
    refine ret_tells rfl (le_bool ?_)
    rw [h, ← List.findIdx?_isSome]
    exact optI_nonneg _
end Go.Proofs.W

namespace Go.Proofs.W
open Go.Vl
set_option maxRecDepth 100000

/-- A table's row, that has no numbers. -/
def row1 (s : ByteArray) : AV := .ag [strA s, int (-1), int (-1), int (-1), int (-1), int (-1), int 0, int 0]
def badN (n : Int) : Bool := decide (n < -1) || decide (n > 1073741823)
theorem ranged1_spec (n : Int) : Tells Tryz.prog 60 [int n] (boolA (badN n)) := by
  refine tells_of_aw Tryz.func60 rfl rfl fun nx => ?_
  refine stp ?_
  intro c t1; cases c
  · refine stp ?_
    intro c t2; cases c
    · refine stp ?_
      exact ret_tells rfl (le_bool (by rw [badN, ← t1, ← t2]; rfl))
    · refine stp ?_
      exact ret_tells rfl (le_bool (by rw [badN, ← t1, ← t2]; rfl))
  · refine stp ?_
    exact ret_tells rfl (le_bool (by rw [badN, ← t1]; rfl))
theorem ranged_row1 (s : ByteArray) : Tells Tryz.prog 34 [row1 s] (boolA true) := by
  have hc := cntf_int [-1, -1, -1, -1, -1] badN 60 (by decide) (fun i _ => ranged1_spec _)
  rw [show [(-1 : Int), -1, -1, -1, -1].any badN = false by decide] at hc
  refine tells_of_aw Tryz.func34 rfl rfl fun nx => ?_
  (refine stpR ?_; refine aw_region ?_; refine stpR ?_)
  refine aw_freeze (n := 30) (nx := nx + 1) (nn := 1) (pm := []) (bx := []) (L := [(1, .rp [strA s, int (-1), int (-1), int (-1), int (-1), int (-1), int 0, int 0])]) (df := some []) [((0, nx), .c [strA s, int (-1), int (-1), int (-1), int (-1), int (-1), int 0, int 0])] rfl rfl rfl (List.Perm.refl _) (List.Sublist.refl _) ⟨Frz.bp (.head _) rfl, trivial⟩ ?_
  refine aw_regionY (fun n => match n with | 0 => true | _ => false) 2 ?_
  refine stp ?_
  refine aop_ahead (n := 5) (e := 3) (cs := [int (-1), int (-1), int (-1), int (-1), int (-1), int 0, int 0]) rfl rfl Tryz.underlying52 Tryz.underlying3 (by kernel_rfl) (by decide) (by decide) (by simp [int, AV.cells]) ?_
  refine stp ?_
  refine aop_tells rfl rfl hc ⟨AVle.sl_fun fun k hk => ?_, AVle.refl _, trivial⟩ fun nx1 => ?_
  · match k, hk with
    | 0, _ | 1, _ | 2, _ | 3, _ | 4, _ => rfl
  refine stp ?_
  exact ret_tells rfl (AVle.refl _)
def m1A : AV := .ag [int (-1), int (-1), int (-1), int (-1), int (-1)]
set_option maxHeartbeats 1000000 in
theorem tabRight_row1 (s : ByteArray) (hs : s.size ≤ 9223372036854775807) (b : Bool) (hb : nameB s.data.toList = b) : Tells Tryz.prog 15 [.sl 8 1 (fun _ => row1 s)] (.tup [int 0, int (if b then 0 else 13)]) := by
  have hn := named_spec s hs
  rw [hb] at hn
  have hr := ranged_row1 s
  refine tells_of_aw Tryz.func15 rfl rfl fun nx => ?_
  refine stp ?_
  refine aw_loop (fun y : Bool × Nat => mk 88 [(2, int 0), (3, int 0), (14, .sl 8 1 (fun _ => row1 s)), (15, int 1), (16, int (bif y.1 then 1 else 0))] ⟨[], [], y.2, 0⟩) (fun y => y.1 = true → b = true) (fun y => if y.1 then 0 else 1) ?_ ?_
  · exact ⟨(false, nx + 1), (fun h => by cases h), ele_tell (pm := []) [] [] rfl rfl (List.nil_sublist _) (List.Sublist.refl _) trivial trivial ⟨AVle.refl _, AVle.refl _, AVle.refl _, AVle.refl _, AVle.refl _, trivial⟩⟩
  · rintro ⟨y, nx1⟩ hy
    cases y
    · refine stp ?_
      refine ⟨⟨by show (0 : Int) ≤ 0; decide, by show (0 : Int) < 1; decide⟩, ?_⟩
      refine stp ?_
      refine aop_tells rfl rfl hn ⟨AVle.refl _, trivial⟩ fun nx2 => ?_
      cases b
      · refine stp ?_
        exact ret_tells rfl (AVle.refl _)
      · refine stp ?_
        (refine aw_draw 13 ?_ ?_ ?_ ?_; (· kernel_rfl); (· kernel_rfl); (· kernel_rfl))
        refine stp ?_
        refine aop_tells rfl rfl hr ⟨AVle.refl _, trivial⟩ fun nx3 => ?_
        refine stp ?_
        refine aw_loop (fun z : Nat × Nat => mk 88 [(2, int 0), (3, int 0), (5, int 0), (6, .bp (0, nx1) 0), (14, .sl 8 1 (fun _ => row1 s)), (15, int 1), (16, int 0), (59, m1A), (60, int z.1)] ⟨[((0, nx1), .c [strA s, int (-1), int (-1), int (-1), int (-1), int (-1), int 0, int 0])], [], z.2, 1⟩) (fun z => z.1 ≤ 5) (fun z => 5 - z.1) ?_ ?_
        · exact ⟨(0, nx3), Nat.zero_le _, ele_tell (pm := []) _ [] rfl rfl (List.Sublist.refl _) (List.Sublist.refl _) ⟨rfl, OwnLe.refl _, trivial⟩ trivial ⟨AVle.refl _, AVle.refl _, AVle.refl _, AVle.refl _, AVle.refl _, AVle.refl _, AVle.refl _, AVle.refl _, AVle.refl _, trivial⟩⟩
        · rintro ⟨k, nx4⟩ hk
          dsimp only at hk
          rcases k with _ | _ | _ | _ | _ | _ | k
          iterate 5
            · refine stp ?_
              refine back (_ + 1, nx4) (by dsimp only; omega) (by dsimp only; omega) (ele_tell (pm := []) _ [] rfl rfl (List.Sublist.refl _) (List.Sublist.refl _) ⟨rfl, OwnLe.refl _, trivial⟩ trivial ⟨AVle.refl _, AVle.refl _, AVle.refl _, AVle.refl _, AVle.refl _, AVle.refl _, AVle.refl _, AVle.refl _, AVle.refl _, trivial⟩)
          · refine stp ?_
            exact back (true, nx4) (fun _ => rfl) (by show 0 < 1; decide) (ele_tell (pm := []) [] [] rfl rfl (List.nil_sublist _) (List.Sublist.refl _) trivial trivial ⟨AVle.refl _, AVle.refl _, AVle.refl _, AVle.refl _, AVle.refl _, trivial⟩)
          · omega
    · have hbt := hy rfl
      rw [hbt]
      refine stp ?_
      exact ret_tells rfl (AVle.refl _)
end Go.Proofs.W

namespace Go.Proofs.W
open Go.Vl
set_option maxRecDepth 100000

/-- A row of a table. -/
structure TRow where
  name : ByteArray
  a0 : Int
  a1 : Int
  a2 : Int
  a3 : Int
  a4 : Int
  mux : Int
  sub : Int
def TRow.num (r : TRow) : Nat → Int
  | 0 => r.a0
  | 1 => r.a1
  | 2 => r.a2
  | 3 => r.a3
  | _ => r.a4
def trow0 : TRow := ⟨⟨#[]⟩, 0, 0, 0, 0, 0, 0, 0⟩
def trowC (r : TRow) : List AV := [strA r.name, int r.a0, int r.a1, int r.a2, int r.a3, int r.a4, int r.mux, int r.sub]
def trowA (r : TRow) : AV := .ag (trowC r)
def trows (l : List TRow) : AV := slOf 8 trowA trow0 l
def arr5 (r : TRow) : AV := .ag [int r.a0, int r.a1, int r.a2, int r.a3, int r.a4]
theorem pairT : PairT Tryz.prog 109 3 := ⟨by kernel_rfl, by kernel_rfl, by kernel_rfl, by kernel_rfl, fun _ => rfl, fun _ => rfl, fun _ _ => rfl⟩
theorem z_boolT : (Tryz.prog.info? 4).bind (·.zero) = some (.bool false) := by kernel_rfl
theorem met_spec (s nx nn : Nat) (es : List (Int × Int)) (a n : Int) :
    ECall Tryz.prog 35 [.om (0, s), int a, int n] ⟨[((0, s), .mp (es.map entA))], [], nx, 1⟩ fun r h' => ∃ nx' nn', r = boolA (decide ((a, n) ∈ es)) ∧ h' = ⟨[((0, s), .mp ((addA (a, n) es).map entA))], [], nx', nn'⟩ := by
  refine ECall.wk (ecall_of_aw Tryz.func35 rfl rfl ?_)
  (refine stpR ?_; refine aw_region ?_; refine stpR ?_; refine aw_region ?_; refine stpR ?_)
  refine AW.le (E' := mk 18 [(0, .om (0, s)), (6, boolA false), (7, .bp (1, nx) 0)] ⟨[((1, nx), .c [int a, int n]), ((0, s), .mp (es.map entA))], [], nx + 1, 2⟩) (ele_tell (pm := []) _ [] rfl rfl (List.Sublist.refl _) (List.Sublist.refl _) (BxLe.refl _) trivial ⟨AVle.refl _, AVle.refl _, AVle.refl _, trivial⟩) ?_
  refine stpR ?_
  refine aw_regionY (fun i => match i with | 0 => true | _ => false) 3 ?_
  refine stp ?_
  refine splitO_eq (b := kA (a, n)) rfl ?_
  (conv => whnf)
  refine aop_lookupA (x := (a, n)) (i := (0, s)) (es := es) rfl Tryz.underlying80 pairT z_boolT rfl rfl rfl ?_
  refine stpR ?_
  refine aw_regionY (fun i => match i with | 0 => true | _ => false) 3 ?_
  refine stp ?_
  refine splitO_eq (b := kA (a, n)) rfl ?_
  (conv => whnf)
  refine AOp.any (aop_updateA (x := (a, n)) (i := (0, s)) (es := es) (.inl rfl) Tryz.underlying80 pairT rfl rfl rfl rfl ?_)
  refine stp ?_
  exact ret_is rfl ⟨_, ⟨[((0, s), .mp ((addA (a, n) es).map entA))], [], nx + 1, 1⟩, AVle.refl _, hle_tell _ _ rfl (.cons _ (List.Sublist.refl _)) (List.Sublist.refl _) (BxLe.refl _) (PmEq.refl _), _, _, rfl, rfl⟩
def badR (r : TRow) : Bool := [r.a0, r.a1, r.a2, r.a3, r.a4].any badN
def rangedR (r : TRow) : Bool := !badR r && (if r.mux = 0 then decide (r.sub = 0) else (decide (r.mux = 1) || decide (r.mux = 2)) && decide (1 ≤ r.sub) && decide (r.sub ≤ 255))
theorem ranged_spec (r : TRow) : Tells Tryz.prog 34 [trowA r] (boolA (rangedR r)) := by
  have hc := cntf_int [r.a0, r.a1, r.a2, r.a3, r.a4] badN 60 (by show 5 ≤ _; decide) (fun i _ => ranged1_spec _)
  unfold rangedR
  have hb : badR r = [r.a0, r.a1, r.a2, r.a3, r.a4].any badN := rfl
  rw [← hb] at hc
  generalize badR r = b at hc
  obtain ⟨nm, a0, a1, a2, a3, a4, mux, sub⟩ := r
  dsimp only at hc ⊢
  refine tells_of_aw Tryz.func34 rfl rfl fun nx => ?_
  (refine stpR ?_; refine aw_region ?_; refine stpR ?_)
  refine aw_freeze (n := 30) (nx := nx + 1) (nn := 1) (pm := []) (bx := []) (L := [(1, .rp [strA nm, int a0, int a1, int a2, int a3, int a4, int mux, int sub])]) (df := some []) [((0, nx), .c [strA nm, int a0, int a1, int a2, int a3, int a4, int mux, int sub])] rfl rfl rfl (List.Perm.refl _) (List.Sublist.refl _) ⟨Frz.bp (.head _) rfl, trivial⟩ ?_
  refine aw_regionY (fun n => match n with | 0 => true | _ => false) 2 ?_
  refine stp ?_
  refine aop_ahead (n := 5) (e := 3) (cs := [int a0, int a1, int a2, int a3, int a4, int mux, int sub]) rfl rfl Tryz.underlying52 Tryz.underlying3 (by kernel_rfl) (by decide) (by show 5 * 1 ≤ 7; decide) (by simp [int, AV.cells]) ?_
  refine stp ?_
  refine aop_tells rfl rfl hc ⟨AVle.sl_fun fun k hk => ?_, AVle.refl _, trivial⟩ fun nx1 => ?_
  · match k, hk with
    | 0, _ | 1, _ | 2, _ | 3, _ | 4, _ => rfl
  cases b
  · refine stp ?_
    intro c g; cases c
    · have g : ¬ mux = 0 := fun h => by subst h; simp at g
      rw [if_neg g]
      refine stp ?_
      intro c t1; cases c
      · have t1 : decide (mux = 1) = false := decide_eq_false (by simpa using t1.symm)
        rw [t1]
        refine stp ?_
        intro c t2; cases c
        · have t2 : decide (mux = 2) = false := decide_eq_false (by simpa using t2.symm)
          rw [t2]
          refine stp ?_
          exact ret_tells rfl (AVle.refl _)
        · have t2 : decide (mux = 2) = true := decide_eq_true (by simpa using t2.symm)
          rw [t2]
          refine stp ?_
          intro c t3; cases c
          · refine stp ?_
            exact ret_tells rfl (le_bool (by rw [show decide (1 ≤ sub) = false from t3.symm]; rfl))
          · refine stp ?_
            intro c t4; cases c
            all_goals
              refine stp ?_
              exact ret_tells rfl (le_bool (t4.trans (by rw [show decide (1 ≤ sub) = true from t3.symm]; rfl)))
      · have t1 : decide (mux = 1) = true := decide_eq_true (by simpa using t1.symm)
        rw [t1]
        refine stp ?_
        intro c t3; cases c
        · refine stp ?_
          exact ret_tells rfl (le_bool (by rw [show decide (1 ≤ sub) = false from t3.symm]; rfl))
        · refine stp ?_
          intro c t4; cases c
          all_goals
            refine stp ?_
            exact ret_tells rfl (le_bool (t4.trans (by rw [show decide (1 ≤ sub) = true from t3.symm]; rfl)))
    · have g : mux = 0 := by simpa using g.symm
      rw [if_pos g]
      refine stp ?_
      intro c h; cases c
      all_goals
        refine stp ?_
        exact ret_tells rfl (le_bool (h.trans (by rw [Bool.eq_iff_iff]; simp)))
  · refine stp ?_
    exact ret_tells rfl (le_bool (by simp))
end Go.Proofs.W

namespace Go.Proofs.W
open Go.Vl
set_option maxRecDepth 100000

/-- A way of calling. -/
structure Inf where
  name : ByteArray
  token : Nat
  bit : Bool
  bits : Int
def inf0 : Inf := ⟨⟨#[]⟩, 0, false, 0⟩
def infC (i : Inf) : List AV := [strA i.name, u32 i.token, boolA i.bit, int i.bits]
def infA (i : Inf) : AV := .ag (infC i)
def infL : List Inf := [⟨⟨#[120, 56, 54, 95, 54, 52]⟩, 3221225534, false, 64⟩, ⟨⟨#[120, 51, 50]⟩, 3221225534, true, 64⟩, ⟨⟨#[105, 51, 56, 54]⟩, 1073741827, false, 32⟩, ⟨⟨#[97, 114, 109, 54, 52]⟩, 3221225655, false, 64⟩, ⟨⟨#[114, 105, 115, 99, 118, 54, 52]⟩, 3221225715, false, 64⟩]
def infN : List (Nat × Inf) := [(0, infL.getD 0 inf0), (1, infL.getD 1 inf0), (2, infL.getD 2 inf0), (3, infL.getD 3 inf0), (4, infL.getD 4 inf0)]
def infE (p : Nat × Inf) : List AV := [int p.1, infA p.2]
def infAll : AV := .ag (infL.flatMap infC)
theorem inf_cases {pre post : List (Nat × Inf)} {x : Nat × Inf} (h : infN = pre ++ x :: post) : (pre = infN.take 0 ∧ x = (0, infL.getD 0 inf0)) ∨ (pre = infN.take 1 ∧ x = (1, infL.getD 1 inf0)) ∨ (pre = infN.take 2 ∧ x = (2, infL.getD 2 inf0)) ∨ (pre = infN.take 3 ∧ x = (3, infL.getD 3 inf0)) ∨ (pre = infN.take 4 ∧ x = (4, infL.getD 4 inf0)) := by
  have hl : pre.length < 5 := by have := congrArg List.length h; simp [infN] at this; omega
  have hp : pre = infN.take pre.length := by rw [h]; simp
  have hx : infN[pre.length]? = some x := by rw [h]; simp
  rcases (by omega : pre.length = 0 ∨ pre.length = 1 ∨ pre.length = 2 ∨ pre.length = 3 ∨ pre.length = 4) with e | e | e | e | e
  all_goals rw [e] at hp hx
  · exact .inl ⟨hp, (Option.some.inj hx).symm⟩
  · exact .inr (.inl ⟨hp, (Option.some.inj hx).symm⟩)
  · exact .inr (.inr (.inl ⟨hp, (Option.some.inj hx).symm⟩))
  · exact .inr (.inr (.inr (.inl ⟨hp, (Option.some.inj hx).symm⟩)))
  · exact .inr (.inr (.inr (.inr ⟨hp, (Option.some.inj hx).symm⟩)))
def withB (num : Nat) : Bool := decide (num &&& 1073741824 ≠ 0) && decide (num ≠ 4294967295)
def selB (arch : Nat) (w : Bool) (x : Nat × Inf) : Bool := decide (x.2.token = arch) && ((decide (x.1 ≠ 0) && decide (x.1 ≠ 1)) || (x.2.bit == w))
def selA (arch num : Nat) : AV := match infN.find? (selB arch (withB num)) with
  | some x => .tup [int x.1, boolA true]
  | none => .tup [int 0, boolA false]
theorem sel_none {arch num : Nat} (h : ∀ y ∈ infN, selB arch (withB num) y = false) : selA arch num = .tup [int 0, boolA false] := by
  unfold selA
  rw [List.find?_eq_none.2 (fun x hx => by rw [h x hx]; decide)]
theorem sel_some {arch num : Nat} {pre post : List (Nat × Inf)} {x : Nat × Inf} (hx : infN = pre ++ x :: post) (h : ∀ y ∈ pre, selB arch (withB num) y = false) (hs : selB arch (withB num) x = true) : selA arch num = .tup [int x.1, boolA true] := by
  unfold selA
  have : infN.find? (selB arch (withB num)) = some x := by
    rw [hx, List.find?_append, List.find?_eq_none.2 (fun y hy => by rw [h y hy]; decide), List.find?_cons, hs]; rfl
  rw [this]
theorem and32 {a b : Nat} (ha : a < 4294967296) (hb : b < 4294967296) : bitsI .and .u32 (a : Int) (b : Int) = ((a &&& b : Nat) : Int) :=
  bits_and (k := .u32) ha hb (by
    have : a &&& b ≤ a := Nat.and_le_left
    simp [IntKind.wrap, IntKind.signed, IntKind.bits] at this ⊢
    omega)
theorem sel_tok {arch : Nat} {w : Bool} {x : Nat × Inf} (h : false = ((x.2.token : Int) == (arch : Int))) : selB arch w x = false := by
  unfold selB
  rw [show decide (x.2.token = arch) = false from decide_eq_false (fun e => by rw [e] at h; simp at h)]; rfl
theorem sel_no {arch : Nat} {w : Bool} {x : Nat × Inf} (t : true = ((x.2.token : Int) == (arch : Int))) (h : ((decide (x.1 ≠ 0) && decide (x.1 ≠ 1)) || (x.2.bit == w)) = false) : selB arch w x = false := by
  unfold selB; rw [h, Bool.and_false]
theorem sel_yes {arch : Nat} {w : Bool} {x : Nat × Inf} (t : true = ((x.2.token : Int) == (arch : Int))) (h : ((decide (x.1 ≠ 0) && decide (x.1 ≠ 1)) || (x.2.bit == w)) = true) : selB arch w x = true := by
  unfold selB
  have e : x.2.token = arch := by have : (x.2.token : Int) = (arch : Int) := by simpa using t.symm
                                  omega
  rw [h, decide_eq_true e]; rfl
theorem sel_more {arch : Nat} {w : Bool} {x : Nat × Inf} {pre : List (Nat × Inf)} (h : ∀ z ∈ pre, selB arch w z = false) (hx : selB arch w x = false) : ∀ z ∈ pre ++ [x], selB arch w z = false := fun z hz => by
  rcases List.mem_append.1 hz with q | q
  · exact h z q
  · rw [List.mem_singleton.1 q]; exact hx
end Go.Proofs.W

namespace Go.Proofs.W
open Go.Vl
set_option maxRecDepth 100000

/-- A record. -/
structure Rec where
  num : Nat
  arch : Nat
  ptr : Nat
  a0 : Nat
  a1 : Nat
  a2 : Nat
  a3 : Nat
  a4 : Nat
  a5 : Nat
def Rec.ok (r : Rec) : Prop := r.num < 4294967296 ∧ r.arch < 4294967296 ∧ r.ptr < 18446744073709551616 ∧ r.a0 < 18446744073709551616 ∧ r.a1 < 18446744073709551616 ∧ r.a2 < 18446744073709551616 ∧ r.a3 < 18446744073709551616 ∧ r.a4 < 18446744073709551616 ∧ r.a5 < 18446744073709551616
def Rec.arg (r : Rec) : Nat → Nat
  | 0 => r.a0
  | 1 => r.a1
  | 2 => r.a2
  | 3 => r.a3
  | 4 => r.a4
  | _ => r.a5
def rec0 : Rec := ⟨0, 0, 0, 0, 0, 0, 0, 0, 0⟩
def recC (r : Rec) : List AV := [u32 r.num, u32 r.arch, u64 r.ptr, u64 r.a0, u64 r.a1, u64 r.a2, u64 r.a3, u64 r.a4, u64 r.a5]
def recA (r : Rec) : AV := .ag (recC r)
def recs (l : List Rec) : AV := slOf 9 recA rec0 l
theorem find_of {a : Nat} (h : a < 5) (hn : ∀ z ∈ infN, z.1 ≠ a) : False := by
  rcases (by omega : a = 0 ∨ a = 1 ∨ a = 2 ∨ a = 3 ∨ a = 4) with rfl | rfl | rfl | rfl | rfl
  · exact hn (0, infL.getD 0 inf0) (by simp [infN]) rfl
  · exact hn (1, infL.getD 1 inf0) (by simp [infN]) rfl
  · exact hn (2, infL.getD 2 inf0) (by simp [infN]) rfl
  · exact hn (3, infL.getD 3 inf0) (by simp [infN]) rfl
  · exact hn (4, infL.getD 4 inf0) (by simp [infN]) rfl
theorem of_no {k a : Nat} {pre : List (Nat × Inf)} {i : Inf} (h : ∀ z ∈ pre, z.1 ≠ a) (t : false = ((k : Int) == (a : Int))) : ∀ z ∈ pre ++ [(k, i)], z.1 ≠ a := fun z hz => by
  rcases List.mem_append.1 hz with q | q
  · exact h z q
  · rw [List.mem_singleton.1 q]
    intro e
    dsimp only at e
    subst e; simp at t
theorem of_yes {k a : Nat} (t : true = ((k : Int) == (a : Int))) : k = a := by
  have : (k : Int) = (a : Int) := by simpa using t.symm
  omega
def arrA (f : Nat → Nat) : AV := .ag [u64 (f 0 : Nat), u64 (f 1 : Nat), u64 (f 2 : Nat), u64 (f 3 : Nat), u64 (f 4 : Nat), u64 (f 5 : Nat)]
/-- A record's arguments, as a way of calling sees them. -/
def argI (a : Nat) (r : Rec) (k : Nat) : Nat := if a = 2 then r.arg k % 4294967296 else r.arg k
theorem low32 {n : Nat} (h : n < 18446744073709551616) : IntKind.u64.wrap (IntKind.u32.wrap (n : Int)) = ((n % 4294967296 : Nat) : Int) := by
  simp [IntKind.wrap, IntKind.signed, IntKind.bits]; omega
theorem inf_bits {a : Nat} (h : a < 5) : ((infL.getD a inf0).bits == 32) = decide (a = 2) := by
  rcases (by omega : a = 0 ∨ a = 1 ∨ a = 2 ∨ a = 3 ∨ a = 4) with rfl | rfl | rfl | rfl | rfl <;> rfl
theorem c_u64 : Tryz.prog.cellsOf 49 = 1 := by kernel_rfl
def arrC (f : Nat → Nat) : List AV := [u64 (f 0 : Nat), u64 (f 1 : Nat), u64 (f 2 : Nat), u64 (f 3 : Nat), u64 (f 4 : Nat), u64 (f 5 : Nat)]
def lowK (k : Nat) (r : Rec) (j : Nat) : Nat := bif Nat.blt j k then r.arg j % 4294967296 else r.arg j
theorem le_arg {a : Nat} {r : Rec} (e : a = 2) (k : Nat) : AVle (u64 (r.arg k % 4294967296 : Nat)) (u64 (argI a r k : Nat)) := by
  unfold argI; rw [if_pos e]; exact AVle.refl _
end Go.Proofs.W

/- More words: a call that only looks at what is one's own. -/
import Derived.Test.YtgllcdchhfcoiaaVlT
namespace Go.Vl
open Go.RowKit
variable {P : Program}

theorem Frz.bpL {bs : List (Nat × Own)} {i : Id} {off : Nat} {cs cs' : List AV} (hm : (i.2, .c cs) ∈ bs) (hc : FrzL bs (cs.drop off) cs') : Frz bs (.bp i off) (.rp cs') := (Frz.bp hm rfl).trans (Frz.rp hc)
/-- What reads so reads so everywhere. -/
def Flat (a : AV) : Prop := ∀ w X g w' X' g' u, Rep w X g a u → Rep w' X' g' a u
theorem Flat.v (x : Value) : Flat (.v x) := fun _ _ _ _ _ _ _ h => by cases h; exact .v _
theorem Flat.any : Flat .any := fun _ _ _ _ _ _ _ _ => .any _
theorem yields_look {o : Oper} {E : Env} {fo : Operand} {args : Array Operand} {tys : Array TypeId} {f : FuncId} {first caps as : List AV} {r : AV}
    (ho : o.op = .call { callee := .value fo, args := args, argTypes := tys }) (hf : E.ev fo = .fn (.func f) first caps)
    (hc : Tells P f as r) (hl : FrzL (E.h.bx.map fun p => (p.1.2, p.2)) (first ++ args.toList.map E.ev ++ caps) as) (hid : Flat r) : Yields P o E r := by
  refine ⟨(by rw [ho]; intro c h0; cases h0), ?_⟩
  intro ρ w X g hk hx
  obtain ⟨⟨fn, hfn, hbody, hname⟩, hcall⟩ := hc E.h.nx
  have hfr := hx fo (by simp [ho, Op.operands, Call.operands])
  rw [hf] at hfr
  generalize hu : ρ fo = u at hfr
  cases hfr with
  | fn _ _ _ v1 v2 hl1 hl2 hr1 hr2 =>
    have hrun : (execOp ρ o).run P w = .ok (.enter f (v1 ++ args.toList.map ρ ++ v2).toArray) w := by
      have e : v1.toArray ++ args.map ρ ++ v2.toArray = (v1 ++ args.toList.map ρ ++ v2).toArray := by
        apply Array.ext'; simp
      unfold execOp
      simp only [ho, resolve, hu, Deferred.ofValue, pure_bind, invoke, e]
      simp only [callFunc, Sem.run_bind, run_program, Result.andThen_ok, hfn, hname, hbody, Bool.false_eq_true, if_false, Sem.run_pure]
    have hxs : ∀ x ∈ args.toList, Rep w (excl X g E.h) g (E.ev x) (ρ x) := fun x hm => hx x (by
      rw [ho]; simp only [Op.operands, Call.operands]; exact Array.mem_append_right _ (Array.mem_toList_iff.1 hm))
    refine .inr ⟨f, _, w, hrun, Evo.refl _ _, ?_⟩
    let X0 : Nat → Nat → Prop := fun b o => excl X g E.h b o ∧ ¬ ∃ p ∈ E.h.bx, g[p.1.2]? = some b
    have hless : ∀ b o, X0 b o → excl X g E.h b o := fun b o h => h.1
    have hex : excl X0 g ⟨[], [], E.h.nx, 0⟩ = X0 := by
      funext b o
      apply propext
      constructor
      · rintro (h | ⟨p, hp, _⟩ | ⟨p, hp, _⟩)
        · exact h
        · cases hp
        · cases hp
      · exact .inl
    have hbs : ∀ p ∈ E.h.bx.map (fun p => (p.1.2, p.2)), ∃ b, g[p.1]? = some b ∧ (∀ o, ¬ X0 b o) ∧ OwnRep w X0 g b p.2 := by
      intro p hp
      obtain ⟨q, hq, rfl⟩ := List.mem_map.1 hp
      obtain ⟨b, h1, h2⟩ := hk.bx q hq
      exact ⟨b, h1, fun o h => h.2 ⟨q, hq, h1⟩, h2.stays (Stays.less hless) rfl⟩
    have hcs := hcall X0 w g (v1 ++ args.toList.map ρ ++ v2) (by rw [hex]; exact ⟨by simp, by simp, by simp [Heap.ids], hk.nx, fun b o h => hk.bd b o h.1⟩) (fun b o _ i hi => by simp [Heap.ids] at hi) (by
      have := hl.get.1
      simp only [List.length_append, List.length_map] at this ⊢
      omega) (fun k c u hc hu => by
      rw [hex]
      have hlt : k < (first ++ args.toList.map E.ev ++ caps).length := by rw [hl.get.1]; exact (List.getElem?_eq_some_iff.1 hc).1
      have hca := List.getElem?_eq_getElem hlt
      generalize (first ++ args.toList.map E.ev ++ caps)[k] = c0 at hca
      refine hl.get.2 k c0 c hca hc w X0 g u hbs (Rep.stays (Stays.less hless) ?_)
      rw [List.getElem?_append] at hca hu
      simp only [List.length_append, List.length_map, hl1, hl2] at hca hu
      split at hca
      · rename_i h1
        rw [if_pos h1] at hu
        rw [List.getElem?_append] at hca hu
        rw [hl1] at hu
        split at hca
        · rename_i h2; rw [if_pos h2] at hu; exact hr1 k c0 u hca hu
        · rename_i h2; rw [if_neg h2] at hu
          exact reps_map hxs _ c0 u hca hu
      · rename_i h1
        rw [if_neg h1] at hu
        exact hr2 _ c0 u hca hu)
    refine Calls.mono hcs fun e w' ⟨r', h', g', a6, q, a3, a4, a5, a7, a8⟩ => ?_
    cases r' with
    | pan x => exact q.elim
    | ret r' =>
    obtain ⟨a2, b1, b2⟩ := q
    obtain ⟨u, a1, a6⟩ := a6
    refine ⟨u, a1, a7.mono fun b o _ hx => ?_, hid _ _ _ _ _ _ _ (a2 _ _ _ _ a6)⟩
    rcases hx with hx | ⟨p, hp, _⟩ | ⟨p, hp, _⟩
    · exact hx
    · cases hp
    · cases hp
end Go.Vl

/- Stores, and rows that grow. -/
import Derived.Test.YtgllcdchhfcoiaaVlA
import Derived.Laws.MakeOwn
namespace Go.Vl
open Go.RowKit
variable {P : Program}

/-- Is it told that the value is one cell's? -/
def isOne : AV → Bool
  | .any | .ag _ | .tup _ => false
  | .v (.agg _) | .v (.tuple _) => false
  | _ => true
theorem isOne_sound {c : AV} (h : isOne c = true) {w : World} {X : Nat → Nat → Prop} {g : List Nat} {u : Value} (hr : Rep w X g c u) : u.oneCell' = true := by
  cases hr <;> first | rfl | (simp [isOne] at h; done) | skip
  cases u <;> first | rfl | (simp [isOne] at h; done)

def splice : List AV → Nat → List AV → List AV
  | [], _, vs => vs
  | c :: cs, 0, vs => vs ++ (c :: cs).drop vs.length
  | c :: cs, n + 1, vs => c :: splice cs n vs
theorem splice_def : ∀ (cs : List AV) (off : Nat) (vs : List AV), splice cs off vs = cs.take off ++ (vs ++ cs.drop (off + vs.length))
  | [], _, vs => by simp [splice]
  | c :: cs, 0, vs => by simp [splice]
  | c :: cs, n + 1, vs => by
    rw [splice, splice_def cs n vs, Nat.add_right_comm]
    simp

theorem splice_get {α : Type} (cs vs : List α) (off : Nat) (h : off + vs.length ≤ cs.length) (k : Nat) : (cs.take off ++ (vs ++ cs.drop (off + vs.length)))[k]? = if k < off then cs[k]? else if k < off + vs.length then vs[k - off]? else cs[k]? := by
  rw [List.getElem?_append]
  have e1 : (cs.take off).length = off := by simp; omega
  rw [e1]
  split
  · rename_i hk; rw [List.getElem?_take, if_pos hk]
  · rename_i hk
    rw [List.getElem?_append]
    by_cases h2 : k < off + vs.length
    · rw [if_pos (by omega), if_pos h2]
    · rw [if_neg (by omega), if_neg h2, List.getElem?_drop]
      congr 1
      omega

theorem aop_store {o : Oper} {t : TypeId} {p x : Operand} {E : Env} {K : Env → Prop} {i : Id} {off : Nat} {cs : List AV} (ho : o.op = .store t p x) (hp : E.ev p = .bp i off) (hcs : hget i.1 E.h.bx = some (i.2, cs))
    (hc : okCell (E.ev x) = true) (h1 : (E.ev x).cells.all isOne = true) (ht : (P.underlying t).isSome = true) (hsz : Nat.beq (E.ev x).cells.length (P.cellsOf t) = true) (hle : off + (E.ev x).cells.length ≤ cs.length)
    (hk : K (({ E with h := { E.h with bx := hset i.1 (splice cs off (E.ev x).cells) E.h.bx } } : Env).set o.dst .any)) : AOp P o E K := by
  intro ro X M w0 a w g hs next Q hn hpan
  obtain ⟨d, hd⟩ := Option.isSome_iff_exists.1 ht
  obtain ⟨q1, q2⟩ := rep_cells hc (hs.ev x)
  have hmem := hget_mem hcs
  obtain ⟨b, hg, vs, e, hb, hvs, hr⟩ := hs.hok.bx _ hmem
  dsimp only at hg hvs hr
  have hpa := hs.ev p
  rw [hp] at hpa
  have hpv : a.eval p = .pointer (some ⟨b, off, none⟩) := by
    generalize a.eval p = u at hpa
    cases hpa with
    | bp _ _ b' hg' => rw [hg] at hg'; cases hg'; rfl
  have hone : ∀ u ∈ (a.eval x).cells.toList, u.oneCell' = true := by
    intro u hu
    obtain ⟨k, hk', hu'⟩ := List.getElem_of_mem hu
    have hlt : k < (E.ev x).cells.length := by rw [← q1]; exact hk'
    have := q2 k _ u (List.getElem?_eq_getElem hlt) (by rw [List.getElem?_eq_getElem hk', hu'])
    exact isOne_sound (List.all_eq_true.1 h1 _ (List.getElem_mem hlt)) this
  have hlen : (a.eval x).cells.toList.length = (E.ev x).cells.length := q1
  have hL : (a.eval x).cells.size = (E.ev x).cells.length := by rw [← hlen]; simp
  have hst := run_storeCells_at P b off e (a.eval x).cells.toList 0 vs w hb (by omega) hone
  simp only [Nat.add_zero] at hst
  have hcz : (a.eval x).cells.size = P.cellsOf t := by rw [← Nat.eq_of_beq_eq_true hsz, ← hlen]; simp
  have hrun : (execOp a.eval o).run P w = .ok .skip (w.setRow b (vs.toList.take off ++ (a.eval x).cells.toList ++ vs.toList.drop (off + (a.eval x).cells.toList.length)).toArray) := by
    unfold execOp
    simp only [ho, hpv, Instr.storeAt, Instr.sureAddr, storeVar]
    simp only [Sem.run_bind, Sem.run_pure, Result.andThen_ok, run_sizeOf' hd, hcz, ne_eq, not_true_eq_false, if_false, hst]
  have hnew := hs.setRow (cs := splice cs off (E.ev x).cells) (vs := (vs.toList.take off ++ (a.eval x).cells.toList ++ vs.toList.drop (off + (a.eval x).cells.toList.length)).toArray) hcs hg hb
    (by simp only [splice_def, List.length_append, List.length_take, List.length_drop, Array.length_toList]; omega)
    (by simp only [List.size_toArray, List.length_append, List.length_take, List.length_drop, Array.length_toList]; omega)
    (fun k c u hk1 hk2 => by
      simp only [List.append_assoc] at hk2
      rw [splice_get _ _ _ (by simp only [Array.length_toList]; omega)] at hk2
      rw [splice_def] at hk1
      rw [splice_get _ _ _ hle] at hk1
      rw [hlen] at hk2
      split at hk1
      · rename_i h2; rw [if_pos h2] at hk2; exact hr k c u hk1 (by simpa using hk2)
      · rename_i h2
        rw [if_neg h2] at hk2
        split at hk1
        · rename_i h3; rw [if_pos h3] at hk2; exact q2 _ c u hk1 hk2
        · rename_i h3; rw [if_neg h3] at hk2; exact hr k c u hk1 (by simpa using hk2))
  refine wpIn_of_run (by rw [ho]; intro c h; cases h) ?_
  rw [hrun]
  exact hn _ _ _ g hk (fun _ _ h => h) (hnew.put o.dst (.any _))

def permErase (nm : Nat) : List (Id × Nat) → List (Id × Nat)
  | [] => []
  | p :: l => bif Nat.beq p.1.1 nm then l else p :: permErase nm l
def permGet (nm : Nat) : List (Id × Nat) → Option (Nat × Nat)
  | [] => none
  | p :: l => bif Nat.beq p.1.1 nm then some (p.1.2, p.2) else permGet nm l
theorem permGet_mem {nm s n : Nat} : ∀ {l : List (Id × Nat)}, permGet nm l = some (s, n) → ((nm, s), n) ∈ l
  | [], h => by simp [permGet] at h
  | p :: l, h => by
    unfold permGet at h
    cases hb : Nat.beq p.1.1 nm with
    | true =>
      simp only [hb, cond_true, Option.some.injEq, Prod.mk.injEq] at h
      have := Nat.eq_of_beq_eq_true hb
      obtain ⟨⟨p1, p2⟩, p3⟩ := p
      simp only at this h
      obtain ⟨rfl, rfl⟩ := h
      subst this
      simp
    | false => simp only [hb, cond_false] at h; exact List.mem_cons_of_mem _ (permGet_mem h)
theorem permErase_sub {nm : Nat} : ∀ {l : List (Id × Nat)}, (permErase nm l).Sublist l
  | [] => List.Sublist.refl _
  | p :: l => by
    unfold permErase
    cases Nat.beq p.1.1 nm
    · exact (permErase_sub (l := l)).cons_cons _
    · exact List.sublist_cons_self _ _
theorem permErase_ne {nm s n : Nat} : ∀ {l : List (Id × Nat)} {p : Id × Nat}, (l.map (·.1.2)).Nodup → permGet nm l = some (s, n) → p ∈ permErase nm l → p.1.2 ≠ s
  | [], p, _, _, h => by simp [permErase] at h
  | q :: l, p, hn, hg, h => by
    simp only [List.map_cons, List.nodup_cons] at hn
    unfold permErase at h
    unfold permGet at hg
    cases hb : Nat.beq q.1.1 nm with
    | true =>
      simp only [hb, cond_true, Option.some.injEq, Prod.mk.injEq] at h hg
      obtain ⟨rfl, rfl⟩ := hg
      intro e
      exact hn.1 (List.mem_map.2 ⟨p, h, e⟩)
    | false =>
      simp only [hb, cond_false, List.mem_cons] at h hg
      rcases h with rfl | h
      · intro e
        have := permGet_mem hg
        exact hn.1 (List.mem_map.2 ⟨_, this, e.symm⟩)
      · exact permErase_ne hn.2 hg h

def permDrop (oi : Option Id) (l : List (Id × Nat)) : List (Id × Nat) :=
  match oi with
  | some i => permErase i.1 l
  | none => l

/-- The heap behind an append: the row's new number, and how many cells are taken. -/
def Heap.grow (h : Heap) (oi : Option Id) (n : Nat) : Heap :=
  ⟨h.bx, ((h.nn, h.nx), n) :: permDrop oi h.pm, h.nx + 1, h.nn + 1⟩

def appF (n : Nat) (f f' : Nat → AV) : Nat → AV := fun k => bif Nat.blt k n then f k else f' (k - n)

/-- A block of one's own has grown (or is new), and bears a new number. -/
theorem St.grow {ro : Option Nat} {X M : Nat → Nat → Prop} {w0 : World} {E : Env} {a : Act} {w w' : World} {g : List Nat} (hs : St ro X M w0 E a w g) (oi : Option Id) (hperm : ∀ i, oi = some i → ∃ m, permGet i.1 E.h.pm = some (i.2, m)) (n : Nat) {blk : Nat} {vs : Array Value} {e : TypeId}
    (hb : w'.heap[blk]? = some (.cells vs e (0, 0))) (hn : n ≤ vs.size) (hblk : w.heap.size ≤ blk ∨ ∃ i m, oi = some i ∧ (i, m) ∈ E.h.pm ∧ g[i.2]? = some blk ∧ m ≤ n)
    (hev : Evo (fun b o => ∃ i m, oi = some i ∧ (i, m) ∈ E.h.pm ∧ g[i.2]? = some b ∧ m ≤ o) w w') :
    St ro X M w0 { E with h := E.h.grow oi n } a w' (g ++ [blk]) ∧ Stays w (excl X g E.h) g w' (excl X (g ++ [blk]) (E.h.grow oi n)) (g ++ [blk]) := by
  have hk := hs.hok
  have hgi : ∀ (i b : Nat), g[i]? = some b → (g ++ [blk])[i]? = some b := fun i b h => by
    rw [List.getElem?_append_left (List.getElem?_eq_some_iff.1 h).1]; exact h
  have hgn : (g ++ [blk])[E.h.nx]? = some blk := by rw [hk.nx]; simp
  have hgd : ∀ i, i < g.length → (g ++ [blk])[i]? = g[i]? := fun i h => List.getElem?_append_left h
  have hpmn : (E.h.pm.map (·.1.2)).Nodup := by
    have := hk.nodup
    unfold Heap.ids at this
    rw [List.map_append] at this
    exact (List.pairwise_map.1 (List.nodup_append.1 this).2.1).imp fun h e => h (by rw [e])
  have hsub : ∀ p, p ∈ (permDrop oi E.h.pm) → p ∈ E.h.pm := by
    intro p hp
    cases oi with
    | none => exact hp
    | some i => exact permErase_sub.subset hp
  have hsubl : (permDrop oi E.h.pm).Sublist E.h.pm := by
    cases oi with
    | none => exact List.Sublist.refl _
    | some i => exact permErase_sub
  have hbxI : ∀ p ∈ E.h.bx, p.1.2 ∈ E.h.ids := fun p hp => List.mem_append_left _ (List.mem_map.2 ⟨p, hp, rfl⟩)
  have hpmI : ∀ p ∈ E.h.pm, p.1.2 ∈ E.h.ids := fun p hp => List.mem_append_right _ (List.mem_map.2 ⟨p, hp, rfl⟩)
  have hex : ∀ b o, b < w.heap.size → excl X (g ++ [blk]) (E.h.grow oi n) b o → excl X g E.h b o := by
    intro b o hb' hx
    rcases hx with hx | ⟨p, hp, hg⟩ | ⟨p, hp, hg, hle⟩
    · exact .inl hx
    · simp only [Heap.grow] at hp
      rw [hgd _ (ids_get hk (hbxI p hp))] at hg
      exact .inr (.inl ⟨p, hp, hg⟩)
    · simp only [Heap.grow, List.mem_cons] at hp
      rcases hp.symm with hp | rfl
      · rw [hgd _ (ids_get hk (hpmI p (hsub p hp)))] at hg
        exact .inr (.inr ⟨p, hsub p hp, hg, hle⟩)
      · dsimp only at hg hle
        rw [hgn] at hg
        cases hg
        rcases hblk with hblk | ⟨i, m, _, h2, h3, h4⟩
        · omega
        · exact .inr (.inr ⟨(i, m), h2, h3, by dsimp only; omega⟩)
  have hm : ∀ b o, b < w.heap.size → (∃ i m, oi = some i ∧ (i, m) ∈ E.h.pm ∧ g[i.2]? = some b ∧ m ≤ o) → excl none2 g E.h b o := by
    rintro b o _ ⟨i, m, _, h2, h3, h4⟩
    exact .inr (.inr ⟨(i, m), h2, h3, h4⟩)
  have hst : Stays w (excl X g E.h) g w' (excl X (g ++ [blk]) (E.h.grow oi n)) (g ++ [blk]) := hev.stays (fun b o h1 h2 => excl_none (hm b o h1 h2)) hex hgi
  have hblkne : ∀ i ∈ E.h.ids, (∀ j : Id, oi = some j → i ≠ j.2) → g[i]? ≠ some blk := by
    intro i hi hne hgb
    rcases hblk with hblk | ⟨j, m, h1, h2, h3, _⟩
    · obtain ⟨b', hb', hlt⟩ := ids_lt hk hi
      rw [hb'] at hgb; cases hgb; omega
    · exact own_ne hk (hpmI _ h2) hi (fun e => hne j h1 e.symm) h3 hgb
  have hsame : ∀ p ∈ E.h.bx, ∀ b o, g[p.1.2]? = some b → w.heap[b]? = some o → w'.heap[b]? = some o := by
    intro p hp b o hg ho
    rw [hev.blk b (lt_of_block ho)]
    · exact ho
    · rintro o' ⟨i, m, h1, h2, h3, _⟩
      have := hk.nodup
      unfold Heap.ids at this
      rw [List.map_append] at this
      exact (List.nodup_append.1 this).2.2 _ (List.mem_map.2 ⟨p.1.2, List.mem_map.2 ⟨p, hp, rfl⟩, rfl⟩) _ (List.mem_map.2 ⟨i.2, List.mem_map.2 ⟨_, h2, rfl⟩, rfl⟩) (by rw [hg, h3])
  refine ⟨⟨⟨?_, ?_, ?_, ?_, ?_⟩, fun k => (hs.tm k).stays hst, hs.n, hs.evo.and_then hev (fun b o hb' hx => hs.loc b o (hm b o (Nat.lt_of_lt_of_le hb' hs.evo.size) hx) hb'), ?_, hs.def_.stays hst, ?_, hs.top, hs.rnd⟩, hst⟩
  · intro p hp
    obtain ⟨b, h1, h2⟩ := hk.bx p hp
    have hl := h2.lt
    exact ⟨b, hgi _ _ h1, h2.stays hst ((hsame p hp b _ h1 (Array.getElem?_eq_getElem hl)).trans (Array.getElem?_eq_getElem hl).symm)⟩
  · intro p hp
    simp only [Heap.grow, List.mem_cons] at hp
    rcases hp.symm with hp | rfl
    · obtain ⟨b, vs', e', h1, h2, h3⟩ := hk.pm p (hsub p hp)
      obtain ⟨vs'', h4, h5⟩ := hev.room b vs' e' (0, 0) h2
      exact ⟨b, vs'', e', hgi _ _ h1, h4, by omega⟩
    · exact ⟨blk, vs, e, hgn, hb, hn⟩
  · have hnd := hk.nodup
    unfold Heap.ids at hnd ⊢
    simp only [Heap.grow, List.map_append, List.map_cons, hgn]
    rw [List.map_append] at hnd
    obtain ⟨n1, n2, n3⟩ := List.nodup_append.1 hnd
    have e1 : (E.h.bx.map (·.1.2)).map (fun i => (g ++ [blk])[i]?) = (E.h.bx.map (·.1.2)).map (fun i => g[i]?) := List.map_congr_left fun i hi => by
      obtain ⟨p, hp, rfl⟩ := List.mem_map.1 hi
      exact hgd _ (ids_get hk (hbxI p hp))
    have e2 : ((permDrop oi E.h.pm).map (·.1.2)).map (fun i => (g ++ [blk])[i]?) = ((permDrop oi E.h.pm).map (·.1.2)).map (fun i => g[i]?) :=
      List.map_congr_left fun i hi => by
        obtain ⟨p, hp, rfl⟩ := List.mem_map.1 hi
        exact hgd _ (ids_get hk (hpmI p (hsub p hp)))
    refine (List.Perm.append_left _ (List.perm_append_singleton _ _).symm).nodup_iff.2 ?_
    rw [e1, e2]
    refine List.nodup_append.2 ⟨n1, List.nodup_append.2 ⟨?_, by simp, ?_⟩, ?_⟩
    · exact n2.sublist ((hsubl.map _).map _)
    · intro x hx y hy he
      subst he
      simp at hy; subst hy
      obtain ⟨i, hi, hib⟩ := List.mem_map.1 hx
      obtain ⟨p, hp, rfl⟩ := List.mem_map.1 hi
      refine hblkne p.1.2 (hpmI p (hsub p hp)) (fun j hj => ?_) hib
      subst hj
      obtain ⟨m, hm⟩ := hperm j rfl
      exact permErase_ne hpmn hm hp
    · intro x hx y hy he
      subst he
      rcases List.mem_append.1 hy with hy | hy
      · refine n3 x hx x ?_ rfl
        exact ((hsubl.map _).map _).subset hy
      · simp at hy; subst hy
        obtain ⟨i, hi, hib⟩ := List.mem_map.1 hx
        obtain ⟨p, hp, rfl⟩ := List.mem_map.1 hi
        refine hblkne p.1.2 (hbxI p hp) (fun j hj e => ?_) hib
        subst hj
        rcases hblk with hblk | ⟨i, m, h1, h2, h3, _⟩
        · obtain ⟨b', hb', hlt⟩ := ids_lt hk (hbxI p hp)
          rw [hb'] at hib; cases hib; omega
        · cases h1
          exact n3 _ (List.mem_map.2 ⟨p.1.2, List.mem_map.2 ⟨p, hp, rfl⟩, rfl⟩) _ (List.mem_map.2 ⟨_, List.mem_map.2 ⟨_, h2, rfl⟩, rfl⟩) (by rw [e])
  · simp [Heap.grow, hk.nx]
  · intro b o hx
    by_cases hb' : b < w.heap.size
    · exact Nat.lt_of_lt_of_le hb' hev.size
    · rcases hx with hx | ⟨p, hp, hg⟩ | ⟨p, hp, hg, _⟩
      · have := hk.bd b o (.inl hx); omega
      · obtain ⟨b', hb'', hlt⟩ := ids_lt hk (hbxI p hp)
        rw [hgi _ _ hb''] at hg; cases hg; omega
      · simp only [Heap.grow, List.mem_cons] at hp
        rcases hp.symm with hp | rfl
        · obtain ⟨b', hb'', hlt⟩ := ids_lt hk (hpmI p (hsub p hp))
          rw [hgi _ _ hb''] at hg; cases hg; omega
        · dsimp only at hg; rw [hgn] at hg; cases hg; exact lt_of_block hb
  · intro b o hx hb'
    refine hs.loc b o ?_ hb'
    have hb2 : b < w.heap.size := Nat.lt_of_lt_of_le hb' hs.evo.size
    rcases hx with hx | ⟨p, hp, hg⟩ | ⟨p, hp, hg, hle⟩
    · exact hx.elim
    · simp only [Heap.grow] at hp
      rw [hgd _ (ids_get hk (hbxI p hp))] at hg
      exact .inr (.inl ⟨p, hp, hg⟩)
    · simp only [Heap.grow, List.mem_cons] at hp
      rcases hp.symm with hp | rfl
      · rw [hgd _ (ids_get hk (hpmI p (hsub p hp)))] at hg
        exact .inr (.inr ⟨p, hsub p hp, hg, hle⟩)
      · dsimp only at hg hle
        rw [hgn] at hg
        cases hg
        rcases hblk with hblk | ⟨i, m, _, h2, h3, h4⟩
        · omega
        · exact .inr (.inr ⟨(i, m), h2, h3, by dsimp only; omega⟩)
  · intro b o hx i hi
    have hb' := hk.bd b o (.inl hx)
    have hold : i ∈ E.h.ids → (g ++ [blk])[i]? ≠ some b := fun hi => by rw [hgd i (ids_get hk hi)]; exact hs.sep b o hx i hi
    simp only [Heap.ids, Heap.grow, List.map_append, List.map_cons, List.map_nil, List.mem_append, List.mem_cons] at hi
    rcases (hi.imp id Or.symm) with hi | hi | rfl
    · exact hold (List.mem_append_left _ hi)
    · obtain ⟨p, hp, rfl⟩ := List.mem_map.1 hi
      exact hold (hpmI p (hsub p hp))
    · rw [hgn]; intro e; cases e
      rcases hblk with hblk | ⟨i, m, _, h2, h3, _⟩
      · omega
      · exact hs.sep _ o hx i.2 (hpmI _ h2) h3
end Go.Vl

/- Operations on memory of one's own: variables, stores, rows that are appended to. -/
import Derived.Test.YtgllcdchhfcoiaaVl8
namespace Go.Vl
open Go.RowKit
variable {P : Program}

theorem Evo.and_then {M M' : Nat → Nat → Prop} {a b c : World} (h : Evo M a b) (k : Evo M' b c) (hm : ∀ x o, x < a.heap.size → M' x o → M x o) : Evo M a c :=
  ⟨k.os.trans h.os, k.tape.trans h.tape, k.output.trans h.output, Nat.le_trans h.size k.size,
   fun x hx hn => (k.blk x (Nat.lt_of_lt_of_le hx h.size) (fun o h' => hn o (hm x o hx h'))).trans (h.blk x hx hn),
   fun x o hx hn => (k.cell x o (Nat.lt_of_lt_of_le hx h.size) (fun h' => hn (hm x o hx h'))).trans (h.cell x o hx hn),
   fun x vs e fz hx => let ⟨vs', h1, h2⟩ := h.room x vs e fz hx; let ⟨vs'', h3, h4⟩ := k.room x vs' e fz h1; ⟨vs'', h3, h4.trans h2⟩,
   fun x l hx => let ⟨l', h1⟩ := h.lpk x l hx; k.lpk x l' h1⟩

theorem ids_lt {w : World} {X : Nat → Nat → Prop} {g : List Nat} {h : Heap} (hk : HOk w X g h) {i : Nat} (hi : i ∈ h.ids) : ∃ b, g[i]? = some b ∧ b < w.heap.size := by
  unfold Heap.ids at hi
  rcases List.mem_append.1 hi with hi | hi
  · obtain ⟨p, hp, rfl⟩ := List.mem_map.1 hi
    obtain ⟨b, h1, h2⟩ := hk.bx p hp
    exact ⟨b, h1, h2.lt⟩
  · obtain ⟨p, hp, rfl⟩ := List.mem_map.1 hi
    obtain ⟨b, vs, e, h1, h2, _⟩ := hk.pm p hp
    exact ⟨b, h1, lt_of_block h2⟩

theorem ids_get {w : World} {X : Nat → Nat → Prop} {g : List Nat} {h : Heap} (hk : HOk w X g h) {i : Nat} (hi : i ∈ h.ids) : i < g.length := by
  obtain ⟨b, hb, _⟩ := ids_lt hk hi
  exact (List.getElem?_eq_some_iff.1 hb).1

def Heap.addo (h : Heap) (x : Own) : Heap := ⟨((h.nn, h.nx), x) :: h.bx, h.pm, h.nx + 1, h.nn + 1⟩
def Heap.add (h : Heap) (cs : List AV) : Heap := ⟨((h.nn, h.nx), .c cs) :: h.bx, h.pm, h.nx + 1, h.nn + 1⟩

/-- A new variable of one's own. -/
theorem St.obj {ro : Option Nat} {X M : Nat → Nat → Prop} {w0 : World} {E : Env} {a : Act} {w : World} {g : List Nat} (hs : St ro X M w0 E a w g) {x : Own} (obj : Obj)
    (hr : ∀ (X' : Nat → Nat → Prop) (g' : List Nat), Stays w (excl X g E.h) g (w.alloc obj) X' g' → (w.alloc obj).heap[w.heap.size]? = some obj → OwnRep (w.alloc obj) X' g' w.heap.size x) :
    St ro X M w0 { E with h := E.h.addo x } a (w.alloc obj) (g ++ [w.heap.size]) ∧ (g ++ [w.heap.size])[E.h.nx]? = some w.heap.size ∧
    Stays w (excl X g E.h) g (w.alloc obj) (excl X (g ++ [w.heap.size]) (E.h.addo x)) (g ++ [w.heap.size]) := by
  have hk := hs.hok
  have hev := evo_alloc w obj
  have hgi : ∀ (i b : Nat), g[i]? = some b → (g ++ [w.heap.size])[i]? = some b := fun i b h => by
    rw [List.getElem?_append_left (List.getElem?_eq_some_iff.1 h).1]; exact h
  have hgn : (g ++ [w.heap.size])[E.h.nx]? = some w.heap.size := by rw [hk.nx]; simp
  have hgd : ∀ i, i < g.length → (g ++ [w.heap.size])[i]? = g[i]? := fun i h => List.getElem?_append_left h
  have hex : ∀ b o, b < w.heap.size → excl X (g ++ [w.heap.size]) (E.h.addo x) b o → excl X g E.h b o := by
    intro b o hb hx
    rcases hx with hx | ⟨p, hp, hg⟩ | ⟨p, hp, hg⟩
    · exact .inl hx
    · simp only [Heap.addo, List.mem_cons] at hp
      rcases hp.symm with hp | rfl
      · rw [hgd _ (ids_get hk (List.mem_append_left _ (List.mem_map.2 ⟨p, hp, rfl⟩)))] at hg
        exact .inr (.inl ⟨p, hp, hg⟩)
      · dsimp only at hg; rw [hgn] at hg; cases hg; omega
    · simp only [Heap.addo] at hp
      rw [hgd _ (ids_get hk (List.mem_append_right _ (List.mem_map.2 ⟨p, hp, rfl⟩)))] at hg
      exact .inr (.inr ⟨p, hp, hg⟩)
  have hst : Stays w (excl X g E.h) g (w.alloc obj) (excl X (g ++ [w.heap.size]) (E.h.addo x)) (g ++ [w.heap.size]) :=
    hev.stays (fun _ _ _ x => x.elim) hex hgi
  have hblk : ∀ {b : Nat} {o : Obj}, w.heap[b]? = some o → (w.alloc obj).heap[b]? = some o := fun h => (hev.blk _ (lt_of_block h) (fun _ x => x)).trans h
  refine ⟨⟨⟨?_, ?_, ?_, ?_, ?_⟩, fun k => (hs.tm k).stays hst, hs.n, hs.evo.and_then hev (fun _ _ _ x => x.elim), ?_, hs.def_.stays hst, ?_, hs.top, hs.rnd⟩, hgn, hst⟩
  · intro p hp
    simp only [Heap.addo, List.mem_cons] at hp
    rcases hp.symm with hp | rfl
    · obtain ⟨b, h1, h2⟩ := hk.bx p hp
      exact ⟨b, hgi _ _ h1, h2.stays hst (hev.blk _ h2.lt (fun _ x => x))⟩
    · exact ⟨w.heap.size, hgn, hr _ _ hst (heap_alloc_new w _)⟩
  · intro p hp
    obtain ⟨b, vs', e', h1, h2, h3⟩ := hk.pm p hp
    exact ⟨b, vs', e', hgi _ _ h1, hblk h2, h3⟩
  · have hsame : E.h.ids.map (fun i => (g ++ [w.heap.size])[i]?) = E.h.ids.map (fun i => g[i]?) := List.map_congr_left fun i hi => hgd i (ids_get hk hi)
    have hfresh : some w.heap.size ∉ E.h.ids.map (fun i => (g ++ [w.heap.size])[i]?) := by
      rw [hsame]
      intro hm
      obtain ⟨i, hi, he⟩ := List.mem_map.1 hm
      obtain ⟨b, hb, hlt⟩ := ids_lt hk hi
      rw [hb] at he
      cases he
      exact absurd hlt (Nat.lt_irrefl _)
    have hnd := hk.nodup
    rw [← hsame] at hnd
    simp only [Heap.ids, Heap.addo, List.map_cons, List.cons_append] at hnd hfresh ⊢
    rw [hgn]
    exact List.nodup_cons.2 ⟨hfresh, hnd⟩
  · simp [Heap.addo, hk.nx]
  · intro b o hx
    simp only [World.size_alloc]
    by_cases hb : b < w.heap.size
    · omega
    · rcases hx with hx | ⟨p, hp, hg⟩ | ⟨p, hp, hg, _⟩
      · have := hk.bd b o (.inl hx); omega
      · simp only [Heap.addo, List.mem_cons] at hp
        rcases hp.symm with hp | rfl
        · obtain ⟨b', hb', hlt⟩ := ids_lt hk (List.mem_append_left _ (List.mem_map.2 ⟨p, hp, rfl⟩) : p.1.2 ∈ E.h.ids)
          rw [hgi _ _ hb'] at hg; cases hg; omega
        · dsimp only at hg; rw [hgn] at hg; cases hg; omega
      · obtain ⟨b', hb', hlt⟩ := ids_lt hk (List.mem_append_right _ (List.mem_map.2 ⟨p, hp, rfl⟩) : p.1.2 ∈ E.h.ids)
        rw [hgi _ _ hb'] at hg; cases hg; omega
  · intro b o hx hb
    refine hs.loc b o ?_ hb
    have hb' : b < w.heap.size := Nat.lt_of_lt_of_le hb hs.evo.size
    rcases hx with hx | ⟨p, hp, hg⟩ | ⟨p, hp, hg⟩
    · exact hx.elim
    · simp only [Heap.addo, List.mem_cons] at hp
      rcases hp.symm with hp | rfl
      · rw [hgd _ (ids_get hk (List.mem_append_left _ (List.mem_map.2 ⟨p, hp, rfl⟩)))] at hg
        exact .inr (.inl ⟨p, hp, hg⟩)
      · dsimp only at hg; rw [hgn] at hg; cases hg; omega
    · rw [hgd _ (ids_get hk (List.mem_append_right _ (List.mem_map.2 ⟨p, hp, rfl⟩)))] at hg
      exact .inr (.inr ⟨p, hp, hg⟩)
  · intro b o hx i hi
    have hb := hk.bd b o (.inl hx)
    have hold : i ∈ E.h.ids → (g ++ [w.heap.size])[i]? ≠ some b := fun hi => by rw [hgd i (ids_get hk hi)]; exact hs.sep b o hx i hi
    simp only [Heap.ids, Heap.addo, List.map_cons, List.cons_append, List.mem_cons] at hi
    rcases hi with rfl | hi
    · rw [hgn]; intro e; cases e; omega
    · exact hold hi

theorem St.box {ro : Option Nat} {X M : Nat → Nat → Prop} {w0 : World} {E : Env} {a : Act} {w : World} {g : List Nat} (hs : St ro X M w0 E a w g) {cs : List AV} {vs : Array Value} (e : TypeId) (hn : vs.toList.length = cs.length)
    (hr : ∀ (k : Nat) (c : AV) (u : Value), cs[k]? = some c → vs.toList[k]? = some u → Rep w (excl X g E.h) g c u) :
    St ro X M w0 { E with h := E.h.add cs } a (w.alloc (.cells vs e)) (g ++ [w.heap.size]) ∧
    Rep (w.alloc (.cells vs e)) (excl X (g ++ [w.heap.size]) (E.h.add cs)) (g ++ [w.heap.size]) (.bp (E.h.nn, E.h.nx) 0) (.pointer (some ⟨w.heap.size, 0, none⟩)) := by
  obtain ⟨h1, h2, _⟩ := hs.obj (x := .c cs) (.cells vs e) (fun X' g' hst hnew => ⟨vs, e, hnew, by simpa using hn, fun k c u h5 h6 => (hr k c u h5 (by simpa using h6)).stays hst⟩)
  exact ⟨h1, .bp _ _ _ h2⟩

theorem aop_box {o : Oper} {e : TypeId} {x : Operand} {E : Env} {K : Env → Prop} (ho : o.op = .box e x) (hc : okCell (E.ev x) = true)
    (hk : K (({ E with h := E.h.add (E.ev x).cells } : Env).set o.dst (.bp (E.h.nn, E.h.nx) 0))) : AOp P o E K := by
  intro ro X M w0 a w g hs next Q hn hp
  obtain ⟨h1, h2⟩ := rep_cells hc (hs.ev x)
  obtain ⟨h3, h4⟩ := hs.box (vs := (a.eval x).cells) e h1 h2
  refine wpIn_of_run (by rw [ho]; intro c h; cases h) ?_
  have : (execOp a.eval o).run P w = .ok (.value (.pointer (some ⟨w.heap.size, 0, none⟩))) (w.alloc (.cells (a.eval x).cells e)) := by
    unfold execOp
    simp only [ho, Instr.box, newVar, newRow]
    simp
  rw [this]
  exact hn _ _ _ _ hk (fun i b h => by rw [List.getElem?_append_left (List.getElem?_eq_some_iff.1 h).1]; exact h) (h3.put o.dst h4)

def zcells (P : Program) (e : TypeId) : Option (List AV) := ((P.info? e).bind (·.zero)).map fun z => z.cells.toList.map ofC

theorem aop_alloc {o : Oper} {e : TypeId} {E : Env} {K : Env → Prop} {cs : List AV} (ho : o.op = .alloc e) (hz : zcells P e = some cs)
    (hk : K (({ E with h := E.h.add cs } : Env).set o.dst (.bp (E.h.nn, E.h.nx) 0))) : AOp P o E K := by
  intro ro X M w0 a w g hs next Q hn hp
  obtain ⟨z, hz1, rfl⟩ := Option.map_eq_some_iff.1 hz
  obtain ⟨h3, h4⟩ := hs.box (vs := z.cells) (cs := z.cells.toList.map ofC) e (by simp) (fun k c u hc hu => zero_cells hc hu)
  refine wpIn_of_run (by rw [ho]; intro c h; cases h) ?_
  have : (execOp a.eval o).run P w = .ok (.value (.pointer (some ⟨w.heap.size, 0, none⟩))) (w.alloc (.cells z.cells e)) := by
    unfold execOp
    simp only [ho, Instr.alloc, newVar, newRow]
    simp [run_zeroValue' hz1]
  rw [this]
  exact hn _ _ _ _ hk (fun i b h => by rw [List.getElem?_append_left (List.getElem?_eq_some_iff.1 h).1]; exact h) (h3.put o.dst h4)

def hseto (nm : Nat) (cs : Own) : List (Id × Own) → List (Id × Own)
  | [] => []
  | p :: l => bif Nat.beq p.1.1 nm then (p.1, cs) :: l else p :: hseto nm cs l
/-- The same, for what comes behind. -/
def hsetK (nm : Nat) (x : Own) : List (Id × Own) → (List (Id × Own) → Prop) → Prop
  | [], K => K []
  | ((a, s), y) :: l, K => bif Nat.beq a nm then K (((a, s), x) :: l) else hsetK nm x l fun l' => K (((a, s), y) :: l')
theorem hsetK_use {nm : Nat} {x : Own} : ∀ {l : List (Id × Own)} {K : List (Id × Own) → Prop}, hsetK nm x l K → K (hseto nm x l)
  | [], _, h => h
  | ((a, s), y) :: l, K, h => by
    unfold hsetK at h
    unfold hseto
    dsimp only
    cases hb : Nat.beq a nm
    · simp only [hb, cond_false] at h ⊢
      exact hsetK_use (K := fun l' => K (((a, s), y) :: l')) h
    · simp only [hb, cond_true] at h ⊢
      exact h
def hset (nm : Nat) (cs : List AV) : List (Id × Own) → List (Id × Own) := hseto nm (.c cs)

theorem ex_stamp {L : List (Id × Own)} {q : Nat → Prop} : (∃ p ∈ L, q p.1.2) ↔ ∃ j ∈ L.map (·.1.2), q j :=
  ⟨fun ⟨p, hp, h⟩ => ⟨_, List.mem_map.2 ⟨p, hp, rfl⟩, h⟩, fun ⟨j, hj, h⟩ => by obtain ⟨p, hp, rfl⟩ := List.mem_map.1 hj; exact ⟨p, hp, h⟩⟩
theorem hseto_fst {nm : Nat} {cs : Own} : ∀ {l : List (Id × Own)}, (hseto nm cs l).map (·.1.2) = l.map (·.1.2)
  | [] => rfl
  | p :: l => by
    unfold hseto
    cases h : Nat.beq p.1.1 nm
    · simp [hseto_fst (l := l)]
    · simp
theorem hseto_mem {nm s : Nat} {cs cs0 : Own} : ∀ {l : List (Id × Own)} {p : Id × Own}, (l.map (·.1.2)).Nodup → hgeto nm l = some (s, cs0) → p ∈ hseto nm cs l → (p = ((nm, s), cs)) ∨ (p ∈ l ∧ p.1.2 ≠ s)
  | [], p, _, _, h => by simp [hseto] at h
  | q :: l, p, hn, hg, h => by
    simp only [List.map_cons, List.nodup_cons] at hn
    unfold hseto at h
    unfold hgeto at hg
    cases hb : Nat.beq q.1.1 nm with
    | true =>
      simp only [hb, cond_true, List.mem_cons, Option.some.injEq, Prod.mk.injEq] at h hg
      have hq := Nat.eq_of_beq_eq_true hb
      obtain ⟨⟨q1, q2⟩, q3⟩ := q
      simp only at hq hg hn h
      obtain ⟨rfl, rfl⟩ := hg
      subst hq
      rcases h with rfl | h
      · exact .inl rfl
      · right
        refine ⟨List.mem_cons_of_mem _ h, fun e => hn.1 ?_⟩
        rw [← e]
        exact List.mem_map.2 ⟨p, h, rfl⟩
    | false =>
      simp only [hb, cond_false, List.mem_cons] at h hg
      rcases h with rfl | h
      · right
        refine ⟨by simp, fun e => hn.1 ?_⟩
        have := hgeto_mem hg
        rw [e]
        exact List.mem_map.2 ⟨_, this, rfl⟩
      · rcases hseto_mem hn.2 hg h with h | ⟨h, h'⟩
        · exact .inl h
        · exact .inr ⟨List.mem_cons_of_mem _ h, h'⟩

/-- Blocks of one's own, told apart. -/
theorem own_ne {w : World} {X : Nat → Nat → Prop} {g : List Nat} {h : Heap} (hk : HOk w X g h) {i j b : Nat} (hi : i ∈ h.ids) (hj : j ∈ h.ids) (hne : i ≠ j) (hgi : g[i]? = some b) : g[j]? ≠ some b := by
  intro hgj
  have key : ∀ (l : List Nat), (l.map (fun i => g[i]?)).Nodup → i ∈ l → j ∈ l → False := by
    intro l
    induction l with
    | nil => intro _ h; cases h
    | cons x l ih =>
      intro hn hi hj
      simp only [List.map_cons, List.nodup_cons] at hn
      rcases List.mem_cons.1 hi with hi' | hi'
      · subst hi'
        rcases List.mem_cons.1 hj with hj' | hj'
        · exact hne hj'.symm
        · exact hn.1 (List.mem_map.2 ⟨j, hj', by rw [hgj, hgi]⟩)
      · rcases List.mem_cons.1 hj with hj' | hj'
        · subst hj'
          exact hn.1 (List.mem_map.2 ⟨i, hi', by rw [hgi, hgj]⟩)
        · exact ih hn.2 hi' hj' 
  exact key _ hk.nodup hi hj

theorem ids_nodup {w : World} {X : Nat → Nat → Prop} {g : List Nat} {h : Heap} (hk : HOk w X g h) : (h.bx.map (·.1.2)).Nodup := by
  have := hk.nodup
  unfold Heap.ids at this
  rw [List.map_append] at this
  have h1 := (List.nodup_append.1 this).1
  exact (List.pairwise_map.1 h1).imp fun h e => h (by rw [e])

/-- What is one's own, written anew. -/
theorem St.setOwn {ro : Option Nat} {X M : Nat → Nat → Prop} {w0 : World} {E : Env} {a : Act} {w : World} {g : List Nat} (hs : St ro X M w0 E a w g) {nm i b : Nat} {x0 x : Own} {w' : World}
    (hget0 : hgeto nm E.h.bx = some (i, x0)) (hgi : g[i]? = some b) (hev : Evo (fun b' _ => b' = b) w w')
    (hr : Stays w (excl X g E.h) g w' (excl X g E.h) g → OwnRep w' (excl X g E.h) g b x) :
    St ro X M w0 { E with h := { E.h with bx := hseto nm x E.h.bx } } a w' g := by
  have hk := hs.hok
  have hi := hgeto_mem hget0
  have hiI : i ∈ E.h.ids := List.mem_append_left _ (List.mem_map.2 ⟨_, hi, rfl⟩)
  have hbl : b < w.heap.size := by
    obtain ⟨b', h1, h2⟩ := hk.bx _ hi
    rw [hgi] at h1; cases h1
    exact h2.lt
  have hoth : ∀ k, k < w.heap.size → k ≠ b → w'.heap[k]? = w.heap[k]? := fun k hk1 hk' => hev.blk k hk1 (fun _ e => hk' e)
  have hex : ∀ Y : Nat → Nat → Prop, excl Y g ({ E.h with bx := hseto nm x E.h.bx } : Heap) = excl Y g E.h := by
    intro Y
    funext b' o
    apply propext
    unfold excl
    dsimp only
    have hb1 : (∃ p ∈ hseto nm x E.h.bx, g[p.1.2]? = some b') ↔ ∃ p ∈ E.h.bx, g[p.1.2]? = some b' := by
      have h1 : (∃ p ∈ hseto nm x E.h.bx, g[p.1.2]? = some b') ↔ ∃ j ∈ (hseto nm x E.h.bx).map (·.1.2), g[j]? = some b' := ex_stamp (q := fun j => g[j]? = some b')
      have h2 : (∃ p ∈ E.h.bx, g[p.1.2]? = some b') ↔ ∃ j ∈ E.h.bx.map (·.1.2), g[j]? = some b' := ex_stamp (q := fun j => g[j]? = some b')
      rw [h1, h2, hseto_fst]
    rw [hb1]
  have hXb : ∀ o, excl X g E.h b o := fun o => .inr (.inl ⟨_, hi, hgi⟩)
  have hst : Stays w (excl X g E.h) g w' (excl X g E.h) g := hev.stays (fun b' o _ hm => by rw [hm]; exact hXb o) (fun _ _ _ x => x) (fun _ _ x => x)
  refine ⟨?_, fun k => ?_, hs.n, hs.evo.and_then hev (fun b' o hb' hm => ?_), ?_, by rw [hex]; exact hs.def_.stays hst, fun b' o hx j hj => hs.sep b' o hx j (by unfold Heap.ids at hj ⊢; dsimp only at hj; rw [hseto_fst] at hj; exact hj), hs.top, hs.rnd⟩
  · rw [hex]
    refine ⟨fun p hp => ?_, fun p hp => ?_, ?_, hk.nx, fun b' o hx => Nat.lt_of_lt_of_le (hk.bd b' o hx) hev.size⟩
    · rcases hseto_mem (ids_nodup hk) hget0 hp with rfl | ⟨hp, hne⟩
      · exact ⟨b, hgi, hr hst⟩
      · obtain ⟨b', h1, h2⟩ := hk.bx p hp
        have hne' : b' ≠ b := fun e => own_ne hk hiI (List.mem_append_left _ (List.mem_map.2 ⟨p, hp, rfl⟩) : p.1.2 ∈ E.h.ids) (Ne.symm hne) hgi (e ▸ h1)
        exact ⟨b', h1, h2.stays hst (hoth b' h2.lt hne')⟩
    · obtain ⟨b', vs', e', h1, h2, h3⟩ := hk.pm p hp
      by_cases hpi : p.1.2 = i
      · exfalso
        have := hk.nodup
        unfold Heap.ids at this
        rw [List.map_append] at this
        exact (List.nodup_append.1 this).2.2 _ (List.mem_map.2 ⟨i, List.mem_map.2 ⟨_, hi, rfl⟩, rfl⟩) _ (List.mem_map.2 ⟨p.1.2, List.mem_map.2 ⟨p, hp, rfl⟩, rfl⟩) (by rw [hpi])
      · have hne' : b' ≠ b := fun e => own_ne hk hiI (List.mem_append_right _ (List.mem_map.2 ⟨p, hp, rfl⟩) : p.1.2 ∈ E.h.ids) (Ne.symm hpi) hgi (e ▸ h1)
        exact ⟨b', vs', e', h1, (hoth b' (lt_of_block h2) hne').trans h2, h3⟩
    · have := hk.nodup
      unfold Heap.ids at this ⊢
      dsimp only
      rw [hseto_fst]
      exact this
  · show Rep _ (excl X g ({ E.h with bx := hseto nm x E.h.bx } : Heap)) g _ _
    rw [hex]
    exact (hs.tm k).stays hst
  · rw [hm]
    exact hs.loc b o (.inr (.inl ⟨_, hi, hgi⟩)) (hm ▸ hb')
  · intro b' o hx hb'
    rw [hex] at hx
    exact hs.loc b' o hx hb'

/-- A row of one's own, written anew. -/
theorem St.setRow {ro : Option Nat} {X M : Nat → Nat → Prop} {w0 : World} {E : Env} {a : Act} {w : World} {g : List Nat} (hs : St ro X M w0 E a w g) {nm i b : Nat} {cs0 cs : List AV} {vs0 vs : Array Value} {e : TypeId}
    (hget0 : hget nm E.h.bx = some (i, cs0)) (hgi : g[i]? = some b) (hb : w.heap[b]? = some (.cells vs0 e (0, 0))) (hn : vs.toList.length = cs.length) (hn0 : vs.size = vs0.size)
    (hr : ∀ (k : Nat) (c : AV) (u : Value), cs[k]? = some c → vs.toList[k]? = some u → Rep w (excl X g E.h) g c u) :
    St ro X M w0 { E with h := { E.h with bx := hset nm cs E.h.bx } } a (w.setRow b vs) g := by
  have hnew : (w.setRow b vs).heap[b]? = some (.cells vs e (0, 0)) := setRow_heap w b vs0 vs e _ hb
  have hoth : ∀ k, k ≠ b → (w.setRow b vs).heap[k]? = w.heap[k]? := fun k hk' => setRow_other w b k _ hk'
  have hev : Evo (fun b' _ => b' = b) w (w.setRow b vs) := by
    refine ⟨rfl, rfl, rfl, by simp, fun k _ hn' => hoth k (fun e => hn' 0 e), fun k o _ hn' => World.cell?_of_block (a := ⟨k, o, none⟩) (hoth k hn'), fun k us e' fz hb' => ?_, fun k l hl => ?_⟩
    · by_cases hkb : k = b
      · subst hkb
        rw [hb] at hb'
        cases hb'
        exact ⟨vs, hnew, hn0⟩
      · exact ⟨us, (hoth k hkb).trans hb', rfl⟩
    · by_cases hkb : k = b
      · subst hkb
        rw [hb] at hl
        cases hl
      · exact ⟨l, (hoth k hkb).trans hl⟩
  exact hs.setOwn (x := .c cs) (hget_geto hget0) hgi hev (fun hst => ⟨vs, e, hnew, by simpa using hn, fun k c u h5 h6 => (hr k c u h5 (by simpa using h6)).stays hst⟩)
end Go.Vl

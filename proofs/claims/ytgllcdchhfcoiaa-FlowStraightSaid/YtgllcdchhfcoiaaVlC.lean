/- Append, make. -/
import Derived.Test.YtgllcdchhfcoiaaVlB
namespace Go.Vl
open Go.RowKit
variable {P : Program}

def oneRow (m : Nat) (f : Nat → AV) : Prop := ∀ k, k < m → (f k).cells.all isOne = true
theorem oneRow_one {f : Nat → AV} (h : (f 0).cells.all isOne = true) : oneRow 1 f := fun k hk => by
  obtain rfl : k = 0 := by omega
  exact h

/-- May a row of such elements grow? -/
def growOk (P : Program) (e : TypeId) : Bool :=
  match P.info? e with
  | some i => match i.zero with
    | some z => Nat.beq z.cells.size i.size && Nat.blt 0 i.size
    | none => false
  | none => false
theorem growOk_spec {e : TypeId} (h : growOk P e = true) : ∃ i z, P.info? e = some i ∧ i.zero = some z ∧ z.cells.size = P.cellsOf e ∧ i.size = P.cellsOf e ∧ 0 < P.cellsOf e ∧ i.bytes = P.bytesOf e := by
  unfold growOk at h
  cases hi : P.info? e with
  | none => simp [hi] at h
  | some i =>
    simp only [hi] at h
    cases hz : i.zero with
    | none => simp [hz] at h
    | some z =>
      simp only [hz, Bool.and_eq_true] at h
      have h1 := Nat.eq_of_beq_eq_true h.1
      have h2 := blt_true h.2
      have h3 : P.cellsOf e = i.size := by simp [Program.cellsOf, hi]
      exact ⟨i, z, rfl, hz, by rw [h3, h1], h3.symm, by omega, by simp [Program.bytesOf, hi]⟩

theorem run_append_in (w : World) (t ty e e' : TypeId) (i : TypeInfo) (ht : P.underlying t = some (.slice e)) (hi : P.info? e = some i)
    (g sLen sCap : Nat) (cur : Array Value) (hg : w.heap[g]? = some (.cells cur e' (0, 0)))
    (a : Addr) (m c : Nat) (news : List Value) (hl : news.length = m * i.size) (hnews : ∀ (j : Nat) (u : Value), news[j]? = some u → w.cell? (a.add j) = some u) (h1 : ∀ u ∈ news, u.oneCell' = true)
    (hroom : sLen + m ≤ sCap) (hfit : sLen * i.size + news.length ≤ cur.size) :
    (Builtin.append_ #[t, t] ty #[.slice (some ⟨g, 0, none⟩) sLen sCap, .slice (some a) m c]).run P w =
      .ok (.slice (some ⟨g, 0, none⟩) (sLen + m) sCap) (w.setRow g (cur.toList.take (sLen * i.size) ++ news ++ cur.toList.drop (sLen * i.size + news.length)).toArray) := by
  have hf := run_firstCells_some (P := P) w i.size m a m c news hl hnews
  have hst := run_storeCells_at P g (sLen * i.size) e' news 0 cur w hg (by simpa using hfit) h1
  simp only [Nat.add_zero] at hst
  simp [Builtin.append_, run_underlying ht, sizeOf, typeInfo, hi, Builtin.lenOf, hroom, hf, Addr.add_lit, hst]

/-- Two rows, one behind the other. -/
theorem row_app {w : World} {X : Nat → Nat → Prop} {g : List Nat} {sz n m : Nat} {f f' : Nat → AV} {olds news : List Value} (ho : olds.length = n * sz) (hl : news.length = m * sz)
    (hr : ∀ (i j : Nat) (c : AV) (u : Value), i < n → (f i).cells[j]? = some c → olds[i * sz + j]? = some u → Rep w X g c u)
    (hr' : ∀ (i j : Nat) (c : AV) (u : Value), i < m → (f' i).cells[j]? = some c → news[i * sz + j]? = some u → Rep w X g c u)
    (hc : ∀ i, i < n → (f i).cells.length = sz) (hc' : ∀ i, i < m → (f' i).cells.length = sz) :
    (∀ i, i < n + m → (appF n f f' i).cells.length = sz) ∧
    (∀ (i j : Nat) (c : AV) (u : Value), i < n + m → (appF n f f' i).cells[j]? = some c → (olds ++ news)[i * sz + j]? = some u → Rep w X g c u) := by
  have lo : ∀ i, i < n → appF n f f' i = f i := fun i h => by simp [appF, blt_iff.2 h]
  have hi : ∀ i, n ≤ i → appF n f f' i = f' (i - n) := fun i h => by
    have : Nat.blt i n = false := by cases h' : Nat.blt i n with | true => exact absurd (blt_true h') (by omega) | false => rfl
    simp [appF, this]
  refine ⟨fun i h => ?_, fun i j c u h hj hu => ?_⟩
  · by_cases hn : i < n
    · rw [lo i hn]; exact hc i hn
    · rw [hi i (by omega)]; exact hc' _ (by omega)
  · by_cases hn : i < n
    · rw [lo i hn] at hj
      have hjl : j < sz := by rw [← hc i hn]; exact (List.getElem?_eq_some_iff.1 hj).1
      have hle : (i + 1) * sz ≤ n * sz := Nat.mul_le_mul_right _ hn
      rw [Nat.add_mul, Nat.one_mul] at hle
      rw [List.getElem?_append_left (by omega)] at hu
      exact hr i j c u hn hj hu
    · rw [hi i (by omega)] at hj
      have hle : n * sz ≤ i * sz := Nat.mul_le_mul_right _ (by omega)
      rw [List.getElem?_append_right (by omega)] at hu
      refine hr' (i - n) j c u (by omega) hj ?_
      rw [Nat.sub_mul, ← ho]
      have e : i * sz + j - olds.length = i * sz - olds.length + j := by omega
      rw [← e]; exact hu

theorem app_slice {x : Value} {sz m : Nat} {f : Nat → AV} {w : World} {X : Nat → Nat → Prop} {g : List Nat} (h : Rep w X g (.sl sz m f) x) (hm : m ≠ 0) :
    ∃ (a : Addr) (cap : Nat) (news : List Value), x = .slice (some a) m cap ∧ news.length = m * sz ∧ (∀ (j : Nat) (u : Value), news[j]? = some u → w.cell? (a.add j) = some u) ∧
      (∀ i, i < m → (f i).cells.length = sz) ∧ (∀ (i j : Nat) (c : AV) (u : Value), i < m → (f i).cells[j]? = some c → news[i * sz + j]? = some u → Rep w X g c u) := by
  cases h with
  | sl0 => exact absurd rfl hm
  | sl _ _ _ b off cap vs hlen hcap hcell hcs hr => exact ⟨⟨b, off, none⟩, cap, vs, rfl, hlen, fun j u hu => by rw [add_none]; exact (hcell j u hu).1, hcs, hr⟩

theorem aop_append {o : Oper} {E : Env} {K : Env → Prop} {s x : Operand} {t e : TypeId} {sz n szx m : Nat} {f f' : Nat → AV} {oi : Option Id}
    (ho : o.op = .call { callee := .builtin .append, args := #[s, x], argTypes := #[t, t] }) (hs : E.ev s = .os sz n f oi)
    (hx : E.ev x = .sl szx m f' ∨ ∃ oj, E.ev x = .os szx m f' oj)
    (ht : P.underlying t = some (.slice e)) (hg : growOk P e = true) (hsz : (n = 0 ∧ oi = none) ∨ sz = P.cellsOf e) (hszx : m = 0 ∨ szx = P.cellsOf e)
    (hperm : ∀ i, oi = some i → permGet i.1 E.h.pm = some (i.2, n * P.cellsOf e)) (hone : oneRow m f')
    (hroom0 : m ≠ 0 → (n + m) * P.bytesOf e ≤ 140737488355328) (hlen0 : m ≠ 0 → n + m ≤ 9223372036854775807)
    (hk0 : m = 0 → K (E.set o.dst (.os sz n f oi)))
    (hk1 : m ≠ 0 → K (({ E with h := E.h.grow oi ((n + m) * P.cellsOf e) } : Env).set o.dst (.os (P.cellsOf e) (n + m) (appF n f f') (some (E.h.nn, E.h.nx))))) : AOp P o E K := by
  intro ro X M w0 a w g hst next Q hn hpan
  obtain ⟨inf, z, hi, hz, hzs, hsi, hpos, hby⟩ := growOk_spec hg
  have hsr := hst.ev s
  rw [hs] at hsr
  have hxr : Rep w (excl X g E.h) g (.sl szx m f') (a.eval x) := by
    have := hst.ev x
    rcases hx with hx | ⟨oj, hx⟩
    · rw [hx] at this; exact this
    · rw [hx] at this; exact sl_of_os this
  have hexec : ∀ {u : Value} {w' : World}, (Builtin.append_ #[t, t] o.type #[a.eval s, a.eval x]).run P w = .ok u w' → (execOp a.eval o).run P w = .ok (.value u) w' := by
    intro u w' h
    unfold execOp
    simp only [ho, resolve]
    simp [invoke, builtin, h]
  by_cases hm : m = 0
  · -- nothing is appended
    subst hm
    have hrun : (Builtin.append_ #[t, t] o.type #[a.eval s, a.eval x]).run P w = .ok (a.eval s) w := by
      have hdesc : ((match P.underlying t with | some (.int _) => true | _ => false) = false) := by rw [ht]
      have key : ∀ (base : Option Addr) (cap : Nat) (xb : Option Addr) (xc : Nat), n ≤ cap → (Builtin.append_ #[t, t] o.type #[.slice base n cap, .slice xb 0 xc]).run P w = .ok (.slice base n cap) w := by
        intro base cap xb xc hcap
        have hfc : (Builtin.firstCells inf.size 0 (.slice xb 0 xc)).run P w = .ok #[] w := by
          cases xb with
          | none => simp [Builtin.firstCells]
          | some ad => simpa using run_firstCells_some (P := P) w inf.size 0 ad 0 xc [] (by simp) (by simp)
        cases base <;> simp [Builtin.append_, run_underlying ht, sizeOf, typeInfo, hi, Builtin.lenOf, hcap, hfc, storeCells]
      generalize a.eval s = us at hsr
      generalize a.eval x = ux at hxr
      cases hxr with
      | sl0 _ _ xa xc =>
        cases hsr with
        | os0 => exact key _ _ _ _ (Nat.le_refl _)
        | osn => exact key _ _ _ _ (Nat.le_refl _)
        | oss _ _ _ i b cap vs hg' hlen' hcap => exact key _ _ _ _ hcap
      | sl _ _ _ b off cap vs hlen' hcap =>
        cases hsr with
        | os0 => exact key _ _ _ _ (Nat.le_refl _)
        | osn => exact key _ _ _ _ (Nat.le_refl _)
        | oss _ _ _ i b cap vs hg' hlen' hcap => exact key _ _ _ _ hcap
    refine wpIn_of_run (by rw [ho]; intro c h; cases h) ?_
    rw [hexec hrun]
    have := hst.ev s
    rw [hs] at this
    exact hn _ _ _ g (hk0 rfl) (fun _ _ h => h) (hst.put o.dst this)
  · have hroom := hroom0 hm
    have hlen := hlen0 hm
    have hszx' : szx = P.cellsOf e := hszx.resolve_left hm
    subst hszx'
    obtain ⟨ax, xcap, news, hxv, hnl, hncell, hncs, hnr⟩ := app_slice hxr hm
    have hnone : ∀ u ∈ news, u.oneCell' = true := by
      intro u hu
      obtain ⟨k, hk, hku⟩ := List.getElem_of_mem hu
      have hdm := Nat.div_add_mod k (P.cellsOf e)
      have hmod := Nat.mod_lt k hpos
      have hdiv : k / P.cellsOf e < m := by
        rw [Nat.div_lt_iff_lt_mul hpos]; omega
      have hlt : k % P.cellsOf e < (f' (k / P.cellsOf e)).cells.length := by rw [hncs _ hdiv]; exact hmod
      have hrep := hnr (k / P.cellsOf e) (k % P.cellsOf e) _ u hdiv (List.getElem?_eq_getElem hlt) (by
        rw [Nat.mul_comm, hdm, List.getElem?_eq_getElem hk, hku])
      exact isOne_sound (List.all_eq_true.1 (hone _ hdiv) _ (List.getElem_mem hlt)) hrep
    have h63 : ((n + m : Nat) : Int) ≤ 9223372036854775807 := by omega
    -- a new row
    have fresh : ∀ {us : Value} {olds : List Value}, a.eval s = us → olds.length = n * P.cellsOf e → (∀ i, i < n → (f i).cells.length = P.cellsOf e) →
        (∀ (i j : Nat) (c : AV) (u : Value), i < n → (f i).cells[j]? = some c → olds[i * P.cellsOf e + j]? = some u → Rep w (excl X g E.h) g c u) →
        (∃ ncap, n + m ≤ ncap ∧ (Builtin.append_ #[t, t] o.type #[us, a.eval x]).run P w = .ok (.slice (some ⟨w.heap.size, 0, none⟩) (n + m) ncap) (w.drew.alloc (.cells (olds.toArray ++ news.toArray ++ Builtin.zeroCells z.cells (ncap - (n + m))) e))) →
        o.wpIn (Fr ro) 0 P a w next Q := by
      intro us olds hus hol hcs hor ⟨ncap, hnc, hrun⟩
      obtain ⟨q1, q2⟩ := row_app (w := w) (X := excl X g E.h) (g := g) hol hnl hor hnr hcs hncs
      have hsize : (olds.toArray ++ news.toArray ++ Builtin.zeroCells z.cells (ncap - (n + m))).size = ncap * P.cellsOf e := by
        simp only [Array.size_append, List.size_toArray, size_zeroCells, hzs, hol, hnl, ← Nat.add_mul]
        congr 1; omega
      have hnm : (n + m) * P.cellsOf e ≤ ncap * P.cellsOf e := Nat.mul_le_mul_right _ hnc
      have hblk : (w.drew.alloc (.cells (olds.toArray ++ news.toArray ++ Builtin.zeroCells z.cells (ncap - (n + m))) e)).heap[w.heap.size]? = some (.cells (olds.toArray ++ news.toArray ++ Builtin.zeroCells z.cells (ncap - (n + m))) e (0, 0)) := heap_alloc_new w.drew _
      have hev0 : Evo none2 w (w.drew.alloc (.cells (olds.toArray ++ news.toArray ++ Builtin.zeroCells z.cells (ncap - (n + m))) e)) := (evo_drew w).trans (evo_alloc w.drew _)
      obtain ⟨h3, h4⟩ := hst.grow oi (fun i hi => ⟨_, hperm i hi⟩) ((n + m) * P.cellsOf e) hblk (by rw [hsize]; exact hnm) (.inl (Nat.le_refl _)) (hev0.mono fun _ _ _ x => x.elim)
      refine wpIn_of_run (by rw [ho]; intro c h; cases h) ?_
      rw [hexec (hus ▸ hrun)]
      refine hn _ _ _ _ (hk1 hm) (fun i b h => by rw [List.getElem?_append_left (List.getElem?_eq_some_iff.1 h).1]; exact h) (h3.put o.dst ?_)
      refine .oss _ _ _ _ w.heap.size ncap (olds ++ news) (by rw [hst.hok.nx]; simp) (by rw [List.length_append, hol, hnl, Nat.add_mul]) hnc (fun k u hk => ⟨?_, ?_⟩) (fun k hk => ⟨?_, ?_⟩) q1 (fun i j c u hi hj hu => (q2 i j c u hi hj hu).stays h4)
      · rw [cell_of_block hblk]
        have hklt := (List.getElem?_eq_some_iff.1 hk).1
        rw [Array.getElem?_append_left (by simpa using hklt)]
        have e : olds.toArray ++ news.toArray = (olds ++ news).toArray := by simp
        rw [e]; simpa using hk
      · have hklt := (List.getElem?_eq_some_iff.1 hk).1
        rw [List.length_append, hol, hnl, ← Nat.add_mul] at hklt
        rintro (hx | ⟨p, hp, hg'⟩ | ⟨p, hp, hg', hle⟩)
        · exact absurd (hst.hok.bd _ _ (.inl hx)) (Nat.lt_irrefl _)
        · obtain ⟨b', hb', hlt⟩ := ids_lt hst.hok (List.mem_append_left _ (List.mem_map.2 ⟨p, hp, rfl⟩) : p.1.2 ∈ E.h.ids)
          rw [List.getElem?_append_left (List.getElem?_eq_some_iff.1 hb').1, hb'] at hg'
          cases hg'; omega
        · simp only [Heap.grow, List.mem_cons] at hp
          rcases hp.symm with hp | rfl
          · have hpm : p ∈ E.h.pm := by
              cases oi with
              | none => exact hp
              | some i => exact permErase_sub.subset hp
            obtain ⟨b', hb', hlt⟩ := ids_lt hst.hok (List.mem_append_right _ (List.mem_map.2 ⟨p, hpm, rfl⟩) : p.1.2 ∈ E.h.ids)
            rw [List.getElem?_append_left (List.getElem?_eq_some_iff.1 hb').1, hb'] at hg'
            cases hg'; omega
          · dsimp only at hle; omega
      · rw [cell_of_block hblk]
        exact ⟨_, Array.getElem?_eq_getElem (by rw [hsize]; exact hk)⟩
      · rw [frozen_of_block hblk]; simp
    generalize hus : a.eval s = us at hsr
    cases hsr with
    | os0 _ _ ad =>
      refine fresh (olds := []) hus (by simp) (fun i hi => by omega) (fun i j c u hi => by omega) ?_
      rw [hxv]
      cases ad with
      | none =>
        have hr := run_append_nil (P := P) w t o.type e inf z ht hi hz ax m xcap news (by rw [hnl, hsi]) hncell (by omega) (by omega) (by rw [hby]; simp only [Nat.zero_add] at hroom; omega)
        refine ⟨grownCap w m 0 e, by rw [Nat.zero_add]; exact grownCap_ge w m 0 e, ?_⟩
        simp only [Nat.zero_add]
        rw [hr]
        simp
      | some ad =>
        have hr := run_append_grow (P := P) w t o.type e inf z ht hi hz ad 0 0 [] (by simp) (by simp) ax m xcap news (by rw [hnl, hsi]) hncell (by omega) (by omega) (growslice_fits (by omega) (by rw [hby]; exact hroom))
        exact ⟨_, grownCap_ge w _ 0 e, hr⟩
    | osn _ _ _ b off vs hlen' hcell hcs hr0 =>
      have hsz' : n * sz = n * P.cellsOf e := by rcases hsz with ⟨h, _⟩ | h <;> rw [h] <;> simp
      have hr := run_append_grow (P := P) w t o.type e inf z ht hi hz ⟨b, off, none⟩ n n vs (by rw [hlen', hsz', hsi]) (fun j u hu => by rw [add_none]; exact (hcell j u hu).1) ax m xcap news (by rw [hnl, hsi]) hncell (by omega) (by omega) (growslice_fits (by omega) (by rw [hby]; exact hroom))
      refine fresh (olds := vs) hus (by rw [hlen', hsz']) (fun i hi => ?_) (fun i j c u hi hj hu => ?_) ⟨_, grownCap_ge w _ n e, by rw [hxv]; exact hr⟩
      · rw [hcs i hi]; exact hsz.resolve_left (fun h => absurd h.1 (by omega))
      · exact hr0 i j c u hi hj (by rw [hsz.resolve_left (fun h => absurd h.1 (by omega))]; exact hu)
    | oss _ _ _ i b cap vs hgi hlen' hcap hcell hcroom hcs hr0 =>
      have hsz' : n * sz = n * P.cellsOf e := by rcases hsz with ⟨h, _⟩ | h <;> rw [h] <;> simp
      have hcs' : ∀ i, i < n → (f i).cells.length = P.cellsOf e := fun i hi => by rw [hcs i hi]; exact hsz.resolve_left (fun h => absurd h.1 (by omega))
      have hr0' : ∀ (i j : Nat) (c : AV) (u : Value), i < n → (f i).cells[j]? = some c → vs[i * P.cellsOf e + j]? = some u → Rep w (excl X g E.h) g c u := fun i j c u hi hj hu =>
        hr0 i j c u hi hj (by rw [hsz.resolve_left (fun h => absurd h.1 (by omega))]; exact hu)
      have hsze : sz = P.cellsOf e := hsz.resolve_left (fun h => by cases h.2)
      by_cases hfit : n + m ≤ cap
      · subst hsze
        have hpm := permGet_mem (hperm i rfl)
        obtain ⟨b', cur, e', hgb', hcur, hle⟩ := hst.hok.pm _ hpm
        dsimp only at hgb' hle
        rw [hgi] at hgb'; cases hgb'
        have hcapsz : cap * P.cellsOf e ≤ cur.size := by
          rcases Nat.eq_zero_or_pos (cap * P.cellsOf e) with h0 | h0
          · omega
          · obtain ⟨⟨u, hu⟩, _⟩ := hcroom (cap * P.cellsOf e - 1) (by omega)
            rw [cell_of_block hcur] at hu
            have := (Array.getElem?_eq_some_iff.1 hu).1
            omega
        have hnm : (n + m) * P.cellsOf e ≤ cap * P.cellsOf e := Nat.mul_le_mul_right _ hfit
        rw [Nat.add_mul] at hnm
        have hr := run_append_in (P := P) w t o.type e e' inf ht hi b n cap cur hcur ax m xcap news (by rw [hnl, hsi]) hncell hnone hfit (by rw [hsi, hnl]; omega)
        rw [hsi] at hr
        have holds : cur.toList.take (n * P.cellsOf e) = vs := by
          apply List.ext_getElem?
          intro k
          rw [List.getElem?_take]
          split
          · rename_i hk
            have hk' : k < vs.length := by omega
            have := (hcell k _ (List.getElem?_eq_getElem hk')).1
            rw [cell_of_block hcur] at this
            rw [Array.getElem?_toList, this, List.getElem?_eq_getElem hk']
          · rename_i hk
            rw [List.getElem?_eq_none (by omega)]
        have hnewsz : (cur.toList.take (n * P.cellsOf e) ++ news ++ cur.toList.drop (n * P.cellsOf e + news.length)).toArray.size = cur.size := by
          simp only [List.size_toArray, List.length_append, List.length_take, List.length_drop, Array.length_toList]
          omega
        have hblk : (w.setRow b (cur.toList.take (n * P.cellsOf e) ++ news ++ cur.toList.drop (n * P.cellsOf e + news.length)).toArray).heap[b]? = some (.cells (cur.toList.take (n * P.cellsOf e) ++ news ++ cur.toList.drop (n * P.cellsOf e + news.length)).toArray e' (0, 0)) := setRow_heap w b cur _ e' _ hcur
        have hoth : ∀ k, k ≠ b → (w.setRow b (cur.toList.take (n * P.cellsOf e) ++ news ++ cur.toList.drop (n * P.cellsOf e + news.length)).toArray).heap[k]? = w.heap[k]? := fun k hk => setRow_other w b k _ hk
        have hcells : ∀ k, (cur.toList.take (n * P.cellsOf e) ++ news ++ cur.toList.drop (n * P.cellsOf e + news.length)).toArray[k]? = if k < n * P.cellsOf e then cur[k]? else if k < n * P.cellsOf e + news.length then news[k - n * P.cellsOf e]? else cur[k]? := by
          intro k
          rw [List.getElem?_toArray, List.append_assoc, splice_get _ _ _ (by simp only [Array.length_toList]; omega)]
          simp
        have hev : Evo (fun b' o => ∃ i' m', some i = some i' ∧ (i', m') ∈ E.h.pm ∧ g[i'.2]? = some b' ∧ m' ≤ o) w (w.setRow b (cur.toList.take (n * P.cellsOf e) ++ news ++ cur.toList.drop (n * P.cellsOf e + news.length)).toArray) := by
          refine ⟨rfl, rfl, rfl, by simp, fun k _ hn' => ?_, fun k o' _ hn' => ?_, fun k us e'' fz hb' => ?_, fun k l hl => ?_⟩
          · by_cases hkb : k = b
            · subst hkb
              exact absurd ⟨i, _, rfl, hpm, hgi, Nat.le_refl _⟩ (hn' (n * P.cellsOf e))
            · exact hoth k hkb
          · by_cases hkb : k = b
            · subst hkb
              rw [cell_of_block hblk, cell_of_block hcur, hcells]
              have : o' < n * P.cellsOf e := by
                rcases Nat.lt_or_ge o' (n * P.cellsOf e) with h | h
                · exact h
                · exact absurd ⟨i, _, rfl, hpm, hgi, h⟩ hn'
              rw [if_pos this]
            · exact World.cell?_of_block (a := ⟨k, o', none⟩) (hoth k hkb)
          · by_cases hkb : k = b
            · subst hkb
              rw [hcur] at hb'
              cases hb'
              exact ⟨_, hblk, hnewsz⟩
            · exact ⟨us, (hoth k hkb).trans hb', rfl⟩
          · by_cases hkb : k = b
            · subst hkb
              rw [hcur] at hl; cases hl
            · exact ⟨l, (hoth k hkb).trans hl⟩
        obtain ⟨q1, q2⟩ := row_app (w := w) (X := excl X g E.h) (g := g) hlen' hnl hr0 hnr hcs hncs
        obtain ⟨h3, h4⟩ := hst.grow (some i) (fun i hi => ⟨_, hperm i hi⟩) ((n + m) * P.cellsOf e) hblk (by rw [hnewsz, Nat.add_mul]; omega) (.inr ⟨i, _, rfl, hpm, hgi, Nat.mul_le_mul_right _ (by omega)⟩) hev
        refine wpIn_of_run (by rw [ho]; intro c h; cases h) ?_
        rw [hexec (by rw [hus, hxv]; exact hr)]
        refine hn _ _ _ _ (hk1 hm) (fun i b h => by rw [List.getElem?_append_left (List.getElem?_eq_some_iff.1 h).1]; exact h) (h3.put o.dst ?_)
        refine .oss _ _ _ _ b cap (vs ++ news) (by rw [hst.hok.nx]; simp) (by rw [List.length_append, hlen', hnl, Nat.add_mul]) hfit (fun k u hk => ⟨?_, ?_⟩) (fun k hk => ⟨?_, ?_⟩) q1 (fun i j c u hi hj hu => (q2 i j c u hi hj hu).stays h4)
        · rw [cell_of_block hblk, hcells]
          rw [List.getElem?_append] at hk
          rw [← hlen']
          split at hk
          · rename_i h; rw [if_pos h]
            have := (hcell k u hk).1
            rw [cell_of_block hcur] at this
            exact this
          · rename_i h
            have hlt : k < vs.length + news.length := by have := (List.getElem?_eq_some_iff.1 hk).1; omega
            rw [if_neg h, if_pos hlt]
            exact hk
        · have hklt := (List.getElem?_eq_some_iff.1 hk).1
          rw [List.length_append, hlen', hnl, ← Nat.add_mul] at hklt
          rintro (hx | ⟨p, hp, hg'⟩ | ⟨p, hp, hg', hle'⟩)
          · exact hst.sep _ _ hx i.2 (List.mem_append_right _ (List.mem_map.2 ⟨_, hpm, rfl⟩)) hgi
          · have hpI : p.1.2 ∈ E.h.ids := List.mem_append_left _ (List.mem_map.2 ⟨p, hp, rfl⟩)
            rw [List.getElem?_append_left (ids_get hst.hok hpI)] at hg'
            have hnd := hst.hok.nodup
            unfold Heap.ids at hnd
            rw [List.map_append] at hnd
            exact (List.nodup_append.1 hnd).2.2 _ (List.mem_map.2 ⟨p.1.2, List.mem_map.2 ⟨p, hp, rfl⟩, rfl⟩) _ (List.mem_map.2 ⟨i.2, List.mem_map.2 ⟨_, hpm, rfl⟩, rfl⟩) (by rw [hg', hgi])
          · simp only [Heap.grow, List.mem_cons] at hp
            rcases hp.symm with hp | rfl
            · have hpI : p ∈ E.h.pm := permErase_sub.subset hp
              have hpids : p.1.2 ∈ E.h.ids := List.mem_append_right _ (List.mem_map.2 ⟨p, hpI, rfl⟩)
              rw [List.getElem?_append_left (ids_get hst.hok hpids)] at hg'
              have hnd := hst.hok.nodup
              unfold Heap.ids at hnd
              rw [List.map_append] at hnd
              have hpmn : (E.h.pm.map (·.1.2)).Nodup := (List.pairwise_map.1 (List.nodup_append.1 hnd).2.1).imp fun h e => h (by rw [e])
              exact own_ne hst.hok (List.mem_append_right _ (List.mem_map.2 ⟨_, hpm, rfl⟩) : i.2 ∈ E.h.ids) hpids (Ne.symm (permErase_ne hpmn (hperm i rfl) hp)) hgi hg'
            · dsimp only at hle'; omega
        · rw [cell_of_block hblk]
          exact ⟨_, Array.getElem?_eq_getElem (by rw [hnewsz]; omega)⟩
        · rw [frozen_of_block hblk]; simp
      · have hr := run_append_grow (P := P) w t o.type e inf z ht hi hz ⟨b, 0, none⟩ n cap vs (by rw [hlen', hsz', hsi]) (fun j u hu => by rw [add_none, Nat.zero_add]; exact (hcell j u hu).1) ax m xcap news (by rw [hnl, hsi]) hncell (by omega) (by omega) (growslice_fits (by omega) (by rw [hby]; exact hroom))
        exact fresh (olds := vs) hus (by rw [hlen', hsz']) hcs' hr0' ⟨_, grownCap_ge w _ cap e, by rw [hxv]; exact hr⟩
end Go.Vl

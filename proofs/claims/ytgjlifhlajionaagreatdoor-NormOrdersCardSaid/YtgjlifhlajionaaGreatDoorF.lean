import Derived.Test.YtgjlifhlajionaaGreatDoorE
import Derived.Test.YtgjlifhlajionaaGreatDoorD
import Derived.Test.YtgjlifhlajionaaGreatDoorC
set_option linter.unusedVariables false
set_option linter.unusedSimpArgs false
namespace Go.Proofs.W
open Go.Vl
set_option maxRecDepth 100000

/- What groups hold, and what is put out of them. -/
def addN (l : List Rul) (r : Rul) : List Rul :=
  match normR r with
  | none => l
  | some n => if hidden l n then l else l ++ [n]
def gOf (s : ByteArray) (rs : List Rul) : List Rul := rs.foldl (fun l r => if keyB s r.name then addN l r else l) []
theorem keyB_refl (s : ByteArray) : keyB s s = true := keyB_eq.2 rfl
theorem keyB_sym {s t : ByteArray} (h : keyB s t = false) : keyB t s = false := by
  rw [Bool.eq_false_iff] at h ⊢
  exact fun k => h (keyB_eq.2 (keyB_eq.1 k).symm)
theorem gget_gadd {s t : ByteArray} {n : Rul} : ∀ {H : List (ByteArray × List Rul)}, gget (gadd H t n) s = if keyB s t then gget H s ++ [n] else gget H s
  | [] => by
    show (if keyB s t = true then [n] else []) = _
    by_cases h : keyB s t = true
    · rw [if_pos h, if_pos h]; rfl
    · rw [if_neg h, if_neg h]; rfl
  | h :: H => by
    unfold gadd
    by_cases ht : keyB t h.1 = true
    · rw [if_pos ht]
      obtain rfl := keyB_eq.1 ht
      show (if keyB s h.1 = true then _ else gget H s) = _
      by_cases hs : keyB s h.1 = true
      · rw [if_pos hs, if_pos hs]; show _ = (if keyB s h.1 = true then _ else _) ++ _; rw [if_pos hs]
      · rw [if_neg hs, if_neg hs]; show _ = (if keyB s h.1 = true then _ else _); rw [if_neg hs]
    · rw [if_neg ht]
      show (if keyB s h.1 = true then h.2 else gget (gadd H t n) s) = if keyB s t = true then (if keyB s h.1 = true then h.2 else gget H s) ++ [n] else (if keyB s h.1 = true then h.2 else gget H s)
      by_cases hs : keyB s h.1 = true
      · rw [if_pos hs, if_pos hs]
        have : ¬ keyB s t = true := fun k => ht (by rw [← keyB_eq.1 k]; exact hs)
        rw [if_neg this]
      · rw [if_neg hs, if_neg hs, gget_gadd]
theorem gget_gstep {s : ByteArray} {H : List (ByteArray × List Rul)} {r : Rul} : gget (gstep H r) s = if keyB s r.name then addN (gget H s) r else gget H s := by
  unfold gstep addN
  cases hN : normR r with
  | none => simp
  | some n =>
    dsimp only
    by_cases hs : keyB s r.name = true
    · obtain rfl := keyB_eq.1 hs
      rw [if_pos hs]
      by_cases hh : hidden (gget H r.name) n = true
      · rw [if_pos hh, if_pos hh]
      · rw [if_neg hh, if_neg hh, gget_gadd, if_pos hs]
    · rw [if_neg hs]
      by_cases hh : hidden (gget H r.name) n = true
      · rw [if_pos hh]
      · rw [if_neg hh, gget_gadd, if_neg hs]
theorem gget_fold {s : ByteArray} : ∀ (rs : List Rul) (H : List (ByteArray × List Rul)), gget (rs.foldl gstep H) s = rs.foldl (fun l r => if keyB s r.name then addN l r else l) (gget H s)
  | [], _ => rfl
  | r :: rs, H => by
    rw [List.foldl_cons, gget_fold rs, List.foldl_cons, gget_gstep]
theorem gget_groups (s : ByteArray) (rs : List Rul) : gget (groupsOf rs) s = gOf s rs := gget_fold rs []

/-- The keys of groups: each once; none without a group. -/
theorem gadd_keys {t : ByteArray} {n : Rul} : ∀ {H : List (ByteArray × List Rul)} {s : ByteArray}, s ∈ (gadd H t n).map (·.1) ↔ s = t ∨ s ∈ H.map (·.1)
  | [], s => by simp [gadd]
  | h :: H, s => by
    unfold gadd
    by_cases ht : keyB t h.1 = true
    · rw [if_pos ht]
      obtain rfl := keyB_eq.1 ht
      simp
    · rw [if_neg ht, List.map_cons, List.mem_cons, gadd_keys, List.map_cons, List.mem_cons]
      constructor
      · rintro (h | h | h)
        · exact .inr (.inl h)
        · exact .inl h
        · exact .inr (.inr h)
      · rintro (h | h | h)
        · exact .inr (.inl h)
        · exact .inl h
        · exact .inr (.inr h)
theorem gadd_nodup {t : ByteArray} {n : Rul} : ∀ {H : List (ByteArray × List Rul)}, (H.map (·.1)).Nodup → ((gadd H t n).map (·.1)).Nodup
  | [], _ => by simp [gadd]
  | h :: H, hn => by
    unfold gadd
    by_cases ht : keyB t h.1 = true
    · rw [if_pos ht]; exact hn
    · rw [if_neg ht]
      rw [List.map_cons, List.nodup_cons] at hn ⊢
      refine ⟨fun hm => ?_, gadd_nodup hn.2⟩
      rcases gadd_keys.1 hm with e | e
      · exact ht (by rw [← e]; exact keyB_refl _)
      · exact hn.1 e
theorem gstep_nodup {H : List (ByteArray × List Rul)} {r : Rul} (h : (H.map (·.1)).Nodup) : ((gstep H r).map (·.1)).Nodup := by
  unfold gstep
  cases normR r with
  | none => exact h
  | some n =>
    dsimp only
    split
    · exact h
    · exact gadd_nodup h
theorem groups_nodup (rs : List Rul) : ((groupsOf rs).map (·.1)).Nodup := by
  have key : ∀ (rs : List Rul) (H : List (ByteArray × List Rul)), (H.map (·.1)).Nodup → ((rs.foldl gstep H).map (·.1)).Nodup := by
    intro rs
    induction rs with
    | nil => intro H h; exact h
    | cons r rs ih => intro H h; exact ih _ (gstep_nodup h)
  exact key rs [] List.nodup_nil
theorem gget_mem {s : ByteArray} : ∀ {H : List (ByteArray × List Rul)}, gget H s ≠ [] → s ∈ H.map (·.1)
  | [], h => absurd rfl h
  | h :: H, hne => by
    by_cases hs : keyB s h.1 = true
    · rw [keyB_eq.1 hs]; simp
    · have : gget (h :: H) s = gget H s := if_neg hs
      rw [this] at hne
      exact List.mem_cons_of_mem _ (gget_mem hne)
def RS (a b : List UInt8) : Prop := Go.Sort.ltStr a b = true
theorem RS_irr (x : List UInt8) : ¬ RS x x := by unfold RS; rw [Go.Sort.swo_ltStr.irrefl]; decide
theorem RS_tr (x y z : List UInt8) (h : RS x y) (k : RS y z) : RS x z := Go.Sort.swo_ltStr.trans x y z h k
theorem data_inj {s t : ByteArray} (h : s.data.toList = t.data.toList) : s = t := by
  obtain ⟨⟨a⟩⟩ := s; obtain ⟨⟨b⟩⟩ := t; simpa using h
theorem keys_strict {H : List (ByteArray × List Rul)} (hn : (H.map (·.1)).Nodup) : (keysOf H).Pairwise RS := by
  have h1 := sortBy_pair Go.Sort.swo_ltStr (H.map fun h => h.1.data.toList)
  have h2 : (keysOf H).Nodup := by
    refine (List.mergeSort_perm _ _).nodup_iff.2 ?_
    have : (H.map fun h => h.1.data.toList) = (H.map (·.1)).map (fun s : ByteArray => s.data.toList) := by rw [List.map_map]; rfl
    rw [this]
    exact List.pairwise_map.2 (hn.imp fun h e => h (data_inj e))
  refine (h1.and h2).imp fun {a b} h => ?_
  unfold RS
  cases hl : Go.Sort.ltStr a b with
  | true => rfl
  | false => exact absurd (ltStr_tot _ _ hl h.1) h.2
theorem keys_mem {H : List (ByteArray × List Rul)} {s : ByteArray} : s.data.toList ∈ keysOf H ↔ s ∈ H.map (·.1) := by
  unfold keysOf
  rw [sortBy_mem, List.mem_map, List.mem_map]
  constructor
  · rintro ⟨h, hh, e⟩; exact ⟨h, hh, data_inj e⟩
  · rintro ⟨h, hh, e⟩; exact ⟨h, hh, by rw [e]⟩
/-- What is put out hangs on what the groups hold alone. -/
theorem outR_filter {d : A2} {H : List (ByteArray × List Rul)} : ∀ (N : List (List UInt8)), outR d H N = outR d H (N.filter fun z => !(cutL d (gget H ⟨z.toArray⟩)).isEmpty)
  | [] => rfl
  | z :: N => by
    have ih := outR_filter (d := d) (H := H) N
    unfold outR at ih ⊢
    rw [List.flatMap_cons, List.filter_cons]
    cases hc : cutL d (gget H ⟨z.toArray⟩) with
    | nil => rw [List.nil_append, ih]; rfl
    | cons a b => rw [ih]; simp [hc]
theorem out_same {d : A2} {H H' : List (ByteArray × List Rul)} {N N' : List (List UInt8)} (h1 : N.Pairwise RS) (h2 : N'.Pairwise RS) (he : ∀ s, cutL d (gget H s) = cutL d (gget H' s))
    (hi : ∀ s : ByteArray, cutL d (gget H s) ≠ [] → s.data.toList ∈ N ∧ s.data.toList ∈ N') : outR d H N = outR d H' N' := by
  have e1 : outR d H' N' = outR d H N' := by
    unfold outR
    congr 1
    funext z; rw [he]
  rw [e1, outR_filter N, outR_filter N']
  congr 1
  refine pair_same RS_irr RS_tr (h1.filter _) (h2.filter _) fun z => ?_
  rw [List.mem_filter, List.mem_filter]
  have hz : (⟨z.toArray⟩ : ByteArray).data.toList = z := by simp
  constructor
  · rintro ⟨ha, hb⟩
    refine ⟨?_, hb⟩
    have := (hi ⟨z.toArray⟩ (by intro e; rw [e] at hb; simp at hb)).2
    rwa [hz] at this
  · rintro ⟨ha, hb⟩
    refine ⟨?_, hb⟩
    have := (hi ⟨z.toArray⟩ (by intro e; rw [e] at hb; simp at hb)).1
    rwa [hz] at this
theorem keys_in {d : A2} {H : List (ByteArray × List Rul)} {s : ByteArray} (h : cutL d (gget H s) ≠ []) : s.data.toList ∈ keysOf H :=
  keys_mem.2 (gget_mem (fun e => h (by rw [e]; rfl)))
/-- Policies whose names have the same groups, as far as they are put out. -/
theorem norm_same {p q : Pol} (hd : p.dflt = q.dflt) (hx : p.x32 = q.x32) (h : ∀ s, cutL p.dflt (gOf s p.rules) = cutL p.dflt (gOf s q.rules)) : normP p = normP q := by
  unfold normP
  have hk : ∀ s, cutL p.dflt (gget (groupsOf p.rules) s) = cutL p.dflt (gget (groupsOf q.rules) s) := fun s => by rw [gget_groups, gget_groups]; exact h s
  rw [← hd, ← hx, out_same (keys_strict (groups_nodup _)) (keys_strict (groups_nodup _)) hk fun s hs => ⟨keys_in hs, keys_in (by rw [← hk]; exact hs)⟩]
/-- A rule without conditions, of the default's action, behind all others, changes nothing. -/
theorem norm_drops {p : Pol} {s : ByteArray} : normP p = normP ⟨p.dflt, p.x32, p.rules ++ [⟨s, p.dflt, []⟩]⟩ := by
  refine norm_same rfl rfl fun t => ?_
  dsimp only
  unfold gOf
  rw [List.foldl_append]
  generalize p.rules.foldl (fun l r => if keyB t r.name then addN l r else l) [] = l
  show _ = cutL p.dflt (if keyB t s = true then addN l ⟨s, p.dflt, []⟩ else l)
  by_cases hs : keyB t s = true
  · rw [if_pos hs]
    unfold addN
    rw [show normR ⟨s, p.dflt, []⟩ = some ⟨s, p.dflt, []⟩ from rfl]
    dsimp only
    by_cases hh : hidden l ⟨s, p.dflt, []⟩ = true
    · rw [if_pos hh]
    · rw [if_neg hh, cutL_snoc, if_pos rfl]
  · rw [if_neg hs]
/-- A fold that looks at some alone. -/
theorem gOf_filter (s : ByteArray) (rs : List Rul) : gOf s rs = (rs.filter fun r => keyB s r.name).foldl addN [] := by
  unfold gOf
  have key : ∀ (rs : List Rul) (l : List Rul), rs.foldl (fun l r => if keyB s r.name then addN l r else l) l = (rs.filter fun r => keyB s r.name).foldl addN l := by
    intro rs
    induction rs with
    | nil => intro l; rfl
    | cons r rs ih =>
      intro l
      rw [List.foldl_cons, ih, List.filter_cons]
      by_cases h : keyB s r.name = true
      · rw [if_pos h, if_pos h]; rfl
      · rw [if_neg h, if_neg h]
  exact key rs []
def revR (r : Rul) : Rul := ⟨r.name, r.act, r.conds.reverse⟩
def orderL (front : ByteArray) (rs : List Rul) : List Rul := (rs.filter fun r => keyB r.name front).map revR ++ (rs.filter fun r => !keyB r.name front).map revR
theorem keyB_comm (s t : ByteArray) : keyB s t = keyB t s := by
  rw [Bool.eq_iff_iff, keyB_eq, keyB_eq]; exact eq_comm
theorem addN_rev (l : List Rul) (r : Rul) : addN l (revR r) = addN l r := by
  unfold addN
  rw [normR_mem (r := revR r) (r' := r) rfl rfl fun x => by unfold revR; simp]
theorem fold_rev (rs : List Rul) (l : List Rul) : (rs.map revR).foldl addN l = rs.foldl addN l := by
  rw [List.foldl_map]
  congr 1
  funext l r; exact addN_rev l r
theorem gOf_order (s front : ByteArray) (rs : List Rul) : gOf s (orderL front rs) = gOf s rs := by
  rw [gOf_filter, gOf_filter]
  unfold orderL
  rw [List.filter_append, List.filter_map, List.filter_map, List.filter_filter, List.filter_filter]
  have hc : ((fun r : Rul => keyB s r.name) ∘ revR) = fun r => keyB s r.name := rfl
  rw [hc]
  by_cases hs : keyB s front = true
  · obtain rfl := keyB_eq.1 hs
    have e1 : (rs.filter fun a => keyB s a.name && keyB a.name s) = rs.filter fun r => keyB s r.name := by
      congr 1; funext a; rw [keyB_comm a.name s, Bool.and_self]
    have e2 : (rs.filter fun a => keyB s a.name && !keyB a.name s) = [] := by
      rw [List.filter_eq_nil_iff]; intro a _; rw [keyB_comm a.name s]; cases keyB s a.name <;> simp
    rw [e1, e2, List.map_nil, List.append_nil, fold_rev]
  · have e1 : (rs.filter fun a => keyB s a.name && keyB a.name front) = [] := by
      rw [List.filter_eq_nil_iff]
      intro a _ h
      simp only [Bool.and_eq_true] at h
      exact hs (by rw [keyB_eq.1 h.1]; exact h.2)
    have e2 : (rs.filter fun a => keyB s a.name && !keyB a.name front) = rs.filter fun r => keyB s r.name := by
      congr 1; funext a
      by_cases h : keyB s a.name = true
      · rw [h]
        cases hf : keyB a.name front with
        | false => rfl
        | true => exact absurd (by rw [keyB_eq.1 h]; exact hf) hs
      · rw [Bool.not_eq_true] at h; rw [h]; rfl
    rw [e1, e2, List.map_nil, List.nil_append, fold_rev]
theorem norm_orders {p : Pol} {front : ByteArray} : normP p = normP ⟨p.dflt, p.x32, orderL front p.rules⟩ :=
  norm_same rfl rfl fun s => by dsimp only; rw [gOf_order]
theorem rightR_rev (r : Rul) : rightR (revR r) = rightR r := by
  unfold rightR revR
  dsimp only
  rw [List.length_reverse, List.any_reverse]
theorem filt_len (p : Rul → Bool) : ∀ l : List Rul, (l.filter p).length + (l.filter fun r => !p r).length = l.length
  | [] => rfl
  | r :: l => by
    have := filt_len p l
    rw [List.filter_cons, List.filter_cons]
    cases p r <;> simp <;> omega
theorem right_orders {p : Pol} {front : ByteArray} : rightP ⟨p.dflt, p.x32, orderL front p.rules⟩ = rightP p := by
  have hl : (orderL front p.rules).length = p.rules.length := by
    unfold orderL
    rw [List.length_append, List.length_map, List.length_map]
    exact filt_len (fun r => keyB r.name front) p.rules
  have ha : (orderL front p.rules).any (fun r => !rightR r) = p.rules.any (fun r => !rightR r) := by
    rw [Bool.eq_iff_iff, List.any_eq_true, List.any_eq_true]
    unfold orderL
    constructor
    · rintro ⟨x, hx, hb⟩
      rcases List.mem_append.1 hx with hx | hx
      · obtain ⟨y, hy, rfl⟩ := List.mem_map.1 hx
        rw [rightR_rev] at hb
        exact ⟨y, (List.mem_filter.1 hy).1, hb⟩
      · obtain ⟨y, hy, rfl⟩ := List.mem_map.1 hx
        rw [rightR_rev] at hb
        exact ⟨y, (List.mem_filter.1 hy).1, hb⟩
    · rintro ⟨x, hx, hb⟩
      refine ⟨revR x, ?_, by rw [rightR_rev]; exact hb⟩
      rw [List.mem_append]
      cases hk : keyB x.name front with
      | true => exact .inl (List.mem_map_of_mem (List.mem_filter.2 ⟨hx, hk⟩))
      | false => exact .inr (List.mem_map_of_mem (List.mem_filter.2 ⟨hx, by rw [hk]; rfl⟩))
  unfold rightP
  dsimp only
  rw [hl, ha]
/- The normal form of a normal form. -/
theorem nil_or_snoc (l : List Rul) : l = [] ∨ ∃ l' x, l = l' ++ [x] := by
  rcases List.eq_nil_or_concat l with h | ⟨l', x, h⟩
  · exact .inl h
  · exact .inr ⟨l', x, by rw [h, List.concat_eq_append]⟩
def GoodG (l : List Rul) : Prop := ∀ a n b, l = a ++ n :: b → normR n = some n ∧ hidden a n = false
theorem good_nil : GoodG [] := fun a n b h => by simp at h
theorem good_snoc {l : List Rul} {n : Rul} (h : GoodG l) (h1 : normR n = some n) (h2 : hidden l n = false) : GoodG (l ++ [n]) := fun a m b he => by
  rcases nil_or_snoc b with rfl | ⟨b', x, rfl⟩
  · have := List.append_inj' he rfl
    obtain ⟨rfl, hh⟩ := this
    cases hh
    exact ⟨h1, h2⟩
  · rw [show a ++ m :: (b' ++ [x]) = (a ++ m :: b') ++ [x] by simp] at he
    have := List.append_inj' he rfl
    exact h a m b' this.1
theorem good_front {l t : List Rul} (h : GoodG (l ++ t)) : GoodG l := fun a n b he => h a n (b ++ t) (by rw [he]; simp)
theorem addN_good {l : List Rul} {r : Rul} (h : GoodG l) : GoodG (addN l r) := by
  unfold addN
  cases hN : normR r with
  | none => exact h
  | some n =>
    dsimp only
    by_cases hh : hidden l n = true
    · rw [if_pos hh]; exact h
    · rw [if_neg hh]; exact good_snoc h (normR_again hN).1 (by simpa using hh)
theorem fold_good : ∀ (rs l : List Rul), GoodG l → GoodG (rs.foldl addN l)
  | [], _, h => h
  | r :: rs, l, h => fold_good rs _ (addN_good h)
theorem gOf_good (s : ByteArray) (rs : List Rul) : GoodG (gOf s rs) := by rw [gOf_filter]; exact fold_good _ _ good_nil
theorem good_fold {l : List Rul} (h : GoodG l) : l.foldl addN [] = l := by
  have key : ∀ (k : Nat) (l : List Rul), l.length = k → GoodG l → l.foldl addN [] = l := by
    intro k
    induction k with
    | zero => intro l hk _; rw [List.eq_nil_of_length_eq_zero hk]; rfl
    | succ k ih =>
      intro l hk h
      rcases nil_or_snoc l with rfl | ⟨l', x, rfl⟩
      · simp at hk
      · rw [List.foldl_append, ih l' (by simpa using hk) (good_front h)]
        obtain ⟨h1, h2⟩ := h l' x [] rfl
        show addN l' x = _
        unfold addN
        rw [h1]
        dsimp only
        rw [if_neg (by rw [h2]; decide)]
  exact key _ l rfl h
theorem cutL_front (d : A2) (l : List Rul) : ∃ t, l = cutL d l ++ t := by
  unfold cutL
  refine ⟨(l.reverse.takeWhile fun r => decide (r.act = d)).reverse, ?_⟩
  rw [← List.reverse_append, List.takeWhile_append_dropWhile, List.reverse_reverse]
theorem cutL_le (d : A2) (l : List Rul) : (cutL d l).length ≤ l.length := by
  obtain ⟨t, h⟩ := cutL_front d l
  have := congrArg List.length h
  rw [List.length_append] at this
  omega
theorem cutL_again (d : A2) (l : List Rul) : cutL d (cutL d l) = cutL d l := by
  have key : ∀ (k : Nat) (l : List Rul), l.length = k → cutL d (cutL d l) = cutL d l := by
    intro k
    induction k with
    | zero => intro l hk; rw [List.eq_nil_of_length_eq_zero hk]; rfl
    | succ k ih =>
      intro l hk
      rcases nil_or_snoc l with rfl | ⟨l', x, rfl⟩
      · rfl
      · rw [cutL_snoc]
        by_cases hx : x.act = d
        · rw [if_pos hx]; exact ih l' (by simpa using hk)
        · rw [if_neg hx, cutL_snoc, if_neg hx]
  exact key _ l rfl
theorem addN_mem {l : List Rul} {r n : Rul} (h : n ∈ addN l r) : n ∈ l ∨ normR r = some n := by
  unfold addN at h
  cases hN : normR r with
  | none => rw [hN] at h; exact .inl h
  | some m =>
    rw [hN] at h
    dsimp only at h
    split at h
    · exact .inl h
    · rcases List.mem_append.1 h with h | h
      · exact .inl h
      · rw [List.mem_singleton.1 h]; exact .inr rfl
theorem fold_mem : ∀ (rs l : List Rul) {n : Rul}, n ∈ rs.foldl addN l → n ∈ l ∨ ∃ r ∈ rs, normR r = some n
  | [], _, _, h => .inl h
  | r :: rs, l, n, h => by
    rcases fold_mem rs _ h with h | ⟨x, hx, h⟩
    · rcases addN_mem h with h | h
      · exact .inl h
      · exact .inr ⟨r, .head _, h⟩
    · exact .inr ⟨x, .tail _ hx, h⟩
theorem gOf_mem {s : ByteArray} {rs : List Rul} {n : Rul} (h : n ∈ gOf s rs) : n.name = s ∧ ∃ r ∈ rs, normR r = some n := by
  rw [gOf_filter] at h
  rcases fold_mem _ _ h with h | ⟨r, hr, h⟩
  · cases h
  · obtain ⟨h1, h2⟩ := List.mem_filter.1 hr
    exact ⟨(normR_conds h).2.1.trans (keyB_eq.1 h2).symm, r, h1, h⟩
theorem mem_cutL {d : A2} {l : List Rul} {x : Rul} (h : x ∈ cutL d l) : x ∈ l := by
  obtain ⟨t, ht⟩ := cutL_front d l
  rw [ht]; exact List.mem_append_left _ h
theorem out_mem {d : A2} {rs : List Rul} {N : List (List UInt8)} {n : Rul} (h : n ∈ outR d (groupsOf rs) N) : ∃ r ∈ rs, normR r = some n := by
  unfold outR at h
  obtain ⟨z, hz, h⟩ := List.mem_flatMap.1 h
  have := mem_cutL h
  rw [gget_groups] at this
  exact (gOf_mem this).2
theorem flat_one {X : List Rul} {z0 : List UInt8} : ∀ {N : List (List UInt8)}, N.Pairwise RS → N.flatMap (fun z => if z = z0 then X else []) = if z0 ∈ N then X else []
  | [], _ => by simp
  | z :: N, h => by
    rw [List.pairwise_cons] at h
    rw [List.flatMap_cons, flat_one h.2]
    by_cases hz : z = z0
    · subst hz
      have : z ∉ N := fun hm => RS_irr z (h.1 z hm)
      simp [this]
    · rw [if_neg hz, List.nil_append]
      simp [Ne.symm hz]
theorem filter_flat (s : ByteArray) (F : List UInt8 → List Rul) : ∀ N : List (List UInt8), (N.flatMap F).filter (fun r => keyB s r.name) = N.flatMap fun z => (F z).filter fun r => keyB s r.name
  | [] => rfl
  | z :: N => by rw [List.flatMap_cons, List.filter_append, filter_flat s F N, List.flatMap_cons]
theorem gOf_out (d : A2) (rs : List Rul) (s : ByteArray) : gOf s (outR d (groupsOf rs) (keysOf (groupsOf rs))) = cutL d (gOf s rs) := by
  rw [gOf_filter]
  unfold outR
  rw [filter_flat]
  have e : (fun z : List UInt8 => (cutL d (gget (groupsOf rs) ⟨z.toArray⟩)).filter fun r => keyB s r.name) = fun z => if z = s.data.toList then cutL d (gOf s rs) else [] := by
    funext z
    rw [gget_groups]
    by_cases hz : z = s.data.toList
    · subst hz
      rw [if_pos rfl]
      have es : (⟨s.data.toList.toArray⟩ : ByteArray) = s := by obtain ⟨⟨a⟩⟩ := s; rfl
      rw [es, List.filter_eq_self]
      intro n hn
      rw [(gOf_mem (mem_cutL hn)).1]; exact keyB_refl s
    · rw [if_neg hz, List.filter_eq_nil_iff]
      intro n hn hk
      have := (gOf_mem (mem_cutL hn)).1
      rw [this] at hk
      exact hz (by rw [keyB_eq.1 hk])
  rw [e, flat_one (keys_strict (groups_nodup rs))]
  have hg : GoodG (cutL d (gOf s rs)) := by
    obtain ⟨t, ht⟩ := cutL_front d (gOf s rs)
    have := gOf_good s rs
    rw [ht] at this
    exact good_front this
  by_cases hm : s.data.toList ∈ keysOf (groupsOf rs)
  · rw [if_pos hm]; exact good_fold hg
  · rw [if_neg hm]
    have : gget (groupsOf rs) s = [] := by
      by_cases h : gget (groupsOf rs) s = []
      · exact h
      · exact absurd (keys_mem.2 (gget_mem h)) hm
    rw [gget_groups] at this
    rw [this]; rfl
theorem norm_again (p : Pol) : normP (normP p) = normP p := by
  symm
  refine norm_same rfl rfl fun s => ?_
  show cutL p.dflt (gOf s p.rules) = cutL p.dflt (gOf s (outR p.dflt (groupsOf p.rules) (keysOf (groupsOf p.rules))))
  rw [gOf_out, cutL_again]
/-- A normal form has no more rules. -/
def totL (H : List (ByteArray × List Rul)) : Nat := (H.map fun h => h.2.length).sum
theorem gadd_tot {t : ByteArray} {n : Rul} : ∀ H : List (ByteArray × List Rul), totL (gadd H t n) = totL H + 1
  | [] => rfl
  | h :: H => by
    unfold gadd
    by_cases ht : keyB t h.1 = true
    · rw [if_pos ht]; unfold totL; simp; omega
    · rw [if_neg ht]
      have := gadd_tot (t := t) (n := n) H
      unfold totL at this ⊢
      rw [List.map_cons, List.sum_cons, this, List.map_cons, List.sum_cons]; omega
theorem gstep_tot {H : List (ByteArray × List Rul)} {r : Rul} : totL (gstep H r) ≤ totL H + 1 := by
  unfold gstep
  cases normR r with
  | none => exact Nat.le_succ _
  | some n =>
    dsimp only
    split
    · exact Nat.le_succ _
    · rw [gadd_tot]; exact Nat.le_refl _
theorem groups_tot (rs : List Rul) : totL (groupsOf rs) ≤ rs.length := by
  have key : ∀ (rs : List Rul) (H : List (ByteArray × List Rul)), totL (rs.foldl gstep H) ≤ totL H + rs.length := by
    intro rs
    induction rs with
    | nil => intro H; exact Nat.le_refl _
    | cons r rs ih =>
      intro H
      have h1 := ih (gstep H r)
      have h2 := gstep_tot (H := H) (r := r)
      rw [List.foldl_cons, List.length_cons]; omega
  have := key rs []
  rw [show totL [] = 0 from rfl, Nat.zero_add] at this
  exact this
theorem gget_key : ∀ {H : List (ByteArray × List Rul)}, (H.map (·.1)).Nodup → ∀ h ∈ H, gget H h.1 = h.2
  | [], _, _, hm => by cases hm
  | g :: H, hn, h, hm => by
    rw [List.map_cons, List.nodup_cons] at hn
    rcases List.mem_cons.1 hm with rfl | hm
    · exact if_pos (keyB_refl _)
    · have : ¬ keyB h.1 g.1 = true := fun hk => hn.1 (by rw [← keyB_eq.1 hk]; exact List.mem_map_of_mem hm)
      show (if keyB h.1 g.1 = true then g.2 else gget H h.1) = _
      rw [if_neg this]; exact gget_key hn.2 h hm
theorem out_len (d : A2) (rs : List Rul) : (outR d (groupsOf rs) (keysOf (groupsOf rs))).length ≤ rs.length := by
  refine Nat.le_trans ?_ (groups_tot rs)
  have hn := groups_nodup rs
  generalize groupsOf rs = H at hn
  unfold outR
  have hp : (keysOf H).Perm (H.map fun h => h.1.data.toList) := List.mergeSort_perm _ _
  rw [List.length_flatMap, (hp.map _).sum_nat, List.map_map]
  unfold totL
  have e : ∀ h ∈ H, ((fun a : List UInt8 => (cutL d (gget H ⟨a.toArray⟩)).length) ∘ fun h : ByteArray × List Rul => h.1.data.toList) h ≤ h.2.length := fun h hh => by
    show (cutL d (gget H ⟨h.1.data.toList.toArray⟩)).length ≤ _
    have es : (⟨h.1.data.toList.toArray⟩ : ByteArray) = h.1 := by obtain ⟨⟨⟨a⟩⟩, b⟩ := h; rfl
    rw [es, gget_key hn h hh]
    exact cutL_le d h.2
  clear hp hn
  generalize (fun a : List UInt8 => (cutL d (gget H ⟨a.toArray⟩)).length) ∘ (fun h : ByteArray × List Rul => h.1.data.toList) = f at e
  induction H with
  | nil => simp
  | cons h H ih =>
    rw [List.map_cons, List.sum_cons, List.map_cons, List.sum_cons]
    have h1 := e h (.head _)
    have h2 := ih fun x hx => e x (.tail _ hx)
    omega
theorem norm_right {p : Pol} (h : rightP p = true) : rightP (normP p) = true := by
  unfold rightP at h ⊢
  simp only [Bool.and_eq_true, decide_eq_true_eq, Bool.not_eq_true', List.any_eq_false] at h ⊢
  have hl := out_len p.dflt p.rules
  refine ⟨h.1, Nat.le_trans hl h.2.1, fun n hn => ?_⟩
  obtain ⟨r, hr, hN⟩ := out_mem hn
  have h2 := h.2.2 r hr
  have : rightR r = true := by simpa using h2
  rw [(normR_again hN).2.1 this]; decide
end Go.Proofs.W

namespace Go.Proofs.W
open Go.Vl
set_option maxRecDepth 100000

theorem noid_rul (r : Rul) : NoId (.ag [strA r.name, int r.act.1, int r.act.2, cnds r.conds]) := NoId.ag (by
  intro y hy
  simp only [List.mem_cons, List.not_mem_nil, or_false] at hy
  rcases hy with rfl | rfl | rfl | rfl
  · exact NoId.v _
  · exact NoId.v _
  · exact NoId.v _
  · refine NoId.sl fun i hi c hc => ?_
    simp only [cndA, AV.cells, List.mem_cons, List.not_mem_nil, or_false] at hc
    rcases hc with rfl | rfl | rfl | rfl <;> exact NoId.v _)
theorem bytes_cnd_l16 : Tryz.prog.bytesOf 51 = 32 := by kernel_rfl
theorem bytes_rul_l16 : Tryz.prog.bytesOf 47 = 56 := by kernel_rfl
theorem conds_l16 (c : Cnd) : Tells Tryz.prog 54 [cndA c] (cndA c) := by
  refine tells_of_aw Tryz.func54 rfl rfl fun nx => ?_
  (repeat((conv=>whnf);first|apply ω0|apply ω1|apply ω2|refine τ3 rfl ?_|refine τ4 rfl ?_|refine ⟨rfl,?_⟩|apply τa|refine τb rfl ?_|refine ⟨⟨by kernel_rfl,by kernel_rfl⟩,?_⟩|refine ⟨by decide,?_⟩|apply τt|apply τf))
  exact ret_tells_all rfl ⟨rfl, trivial⟩ (AVle.refl _)

set_option maxHeartbeats 1000000 in
theorem rule_l16 (nm : ByteArray) (k n : Int) (cs : List Cnd) (hl : cs.length ≤ 1000000) : Tells Tryz.prog 25 [.ag [strA nm, int k, int n, cnds cs]] (.ag [strA nm, int k, int n, cnds cs]) := by
  refine tells_of_aw Tryz.func25 rfl rfl fun nx => ?_
  (repeat((conv=>whnf);first|apply ω0|apply ω1|apply ω2|refine τ3 rfl ?_|refine τ4 rfl ?_|refine ⟨rfl,?_⟩|apply τa|refine τb rfl ?_|refine ⟨⟨by kernel_rfl,by kernel_rfl⟩,?_⟩|refine ⟨by decide,?_⟩|apply τt|apply τf))
  refine aw_loop (fun s : Nat × Option Nat × Nat => mk 34 [(1, .bp (0, nx) 0), (2, .bp (1, nx + 1) 0), (3, .bp (2, nx + 2) 0), (4, int s.1)] ⟨[((2, nx + 2), .c [strA nm, int k, int n, .os 4 s.1 (fun j => cndA (cs.getD j cnd0)) (nmd s.2.1)]), ((1, nx + 1), .c [strA ⟨#[]⟩, int 0, int 0, .os 0 0 (fun _ => .any) none]), ((0, nx), .c [strA nm, int k, int n, cnds cs])], pmOf (nmd s.2.1) (s.1 * 4), s.2.2, 3⟩) (fun s => s.1 ≤ cs.length ∧ (s.2.1 = none → s.1 = 0)) (fun s => cs.length - s.1) ?_ ?_
  · exact ⟨(0, none, nx + 3), ⟨Nat.zero_le _, fun _ => rfl⟩, ele_tell (pm := []) _ [] rfl rfl (List.Sublist.refl _) (List.Sublist.refl _) ⟨rfl, ⟨AVle.refl _, AVle.refl _, AVle.refl _, AVle.os_nil, trivial⟩, rfl, OwnLe.refl _, rfl, OwnLe.refl _, trivial⟩ trivial ⟨AVle.refl _, AVle.refl _, AVle.refl _, AVle.refl _, trivial⟩⟩
  · rintro ⟨i, oi, nx2⟩ ⟨h3, h4⟩
    dsimp only at h3 h4
    (repeat((conv=>whnf);first|apply ω0|apply ω1|apply ω2|refine τ3 rfl ?_|refine τ4 rfl ?_|refine ⟨rfl,?_⟩|apply τa|refine τb rfl ?_|refine ⟨⟨by kernel_rfl,by kernel_rfl⟩,?_⟩|refine ⟨by decide,?_⟩|apply τt|apply τf))
    intro c h5; cases c
    · have h6 := not_of h5
      dsimp only at h6
      obtain rfl : i = cs.length := by omega
      (repeat((conv=>whnf);first|apply ω0|apply ω1|apply ω2|refine τ3 rfl ?_|refine τ4 rfl ?_|refine ⟨rfl,?_⟩|apply τa|refine τb rfl ?_|refine ⟨⟨by kernel_rfl,by kernel_rfl⟩,?_⟩|refine ⟨by decide,?_⟩|apply τt|apply τf))
      exact ret_tells_all rfl ⟨rfl, trivial⟩ (AVle.ags ⟨AVle.refl _, AVle.refl _, AVle.refl _, AVle.os_sl, trivial⟩)
    · have h6 := yes_of h5
      dsimp only at h6
      have hi : i < cs.length := by omega
      have hcall := conds_l16 (cs.getD i cnd0)
      (repeat((conv=>whnf);first|apply ω0|apply ω1|apply ω2|refine τ3 rfl ?_|refine τ4 rfl ?_|refine ⟨rfl,?_⟩|apply τa|refine τb rfl ?_|refine ⟨⟨by kernel_rfl,by kernel_rfl⟩,?_⟩|refine ⟨by decide,?_⟩|apply τt|apply τf))
      refine aw_mixN 11 [((2, nx + 2), .c [strA nm, int k, int n, .os 4 i (fun j => cndA (cs.getD j cnd0)) (nmd oi)]), ((1, nx + 1), .c [strA ⟨#[]⟩, int 0, int 0, .os 0 0 (fun _ => .any) none]), ((0, nx), .c [strA nm, int k, int n, cnds cs])] (fun i => match i with | 9 => true | _ => false) (fun i => match i with | 7 => true | _ => false) [0, 1, 2, 3, 4, 5, 6, 7, 8, 9, 10] (by kernel_rfl) (by kernel_rfl) (HB.refl _) ?_
      (repeat((conv=>whnf);first|apply ω0|apply ω1|apply ω2|refine τ3 rfl ?_|refine τ4 rfl ?_|refine ⟨rfl,?_⟩|apply τa|refine τb rfl ?_|refine ⟨⟨by kernel_rfl,by kernel_rfl⟩,?_⟩|refine ⟨by decide,?_⟩|apply τt|apply τf))
      refine ⟨⟨by dsimp only; omega, by dsimp only; omega⟩, ?_⟩
      (repeat((conv=>whnf);first|apply ω0|apply ω1|apply ω2|refine τ3 rfl ?_|refine τ4 rfl ?_|refine ⟨rfl,?_⟩|apply τa|refine τb rfl ?_|refine ⟨⟨by kernel_rfl,by kernel_rfl⟩,?_⟩|refine ⟨by decide,?_⟩|apply τt|apply τf))
      refine ⟨_, pure_tells rfl rfl rfl hcall ⟨AVle.refl _, trivial⟩ (noid_cndA _), ?_⟩
      (repeat((conv=>whnf);first|apply ω0|apply ω1|apply ω2|refine τ3 rfl ?_|refine τ4 rfl ?_|refine ⟨rfl,?_⟩|apply τa|refine τb rfl ?_|refine ⟨⟨by kernel_rfl,by kernel_rfl⟩,?_⟩|refine ⟨by decide,?_⟩|apply τt|apply τf))
      rcases oi with _ | id
      · obtain rfl := h4 rfl
        refine ⟨_, eff_append1 (e := 51) (c := 4) (pm := []) (n := 0) (oi := none) (sz := 4) (f := fun j => cndA (cs.getD j cnd0)) (HB.refl _) rfl rfl rfl (.inr ⟨_, rfl⟩) (by kernel_rfl) (by kernel_rfl) (by kernel_rfl) (.inr rfl) (by kernel_rfl) (List.append_nil _).symm (oneRow_one rfl) (by rw [bytes_cnd_l16]; omega) (by omega), fun r h' hr => ?_⟩
        obtain ⟨rfl, rfl⟩ := hr
        (repeat((conv=>whnf);first|apply ω0|apply ω1|apply ω2|refine τ3 rfl ?_|refine τ4 rfl ?_|refine ⟨rfl,?_⟩|apply τa|refine τb rfl ?_|refine ⟨⟨by kernel_rfl,by kernel_rfl⟩,?_⟩|refine ⟨by decide,?_⟩|apply τt|apply τf))
        refine back (0 + 1, some nx2, nx2 + 1) ⟨by dsimp only; omega, (fun h => by cases h)⟩ (by dsimp only; omega) (ele_tell (pm := [((0, nx2), (0 + 1) * 4)]) _ _ rfl rfl (List.Sublist.refl _) (List.Sublist.refl _) ⟨rfl, ⟨AVle.refl _, AVle.refl _, AVle.refl _, (AVle.os_fun (appF_one (fun k h => absurd h (Nat.not_lt_zero k)) ?_)).trans (AVle.os_nm rfl), trivial⟩, rfl, OwnLe.refl _, rfl, OwnLe.refl _, trivial⟩ ⟨rfl, rfl, trivial⟩ ⟨AVle.refl _, AVle.refl _, AVle.refl _, le_int (wrap_succ (by dsimp only; omega)), trivial⟩)
        rfl
      · refine ⟨_, eff_append1 (e := 51) (c := 4) (pm := []) (n := i) (oi := some (0, id)) (sz := 4) (f := fun j => cndA (cs.getD j cnd0)) (HB.refl _) rfl rfl rfl (.inr ⟨_, rfl⟩) (by kernel_rfl) (by kernel_rfl) (by kernel_rfl) (.inr rfl) (by kernel_rfl) (List.append_nil _).symm (oneRow_one rfl) (by rw [bytes_cnd_l16]; omega) (by omega), fun r h' hr => ?_⟩
        obtain ⟨rfl, rfl⟩ := hr
        (repeat((conv=>whnf);first|apply ω0|apply ω1|apply ω2|refine τ3 rfl ?_|refine τ4 rfl ?_|refine ⟨rfl,?_⟩|apply τa|refine τb rfl ?_|refine ⟨⟨by kernel_rfl,by kernel_rfl⟩,?_⟩|refine ⟨by decide,?_⟩|apply τt|apply τf))
        refine back (i + 1, some nx2, nx2 + 1) ⟨by dsimp only; omega, (fun h => by cases h)⟩ (by dsimp only; omega) (ele_tell (pm := [((0, nx2), (i + 1) * 4)]) _ _ rfl rfl (List.Sublist.refl _) (List.Sublist.refl _) ⟨rfl, ⟨AVle.refl _, AVle.refl _, AVle.refl _, (AVle.os_fun (appF_one (fun k hk => rfl) ?_)).trans (AVle.os_nm rfl), trivial⟩, rfl, OwnLe.refl _, rfl, OwnLe.refl _, trivial⟩ ⟨rfl, rfl, trivial⟩ ⟨AVle.refl _, AVle.refl _, AVle.refl _, le_int (wrap_succ (by dsimp only; omega)), trivial⟩)
        rfl

set_option maxHeartbeats 1000000 in
theorem oft_l16 (k n : Int) (rs : List Rul) (hl : rs.length ≤ 1000000) (hc : ∀ r ∈ rs, r.conds.length ≤ 1000000) : Tells Tryz.prog 20 [.ag [int k, int n, boolA true, ruls rs]] (.ag [int k, int n, boolA true, ruls rs]) := by
  refine tells_of_aw Tryz.func20 rfl rfl fun nx => ?_
  (repeat((conv=>whnf);first|apply ω0|apply ω1|apply ω2|refine τ3 rfl ?_|refine τ4 rfl ?_|refine ⟨rfl,?_⟩|apply τa|refine τb rfl ?_|refine ⟨⟨by kernel_rfl,by kernel_rfl⟩,?_⟩|refine ⟨by decide,?_⟩|apply τt|apply τf))
  refine aw_loop (fun s : Nat × Option Nat × Nat => mk 34 [(1, .bp (0, nx) 0), (2, .bp (1, nx + 1) 0), (3, .bp (2, nx + 2) 0), (4, int s.1)] ⟨[((2, nx + 2), .c [int k, int n, boolA true, .os 4 s.1 (fun j => rulA (rs.getD j rul0)) (nmd s.2.1)]), ((1, nx + 1), .c [int 0, int 0, boolA false, .os 0 0 (fun _ => .any) none]), ((0, nx), .c [int k, int n, boolA true, ruls rs])], pmOf (nmd s.2.1) (s.1 * 4), s.2.2, 3⟩) (fun s => s.1 ≤ rs.length ∧ (s.2.1 = none → s.1 = 0)) (fun s => rs.length - s.1) ?_ ?_
  · exact ⟨(0, none, nx + 3), ⟨Nat.zero_le _, fun _ => rfl⟩, ele_tell (pm := []) _ [] rfl rfl (List.Sublist.refl _) (List.Sublist.refl _) ⟨rfl, ⟨AVle.refl _, AVle.refl _, AVle.refl _, AVle.os_nil, trivial⟩, rfl, OwnLe.refl _, rfl, OwnLe.refl _, trivial⟩ trivial ⟨AVle.refl _, AVle.refl _, AVle.refl _, AVle.refl _, trivial⟩⟩
  · rintro ⟨i, oi, nx2⟩ ⟨h3, h4⟩
    dsimp only at h3 h4
    (repeat((conv=>whnf);first|apply ω0|apply ω1|apply ω2|refine τ3 rfl ?_|refine τ4 rfl ?_|refine ⟨rfl,?_⟩|apply τa|refine τb rfl ?_|refine ⟨⟨by kernel_rfl,by kernel_rfl⟩,?_⟩|refine ⟨by decide,?_⟩|apply τt|apply τf))
    intro c h5; cases c
    · have h6 := not_of h5
      dsimp only at h6
      obtain rfl : i = rs.length := by omega
      (repeat((conv=>whnf);first|apply ω0|apply ω1|apply ω2|refine τ3 rfl ?_|refine τ4 rfl ?_|refine ⟨rfl,?_⟩|apply τa|refine τb rfl ?_|refine ⟨⟨by kernel_rfl,by kernel_rfl⟩,?_⟩|refine ⟨by decide,?_⟩|apply τt|apply τf))
      exact ret_tells_all rfl ⟨rfl, trivial⟩ (AVle.ags ⟨AVle.refl _, AVle.refl _, AVle.refl _, AVle.os_sl, trivial⟩)
    · have h6 := yes_of h5
      dsimp only at h6
      have hi : i < rs.length := by omega
      have hcall := rule_l16 (rs.getD i rul0).name (rs.getD i rul0).act.1 (rs.getD i rul0).act.2 (rs.getD i rul0).conds (hc _ (by simp [List.getD, hi]))
      (repeat((conv=>whnf);first|apply ω0|apply ω1|apply ω2|refine τ3 rfl ?_|refine τ4 rfl ?_|refine ⟨rfl,?_⟩|apply τa|refine τb rfl ?_|refine ⟨⟨by kernel_rfl,by kernel_rfl⟩,?_⟩|refine ⟨by decide,?_⟩|apply τt|apply τf))
      refine aw_mixN 11 [((2, nx + 2), .c [int k, int n, boolA true, .os 4 i (fun j => rulA (rs.getD j rul0)) (nmd oi)]), ((1, nx + 1), .c [int 0, int 0, boolA false, .os 0 0 (fun _ => .any) none]), ((0, nx), .c [int k, int n, boolA true, ruls rs])] (fun i => match i with | 9 => true | _ => false) (fun i => match i with | 7 => true | _ => false) [0, 1, 2, 3, 4, 5, 6, 7, 8, 9, 10] (by kernel_rfl) (by kernel_rfl) (HB.refl _) ?_
      (repeat((conv=>whnf);first|apply ω0|apply ω1|apply ω2|refine τ3 rfl ?_|refine τ4 rfl ?_|refine ⟨rfl,?_⟩|apply τa|refine τb rfl ?_|refine ⟨⟨by kernel_rfl,by kernel_rfl⟩,?_⟩|refine ⟨by decide,?_⟩|apply τt|apply τf))
      refine ⟨⟨by dsimp only; omega, by dsimp only; omega⟩, ?_⟩
      (repeat((conv=>whnf);first|apply ω0|apply ω1|apply ω2|refine τ3 rfl ?_|refine τ4 rfl ?_|refine ⟨rfl,?_⟩|apply τa|refine τb rfl ?_|refine ⟨⟨by kernel_rfl,by kernel_rfl⟩,?_⟩|refine ⟨by decide,?_⟩|apply τt|apply τf))
      refine ⟨_, pure_tells rfl rfl rfl hcall ⟨AVle.refl _, trivial⟩ (noid_rul (rs.getD i rul0)), ?_⟩
      (repeat((conv=>whnf);first|apply ω0|apply ω1|apply ω2|refine τ3 rfl ?_|refine τ4 rfl ?_|refine ⟨rfl,?_⟩|apply τa|refine τb rfl ?_|refine ⟨⟨by kernel_rfl,by kernel_rfl⟩,?_⟩|refine ⟨by decide,?_⟩|apply τt|apply τf))
      rcases oi with _ | id
      · obtain rfl := h4 rfl
        refine ⟨_, eff_append1 (e := 47) (c := 4) (pm := []) (n := 0) (oi := none) (sz := 4) (f := fun j => rulA (rs.getD j rul0)) (HB.refl _) rfl rfl rfl (.inr ⟨_, rfl⟩) (by kernel_rfl) (by kernel_rfl) (by kernel_rfl) (.inr rfl) (by kernel_rfl) (List.append_nil _).symm (oneRow_one rfl) (by rw [bytes_rul_l16]; omega) (by omega), fun r h' hr => ?_⟩
        obtain ⟨rfl, rfl⟩ := hr
        (repeat((conv=>whnf);first|apply ω0|apply ω1|apply ω2|refine τ3 rfl ?_|refine τ4 rfl ?_|refine ⟨rfl,?_⟩|apply τa|refine τb rfl ?_|refine ⟨⟨by kernel_rfl,by kernel_rfl⟩,?_⟩|refine ⟨by decide,?_⟩|apply τt|apply τf))
        refine back (0 + 1, some nx2, nx2 + 1) ⟨by dsimp only; omega, (fun h => by cases h)⟩ (by dsimp only; omega) (ele_tell (pm := [((0, nx2), (0 + 1) * 4)]) _ _ rfl rfl (List.Sublist.refl _) (List.Sublist.refl _) ⟨rfl, ⟨AVle.refl _, AVle.refl _, AVle.refl _, (AVle.os_fun (appF_one (fun k h => absurd h (Nat.not_lt_zero k)) ?_)).trans (AVle.os_nm rfl), trivial⟩, rfl, OwnLe.refl _, rfl, OwnLe.refl _, trivial⟩ ⟨rfl, rfl, trivial⟩ ⟨AVle.refl _, AVle.refl _, AVle.refl _, le_int (wrap_succ (by dsimp only; omega)), trivial⟩)
        rfl
      · refine ⟨_, eff_append1 (e := 47) (c := 4) (pm := []) (n := i) (oi := some (0, id)) (sz := 4) (f := fun j => rulA (rs.getD j rul0)) (HB.refl _) rfl rfl rfl (.inr ⟨_, rfl⟩) (by kernel_rfl) (by kernel_rfl) (by kernel_rfl) (.inr rfl) (by kernel_rfl) (List.append_nil _).symm (oneRow_one rfl) (by rw [bytes_rul_l16]; omega) (by omega), fun r h' hr => ?_⟩
        obtain ⟨rfl, rfl⟩ := hr
        (repeat((conv=>whnf);first|apply ω0|apply ω1|apply ω2|refine τ3 rfl ?_|refine τ4 rfl ?_|refine ⟨rfl,?_⟩|apply τa|refine τb rfl ?_|refine ⟨⟨by kernel_rfl,by kernel_rfl⟩,?_⟩|refine ⟨by decide,?_⟩|apply τt|apply τf))
        refine back (i + 1, some nx2, nx2 + 1) ⟨by dsimp only; omega, (fun h => by cases h)⟩ (by dsimp only; omega) (ele_tell (pm := [((0, nx2), (i + 1) * 4)]) _ _ rfl rfl (List.Sublist.refl _) (List.Sublist.refl _) ⟨rfl, ⟨AVle.refl _, AVle.refl _, AVle.refl _, (AVle.os_fun (appF_one (fun k hk => rfl) ?_)).trans (AVle.os_nm rfl), trivial⟩, rfl, OwnLe.refl _, rfl, OwnLe.refl _, trivial⟩ ⟨rfl, rfl, trivial⟩ ⟨AVle.refl _, AVle.refl _, AVle.refl _, le_int (wrap_succ (by dsimp only; omega)), trivial⟩)
        rfl

set_option maxHeartbeats 1000000 in
theorem off_l16 (k n : Int) (rs : List Rul) (hl : rs.length ≤ 1000000) (hc : ∀ r ∈ rs, r.conds.length ≤ 1000000) : Tells Tryz.prog 20 [.ag [int k, int n, boolA false, ruls rs]] (.ag [int k, int n, boolA false, ruls rs]) := by
  refine tells_of_aw Tryz.func20 rfl rfl fun nx => ?_
  (repeat((conv=>whnf);first|apply ω0|apply ω1|apply ω2|refine τ3 rfl ?_|refine τ4 rfl ?_|refine ⟨rfl,?_⟩|apply τa|refine τb rfl ?_|refine ⟨⟨by kernel_rfl,by kernel_rfl⟩,?_⟩|refine ⟨by decide,?_⟩|apply τt|apply τf))
  refine aw_loop (fun s : Nat × Option Nat × Nat => mk 34 [(1, .bp (0, nx) 0), (2, .bp (1, nx + 1) 0), (3, .bp (2, nx + 2) 0), (4, int s.1)] ⟨[((2, nx + 2), .c [int k, int n, boolA false, .os 4 s.1 (fun j => rulA (rs.getD j rul0)) (nmd s.2.1)]), ((1, nx + 1), .c [int 0, int 0, boolA false, .os 0 0 (fun _ => .any) none]), ((0, nx), .c [int k, int n, boolA false, ruls rs])], pmOf (nmd s.2.1) (s.1 * 4), s.2.2, 3⟩) (fun s => s.1 ≤ rs.length ∧ (s.2.1 = none → s.1 = 0)) (fun s => rs.length - s.1) ?_ ?_
  · exact ⟨(0, none, nx + 3), ⟨Nat.zero_le _, fun _ => rfl⟩, ele_tell (pm := []) _ [] rfl rfl (List.Sublist.refl _) (List.Sublist.refl _) ⟨rfl, ⟨AVle.refl _, AVle.refl _, AVle.refl _, AVle.os_nil, trivial⟩, rfl, OwnLe.refl _, rfl, OwnLe.refl _, trivial⟩ trivial ⟨AVle.refl _, AVle.refl _, AVle.refl _, AVle.refl _, trivial⟩⟩
  · rintro ⟨i, oi, nx2⟩ ⟨h3, h4⟩
    dsimp only at h3 h4
    (repeat((conv=>whnf);first|apply ω0|apply ω1|apply ω2|refine τ3 rfl ?_|refine τ4 rfl ?_|refine ⟨rfl,?_⟩|apply τa|refine τb rfl ?_|refine ⟨⟨by kernel_rfl,by kernel_rfl⟩,?_⟩|refine ⟨by decide,?_⟩|apply τt|apply τf))
    intro c h5; cases c
    · have h6 := not_of h5
      dsimp only at h6
      obtain rfl : i = rs.length := by omega
      (repeat((conv=>whnf);first|apply ω0|apply ω1|apply ω2|refine τ3 rfl ?_|refine τ4 rfl ?_|refine ⟨rfl,?_⟩|apply τa|refine τb rfl ?_|refine ⟨⟨by kernel_rfl,by kernel_rfl⟩,?_⟩|refine ⟨by decide,?_⟩|apply τt|apply τf))
      exact ret_tells_all rfl ⟨rfl, trivial⟩ (AVle.ags ⟨AVle.refl _, AVle.refl _, AVle.refl _, AVle.os_sl, trivial⟩)
    · have h6 := yes_of h5
      dsimp only at h6
      have hi : i < rs.length := by omega
      have hcall := rule_l16 (rs.getD i rul0).name (rs.getD i rul0).act.1 (rs.getD i rul0).act.2 (rs.getD i rul0).conds (hc _ (by simp [List.getD, hi]))
      (repeat((conv=>whnf);first|apply ω0|apply ω1|apply ω2|refine τ3 rfl ?_|refine τ4 rfl ?_|refine ⟨rfl,?_⟩|apply τa|refine τb rfl ?_|refine ⟨⟨by kernel_rfl,by kernel_rfl⟩,?_⟩|refine ⟨by decide,?_⟩|apply τt|apply τf))
      refine aw_mixN 11 [((2, nx + 2), .c [int k, int n, boolA false, .os 4 i (fun j => rulA (rs.getD j rul0)) (nmd oi)]), ((1, nx + 1), .c [int 0, int 0, boolA false, .os 0 0 (fun _ => .any) none]), ((0, nx), .c [int k, int n, boolA false, ruls rs])] (fun i => match i with | 9 => true | _ => false) (fun i => match i with | 7 => true | _ => false) [0, 1, 2, 3, 4, 5, 6, 7, 8, 9, 10] (by kernel_rfl) (by kernel_rfl) (HB.refl _) ?_
      (repeat((conv=>whnf);first|apply ω0|apply ω1|apply ω2|refine τ3 rfl ?_|refine τ4 rfl ?_|refine ⟨rfl,?_⟩|apply τa|refine τb rfl ?_|refine ⟨⟨by kernel_rfl,by kernel_rfl⟩,?_⟩|refine ⟨by decide,?_⟩|apply τt|apply τf))
      refine ⟨⟨by dsimp only; omega, by dsimp only; omega⟩, ?_⟩
      (repeat((conv=>whnf);first|apply ω0|apply ω1|apply ω2|refine τ3 rfl ?_|refine τ4 rfl ?_|refine ⟨rfl,?_⟩|apply τa|refine τb rfl ?_|refine ⟨⟨by kernel_rfl,by kernel_rfl⟩,?_⟩|refine ⟨by decide,?_⟩|apply τt|apply τf))
      refine ⟨_, pure_tells rfl rfl rfl hcall ⟨AVle.refl _, trivial⟩ (noid_rul (rs.getD i rul0)), ?_⟩
      (repeat((conv=>whnf);first|apply ω0|apply ω1|apply ω2|refine τ3 rfl ?_|refine τ4 rfl ?_|refine ⟨rfl,?_⟩|apply τa|refine τb rfl ?_|refine ⟨⟨by kernel_rfl,by kernel_rfl⟩,?_⟩|refine ⟨by decide,?_⟩|apply τt|apply τf))
      rcases oi with _ | id
      · obtain rfl := h4 rfl
        refine ⟨_, eff_append1 (e := 47) (c := 4) (pm := []) (n := 0) (oi := none) (sz := 4) (f := fun j => rulA (rs.getD j rul0)) (HB.refl _) rfl rfl rfl (.inr ⟨_, rfl⟩) (by kernel_rfl) (by kernel_rfl) (by kernel_rfl) (.inr rfl) (by kernel_rfl) (List.append_nil _).symm (oneRow_one rfl) (by rw [bytes_rul_l16]; omega) (by omega), fun r h' hr => ?_⟩
        obtain ⟨rfl, rfl⟩ := hr
        (repeat((conv=>whnf);first|apply ω0|apply ω1|apply ω2|refine τ3 rfl ?_|refine τ4 rfl ?_|refine ⟨rfl,?_⟩|apply τa|refine τb rfl ?_|refine ⟨⟨by kernel_rfl,by kernel_rfl⟩,?_⟩|refine ⟨by decide,?_⟩|apply τt|apply τf))
        refine back (0 + 1, some nx2, nx2 + 1) ⟨by dsimp only; omega, (fun h => by cases h)⟩ (by dsimp only; omega) (ele_tell (pm := [((0, nx2), (0 + 1) * 4)]) _ _ rfl rfl (List.Sublist.refl _) (List.Sublist.refl _) ⟨rfl, ⟨AVle.refl _, AVle.refl _, AVle.refl _, (AVle.os_fun (appF_one (fun k h => absurd h (Nat.not_lt_zero k)) ?_)).trans (AVle.os_nm rfl), trivial⟩, rfl, OwnLe.refl _, rfl, OwnLe.refl _, trivial⟩ ⟨rfl, rfl, trivial⟩ ⟨AVle.refl _, AVle.refl _, AVle.refl _, le_int (wrap_succ (by dsimp only; omega)), trivial⟩)
        rfl
      · refine ⟨_, eff_append1 (e := 47) (c := 4) (pm := []) (n := i) (oi := some (0, id)) (sz := 4) (f := fun j => rulA (rs.getD j rul0)) (HB.refl _) rfl rfl rfl (.inr ⟨_, rfl⟩) (by kernel_rfl) (by kernel_rfl) (by kernel_rfl) (.inr rfl) (by kernel_rfl) (List.append_nil _).symm (oneRow_one rfl) (by rw [bytes_rul_l16]; omega) (by omega), fun r h' hr => ?_⟩
        obtain ⟨rfl, rfl⟩ := hr
        (repeat((conv=>whnf);first|apply ω0|apply ω1|apply ω2|refine τ3 rfl ?_|refine τ4 rfl ?_|refine ⟨rfl,?_⟩|apply τa|refine τb rfl ?_|refine ⟨⟨by kernel_rfl,by kernel_rfl⟩,?_⟩|refine ⟨by decide,?_⟩|apply τt|apply τf))
        refine back (i + 1, some nx2, nx2 + 1) ⟨by dsimp only; omega, (fun h => by cases h)⟩ (by dsimp only; omega) (ele_tell (pm := [((0, nx2), (i + 1) * 4)]) _ _ rfl rfl (List.Sublist.refl _) (List.Sublist.refl _) ⟨rfl, ⟨AVle.refl _, AVle.refl _, AVle.refl _, (AVle.os_fun (appF_one (fun k hk => rfl) ?_)).trans (AVle.os_nm rfl), trivial⟩, rfl, OwnLe.refl _, rfl, OwnLe.refl _, trivial⟩ ⟨rfl, rfl, trivial⟩ ⟨AVle.refl _, AVle.refl _, AVle.refl _, le_int (wrap_succ (by dsimp only; omega)), trivial⟩)
        rfl
theorem pol_l16 (p : Pol) (hl : p.rules.length ≤ 1000000) (hc : ∀ r ∈ p.rules, r.conds.length ≤ 1000000) : Tells Tryz.prog 20 [polA p] (polA p) := by
  obtain ⟨⟨k, n⟩, x, rs⟩ := p
  cases x
  · exact off_l16 k n rs hl hc
  · exact oft_l16 k n rs hl hc
end Go.Proofs.W

namespace Go.Proofs.W
open Go.Vl
set_option maxRecDepth 100000

theorem light_l16 (p : Pol) (hl : p.rules.length ≤ maxLen) : Tells Tryz.prog 18 [polA p] (boolA (lightP p)) := by
  obtain ⟨⟨k, n⟩, x, rs⟩ := p
  dsimp only at hl
  refine tells_of_aw Tryz.func18 rfl rfl fun nx => ?_
  (repeat((conv=>whnf);first|apply ω0|apply ω1|apply ω2|refine τ3 rfl ?_|refine τ4 rfl ?_|refine ⟨rfl,?_⟩|apply τa|refine τb rfl ?_|refine ⟨⟨by kernel_rfl,by kernel_rfl⟩,?_⟩|refine ⟨by decide,?_⟩|apply τt|apply τf))
  intro c g1; cases c
  rotate_left
  · (repeat((conv=>whnf);first|apply ω0|apply ω1|apply ω2|refine τ3 rfl ?_|refine τ4 rfl ?_|refine ⟨rfl,?_⟩|apply τa|refine τb rfl ?_|refine ⟨⟨by kernel_rfl,by kernel_rfl⟩,?_⟩|refine ⟨by decide,?_⟩|apply τt|apply τf))
    have g1 : ((rs.length : Nat) : Int) > 40 := yes_of g1
    exact ret_tells rfl (le_bool (by show false = (decide (rs.length ≤ 40) && _); rw [decide_eq_false (by omega)]; rfl))
  have g1 : ¬ ((rs.length : Nat) : Int) > 40 := not_of g1
  have h40 : rs.length ≤ 40 := by omega
  (repeat((conv=>whnf);first|apply ω0|apply ω1|apply ω2|refine τ3 rfl ?_|refine τ4 rfl ?_|refine ⟨rfl,?_⟩|apply τa|refine τb rfl ?_|refine ⟨⟨by kernel_rfl,by kernel_rfl⟩,?_⟩|refine ⟨by decide,?_⟩|apply τt|apply τf))
  refine aw_loop (fun s : Nat × Nat => mk 33 [(1, .bp (0, nx) 0), (3, int s.1)] ⟨[((0, nx), .c [int k, int n, boolA x, ruls rs])], [], s.2, 1⟩) (fun s => s.1 ≤ rs.length ∧ ∀ j, j < s.1 → lightR (rs.getD j rul0) = true) (fun s => rs.length - s.1) ?_ ?_
  · exact ⟨(0, nx + 1), ⟨Nat.zero_le _, fun j h => absurd h (Nat.not_lt_zero _)⟩, ele_tell (pm := []) _ [] rfl rfl (List.Sublist.refl _) (List.Sublist.refl _) ⟨rfl, OwnLe.refl _, trivial⟩ trivial ⟨AVle.refl _, AVle.refl _, trivial⟩⟩
  · rintro ⟨i, nx2⟩ ⟨h3, h4⟩
    dsimp only at h3 h4
    (repeat((conv=>whnf);first|apply ω0|apply ω1|apply ω2|refine τ3 rfl ?_|refine τ4 rfl ?_|refine ⟨rfl,?_⟩|apply τa|refine τb rfl ?_|refine ⟨⟨by kernel_rfl,by kernel_rfl⟩,?_⟩|refine ⟨by decide,?_⟩|apply τt|apply τf))
    intro c h5; cases c
    · have h6 := not_of h5
      dsimp only at h6
      obtain rfl : i = rs.length := by omega
      (repeat((conv=>whnf);first|apply ω0|apply ω1|apply ω2|refine τ3 rfl ?_|refine τ4 rfl ?_|refine ⟨rfl,?_⟩|apply τa|refine τb rfl ?_|refine ⟨⟨by kernel_rfl,by kernel_rfl⟩,?_⟩|refine ⟨by decide,?_⟩|apply τt|apply τf))
      refine ret_tells rfl (le_bool ?_)
      show true = (decide (rs.length ≤ 40) && rs.all lightR)
      rw [decide_eq_true h40, Bool.true_and, eq_comm, List.all_eq_true]
      intro r hr
      obtain ⟨j, hj, rfl⟩ := List.getElem_of_mem hr
      have := h4 j hj
      simpa [List.getD, hj] using this
    · have h6 := yes_of h5
      dsimp only at h6
      have hi : i < rs.length := by omega
      have hbad : ∀ b : Bool, lightR (rs.getD i rul0) = false → false = lightP ⟨(k, n), x, rs⟩ := fun b hb => by
        show false = (decide (rs.length ≤ 40) && rs.all lightR)
        rw [decide_eq_true h40, Bool.true_and, eq_comm, List.all_eq_false]
        exact ⟨rs.getD i rul0, by simp [List.getD, hi], by rw [hb]; decide⟩
      (repeat((conv=>whnf);first|apply ω0|apply ω1|apply ω2|refine τ3 rfl ?_|refine τ4 rfl ?_|refine ⟨rfl,?_⟩|apply τa|refine τb rfl ?_|refine ⟨⟨by kernel_rfl,by kernel_rfl⟩,?_⟩|refine ⟨by decide,?_⟩|apply τt|apply τf))
      refine ⟨⟨by dsimp only; omega, by dsimp only; omega⟩, ?_⟩
      (repeat((conv=>whnf);first|apply ω0|apply ω1|apply ω2|refine τ3 rfl ?_|refine τ4 rfl ?_|refine ⟨rfl,?_⟩|apply τa|refine τb rfl ?_|refine ⟨⟨by kernel_rfl,by kernel_rfl⟩,?_⟩|refine ⟨by decide,?_⟩|apply τt|apply τf))
      intro c t1; cases c
      · have t1 : ¬ (((rs.getD i rul0).name.size : Nat) : Int) > 60 := not_of t1
        (repeat((conv=>whnf);first|apply ω0|apply ω1|apply ω2|refine τ3 rfl ?_|refine τ4 rfl ?_|refine ⟨rfl,?_⟩|apply τa|refine τb rfl ?_|refine ⟨⟨by kernel_rfl,by kernel_rfl⟩,?_⟩|refine ⟨by decide,?_⟩|apply τt|apply τf))
        refine ⟨⟨by dsimp only; omega, by dsimp only; omega⟩, ?_⟩
        (repeat((conv=>whnf);first|apply ω0|apply ω1|apply ω2|refine τ3 rfl ?_|refine τ4 rfl ?_|refine ⟨rfl,?_⟩|apply τa|refine τb rfl ?_|refine ⟨⟨by kernel_rfl,by kernel_rfl⟩,?_⟩|refine ⟨by decide,?_⟩|apply τt|apply τf))
        intro c t2; cases c
        · have t2 : ¬ (((rs.getD i rul0).conds.length : Nat) : Int) > 12 := not_of t2
          (repeat((conv=>whnf);first|apply ω0|apply ω1|apply ω2|refine τ3 rfl ?_|refine τ4 rfl ?_|refine ⟨rfl,?_⟩|apply τa|refine τb rfl ?_|refine ⟨⟨by kernel_rfl,by kernel_rfl⟩,?_⟩|refine ⟨by decide,?_⟩|apply τt|apply τf))
          refine back (i + 1, nx2) ⟨by dsimp only; omega, fun j hj => ?_⟩ (by dsimp only; omega) (ele_tell (pm := []) _ [] rfl rfl (List.Sublist.refl _) (List.Sublist.refl _) ⟨rfl, OwnLe.refl _, trivial⟩ trivial ⟨AVle.refl _, le_int (wrap_succ (by dsimp only; omega)), trivial⟩)
          dsimp only at hj
          rcases Nat.lt_or_ge j i with h | h
          · exact h4 j h
          · obtain rfl : j = i := by omega
            unfold lightR
            rw [decide_eq_true (by omega), decide_eq_true (by omega)]; rfl
        · have t2 : (((rs.getD i rul0).conds.length : Nat) : Int) > 12 := yes_of t2
          (repeat((conv=>whnf);first|apply ω0|apply ω1|apply ω2|refine τ3 rfl ?_|refine τ4 rfl ?_|refine ⟨rfl,?_⟩|apply τa|refine τb rfl ?_|refine ⟨⟨by kernel_rfl,by kernel_rfl⟩,?_⟩|refine ⟨by decide,?_⟩|apply τt|apply τf))
          exact ret_tells rfl (le_bool (hbad true (by unfold lightR; rw [decide_eq_false (p := (rs.getD i rul0).conds.length ≤ 12) (by omega), Bool.and_false])))
      · have t1 : (((rs.getD i rul0).name.size : Nat) : Int) > 60 := yes_of t1
        (repeat((conv=>whnf);first|apply ω0|apply ω1|apply ω2|refine τ3 rfl ?_|refine τ4 rfl ?_|refine ⟨rfl,?_⟩|apply τa|refine τb rfl ?_|refine ⟨⟨by kernel_rfl,by kernel_rfl⟩,?_⟩|refine ⟨by decide,?_⟩|apply τt|apply τf))
        exact ret_tells rfl (le_bool (hbad true (by unfold lightR; rw [decide_eq_false (p := (rs.getD i rul0).name.size ≤ 60) (by omega), Bool.false_and])))
end Go.Proofs.W

namespace Go.Proofs.W
open Go.Vl
set_option maxRecDepth 100000

theorem lightP_lens {p : Pol} (h : lightP p = true) : p.rules.length ≤ 40 ∧ ∀ r ∈ p.rules, r.name.size ≤ 60 ∧ r.conds.length ≤ 12 := by
  unfold lightP lightR at h
  simp only [Bool.and_eq_true, decide_eq_true_eq, List.all_eq_true] at h
  exact h
theorem sameR_self (r : Rul) : sameR r r = true := by unfold sameR; simp
theorem sameP_self (p : Pol) : sameP p p = true := by
  unfold sameP sameL
  rw [decide_eq_true rfl, decide_eq_true rfl, decide_eq_true rfl]
  simp only [Bool.true_and, List.all_eq_true]
  exact fun j _ => sameR_self _
theorem norm_ok {p : Pol} (hp : p.ok) : (normP p).ok := by
  refine ⟨Nat.le_trans (out_len p.dflt p.rules) hp.1, fun n hn => ?_⟩
  obtain ⟨r, hr, hN⟩ := out_mem hn
  obtain ⟨h1, h2, h3⟩ := hp.2 r hr
  obtain ⟨c1, c2, c3⟩ := normR_conds hN
  exact ⟨by rw [c2]; exact h1, Nat.le_trans c1 h2, (normR_again hN).2.2 h3⟩
theorem norm_len {p : Pol} : (normP p).rules.length ≤ p.rules.length := out_len p.dflt p.rules
theorem norm_cl {p : Pol} {k : Nat} (h : ∀ r ∈ p.rules, r.conds.length ≤ k) : ∀ r ∈ (normP p).rules, r.conds.length ≤ k := fun n hn => by
  obtain ⟨r, hr, hN⟩ := out_mem hn
  exact Nat.le_trans (normR_conds hN).1 (h r hr)
set_option maxHeartbeats 4000000 in
theorem normagain_law (p : Pol) (hp : p.ok) : Tells Tryz.prog 8 [polA p] (boolA true) := by
  have hli := light_l16 p hp.1
  refine tells_of_aw Tryz.func8 rfl rfl fun nx => ?_
  cases hb : lightP p with
  | false =>
    rw [hb] at hli
    (repeat((conv=>whnf);first|apply ω0|apply ω1|apply ω2|refine τ3 rfl ?_|refine τ4 rfl ?_|refine ⟨rfl,?_⟩|apply τa|refine τb rfl ?_|refine ⟨⟨by kernel_rfl,by kernel_rfl⟩,?_⟩|refine ⟨by decide,?_⟩|apply τt|apply τf))
    refine splitO_eq (b := polA p) rfl ?_
    (repeat((conv=>whnf);first|apply ω0|apply ω1|apply ω2|refine τ3 rfl ?_|refine τ4 rfl ?_|refine ⟨rfl,?_⟩|apply τa|refine τb rfl ?_|refine ⟨⟨by kernel_rfl,by kernel_rfl⟩,?_⟩|refine ⟨by decide,?_⟩|apply τt|apply τf))
    refine aop_tells rfl rfl hli ⟨AVle.refl _, trivial⟩ fun nx2 => ?_
    (repeat((conv=>whnf);first|apply ω0|apply ω1|apply ω2|refine τ3 rfl ?_|refine τ4 rfl ?_|refine ⟨rfl,?_⟩|apply τa|refine τb rfl ?_|refine ⟨⟨by kernel_rfl,by kernel_rfl⟩,?_⟩|refine ⟨by decide,?_⟩|apply τt|apply τf))
    exact ret_tells rfl (AVle.refl _)
  | true =>
    rw [hb] at hli
    obtain ⟨hl, hc⟩ := lightP_lens hb
    have hof := pol_l16 p (by omega) (fun r hr => by have := (hc r hr).2; omega)
    have h16 := policy16_spec p hp
    have hq := policy16_spec (normP p) (norm_ok hp)
    have hpr := pright_spec (normP p) (norm_ok hp)
    have hnl := norm_len (p := p)
    have hsm := same_spec14 (normP p) (normP p) (by omega) (fun r hr => by have := norm_cl (p := p) (k := 12) (fun r hr => (hc r hr).2) r hr; omega)
    rw [sameP_self] at hsm
    cases hr : rightP p with
    | false =>
      have e : normA p = .tup [polA pol0, int 13] := by unfold normA; rw [hr]; rfl
      rw [e] at h16
      (repeat((conv=>whnf);first|apply ω0|apply ω1|apply ω2|refine τ3 rfl ?_|refine τ4 rfl ?_|refine ⟨rfl,?_⟩|apply τa|refine τb rfl ?_|refine ⟨⟨by kernel_rfl,by kernel_rfl⟩,?_⟩|refine ⟨by decide,?_⟩|apply τt|apply τf))
      refine splitO_eq (b := polA p) rfl ?_
      (repeat((conv=>whnf);first|apply ω0|apply ω1|apply ω2|refine τ3 rfl ?_|refine τ4 rfl ?_|refine ⟨rfl,?_⟩|apply τa|refine τb rfl ?_|refine ⟨⟨by kernel_rfl,by kernel_rfl⟩,?_⟩|refine ⟨by decide,?_⟩|apply τt|apply τf))
      refine aop_tells rfl rfl hli ⟨AVle.refl _, trivial⟩ fun nx2 => ?_
      (repeat((conv=>whnf);first|apply ω0|apply ω1|apply ω2|refine τ3 rfl ?_|refine τ4 rfl ?_|refine ⟨rfl,?_⟩|apply τa|refine τb rfl ?_|refine ⟨⟨by kernel_rfl,by kernel_rfl⟩,?_⟩|refine ⟨by decide,?_⟩|apply τt|apply τf))
      refine splitO_eq (b := polA p) rfl ?_
      (repeat((conv=>whnf);first|apply ω0|apply ω1|apply ω2|refine τ3 rfl ?_|refine τ4 rfl ?_|refine ⟨rfl,?_⟩|apply τa|refine τb rfl ?_|refine ⟨⟨by kernel_rfl,by kernel_rfl⟩,?_⟩|refine ⟨by decide,?_⟩|apply τt|apply τf))
      refine aop_tells rfl rfl hof ⟨AVle.refl _, trivial⟩ fun nx3 => ?_
      (repeat((conv=>whnf);first|apply ω0|apply ω1|apply ω2|refine τ3 rfl ?_|refine τ4 rfl ?_|refine ⟨rfl,?_⟩|apply τa|refine τb rfl ?_|refine ⟨⟨by kernel_rfl,by kernel_rfl⟩,?_⟩|refine ⟨by decide,?_⟩|apply τt|apply τf))
      refine aop_tells rfl rfl h16 ⟨AVle.refl _, trivial⟩ fun nx4 => ?_
      (repeat((conv=>whnf);first|apply ω0|apply ω1|apply ω2|refine τ3 rfl ?_|refine τ4 rfl ?_|refine ⟨rfl,?_⟩|apply τa|refine τb rfl ?_|refine ⟨⟨by kernel_rfl,by kernel_rfl⟩,?_⟩|refine ⟨by decide,?_⟩|apply τt|apply τf))
      refine aop_tells rfl rfl awake16_spec trivial fun nx5 => ?_
      (repeat((conv=>whnf);first|apply ω0|apply ω1|apply ω2|refine τ3 rfl ?_|refine τ4 rfl ?_|refine ⟨rfl,?_⟩|apply τa|refine τb rfl ?_|refine ⟨⟨by kernel_rfl,by kernel_rfl⟩,?_⟩|refine ⟨by decide,?_⟩|apply τt|apply τf))
      exact ret_tells rfl (AVle.refl _)
    | true =>
      have e : normA p = .tup [polA (normP p), int 0] := by unfold normA; rw [hr]; rfl
      have hrn := norm_right hr
      have e2 : normA (normP p) = .tup [polA (normP p), int 0] := by unfold normA; rw [hrn, norm_again]; rfl
      rw [e] at h16
      rw [e2] at hq
      rw [hrn] at hpr
      generalize normP p = n at *
      (repeat((conv=>whnf);first|apply ω0|apply ω1|apply ω2|refine τ3 rfl ?_|refine τ4 rfl ?_|refine ⟨rfl,?_⟩|apply τa|refine τb rfl ?_|refine ⟨⟨by kernel_rfl,by kernel_rfl⟩,?_⟩|refine ⟨by decide,?_⟩|apply τt|apply τf))
      refine splitO_eq (b := polA p) rfl ?_
      (repeat((conv=>whnf);first|apply ω0|apply ω1|apply ω2|refine τ3 rfl ?_|refine τ4 rfl ?_|refine ⟨rfl,?_⟩|apply τa|refine τb rfl ?_|refine ⟨⟨by kernel_rfl,by kernel_rfl⟩,?_⟩|refine ⟨by decide,?_⟩|apply τt|apply τf))
      refine aop_tells rfl rfl hli ⟨AVle.refl _, trivial⟩ fun nx2 => ?_
      (repeat((conv=>whnf);first|apply ω0|apply ω1|apply ω2|refine τ3 rfl ?_|refine τ4 rfl ?_|refine ⟨rfl,?_⟩|apply τa|refine τb rfl ?_|refine ⟨⟨by kernel_rfl,by kernel_rfl⟩,?_⟩|refine ⟨by decide,?_⟩|apply τt|apply τf))
      refine splitO_eq (b := polA p) rfl ?_
      (repeat((conv=>whnf);first|apply ω0|apply ω1|apply ω2|refine τ3 rfl ?_|refine τ4 rfl ?_|refine ⟨rfl,?_⟩|apply τa|refine τb rfl ?_|refine ⟨⟨by kernel_rfl,by kernel_rfl⟩,?_⟩|refine ⟨by decide,?_⟩|apply τt|apply τf))
      refine aop_tells rfl rfl hof ⟨AVle.refl _, trivial⟩ fun nx3 => ?_
      (repeat((conv=>whnf);first|apply ω0|apply ω1|apply ω2|refine τ3 rfl ?_|refine τ4 rfl ?_|refine ⟨rfl,?_⟩|apply τa|refine τb rfl ?_|refine ⟨⟨by kernel_rfl,by kernel_rfl⟩,?_⟩|refine ⟨by decide,?_⟩|apply τt|apply τf))
      refine aop_tells rfl rfl h16 ⟨AVle.refl _, trivial⟩ fun nx4 => ?_
      (repeat((conv=>whnf);first|apply ω0|apply ω1|apply ω2|refine τ3 rfl ?_|refine τ4 rfl ?_|refine ⟨rfl,?_⟩|apply τa|refine τb rfl ?_|refine ⟨⟨by kernel_rfl,by kernel_rfl⟩,?_⟩|refine ⟨by decide,?_⟩|apply τt|apply τf))
      refine splitO_eq (b := polA n) rfl ?_
      (repeat((conv=>whnf);first|apply ω0|apply ω1|apply ω2|refine τ3 rfl ?_|refine τ4 rfl ?_|refine ⟨rfl,?_⟩|apply τa|refine τb rfl ?_|refine ⟨⟨by kernel_rfl,by kernel_rfl⟩,?_⟩|refine ⟨by decide,?_⟩|apply τt|apply τf))
      refine aop_tells rfl rfl hq ⟨AVle.refl _, trivial⟩ fun nx5 => ?_
      (repeat((conv=>whnf);first|apply ω0|apply ω1|apply ω2|refine τ3 rfl ?_|refine τ4 rfl ?_|refine ⟨rfl,?_⟩|apply τa|refine τb rfl ?_|refine ⟨⟨by kernel_rfl,by kernel_rfl⟩,?_⟩|refine ⟨by decide,?_⟩|apply τt|apply τf))
      refine splitO_eq (b := polA n) rfl ?_
      (repeat((conv=>whnf);first|apply ω0|apply ω1|apply ω2|refine τ3 rfl ?_|refine τ4 rfl ?_|refine ⟨rfl,?_⟩|apply τa|refine τb rfl ?_|refine ⟨⟨by kernel_rfl,by kernel_rfl⟩,?_⟩|refine ⟨by decide,?_⟩|apply τt|apply τf))
      refine aop_tells rfl rfl hsm ⟨AVle.refl _, AVle.refl _, trivial⟩ fun nx6 => ?_
      intro c hc
      have hc2 : c = true := hc
      clear hc; subst hc2
      (repeat((conv=>whnf);first|apply ω0|apply ω1|apply ω2|refine τ3 rfl ?_|refine τ4 rfl ?_|refine ⟨rfl,?_⟩|apply τa|refine τb rfl ?_|refine ⟨⟨by kernel_rfl,by kernel_rfl⟩,?_⟩|refine ⟨by decide,?_⟩|apply τt|apply τf))
      refine aop_tells rfl rfl hpr ⟨AVle.refl _, trivial⟩ fun nx7 => ?_
      intro c hc
      have hc2 : c = true := hc
      clear hc; subst hc2
      (repeat((conv=>whnf);first|apply ω0|apply ω1|apply ω2|refine τ3 rfl ?_|refine τ4 rfl ?_|refine ⟨rfl,?_⟩|apply τa|refine τb rfl ?_|refine ⟨⟨by kernel_rfl,by kernel_rfl⟩,?_⟩|refine ⟨by decide,?_⟩|apply τt|apply τf))
      intro c hc
      have hc2 : c = true := hc.trans (decide_eq_true (by omega))
      clear hc; subst hc2
      (repeat((conv=>whnf);first|apply ω0|apply ω1|apply ω2|refine τ3 rfl ?_|refine τ4 rfl ?_|refine ⟨rfl,?_⟩|apply τa|refine τb rfl ?_|refine ⟨⟨by kernel_rfl,by kernel_rfl⟩,?_⟩|refine ⟨by decide,?_⟩|apply τt|apply τf))
      refine aop_tells rfl rfl awake16_spec trivial fun nx8 => ?_
      intro c hc
      have hc2 : c = true := hc
      clear hc; subst hc2
      (repeat((conv=>whnf);first|apply ω0|apply ω1|apply ω2|refine τ3 rfl ?_|refine τ4 rfl ?_|refine ⟨rfl,?_⟩|apply τa|refine τb rfl ?_|refine ⟨⟨by kernel_rfl,by kernel_rfl⟩,?_⟩|refine ⟨by decide,?_⟩|apply τt|apply τf))
      exact ret_tells rfl (AVle.refl _)
end Go.Proofs.W

namespace Go.Proofs.W
open Go.Vl
set_option maxRecDepth 100000

theorem lawrul (F : AV) (s : ByteArray) (d : A2) (h : AVle F (cnds [])) : LeL [strA s, int d.1, int d.2, F] [strA s, int d.1, int d.2, cnds []] := ⟨AVle.refl _, AVle.refl _, AVle.refl _, h, trivial⟩
/-- A row, told element by element, each by its cells. -/
theorem le_rows {n : Nat} {F : Nat → AV} {L : List Rul} {oi : Option Vl.Id} (hn : n = L.length) (hF : ∀ k, k < n → ∃ cs, F k = .ag cs ∧ LeL cs (rulC4 (L.getD k rul0))) : AVle (.os 4 n F oi) (ruls L) := by
  subst hn
  refine AVle.os_sl.trans (AVle.sl_congr (fun k hk => ?_) (fun k hk hc => ?_))
  · obtain ⟨cs, h1, h2⟩ := hF k hk
    rw [h1]; exact AVle.ags h2
  · obtain ⟨cs, h1, h2⟩ := hF k hk
    rw [h1] at hc ⊢
    exact ⟨rfl, fun j c c' hj hj' => h2.get.2 j c c' hj hj'⟩
theorem le_app2 {L : List Rul} {s : ByteArray} {d : A2} {m : Nat} {f : Nat → AV} {f'' : Nat → AV} {x : AV} {oi : Option Vl.Id} (hm : m = L.length) (h : f'' 0 = .ag [strA s, int d.1, int d.2, x]) (hx : AVle x (cnds [])) :
    AVle (.os 4 (0 + m + 1) (appF (0 + m) (appF 0 f (fun k => rulA (L.getD k rul0))) f'') oi) (ruls (L ++ [⟨s, d, []⟩])) := by
  subst hm
  rw [Nat.zero_add]
  refine le_rows (by simp) fun k hk => ?_
  by_cases hk2 : k < L.length
  · refine ⟨rulC4 (L.getD k rul0), ?_, ?_⟩
    · unfold appF
      rw [show Nat.blt k L.length = true from Nat.ble_eq_true_of_le hk2]
      rfl
    · rw [show (L ++ [(⟨s, d, []⟩ : Rul)]).getD k rul0 = L.getD k rul0 by simp [List.getD, List.getElem?_append_left hk2]]
      exact LeL.refl _
  · have hk3 : k = L.length := by omega
    subst hk3
    refine ⟨[strA s, int d.1, int d.2, x], ?_, ?_⟩
    · unfold appF
      rw [show Nat.blt L.length L.length = false from by cases hb : Nat.blt L.length L.length with | false => rfl | true => exact absurd (Nat.le_of_ble_eq_true hb) (by omega)]
      rw [Nat.sub_self]; exact h
    · rw [show (L ++ [(⟨s, d, []⟩ : Rul)]).getD L.length rul0 = ⟨s, d, []⟩ by simp [List.getD]]
      exact lawrul x s d hx
theorem le_app1 {s : ByteArray} {d : A2} {f : Nat → AV} {f'' : Nat → AV} {x : AV} {oi : Option Vl.Id} (h : f'' 0 = .ag [strA s, int d.1, int d.2, x]) (hx : AVle x (cnds [])) : AVle (.os 4 (0 + 1) (appF 0 f f'') oi) (ruls ([] ++ [⟨s, d, []⟩])) := by
  refine le_rows rfl fun k hk => ?_
  obtain rfl : k = 0 := by omega
  exact ⟨[strA s, int d.1, int d.2, x], h, lawrul x s d hx⟩
def dropsY (p : Pol) (s : ByteArray) : Pol := ⟨p.dflt, p.x32, p.rules ++ [⟨s, p.dflt, []⟩]⟩
set_option maxHeartbeats 4000000 in
theorem normdrops_law (p : Pol) (s : ByteArray) (hp : p.ok) (hs : s.size ≤ maxLen) : Tells Tryz.prog 10 [polA p, strA s] (boolA true) := by
  have hli := light_l16 p hp.1
  refine tells_of_aw Tryz.func10 rfl rfl fun nx => ?_
  cases hb : lightP p with
  | false =>
    rw [hb] at hli
    (repeat((conv=>whnf);first|apply ω0|apply ω1|apply ω2|refine τ3 rfl ?_|refine τ4 rfl ?_|refine ⟨rfl,?_⟩|apply τa|refine τb rfl ?_|refine ⟨⟨by kernel_rfl,by kernel_rfl⟩,?_⟩|refine ⟨by decide,?_⟩|apply τt|apply τf))
    refine splitO_eq (b := polA p) rfl ?_
    (repeat((conv=>whnf);first|apply ω0|apply ω1|apply ω2|refine τ3 rfl ?_|refine τ4 rfl ?_|refine ⟨rfl,?_⟩|apply τa|refine τb rfl ?_|refine ⟨⟨by kernel_rfl,by kernel_rfl⟩,?_⟩|refine ⟨by decide,?_⟩|apply τt|apply τf))
    refine aop_tells rfl rfl hli ⟨AVle.refl _, trivial⟩ fun nx2 => ?_
    (repeat((conv=>whnf);first|apply ω0|apply ω1|apply ω2|refine τ3 rfl ?_|refine τ4 rfl ?_|refine ⟨rfl,?_⟩|apply τa|refine τb rfl ?_|refine ⟨⟨by kernel_rfl,by kernel_rfl⟩,?_⟩|refine ⟨by decide,?_⟩|apply τt|apply τf))
    exact ret_tells rfl (AVle.refl _)
  | true =>
    rw [hb] at hli
    obtain ⟨hl, hc⟩ := lightP_lens hb
    have hof := pol_l16 p (by omega) (fun r hr => by have := (hc r hr).2; omega)
    by_cases h39 : p.rules.length ≤ 39
    · by_cases h60 : s.size ≤ 60
      · have hyok : (dropsY p s).ok := ⟨by show (p.rules ++ _).length ≤ _; have : 40 ≤ maxLen := by decide
                                           simp; omega, fun r hr => by
            rcases List.mem_append.1 hr with hr | hr
            · exact hp.2 r hr
            · rw [List.mem_singleton.1 hr]; exact ⟨hs, Nat.zero_le _, by simp⟩⟩
        have h16 := policy16_spec p hp
        have hy16 := policy16_spec (dropsY p s) hyok
        have hnl := norm_len (p := p)
        have hsm := same_spec14 (normP p) (normP p) (by omega) (fun r hr => by have := norm_cl (p := p) (k := 12) (fun r hr => (hc r hr).2) r hr; omega)
        rw [sameP_self] at hsm
        (repeat((conv=>whnf);first|apply ω0|apply ω1|apply ω2|refine τ3 rfl ?_|refine τ4 rfl ?_|refine ⟨rfl,?_⟩|apply τa|refine τb rfl ?_|refine ⟨⟨by kernel_rfl,by kernel_rfl⟩,?_⟩|refine ⟨by decide,?_⟩|apply τt|apply τf))
        refine splitO_eq (b := polA p) rfl ?_
        (repeat((conv=>whnf);first|apply ω0|apply ω1|apply ω2|refine τ3 rfl ?_|refine τ4 rfl ?_|refine ⟨rfl,?_⟩|apply τa|refine τb rfl ?_|refine ⟨⟨by kernel_rfl,by kernel_rfl⟩,?_⟩|refine ⟨by decide,?_⟩|apply τt|apply τf))
        refine aop_tells rfl rfl hli ⟨AVle.refl _, trivial⟩ fun nx2 => ?_
        (repeat((conv=>whnf);first|apply ω0|apply ω1|apply ω2|refine τ3 rfl ?_|refine τ4 rfl ?_|refine ⟨rfl,?_⟩|apply τa|refine τb rfl ?_|refine ⟨⟨by kernel_rfl,by kernel_rfl⟩,?_⟩|refine ⟨by decide,?_⟩|apply τt|apply τf))
        intro c hc
        have hc2 : c = false := hc.trans (decide_eq_false (by omega))
        clear hc; subst hc2
        (repeat((conv=>whnf);first|apply ω0|apply ω1|apply ω2|refine τ3 rfl ?_|refine τ4 rfl ?_|refine ⟨rfl,?_⟩|apply τa|refine τb rfl ?_|refine ⟨⟨by kernel_rfl,by kernel_rfl⟩,?_⟩|refine ⟨by decide,?_⟩|apply τt|apply τf))
        intro c hc
        have hc2 : c = false := hc.trans (decide_eq_false (by omega))
        clear hc; subst hc2
        (repeat((conv=>whnf);first|apply ω0|apply ω1|apply ω2|refine τ3 rfl ?_|refine τ4 rfl ?_|refine ⟨rfl,?_⟩|apply τa|refine τb rfl ?_|refine ⟨⟨by kernel_rfl,by kernel_rfl⟩,?_⟩|refine ⟨by decide,?_⟩|apply τt|apply τf))
        refine splitO_eq (b := polA p) rfl ?_
        (repeat((conv=>whnf);first|apply ω0|apply ω1|apply ω2|refine τ3 rfl ?_|refine τ4 rfl ?_|refine ⟨rfl,?_⟩|apply τa|refine τb rfl ?_|refine ⟨⟨by kernel_rfl,by kernel_rfl⟩,?_⟩|refine ⟨by decide,?_⟩|apply τt|apply τf))
        refine aop_tells rfl rfl hof ⟨AVle.refl _, trivial⟩ fun nx3 => ?_
        (repeat((conv=>whnf);first|apply ω0|apply ω1|apply ω2|refine τ3 rfl ?_|refine τ4 rfl ?_|refine ⟨rfl,?_⟩|apply τa|refine τb rfl ?_|refine ⟨⟨by kernel_rfl,by kernel_rfl⟩,?_⟩|refine ⟨by decide,?_⟩|apply τt|apply τf))
        refine aw_mid (fun nx4 : Nat => mk 62 [(5, .bp (1, nx3) 0), (6, .bp (2, nx3 + 1) 0)] ⟨[((2, nx3 + 1), .c (polC (dropsY p s))), ((1, nx3), .c (polC p))], [], nx4, 3⟩) (fun _ => True) ?_ ?_
        · refine aw_mixN 10 _ (fun i => match i with | 3 => true | 9 => true | _ => false) (fun _ => false) [0, 1, 2, 4, 5, 6, 7, 8, 3, 9] (by kernel_rfl) (by kernel_rfl) (HB.refl _) ?_
          (repeat((conv=>whnf);first|apply ω0|apply ω1|apply ω2|refine τ3 rfl ?_|refine τ4 rfl ?_|refine ⟨rfl,?_⟩|apply τa|refine τb rfl ?_|refine ⟨⟨by kernel_rfl,by kernel_rfl⟩,?_⟩|refine ⟨by decide,?_⟩|apply τt|apply τf))
          refine splitV_eq (b := actP p.dflt) rfl ?_
          (repeat((conv=>whnf);first|apply ω0|apply ω1|apply ω2|refine τ3 rfl ?_|refine τ4 rfl ?_|refine ⟨rfl,?_⟩|apply τa|refine τb rfl ?_|refine ⟨⟨by kernel_rfl,by kernel_rfl⟩,?_⟩|refine ⟨by decide,?_⟩|apply τt|apply τf))
          refine ⟨_, eff_append (e := 47) (n := 0) (oi := none) (sz := 4) (m := p.rules.length) (szx := 4) (f' := fun k => rulA (p.rules.getD k rul0)) (HB.refl _) rfl rfl rfl (.inl rfl) Tryz.underlying33 gr_rul (.inl ⟨rfl, rfl⟩) (.inr gc_rul.symm) (fun i h => by cases h) (fun k _ => one_rul _) (fun _ => by rw [gb_rul]; omega) (fun _ => by omega), fun r h' hr => ?_⟩
          rcases hr with ⟨hm, rfl, rfl⟩ | ⟨hm, rfl, rfl⟩
          · have hnil : p.rules = [] := List.eq_nil_of_length_eq_zero hm
            (repeat((conv=>whnf);first|apply ω0|apply ω1|apply ω2|refine τ3 rfl ?_|refine τ4 rfl ?_|refine ⟨rfl,?_⟩|apply τa|refine τb rfl ?_|refine ⟨⟨by kernel_rfl,by kernel_rfl⟩,?_⟩|refine ⟨by decide,?_⟩|apply τt|apply τf))
            refine ⟨_, eff_append (e := 47) (n := 0) (oi := none) (sz := 4) (f := _) (m := 1) (szx := 4) (HB.refl _) rfl rfl rfl (.inr ⟨_, rfl⟩) Tryz.underlying33 gr_rul (.inr gc_rul.symm) (.inr gc_rul.symm) (fun i h => by cases h) (oneRow_one rfl) (fun _ => by rw [gb_rul]; omega) (fun _ => by omega), fun r h' hr => ?_⟩
            rcases hr with ⟨hr, -⟩ | ⟨-, rfl, rfl⟩
            · exact absurd hr (by decide)
            (repeat((conv=>whnf);first|apply ω0|apply ω1|apply ω2|refine τ3 rfl ?_|refine τ4 rfl ?_|refine ⟨rfl,?_⟩|apply τa|refine τb rfl ?_|refine ⟨⟨by kernel_rfl,by kernel_rfl⟩,?_⟩|refine ⟨by decide,?_⟩|apply τt|apply τf))
            exact ⟨nx3 + 2 + 1, trivial, (ele_tell (pm := []) (bx := [((2, nx3 + 1), .c (polC (dropsY p s))), ((1, nx3), .c (polC p))]) _ [] rfl rfl (.cons_cons _ (.cons_cons _ (.cons _ .slnil))) (List.nil_sublist _) ⟨rfl, ⟨AVle.refl _, AVle.refl _, AVle.refl _, (by rw [show (dropsY p s).rules = [] ++ [⟨s, p.dflt, []⟩] by unfold dropsY; rw [hnil]]; exact le_app1 rfl AVle.os_sl0), trivial⟩, BxLe.refl _⟩ trivial ⟨AVle.refl _, AVle.refl _, trivial⟩)⟩
          · (repeat((conv=>whnf);first|apply ω0|apply ω1|apply ω2|refine τ3 rfl ?_|refine τ4 rfl ?_|refine ⟨rfl,?_⟩|apply τa|refine τb rfl ?_|refine ⟨⟨by kernel_rfl,by kernel_rfl⟩,?_⟩|refine ⟨by decide,?_⟩|apply τt|apply τf))
            refine ⟨_, eff_append (e := 47) (n := 0 + p.rules.length) (oi := some (3, nx3 + 2)) (sz := 4) (f := _) (m := 1) (szx := 4) (HB.refl _) rfl rfl rfl (.inr ⟨_, rfl⟩) Tryz.underlying33 gr_rul (.inr gc_rul.symm) (.inr gc_rul.symm) (fun i h => by cases h; rw [gc_rul]; rfl) (oneRow_one rfl) (fun _ => by rw [gb_rul]; omega) (fun _ => by omega), fun r h' hr => ?_⟩
            rcases hr with ⟨hr, -⟩ | ⟨-, rfl, rfl⟩
            · exact absurd hr (by decide)
            (repeat((conv=>whnf);first|apply ω0|apply ω1|apply ω2|refine τ3 rfl ?_|refine τ4 rfl ?_|refine ⟨rfl,?_⟩|apply τa|refine τb rfl ?_|refine ⟨⟨by kernel_rfl,by kernel_rfl⟩,?_⟩|refine ⟨by decide,?_⟩|apply τt|apply τf))
            exact ⟨nx3 + 2 + 1 + 1, trivial, (ele_tell (pm := []) (bx := [((2, nx3 + 1), .c (polC (dropsY p s))), ((1, nx3), .c (polC p))]) _ [] rfl rfl (.cons_cons _ (.cons_cons _ (.cons _ .slnil))) (List.nil_sublist _) ⟨rfl, ⟨AVle.refl _, AVle.refl _, AVle.refl _, le_app2 rfl rfl AVle.os_sl0, trivial⟩, BxLe.refl _⟩ trivial ⟨AVle.refl _, AVle.refl _, trivial⟩)⟩
        · rintro nx4 -
          cases hr : rightP p with
          | false =>
            have e : normA p = .tup [polA pol0, int 13] := by unfold normA; rw [hr]; rfl
            rw [e] at h16
            cases hry : rightP (dropsY p s) with
            | false =>
              have e2 : normA (dropsY p s) = .tup [polA pol0, int 13] := by unfold normA; rw [hry]; rfl
              rw [e2] at hy16
              (repeat((conv=>whnf);first|apply ω0|apply ω1|apply ω2|refine τ3 rfl ?_|refine τ4 rfl ?_|refine ⟨rfl,?_⟩|apply τa|refine τb rfl ?_|refine ⟨⟨by kernel_rfl,by kernel_rfl⟩,?_⟩|refine ⟨by decide,?_⟩|apply τt|apply τf))
              refine splitO_eq (b := polA p) rfl ?_
              (repeat((conv=>whnf);first|apply ω0|apply ω1|apply ω2|refine τ3 rfl ?_|refine τ4 rfl ?_|refine ⟨rfl,?_⟩|apply τa|refine τb rfl ?_|refine ⟨⟨by kernel_rfl,by kernel_rfl⟩,?_⟩|refine ⟨by decide,?_⟩|apply τt|apply τf))
              refine aop_tells rfl rfl h16 ⟨AVle.refl _, trivial⟩ fun nx5 => ?_
              (repeat((conv=>whnf);first|apply ω0|apply ω1|apply ω2|refine τ3 rfl ?_|refine τ4 rfl ?_|refine ⟨rfl,?_⟩|apply τa|refine τb rfl ?_|refine ⟨⟨by kernel_rfl,by kernel_rfl⟩,?_⟩|refine ⟨by decide,?_⟩|apply τt|apply τf))
              refine splitO_eq (b := polA (dropsY p s)) rfl ?_
              (repeat((conv=>whnf);first|apply ω0|apply ω1|apply ω2|refine τ3 rfl ?_|refine τ4 rfl ?_|refine ⟨rfl,?_⟩|apply τa|refine τb rfl ?_|refine ⟨⟨by kernel_rfl,by kernel_rfl⟩,?_⟩|refine ⟨by decide,?_⟩|apply τt|apply τf))
              refine aop_tells rfl rfl hy16 ⟨AVle.refl _, trivial⟩ fun nx6 => ?_
              (repeat((conv=>whnf);first|apply ω0|apply ω1|apply ω2|refine τ3 rfl ?_|refine τ4 rfl ?_|refine ⟨rfl,?_⟩|apply τa|refine τb rfl ?_|refine ⟨⟨by kernel_rfl,by kernel_rfl⟩,?_⟩|refine ⟨by decide,?_⟩|apply τt|apply τf))
              refine aop_tells rfl rfl awake16_spec trivial fun nx8 => ?_
              (repeat((conv=>whnf);first|apply ω0|apply ω1|apply ω2|refine τ3 rfl ?_|refine τ4 rfl ?_|refine ⟨rfl,?_⟩|apply τa|refine τb rfl ?_|refine ⟨⟨by kernel_rfl,by kernel_rfl⟩,?_⟩|refine ⟨by decide,?_⟩|apply τt|apply τf))
              exact ret_tells rfl (AVle.refl _)
            | true =>
              have e2 : normA (dropsY p s) = .tup [polA (normP (dropsY p s)), int 0] := by unfold normA; rw [hry]; rfl
              rw [e2] at hy16
              (repeat((conv=>whnf);first|apply ω0|apply ω1|apply ω2|refine τ3 rfl ?_|refine τ4 rfl ?_|refine ⟨rfl,?_⟩|apply τa|refine τb rfl ?_|refine ⟨⟨by kernel_rfl,by kernel_rfl⟩,?_⟩|refine ⟨by decide,?_⟩|apply τt|apply τf))
              refine splitO_eq (b := polA p) rfl ?_
              (repeat((conv=>whnf);first|apply ω0|apply ω1|apply ω2|refine τ3 rfl ?_|refine τ4 rfl ?_|refine ⟨rfl,?_⟩|apply τa|refine τb rfl ?_|refine ⟨⟨by kernel_rfl,by kernel_rfl⟩,?_⟩|refine ⟨by decide,?_⟩|apply τt|apply τf))
              refine aop_tells rfl rfl h16 ⟨AVle.refl _, trivial⟩ fun nx5 => ?_
              (repeat((conv=>whnf);first|apply ω0|apply ω1|apply ω2|refine τ3 rfl ?_|refine τ4 rfl ?_|refine ⟨rfl,?_⟩|apply τa|refine τb rfl ?_|refine ⟨⟨by kernel_rfl,by kernel_rfl⟩,?_⟩|refine ⟨by decide,?_⟩|apply τt|apply τf))
              refine splitO_eq (b := polA (dropsY p s)) rfl ?_
              (repeat((conv=>whnf);first|apply ω0|apply ω1|apply ω2|refine τ3 rfl ?_|refine τ4 rfl ?_|refine ⟨rfl,?_⟩|apply τa|refine τb rfl ?_|refine ⟨⟨by kernel_rfl,by kernel_rfl⟩,?_⟩|refine ⟨by decide,?_⟩|apply τt|apply τf))
              refine aop_tells rfl rfl hy16 ⟨AVle.refl _, trivial⟩ fun nx6 => ?_
              (repeat((conv=>whnf);first|apply ω0|apply ω1|apply ω2|refine τ3 rfl ?_|refine τ4 rfl ?_|refine ⟨rfl,?_⟩|apply τa|refine τb rfl ?_|refine ⟨⟨by kernel_rfl,by kernel_rfl⟩,?_⟩|refine ⟨by decide,?_⟩|apply τt|apply τf))
              refine aop_tells rfl rfl awake16_spec trivial fun nx8 => ?_
              (repeat((conv=>whnf);first|apply ω0|apply ω1|apply ω2|refine τ3 rfl ?_|refine τ4 rfl ?_|refine ⟨rfl,?_⟩|apply τa|refine τb rfl ?_|refine ⟨⟨by kernel_rfl,by kernel_rfl⟩,?_⟩|refine ⟨by decide,?_⟩|apply τt|apply τf))
              exact ret_tells rfl (AVle.refl _)
          | true =>
            have e : normA p = .tup [polA (normP p), int 0] := by unfold normA; rw [hr]; rfl
            rw [e] at h16
            cases hry : rightP (dropsY p s) with
            | false =>
              have e2 : normA (dropsY p s) = .tup [polA pol0, int 13] := by unfold normA; rw [hry]; rfl
              rw [e2] at hy16
              (repeat((conv=>whnf);first|apply ω0|apply ω1|apply ω2|refine τ3 rfl ?_|refine τ4 rfl ?_|refine ⟨rfl,?_⟩|apply τa|refine τb rfl ?_|refine ⟨⟨by kernel_rfl,by kernel_rfl⟩,?_⟩|refine ⟨by decide,?_⟩|apply τt|apply τf))
              refine splitO_eq (b := polA p) rfl ?_
              (repeat((conv=>whnf);first|apply ω0|apply ω1|apply ω2|refine τ3 rfl ?_|refine τ4 rfl ?_|refine ⟨rfl,?_⟩|apply τa|refine τb rfl ?_|refine ⟨⟨by kernel_rfl,by kernel_rfl⟩,?_⟩|refine ⟨by decide,?_⟩|apply τt|apply τf))
              refine aop_tells rfl rfl h16 ⟨AVle.refl _, trivial⟩ fun nx5 => ?_
              (repeat((conv=>whnf);first|apply ω0|apply ω1|apply ω2|refine τ3 rfl ?_|refine τ4 rfl ?_|refine ⟨rfl,?_⟩|apply τa|refine τb rfl ?_|refine ⟨⟨by kernel_rfl,by kernel_rfl⟩,?_⟩|refine ⟨by decide,?_⟩|apply τt|apply τf))
              refine splitO_eq (b := polA (dropsY p s)) rfl ?_
              (repeat((conv=>whnf);first|apply ω0|apply ω1|apply ω2|refine τ3 rfl ?_|refine τ4 rfl ?_|refine ⟨rfl,?_⟩|apply τa|refine τb rfl ?_|refine ⟨⟨by kernel_rfl,by kernel_rfl⟩,?_⟩|refine ⟨by decide,?_⟩|apply τt|apply τf))
              refine aop_tells rfl rfl hy16 ⟨AVle.refl _, trivial⟩ fun nx6 => ?_
              (repeat((conv=>whnf);first|apply ω0|apply ω1|apply ω2|refine τ3 rfl ?_|refine τ4 rfl ?_|refine ⟨rfl,?_⟩|apply τa|refine τb rfl ?_|refine ⟨⟨by kernel_rfl,by kernel_rfl⟩,?_⟩|refine ⟨by decide,?_⟩|apply τt|apply τf))
              refine aop_tells rfl rfl awake16_spec trivial fun nx8 => ?_
              (repeat((conv=>whnf);first|apply ω0|apply ω1|apply ω2|refine τ3 rfl ?_|refine τ4 rfl ?_|refine ⟨rfl,?_⟩|apply τa|refine τb rfl ?_|refine ⟨⟨by kernel_rfl,by kernel_rfl⟩,?_⟩|refine ⟨by decide,?_⟩|apply τt|apply τf))
              exact ret_tells rfl (AVle.refl _)
            | true =>
              have e2 : normA (dropsY p s) = .tup [polA (normP p), int 0] := by unfold normA; rw [hry, norm_drops (p := p) (s := s)]; rfl
              rw [e2] at hy16
              clear e e2 hnl
              generalize normP p = n at *
              (repeat((conv=>whnf);first|apply ω0|apply ω1|apply ω2|refine τ3 rfl ?_|refine τ4 rfl ?_|refine ⟨rfl,?_⟩|apply τa|refine τb rfl ?_|refine ⟨⟨by kernel_rfl,by kernel_rfl⟩,?_⟩|refine ⟨by decide,?_⟩|apply τt|apply τf))
              refine splitO_eq (b := polA p) rfl ?_
              (repeat((conv=>whnf);first|apply ω0|apply ω1|apply ω2|refine τ3 rfl ?_|refine τ4 rfl ?_|refine ⟨rfl,?_⟩|apply τa|refine τb rfl ?_|refine ⟨⟨by kernel_rfl,by kernel_rfl⟩,?_⟩|refine ⟨by decide,?_⟩|apply τt|apply τf))
              refine aop_tells rfl rfl h16 ⟨AVle.refl _, trivial⟩ fun nx5 => ?_
              (repeat((conv=>whnf);first|apply ω0|apply ω1|apply ω2|refine τ3 rfl ?_|refine τ4 rfl ?_|refine ⟨rfl,?_⟩|apply τa|refine τb rfl ?_|refine ⟨⟨by kernel_rfl,by kernel_rfl⟩,?_⟩|refine ⟨by decide,?_⟩|apply τt|apply τf))
              refine splitO_eq (b := polA (dropsY p s)) rfl ?_
              (repeat((conv=>whnf);first|apply ω0|apply ω1|apply ω2|refine τ3 rfl ?_|refine τ4 rfl ?_|refine ⟨rfl,?_⟩|apply τa|refine τb rfl ?_|refine ⟨⟨by kernel_rfl,by kernel_rfl⟩,?_⟩|refine ⟨by decide,?_⟩|apply τt|apply τf))
              refine aop_tells rfl rfl hy16 ⟨AVle.refl _, trivial⟩ fun nx6 => ?_
              (repeat((conv=>whnf);first|apply ω0|apply ω1|apply ω2|refine τ3 rfl ?_|refine τ4 rfl ?_|refine ⟨rfl,?_⟩|apply τa|refine τb rfl ?_|refine ⟨⟨by kernel_rfl,by kernel_rfl⟩,?_⟩|refine ⟨by decide,?_⟩|apply τt|apply τf))
              refine splitO_eq (b := polA n) rfl ?_
              (repeat((conv=>whnf);first|apply ω0|apply ω1|apply ω2|refine τ3 rfl ?_|refine τ4 rfl ?_|refine ⟨rfl,?_⟩|apply τa|refine τb rfl ?_|refine ⟨⟨by kernel_rfl,by kernel_rfl⟩,?_⟩|refine ⟨by decide,?_⟩|apply τt|apply τf))
              refine splitO_eq (b := polA n) rfl ?_
              (repeat((conv=>whnf);first|apply ω0|apply ω1|apply ω2|refine τ3 rfl ?_|refine τ4 rfl ?_|refine ⟨rfl,?_⟩|apply τa|refine τb rfl ?_|refine ⟨⟨by kernel_rfl,by kernel_rfl⟩,?_⟩|refine ⟨by decide,?_⟩|apply τt|apply τf))
              refine aop_tells rfl rfl hsm ⟨AVle.refl _, AVle.refl _, trivial⟩ fun nx7 => ?_
              intro c hc
              have hc2 : c = true := hc
              clear hc; subst hc2
              (repeat((conv=>whnf);first|apply ω0|apply ω1|apply ω2|refine τ3 rfl ?_|refine τ4 rfl ?_|refine ⟨rfl,?_⟩|apply τa|refine τb rfl ?_|refine ⟨⟨by kernel_rfl,by kernel_rfl⟩,?_⟩|refine ⟨by decide,?_⟩|apply τt|apply τf))
              refine aop_tells rfl rfl awake16_spec trivial fun nx8 => ?_
              intro c hc
              have hc2 : c = true := hc
              clear hc; subst hc2
              (repeat((conv=>whnf);first|apply ω0|apply ω1|apply ω2|refine τ3 rfl ?_|refine τ4 rfl ?_|refine ⟨rfl,?_⟩|apply τa|refine τb rfl ?_|refine ⟨⟨by kernel_rfl,by kernel_rfl⟩,?_⟩|refine ⟨by decide,?_⟩|apply τt|apply τf))
              exact ret_tells rfl (AVle.refl _)
      · (repeat((conv=>whnf);first|apply ω0|apply ω1|apply ω2|refine τ3 rfl ?_|refine τ4 rfl ?_|refine ⟨rfl,?_⟩|apply τa|refine τb rfl ?_|refine ⟨⟨by kernel_rfl,by kernel_rfl⟩,?_⟩|refine ⟨by decide,?_⟩|apply τt|apply τf))
        refine splitO_eq (b := polA p) rfl ?_
        (repeat((conv=>whnf);first|apply ω0|apply ω1|apply ω2|refine τ3 rfl ?_|refine τ4 rfl ?_|refine ⟨rfl,?_⟩|apply τa|refine τb rfl ?_|refine ⟨⟨by kernel_rfl,by kernel_rfl⟩,?_⟩|refine ⟨by decide,?_⟩|apply τt|apply τf))
        refine aop_tells rfl rfl hli ⟨AVle.refl _, trivial⟩ fun nx2 => ?_
        (repeat((conv=>whnf);first|apply ω0|apply ω1|apply ω2|refine τ3 rfl ?_|refine τ4 rfl ?_|refine ⟨rfl,?_⟩|apply τa|refine τb rfl ?_|refine ⟨⟨by kernel_rfl,by kernel_rfl⟩,?_⟩|refine ⟨by decide,?_⟩|apply τt|apply τf))
        intro c hc
        have hc2 : c = false := hc.trans (decide_eq_false (by omega))
        clear hc; subst hc2
        (repeat((conv=>whnf);first|apply ω0|apply ω1|apply ω2|refine τ3 rfl ?_|refine τ4 rfl ?_|refine ⟨rfl,?_⟩|apply τa|refine τb rfl ?_|refine ⟨⟨by kernel_rfl,by kernel_rfl⟩,?_⟩|refine ⟨by decide,?_⟩|apply τt|apply τf))
        intro c hc
        have hc2 : c = true := hc.trans (decide_eq_true (by omega))
        clear hc; subst hc2
        (repeat((conv=>whnf);first|apply ω0|apply ω1|apply ω2|refine τ3 rfl ?_|refine τ4 rfl ?_|refine ⟨rfl,?_⟩|apply τa|refine τb rfl ?_|refine ⟨⟨by kernel_rfl,by kernel_rfl⟩,?_⟩|refine ⟨by decide,?_⟩|apply τt|apply τf))
        exact ret_tells rfl (AVle.refl _)
    · (repeat((conv=>whnf);first|apply ω0|apply ω1|apply ω2|refine τ3 rfl ?_|refine τ4 rfl ?_|refine ⟨rfl,?_⟩|apply τa|refine τb rfl ?_|refine ⟨⟨by kernel_rfl,by kernel_rfl⟩,?_⟩|refine ⟨by decide,?_⟩|apply τt|apply τf))
      refine splitO_eq (b := polA p) rfl ?_
      (repeat((conv=>whnf);first|apply ω0|apply ω1|apply ω2|refine τ3 rfl ?_|refine τ4 rfl ?_|refine ⟨rfl,?_⟩|apply τa|refine τb rfl ?_|refine ⟨⟨by kernel_rfl,by kernel_rfl⟩,?_⟩|refine ⟨by decide,?_⟩|apply τt|apply τf))
      refine aop_tells rfl rfl hli ⟨AVle.refl _, trivial⟩ fun nx2 => ?_
      (repeat((conv=>whnf);first|apply ω0|apply ω1|apply ω2|refine τ3 rfl ?_|refine τ4 rfl ?_|refine ⟨rfl,?_⟩|apply τa|refine τb rfl ?_|refine ⟨⟨by kernel_rfl,by kernel_rfl⟩,?_⟩|refine ⟨by decide,?_⟩|apply τt|apply τf))
      intro c hc
      have hc2 : c = true := hc.trans (decide_eq_true (by omega))
      clear hc; subst hc2
      (repeat((conv=>whnf);first|apply ω0|apply ω1|apply ω2|refine τ3 rfl ?_|refine τ4 rfl ?_|refine ⟨rfl,?_⟩|apply τa|refine τb rfl ?_|refine ⟨⟨by kernel_rfl,by kernel_rfl⟩,?_⟩|refine ⟨by decide,?_⟩|apply τt|apply τf))
      exact ret_tells rfl (AVle.refl _)
end Go.Proofs.W

namespace Go.Proofs.W
open Go.Vl
set_option maxRecDepth 100000

def selR (front : ByteArray) (u : Nat) (r : Rul) : Bool := keyB r.name front == decide (u = 0)
def partI (front : ByteArray) (u : Nat) (rs : List Rul) (i : Nat) : List Rul := ((rs.take i).filter (selR front u)).map revR
theorem part_next {front : ByteArray} {u : Nat} {rs : List Rul} {i : Nat} (hi : i < rs.length) : partI front u rs (i + 1) = partI front u rs i ++ (if selR front u (rs.getD i rul0) then [revR (rs.getD i rul0)] else []) := by
  unfold partI
  rw [take_getD rul0 hi, List.filter_append, List.map_append]
  congr 1
  by_cases h : selR front u (rs.getD i rul0) = true
  · rw [if_pos h, List.filter_cons, if_pos h]; rfl
  · rw [if_neg h, List.filter_cons, if_neg h]; rfl
theorem part_len {front : ByteArray} {u : Nat} {rs : List Rul} {i : Nat} : (partI front u rs i).length ≤ i := by
  unfold partI
  rw [List.length_map]
  exact Nat.le_trans (List.length_filter_le _ _) (by rw [List.length_take]; omega)
theorem part_all {front : ByteArray} {rs : List Rul} : partI front 0 rs rs.length ++ partI front 1 rs rs.length = orderL front rs := by
  unfold partI orderL
  rw [List.take_length]
  have e0 : selR front 0 = fun r => keyB r.name front := by funext r; unfold selR; rw [decide_eq_true rfl]; cases keyB r.name front <;> rfl
  have e1 : selR front 1 = fun r => !keyB r.name front := by funext r; unfold selR; rw [decide_eq_false (by decide)]; cases keyB r.name front <;> rfl
  rw [e0, e1]
def nm1 : Option Nat → Option Vl.Id
  | none => none
  | some s => some (1, s)
def pm1 : Option Nat → Nat → List (Vl.Id × Nat)
  | none, _ => []
  | some s, n => [((1, s), n * 4)]
def nm2 : Option Nat → Option Vl.Id
  | none => none
  | some s => some (2, s)
def pm2 : Option Nat → Nat → List (Vl.Id × Nat)
  | none, _ => []
  | some s, n => [((2, s), n * 4)]
def qO (p : Pol) (R : List Rul) (oi : Option Nat) : List AV := [int p.dflt.1, int p.dflt.2, boolA p.x32, .os 4 R.length (rulF R) (nm1 oi)]
def cndF (C : List Cnd) (k : Nat) : AV := cndA (C.getD k cnd0)
theorem nil_no {R : List Rul} {oi : Option Nat} {l : List Rul} (h0 : oi = none → R = []) (h : oi = none) : R = [] := h0 h
theorem rev_at {C : List Cnd} {j : Nat} (h : j < C.length) : C.reverse.getD j cnd0 = C.getD (C.length - 1 - j) cnd0 := by
  simp only [List.getD]
  rw [List.getElem?_reverse h]
theorem le_catF {C : List Cnd} {j : Nat} {f' : Nat → AV} {x : Cnd} {i k : Vl.Id} (hf : f' 0 = cndA x) (hx : x = C.getD j cnd0) (h : i.2 = k.2) : AVle (.os 4 (j + 1) (appF j (cndF C) f') (some i)) (.os 4 (j + 1) (cndF C) (some k)) :=
  (AVle.os_fun (appF_one (fun _ _ => rfl) (by rw [hf, hx]; rfl))).trans (AVle.os_nm h)
theorem pm1_refl : ∀ (oi : Option Nat) (n : Nat), PmEq (pm1 oi n) (pm1 oi n)
  | none, _ => trivial
  | some _, _ => ⟨rfl, rfl, trivial⟩
theorem pm2_refl : ∀ (oc : Option Nat) (j : Nat) (oi : Option Nat) (n : Nat), PmEq (pm2 oc j ++ pm1 oi n) (pm2 oc j ++ pm1 oi n)
  | none, _, oi, n => pm1_refl oi n
  | some _, _, oi, n => ⟨rfl, rfl, pm1_refl oi n⟩
theorem flat_range {f : Nat → List Rul} {t : Nat} : (List.range (t + 1)).flatMap f = (List.range t).flatMap f ++ f t := by rw [List.range_succ, List.flatMap_append]; simp
theorem idx_rev {c j : Nat} (h : j < c) : (c : Int) - 1 - (j : Int) = ((c - 1 - j : Nat) : Int) := by omega
theorem le_rev {C : List Cnd} {j : Nat} {oi : Option Vl.Id} (h : j = C.length) : AVle (.os 4 j (cndF C.reverse) oi) (cnds C.reverse) := by
  subst h
  have e : C.reverse.length = C.length := List.length_reverse
  unfold cnds slOf
  rw [e]
  exact AVle.os_sl
theorem idx_down {c j : Nat} (hc : c ≤ 1000) (h : j < c) : IntKind.i64.wrap ((c : Int) - 1 - (j : Int) - 1) = (c : Int) - 1 - ((j + 1 : Nat) : Int) := by
  rw [wrap_id (by omega) (by omega)]; omega
theorem gr_o14 : growOk Tryz.prog 65 = true := by kernel_rfl
theorem gc_o14 : Tryz.prog.cellsOf 65 = 4 := by kernel_rfl
theorem gb_o14 : Tryz.prog.bytesOf 65 = 56 := by kernel_rfl
theorem gr_o10 : growOk Tryz.prog 70 = true := by kernel_rfl
theorem gc_o10 : Tryz.prog.cellsOf 70 = 4 := by kernel_rfl
theorem gb_o10 : Tryz.prog.bytesOf 70 = 32 := by kernel_rfl
def orderP (p : Pol) (front : ByteArray) : Pol := ⟨p.dflt, p.x32, orderL front p.rules⟩
theorem ord_mem {p : Pol} {front : ByteArray} {x : Rul} (h : x ∈ orderL front p.rules) : ∃ r ∈ p.rules, x = revR r := by
  unfold orderL at h
  rcases List.mem_append.1 h with h | h
  · obtain ⟨y, hy, rfl⟩ := List.mem_map.1 h
    exact ⟨y, (List.mem_filter.1 hy).1, rfl⟩
  · obtain ⟨y, hy, rfl⟩ := List.mem_map.1 h
    exact ⟨y, (List.mem_filter.1 hy).1, rfl⟩
theorem ord_len {p : Pol} {front : ByteArray} : (orderP p front).rules.length = p.rules.length := by
  unfold orderP orderL
  dsimp only
  rw [List.length_append, List.length_map, List.length_map]
  exact filt_len (fun r => keyB r.name front) p.rules
theorem ord_conds {p : Pol} {front : ByteArray} {k : Nat} (h : ∀ r ∈ p.rules, r.conds.length ≤ k) : ∀ r ∈ (orderP p front).rules, r.conds.length ≤ k := fun x hx => by
  obtain ⟨r, hr, rfl⟩ := ord_mem hx
  unfold revR; rw [List.length_reverse]; exact h r hr
theorem ord_ok {p : Pol} {front : ByteArray} (hp : p.ok) : (orderP p front).ok := ⟨by rw [ord_len]; exact hp.1, fun x hx => by
  obtain ⟨r, hr, rfl⟩ := ord_mem hx
  obtain ⟨h1, h2, h3⟩ := hp.2 r hr
  exact ⟨h1, by unfold revR; rw [List.length_reverse]; exact h2, fun c hc => h3 c (by unfold revR at hc; simpa using hc)⟩⟩
def norm2 (p : Pol) : Pol × Int := if rightP p then (normP p, 0) else (pol0, 13)
theorem normA_two (p : Pol) : normA p = .tup [polA (norm2 p).1, int (norm2 p).2] := by
  unfold normA norm2
  split <;> rfl
theorem ord_two {p : Pol} {front : ByteArray} : norm2 (orderP p front) = norm2 p := by
  unfold norm2
  rw [show rightP (orderP p front) = rightP p from right_orders, show normP (orderP p front) = normP p from norm_orders.symm]
theorem norm2_len {p : Pol} : (norm2 p).1.rules.length ≤ p.rules.length := by
  unfold norm2
  split
  · exact norm_len
  · exact Nat.zero_le _
theorem norm2_conds {p : Pol} {k : Nat} (h : ∀ r ∈ p.rules, r.conds.length ≤ k) : ∀ r ∈ (norm2 p).1.rules, r.conds.length ≤ k := by
  unfold norm2
  split
  · exact norm_cl h
  · exact fun r hr => by cases hr
theorem le_ord {p : Pol} {front : ByteArray} {R : List Rul} {oi : Option Nat} (h : R = (List.range 2).flatMap fun u => partI front u p.rules p.rules.length) : AVle (.os 4 R.length (rulF R) (nm1 oi)) (ruls (orderL front p.rules)) := by
  have e : R = orderL front p.rules := by rw [h, ← part_all]; simp [List.range_succ]
  subst e
  exact AVle.os_sl
theorem z_rul : zcells Tryz.prog 65 = some [strA ⟨#[]⟩, int 0, int 0, .os 0 0 (fun _ => .any) none] := by kernel_rfl
set_option maxHeartbeats 8000000 in
theorem normorders_law (p : Pol) (front : ByteArray) (hp : p.ok) (hs : front.size ≤ maxLen) : Tells Tryz.prog 9 [polA p, strA front] (boolA true) := by
  have hli := light_l16 p hp.1
  refine tells_of_aw Tryz.func9 rfl rfl fun nx => ?_
  cases hb : lightP p with
  | false =>
    rw [hb] at hli
    (repeat((conv=>whnf);first|apply ω0|apply ω1|apply ω2|refine τ3 rfl ?_|refine τ4 rfl ?_|refine ⟨rfl,?_⟩|apply τa|refine τb rfl ?_|refine ⟨⟨by kernel_rfl,by kernel_rfl⟩,?_⟩|refine ⟨by decide,?_⟩|apply τt|apply τf))
    refine splitO_eq (b := polA p) rfl ?_
    (repeat((conv=>whnf);first|apply ω0|apply ω1|apply ω2|refine τ3 rfl ?_|refine τ4 rfl ?_|refine ⟨rfl,?_⟩|apply τa|refine τb rfl ?_|refine ⟨⟨by kernel_rfl,by kernel_rfl⟩,?_⟩|refine ⟨by decide,?_⟩|apply τt|apply τf))
    refine aop_tells rfl rfl hli ⟨AVle.refl _, trivial⟩ fun nx2 => ?_
    (repeat((conv=>whnf);first|apply ω0|apply ω1|apply ω2|refine τ3 rfl ?_|refine τ4 rfl ?_|refine ⟨rfl,?_⟩|apply τa|refine τb rfl ?_|refine ⟨⟨by kernel_rfl,by kernel_rfl⟩,?_⟩|refine ⟨by decide,?_⟩|apply τt|apply τf))
    exact ret_tells rfl (AVle.refl _)
  | true =>
    rw [hb] at hli
    obtain ⟨hl, hc0⟩ := lightP_lens hb
    have hc : ∀ r ∈ p.rules, r.conds.length ≤ 12 := fun r hr => (hc0 r hr).2
    have hof := pol_l16 p (by omega) (fun r hr => by have := hc r hr; omega)
    have hofq := pol_l16 (orderP p front) (by rw [ord_len]; omega) (fun r hr => by have := ord_conds hc r hr; omega)
    have h16 := policy16_spec p hp
    have h16q := policy16_spec (orderP p front) (ord_ok hp)
    rw [normA_two] at h16 h16q
    rw [ord_two] at h16q
    have hsm := same_spec14 (norm2 p).1 (norm2 p).1 (Nat.le_trans norm2_len (by omega)) (fun r hr => by have := norm2_conds hc r hr; omega)
    rw [sameP_self] at hsm
    generalize norm2 p = ne at h16 h16q hsm
    obtain ⟨n, e⟩ := ne
    dsimp only at h16 h16q hsm
    by_cases h60 : front.size ≤ 60
    · (repeat((conv=>whnf);first|apply ω0|apply ω1|apply ω2|refine τ3 rfl ?_|refine τ4 rfl ?_|refine ⟨rfl,?_⟩|apply τa|refine τb rfl ?_|refine ⟨⟨by kernel_rfl,by kernel_rfl⟩,?_⟩|refine ⟨by decide,?_⟩|apply τt|apply τf))
      refine splitO_eq (b := polA p) rfl ?_
      (repeat((conv=>whnf);first|apply ω0|apply ω1|apply ω2|refine τ3 rfl ?_|refine τ4 rfl ?_|refine ⟨rfl,?_⟩|apply τa|refine τb rfl ?_|refine ⟨⟨by kernel_rfl,by kernel_rfl⟩,?_⟩|refine ⟨by decide,?_⟩|apply τt|apply τf))
      refine aop_tells rfl rfl hli ⟨AVle.refl _, trivial⟩ fun nx1 => ?_
      (repeat((conv=>whnf);first|apply ω0|apply ω1|apply ω2|refine τ3 rfl ?_|refine τ4 rfl ?_|refine ⟨rfl,?_⟩|apply τa|refine τb rfl ?_|refine ⟨⟨by kernel_rfl,by kernel_rfl⟩,?_⟩|refine ⟨by decide,?_⟩|apply τt|apply τf))
      intro c hcc
      have hc2 : c = false := hcc.trans (decide_eq_false (by omega))
      clear hcc; subst hc2
      (repeat((conv=>whnf);first|apply ω0|apply ω1|apply ω2|refine τ3 rfl ?_|refine τ4 rfl ?_|refine ⟨rfl,?_⟩|apply τa|refine τb rfl ?_|refine ⟨⟨by kernel_rfl,by kernel_rfl⟩,?_⟩|refine ⟨by decide,?_⟩|apply τt|apply τf))
      intro c hcc
      subst hcc
      (repeat((conv=>whnf);first|apply ω0|apply ω1|apply ω2|refine τ3 rfl ?_|refine τ4 rfl ?_|refine ⟨rfl,?_⟩|apply τa|refine τb rfl ?_|refine ⟨⟨by kernel_rfl,by kernel_rfl⟩,?_⟩|refine ⟨by decide,?_⟩|apply τt|apply τf))
      refine aw_loop (fun y : Nat × List Rul × Option Nat × Nat => mk 117 [(1, strA front), (2, .bp (0, nx) 0), (5, .bp (1, nx1) 0), (6, int y.1)] ⟨[((1, nx1), .c (qO p y.2.1 y.2.2.1)), ((0, nx), .c (polC p))], pm1 y.2.2.1 y.2.1.length, y.2.2.2, 2⟩)
        (fun y => y.1 ≤ 2 ∧ (y.2.2.1 = none → y.2.1 = []) ∧ y.2.1 = (List.range y.1).flatMap (fun u => partI front u p.rules p.rules.length) ∧ y.2.1.length ≤ y.1 * 40) (fun y => 2 - y.1) ?_ ?_
      · exact ⟨(0, [], none, nx1 + 1), ⟨Nat.zero_le _, fun _ => rfl, rfl, Nat.le_refl _⟩, ele_tell (pm := []) (bx := [((1, nx1), .c (qO p [] none)), ((0, nx), .c (polC p))]) _ _ rfl rfl (List.Sublist.refl _) (List.Sublist.refl _) ⟨rfl, ⟨AVle.refl _, AVle.refl _, AVle.refl _, AVle.os_nil, trivial⟩, BxLe.refl _⟩ trivial ⟨AVle.refl _, AVle.refl _, AVle.refl _, AVle.refl _, trivial⟩⟩
      · rintro ⟨t, R, oi, nx3⟩ ⟨h1, h2, h3, h4⟩
        dsimp only at h1 h2 h3 h4
        rcases (by omega : t = 0 ∨ t = 1 ∨ t = 2) with rfl | rfl | rfl
        · (repeat((conv=>whnf);first|apply ω0|apply ω1|apply ω2|refine τ3 rfl ?_|refine τ4 rfl ?_|refine ⟨rfl,?_⟩|apply τa|refine τb rfl ?_|refine ⟨⟨by kernel_rfl,by kernel_rfl⟩,?_⟩|refine ⟨by decide,?_⟩|apply τt|apply τf))
          refine aw_loop (fun y : Nat × List Rul × Option Nat × Nat => mk 117 [(1, strA front), (2, .bp (0, nx) 0), (5, .bp (1, nx1) 0), (6, int 0), (7, int y.1)] ⟨[((1, nx1), .c (qO p y.2.1 y.2.2.1)), ((0, nx), .c (polC p))], pm1 y.2.2.1 y.2.1.length, y.2.2.2, 2⟩) (fun y => y.1 ≤ p.rules.length ∧ (y.2.2.1 = none → y.2.1 = []) ∧ y.2.1 = R ++ partI front 0 p.rules y.1 ∧ y.2.1.length ≤ R.length + y.1) (fun y => p.rules.length - y.1) ?_ ?_
          · exact ⟨(0, R, oi, nx3), ⟨Nat.zero_le _, h2, (List.append_nil _).symm, Nat.le_refl _⟩, ele_tell _ _ rfl rfl (List.Sublist.refl _) (List.Sublist.refl _) (BxLe.refl _) (pm1_refl _ _) ⟨AVle.refl _, AVle.refl _, AVle.refl _, AVle.refl _, AVle.refl _, trivial⟩⟩
          · rintro ⟨i, Q, oq, nx4⟩ ⟨k1, k2, k3, k4⟩
            dsimp only at k1 k2 k3 k4
            (repeat((conv=>whnf);first|apply ω0|apply ω1|apply ω2|refine τ3 rfl ?_|refine τ4 rfl ?_|refine ⟨rfl,?_⟩|apply τa|refine τb rfl ?_|refine ⟨⟨by kernel_rfl,by kernel_rfl⟩,?_⟩|refine ⟨by decide,?_⟩|apply τt|apply τf))
            intro c gi; cases c
            · have gi := not_of gi
              try dsimp only at gi
              have hi : i = p.rules.length := by omega
              subst hi
              (repeat((conv=>whnf);first|apply ω0|apply ω1|apply ω2|refine τ3 rfl ?_|refine τ4 rfl ?_|refine ⟨rfl,?_⟩|apply τa|refine τb rfl ?_|refine ⟨⟨by kernel_rfl,by kernel_rfl⟩,?_⟩|refine ⟨by decide,?_⟩|apply τt|apply τf))
              exact back (0 + 1, Q, oq, nx4) ⟨by dsimp only; omega, k2, by dsimp only; rw [k3, h3]; exact (flat_range (f := fun u => partI front u p.rules p.rules.length)).symm, by dsimp only; omega⟩ (by dsimp only; omega) (ele_tell _ _ rfl rfl (List.Sublist.refl _) (List.Sublist.refl _) (BxLe.refl _) (pm1_refl _ _) ⟨AVle.refl _, AVle.refl _, AVle.refl _, AVle.refl _, trivial⟩)
            · have gi := yes_of gi
              try dsimp only at gi
              have hi : i < p.rules.length := by omega
              have hmem : p.rules.getD i rul0 ∈ p.rules := by simp [List.getD, hi]
              have hcl := hc _ hmem
              have hpn := part_next (front := front) (u := 0) hi
              (repeat((conv=>whnf);first|apply ω0|apply ω1|apply ω2|refine τ3 rfl ?_|refine τ4 rfl ?_|refine ⟨rfl,?_⟩|apply τa|refine τb rfl ?_|refine ⟨⟨by kernel_rfl,by kernel_rfl⟩,?_⟩|refine ⟨by decide,?_⟩|apply τt|apply τf))
              refine ⟨⟨by first | omega | (dsimp only; omega), by first | omega | (dsimp only; omega)⟩, ?_⟩
              (repeat((conv=>whnf);first|apply ω0|apply ω1|apply ω2|refine τ3 rfl ?_|refine τ4 rfl ?_|refine ⟨rfl,?_⟩|apply τa|refine τb rfl ?_|refine ⟨⟨by kernel_rfl,by kernel_rfl⟩,?_⟩|refine ⟨by decide,?_⟩|apply τt|apply τf))
              intro c hcc
              have hk : c = keyB (p.rules.getD i rul0).name front := hcc
              clear hcc
              cases c
              · have hsel : selR front 0 (p.rules.getD i rul0) = false := by unfold selR; rw [← hk]; rfl
                rw [hsel, if_neg (by decide), List.append_nil] at hpn
                clear hk
                (repeat((conv=>whnf);first|apply ω0|apply ω1|apply ω2|refine τ3 rfl ?_|refine τ4 rfl ?_|refine ⟨rfl,?_⟩|apply τa|refine τb rfl ?_|refine ⟨⟨by kernel_rfl,by kernel_rfl⟩,?_⟩|refine ⟨by decide,?_⟩|apply τt|apply τf))
                exact back (i + 1, Q, oq, nx4) ⟨hi, k2, by dsimp only; rw [hpn]; exact k3, by dsimp only; omega⟩ (by dsimp only; omega) (ele_tell _ _ rfl rfl (List.Sublist.refl _) (List.Sublist.refl _) (BxLe.refl _) (pm1_refl _ _) ⟨AVle.refl _, AVle.refl _, AVle.refl _, AVle.refl _, le_int (wrap_succ (by first | omega | (dsimp only; omega))), trivial⟩)
              · have hsel : selR front 0 (p.rules.getD i rul0) = true := by unfold selR; rw [← hk]; rfl
                rw [hsel, if_pos rfl] at hpn
                clear hk hsel
                have hw1 : IntKind.i64.wrap (((p.rules.getD i rul0).conds.length : Int) - 1) = ((p.rules.getD i rul0).conds.length : Int) - 1 - ((0 : Nat) : Int) := by rw [wrap_id (by omega) (by omega)]; omega
                (repeat((conv=>whnf);first|apply ω0|apply ω1|apply ω2|refine τ3 rfl ?_|refine τ4 rfl ?_|refine ⟨rfl,?_⟩|apply τa|refine τb rfl ?_|refine ⟨⟨by kernel_rfl,by kernel_rfl⟩,?_⟩|refine ⟨by decide,?_⟩|apply τt|apply τf))
                refine aw_mixN 14 _ (fun i => match i with | 13 => true | _ => false) (fun _ => false) [0, 1, 2, 3, 4, 5, 6, 7, 8, 9, 10, 11, 12, 13] (by kernel_rfl) (by kernel_rfl) (HB.refl _) ?_
                (repeat((conv=>whnf);first|apply ω0|apply ω1|apply ω2|refine τ3 rfl ?_|refine τ4 rfl ?_|refine ⟨rfl,?_⟩|apply τa|refine τb rfl ?_|refine ⟨⟨by kernel_rfl,by kernel_rfl⟩,?_⟩|refine ⟨by decide,?_⟩|apply τt|apply τf))
                refine splitV_eq (b := ruls p.rules) rfl ?_
                (repeat((conv=>whnf);first|apply ω0|apply ω1|apply ω2|refine τ3 rfl ?_|refine τ4 rfl ?_|refine ⟨rfl,?_⟩|apply τa|refine τb rfl ?_|refine ⟨⟨by kernel_rfl,by kernel_rfl⟩,?_⟩|refine ⟨by decide,?_⟩|apply τt|apply τf))
                refine ⟨⟨by first | omega | (dsimp only; omega), by first | omega | (dsimp only; omega)⟩, ?_⟩
                (repeat((conv=>whnf);first|apply ω0|apply ω1|apply ω2|refine τ3 rfl ?_|refine τ4 rfl ?_|refine ⟨rfl,?_⟩|apply τa|refine τb rfl ?_|refine ⟨⟨by kernel_rfl,by kernel_rfl⟩,?_⟩|refine ⟨by decide,?_⟩|apply τt|apply τf))
                refine splitV_eq (b := ruls p.rules) rfl ?_
                (repeat((conv=>whnf);first|apply ω0|apply ω1|apply ω2|refine τ3 rfl ?_|refine τ4 rfl ?_|refine ⟨rfl,?_⟩|apply τa|refine τb rfl ?_|refine ⟨⟨by kernel_rfl,by kernel_rfl⟩,?_⟩|refine ⟨by decide,?_⟩|apply τt|apply τf))
                refine ⟨⟨by first | omega | (dsimp only; omega), by first | omega | (dsimp only; omega)⟩, ?_⟩
                (repeat((conv=>whnf);first|apply ω0|apply ω1|apply ω2|refine τ3 rfl ?_|refine τ4 rfl ?_|refine ⟨rfl,?_⟩|apply τa|refine τb rfl ?_|refine ⟨⟨by kernel_rfl,by kernel_rfl⟩,?_⟩|refine ⟨by decide,?_⟩|apply τt|apply τf))
                refine splitV_eq (b := .rp (rulC4 (p.rules.getD i rul0))) rfl ?_
                (conv => whnf)
                refine ⟨_, eff_alloc rfl rfl z_rul (HB.cons rfl (HB.one rfl)), fun r h' hr => ?_⟩
                obtain ⟨rfl, rfl⟩ := hr
                (repeat((conv=>whnf);first|apply ω0|apply ω1|apply ω2|refine τ3 rfl ?_|refine τ4 rfl ?_|refine ⟨rfl,?_⟩|apply τa|refine τb rfl ?_|refine ⟨⟨by kernel_rfl,by kernel_rfl⟩,?_⟩|refine ⟨by decide,?_⟩|apply τt|apply τf))
                refine splitO_eq (b := ruls p.rules) rfl ?_
                (repeat((conv=>whnf);first|apply ω0|apply ω1|apply ω2|refine τ3 rfl ?_|refine τ4 rfl ?_|refine ⟨rfl,?_⟩|apply τa|refine τb rfl ?_|refine ⟨⟨by kernel_rfl,by kernel_rfl⟩,?_⟩|refine ⟨by decide,?_⟩|apply τt|apply τf))
                refine ⟨⟨by first | omega | (dsimp only; omega), by first | omega | (dsimp only; omega)⟩, ?_⟩
                (repeat((conv=>whnf);first|apply ω0|apply ω1|apply ω2|refine τ3 rfl ?_|refine τ4 rfl ?_|refine ⟨rfl,?_⟩|apply τa|refine τb rfl ?_|refine ⟨⟨by kernel_rfl,by kernel_rfl⟩,?_⟩|refine ⟨by decide,?_⟩|apply τt|apply τf))
                refine aw_loop (fun y : Nat × Option Nat × Nat => mk 117 [(1, strA front), (2, .bp (0, nx) 0), (5, .bp (1, nx1) 0), (6, int 0), (7, int i), (8, .bp (2, nx4) 0), (9, int (((p.rules.getD i rul0).conds.length : Int) - 1 - (y.1 : Int)))] ⟨[((2, nx4), .c [strA (p.rules.getD i rul0).name, int (p.rules.getD i rul0).act.1, int (p.rules.getD i rul0).act.2, .os 4 y.1 (cndF (p.rules.getD i rul0).conds.reverse) (nm2 y.2.1)]), ((1, nx1), .c (qO p Q oq)), ((0, nx), .c (polC p))], pm2 y.2.1 y.1 ++ pm1 oq Q.length, y.2.2, 3⟩) (fun y => y.1 ≤ (p.rules.getD i rul0).conds.length ∧ (y.2.1 = none → y.1 = 0)) (fun y => (p.rules.getD i rul0).conds.length - y.1) ?_ ?_
                · exact ⟨(0, none, nx4 + 1), ⟨Nat.zero_le _, fun _ => rfl⟩, ele_tell (pm := pm1 oq Q.length) (bx := [((2, nx4), .c [strA (p.rules.getD i rul0).name, int (p.rules.getD i rul0).act.1, int (p.rules.getD i rul0).act.2, .os 4 0 (cndF (p.rules.getD i rul0).conds.reverse) none]), ((1, nx1), .c (qO p Q oq)), ((0, nx), .c (polC p))]) _ _ rfl rfl (List.Sublist.refl _) (List.Sublist.refl _) ⟨rfl, ⟨AVle.refl _, AVle.refl _, AVle.refl _, AVle.os_nil, trivial⟩, BxLe.refl _⟩ (pm1_refl _ _) ⟨AVle.refl _, AVle.refl _, AVle.refl _, AVle.refl _, AVle.refl _, AVle.refl _, le_int hw1, trivial⟩⟩
                · rintro ⟨j, oc, nx5⟩ ⟨q1, q2⟩
                  dsimp only at q1 q2
                  (repeat((conv=>whnf);first|apply ω0|apply ω1|apply ω2|refine τ3 rfl ?_|refine τ4 rfl ?_|refine ⟨rfl,?_⟩|apply τa|refine τb rfl ?_|refine ⟨⟨by kernel_rfl,by kernel_rfl⟩,?_⟩|refine ⟨by decide,?_⟩|apply τt|apply τf))
                  intro c gk; cases c
                  · have gk := not_of gk
                    try dsimp only at gk
                    have hj : j = (p.rules.getD i rul0).conds.length := by omega
                    (repeat((conv=>whnf);first|apply ω0|apply ω2|refine τ3 rfl ?_|refine τ4 rfl ?_|refine ⟨rfl,?_⟩|apply τa|refine τb rfl ?_|refine ⟨⟨by kernel_rfl,by kernel_rfl⟩,?_⟩|refine ⟨by decide,?_⟩|apply τt|apply τf))
                    (conv => whnf)
                    refine AW.le (E' := mk 117 [(1, strA front), (2, .bp (0, nx) 0), (5, .bp (1, nx1) 0), (6, int 0), (7, int i), (8, .bp (2, nx4) 0)] ⟨[((2, nx4), .c (rulC4 (revR (p.rules.getD i rul0)))), ((1, nx1), .c (qO p Q oq)), ((0, nx), .c (polC p))], pm1 oq Q.length, nx5, 3⟩) (ele_tell _ _ rfl rfl (List.Sublist.refl _) (List.sublist_append_right _ _) ⟨rfl, ⟨AVle.refl _, AVle.refl _, AVle.refl _, le_rev hj, trivial⟩, BxLe.refl _⟩ (pm1_refl _ _) ⟨AVle.refl _, AVle.refl _, AVle.refl _, AVle.refl _, AVle.refl _, AVle.refl _, trivial⟩) ?_
                    (repeat((conv=>whnf);first|apply ω0|apply ω2|refine τ3 rfl ?_|refine τ4 rfl ?_|refine ⟨rfl,?_⟩|apply τa|refine τb rfl ?_|refine ⟨⟨by kernel_rfl,by kernel_rfl⟩,?_⟩|refine ⟨by decide,?_⟩|apply τt|apply τf))
                    refine aw_regionY (fun i => match i with | 0 => true | _ => false) 5 ?_
                    (repeat((conv=>whnf);first|apply ω0|apply ω1|apply ω2|refine τ3 rfl ?_|refine τ4 rfl ?_|refine ⟨rfl,?_⟩|apply τa|refine τb rfl ?_|refine ⟨⟨by kernel_rfl,by kernel_rfl⟩,?_⟩|refine ⟨by decide,?_⟩|apply τt|apply τf))
                    rcases oq with _ | o1
                    · obtain rfl := k2 rfl
                      refine AOp.any (aop_append (e := 65) (n := 0) (oi := none) (sz := 4) (f := rulF []) (m := 1) (szx := 4) rfl rfl (.inr ⟨_, rfl⟩) Tryz.underlying24 gr_o14 (.inl ⟨rfl, rfl⟩) (.inr gc_o14.symm) (fun i h => by cases h) (oneRow_one rfl) (fun _ => by rw [gb_o14]; omega) (fun _ => by omega) (fun hm => absurd hm (by decide)) (fun hm => ?_))
                      (repeat((conv=>whnf);first|apply ω0|apply ω1|apply ω2|refine τ3 rfl ?_|refine τ4 rfl ?_|refine ⟨rfl,?_⟩|apply τa|refine τb rfl ?_|refine ⟨⟨by kernel_rfl,by kernel_rfl⟩,?_⟩|refine ⟨by decide,?_⟩|apply τt|apply τf))
                      exact back (i + 1, [revR (p.rules.getD i rul0)], some nx5, nx5 + 1) ⟨hi, (fun h => by cases h), by dsimp only; rw [hpn, ← List.append_assoc, ← k3]; rfl, by dsimp only; simp; omega⟩ (by dsimp only; omega) (ele_tell (pm := [((1, nx5), [revR (p.rules.getD i rul0)].length * 4)]) (bx := [((1, nx1), .c (qO p [revR (p.rules.getD i rul0)] (some nx5))), ((0, nx), .c (polC p))]) _ _ rfl rfl (.cons _ (List.Sublist.refl _)) (List.Sublist.refl _) ⟨rfl, ⟨AVle.refl _, AVle.refl _, AVle.refl _, le_catR (L := []), trivial⟩, BxLe.refl _⟩ ⟨rfl, show (0 + 1) * Tryz.prog.cellsOf 65 = 1 * 4 by rw [gc_o14], trivial⟩ ⟨AVle.refl _, AVle.refl _, AVle.refl _, AVle.refl _, le_int (wrap_succ (by first | omega | (dsimp only; omega))), trivial⟩)
                    · refine AOp.any (aop_append (e := 65) (n := Q.length) (oi := some (1, o1)) (sz := 4) (f := rulF Q) (m := 1) (szx := 4) rfl rfl (.inr ⟨_, rfl⟩) Tryz.underlying24 gr_o14 (.inr gc_o14.symm) (.inr gc_o14.symm) (fun i h => by cases h; rw [gc_o14]; rfl) (oneRow_one rfl) (fun _ => by rw [gb_o14]; omega) (fun _ => by omega) (fun hm => absurd hm (by decide)) (fun hm => ?_))
                      (repeat((conv=>whnf);first|apply ω0|apply ω1|apply ω2|refine τ3 rfl ?_|refine τ4 rfl ?_|refine ⟨rfl,?_⟩|apply τa|refine τb rfl ?_|refine ⟨⟨by kernel_rfl,by kernel_rfl⟩,?_⟩|refine ⟨by decide,?_⟩|apply τt|apply τf))
                      exact back (i + 1, Q ++ [revR (p.rules.getD i rul0)], some nx5, nx5 + 1) ⟨hi, (fun h => by cases h), by dsimp only; rw [hpn, ← List.append_assoc, ← k3], by dsimp only; simp; omega⟩ (by dsimp only; omega) (ele_tell (pm := [((1, nx5), (Q ++ [revR (p.rules.getD i rul0)]).length * 4)]) (bx := [((1, nx1), .c (qO p (Q ++ [revR (p.rules.getD i rul0)]) (some nx5))), ((0, nx), .c (polC p))]) _ _ rfl rfl (.cons _ (List.Sublist.refl _)) (List.Sublist.refl _) ⟨rfl, ⟨AVle.refl _, AVle.refl _, AVle.refl _, le_catR, trivial⟩, BxLe.refl _⟩ ⟨rfl, show (Q.length + 1) * Tryz.prog.cellsOf 65 = (Q ++ [revR (p.rules.getD i rul0)]).length * 4 by rw [gc_o14]; simp, trivial⟩ ⟨AVle.refl _, AVle.refl _, AVle.refl _, AVle.refl _, le_int (wrap_succ (by first | omega | (dsimp only; omega))), trivial⟩)
                  · have gk := yes_of gk
                    try dsimp only at gk
                    have hj : j < (p.rules.getD i rul0).conds.length := by omega
                    have hix := idx_rev hj
                    have hra := rev_at hj
                    (repeat((conv=>whnf);first|apply ω0|apply ω1|apply ω2|refine τ3 rfl ?_|refine τ4 rfl ?_|refine ⟨rfl,?_⟩|apply τa|refine τb rfl ?_|refine ⟨⟨by kernel_rfl,by kernel_rfl⟩,?_⟩|refine ⟨by decide,?_⟩|apply τt|apply τf))
                    rcases oc with _ | o2
                    · obtain rfl := q2 rfl
                      refine aw_mixN 13 _ (fun i => match i with | 12 => true | _ => false) (fun _ => false) [0, 1, 2, 3, 4, 5, 6, 7, 8, 9, 10, 11, 12] (by kernel_rfl) (by kernel_rfl) (HB.refl _) ?_
                      (repeat((conv=>whnf);first|apply ω0|apply ω1|apply ω2|refine τ3 rfl ?_|refine τ4 rfl ?_|refine ⟨rfl,?_⟩|apply τa|refine τb rfl ?_|refine ⟨⟨by kernel_rfl,by kernel_rfl⟩,?_⟩|refine ⟨by decide,?_⟩|apply τt|apply τf))
                      refine splitV_eq (b := ruls p.rules) rfl ?_
                      (repeat((conv=>whnf);first|apply ω0|apply ω1|apply ω2|refine τ3 rfl ?_|refine τ4 rfl ?_|refine ⟨rfl,?_⟩|apply τa|refine τb rfl ?_|refine ⟨⟨by kernel_rfl,by kernel_rfl⟩,?_⟩|refine ⟨by decide,?_⟩|apply τt|apply τf))
                      refine ⟨⟨by first | omega | (dsimp only; omega), by first | omega | (dsimp only; omega)⟩, ?_⟩
                      (repeat((conv=>whnf);first|apply ω0|apply ω1|apply ω2|refine τ3 rfl ?_|refine τ4 rfl ?_|refine ⟨rfl,?_⟩|apply τa|refine τb rfl ?_|refine ⟨⟨by kernel_rfl,by kernel_rfl⟩,?_⟩|refine ⟨by decide,?_⟩|apply τt|apply τf))
                      refine ⟨⟨ixge hix, ixlt hix (by show (p.rules.getD i rul0).conds.length - 1 - 0 < (p.rules.getD i rul0).conds.length; omega)⟩, splitV_eq (b := .rp (cndA ((p.rules.getD i rul0).conds.getD ((p.rules.getD i rul0).conds.length - 1 - 0) cnd0)).cells) (congrArg (fun z : Int => AV.rp (cndA ((p.rules.getD i rul0).conds.getD z.toNat cnd0)).cells) hix) ?_⟩
                      (repeat((conv=>whnf);first|apply ω0|apply ω1|apply ω2|refine τ3 rfl ?_|refine τ4 rfl ?_|refine ⟨rfl,?_⟩|apply τa|refine τb rfl ?_|refine ⟨⟨by kernel_rfl,by kernel_rfl⟩,?_⟩|refine ⟨by decide,?_⟩|apply τt|apply τf))
                      refine ⟨_, eff_append (e := 70) (n := 0) (oi := none) (sz := 4) (f := cndF (p.rules.getD i rul0).conds.reverse) (m := 1) (szx := 4) (HB.refl _) rfl rfl rfl (.inr ⟨_, rfl⟩) Tryz.underlying63 gr_o10 (.inl ⟨rfl, rfl⟩) (.inr gc_o10.symm) (fun i h => by cases h) (oneRow_one rfl) (fun _ => by rw [gb_o10]; omega) (fun _ => by omega), fun r h' hr => ?_⟩
                      rcases hr with ⟨hr, -⟩ | ⟨-, rfl, rfl⟩
                      · exact absurd hr (by decide)
                      (repeat((conv=>whnf);first|apply ω0|apply ω1|apply ω2|refine τ3 rfl ?_|refine τ4 rfl ?_|refine ⟨rfl,?_⟩|apply τa|refine τb rfl ?_|refine ⟨⟨by kernel_rfl,by kernel_rfl⟩,?_⟩|refine ⟨by decide,?_⟩|apply τt|apply τf))
                      exact back (0 + 1, some nx5, nx5 + 1) ⟨hj, (fun h => by cases h)⟩ (by dsimp only; omega) (ele_tell (pm := ((2, nx5), (0 + 1) * 4) :: pm1 oq Q.length) (bx := [((2, nx4), .c [strA (p.rules.getD i rul0).name, int (p.rules.getD i rul0).act.1, int (p.rules.getD i rul0).act.2, .os 4 (0 + 1) (cndF (p.rules.getD i rul0).conds.reverse) (some (2, nx5))]), ((1, nx1), .c (qO p Q oq)), ((0, nx), .c (polC p))]) _ _ rfl rfl (List.Sublist.refl _) (List.Sublist.refl _) ⟨rfl, ⟨AVle.refl _, AVle.refl _, AVle.refl _, le_catF rfl hra.symm rfl, trivial⟩, BxLe.refl _⟩ ⟨rfl, show (0 + 1) * Tryz.prog.cellsOf 70 = (0 + 1) * 4 by rw [gc_o10], pm1_refl _ _⟩ ⟨AVle.refl _, AVle.refl _, AVle.refl _, AVle.refl _, AVle.refl _, AVle.refl _, le_int (idx_down (by omega) hj), trivial⟩)
                    · refine aw_mixN 13 _ (fun i => match i with | 12 => true | _ => false) (fun _ => false) [0, 1, 2, 3, 4, 5, 6, 7, 8, 9, 10, 11, 12] (by kernel_rfl) (by kernel_rfl) (HB.refl _) ?_
                      (repeat((conv=>whnf);first|apply ω0|apply ω1|apply ω2|refine τ3 rfl ?_|refine τ4 rfl ?_|refine ⟨rfl,?_⟩|apply τa|refine τb rfl ?_|refine ⟨⟨by kernel_rfl,by kernel_rfl⟩,?_⟩|refine ⟨by decide,?_⟩|apply τt|apply τf))
                      refine splitV_eq (b := ruls p.rules) rfl ?_
                      (repeat((conv=>whnf);first|apply ω0|apply ω1|apply ω2|refine τ3 rfl ?_|refine τ4 rfl ?_|refine ⟨rfl,?_⟩|apply τa|refine τb rfl ?_|refine ⟨⟨by kernel_rfl,by kernel_rfl⟩,?_⟩|refine ⟨by decide,?_⟩|apply τt|apply τf))
                      refine ⟨⟨by first | omega | (dsimp only; omega), by first | omega | (dsimp only; omega)⟩, ?_⟩
                      (repeat((conv=>whnf);first|apply ω0|apply ω1|apply ω2|refine τ3 rfl ?_|refine τ4 rfl ?_|refine ⟨rfl,?_⟩|apply τa|refine τb rfl ?_|refine ⟨⟨by kernel_rfl,by kernel_rfl⟩,?_⟩|refine ⟨by decide,?_⟩|apply τt|apply τf))
                      refine ⟨⟨ixge hix, ixlt hix (by show (p.rules.getD i rul0).conds.length - 1 - j < (p.rules.getD i rul0).conds.length; omega)⟩, splitV_eq (b := .rp (cndA ((p.rules.getD i rul0).conds.getD ((p.rules.getD i rul0).conds.length - 1 - j) cnd0)).cells) (congrArg (fun z : Int => AV.rp (cndA ((p.rules.getD i rul0).conds.getD z.toNat cnd0)).cells) hix) ?_⟩
                      (repeat((conv=>whnf);first|apply ω0|apply ω1|apply ω2|refine τ3 rfl ?_|refine τ4 rfl ?_|refine ⟨rfl,?_⟩|apply τa|refine τb rfl ?_|refine ⟨⟨by kernel_rfl,by kernel_rfl⟩,?_⟩|refine ⟨by decide,?_⟩|apply τt|apply τf))
                      refine ⟨_, eff_append (e := 70) (n := j) (oi := some (2, o2)) (sz := 4) (f := cndF (p.rules.getD i rul0).conds.reverse) (m := 1) (szx := 4) (HB.refl _) rfl rfl rfl (.inr ⟨_, rfl⟩) Tryz.underlying63 gr_o10 (.inr gc_o10.symm) (.inr gc_o10.symm) (fun i h => by cases h; rw [gc_o10]; rfl) (oneRow_one rfl) (fun _ => by rw [gb_o10]; omega) (fun _ => by omega), fun r h' hr => ?_⟩
                      rcases hr with ⟨hr, -⟩ | ⟨-, rfl, rfl⟩
                      · exact absurd hr (by decide)
                      (repeat((conv=>whnf);first|apply ω0|apply ω1|apply ω2|refine τ3 rfl ?_|refine τ4 rfl ?_|refine ⟨rfl,?_⟩|apply τa|refine τb rfl ?_|refine ⟨⟨by kernel_rfl,by kernel_rfl⟩,?_⟩|refine ⟨by decide,?_⟩|apply τt|apply τf))
                      exact back (j + 1, some nx5, nx5 + 1) ⟨hj, (fun h => by cases h)⟩ (by dsimp only; omega) (ele_tell (pm := ((2, nx5), (j + 1) * 4) :: pm1 oq Q.length) (bx := [((2, nx4), .c [strA (p.rules.getD i rul0).name, int (p.rules.getD i rul0).act.1, int (p.rules.getD i rul0).act.2, .os 4 (j + 1) (cndF (p.rules.getD i rul0).conds.reverse) (some (2, nx5))]), ((1, nx1), .c (qO p Q oq)), ((0, nx), .c (polC p))]) _ _ rfl rfl (List.Sublist.refl _) (List.Sublist.refl _) ⟨rfl, ⟨AVle.refl _, AVle.refl _, AVle.refl _, le_catF rfl hra.symm rfl, trivial⟩, BxLe.refl _⟩ ⟨rfl, show (j + 1) * Tryz.prog.cellsOf 70 = (j + 1) * 4 by rw [gc_o10], pm1_refl _ _⟩ ⟨AVle.refl _, AVle.refl _, AVle.refl _, AVle.refl _, AVle.refl _, AVle.refl _, le_int (idx_down (by omega) hj), trivial⟩)
        · (repeat((conv=>whnf);first|apply ω0|apply ω1|apply ω2|refine τ3 rfl ?_|refine τ4 rfl ?_|refine ⟨rfl,?_⟩|apply τa|refine τb rfl ?_|refine ⟨⟨by kernel_rfl,by kernel_rfl⟩,?_⟩|refine ⟨by decide,?_⟩|apply τt|apply τf))
          refine aw_loop (fun y : Nat × List Rul × Option Nat × Nat => mk 117 [(1, strA front), (2, .bp (0, nx) 0), (5, .bp (1, nx1) 0), (6, int 1), (7, int y.1)] ⟨[((1, nx1), .c (qO p y.2.1 y.2.2.1)), ((0, nx), .c (polC p))], pm1 y.2.2.1 y.2.1.length, y.2.2.2, 2⟩) (fun y => y.1 ≤ p.rules.length ∧ (y.2.2.1 = none → y.2.1 = []) ∧ y.2.1 = R ++ partI front 1 p.rules y.1 ∧ y.2.1.length ≤ R.length + y.1) (fun y => p.rules.length - y.1) ?_ ?_
          · exact ⟨(0, R, oi, nx3), ⟨Nat.zero_le _, h2, (List.append_nil _).symm, Nat.le_refl _⟩, ele_tell _ _ rfl rfl (List.Sublist.refl _) (List.Sublist.refl _) (BxLe.refl _) (pm1_refl _ _) ⟨AVle.refl _, AVle.refl _, AVle.refl _, AVle.refl _, AVle.refl _, trivial⟩⟩
          · rintro ⟨i, Q, oq, nx4⟩ ⟨k1, k2, k3, k4⟩
            dsimp only at k1 k2 k3 k4
            (repeat((conv=>whnf);first|apply ω0|apply ω1|apply ω2|refine τ3 rfl ?_|refine τ4 rfl ?_|refine ⟨rfl,?_⟩|apply τa|refine τb rfl ?_|refine ⟨⟨by kernel_rfl,by kernel_rfl⟩,?_⟩|refine ⟨by decide,?_⟩|apply τt|apply τf))
            intro c gi; cases c
            · have gi := not_of gi
              try dsimp only at gi
              have hi : i = p.rules.length := by omega
              subst hi
              (repeat((conv=>whnf);first|apply ω0|apply ω1|apply ω2|refine τ3 rfl ?_|refine τ4 rfl ?_|refine ⟨rfl,?_⟩|apply τa|refine τb rfl ?_|refine ⟨⟨by kernel_rfl,by kernel_rfl⟩,?_⟩|refine ⟨by decide,?_⟩|apply τt|apply τf))
              exact back (1 + 1, Q, oq, nx4) ⟨by dsimp only; omega, k2, by dsimp only; rw [k3, h3]; exact (flat_range (f := fun u => partI front u p.rules p.rules.length)).symm, by dsimp only; omega⟩ (by dsimp only; omega) (ele_tell _ _ rfl rfl (List.Sublist.refl _) (List.Sublist.refl _) (BxLe.refl _) (pm1_refl _ _) ⟨AVle.refl _, AVle.refl _, AVle.refl _, AVle.refl _, trivial⟩)
            · have gi := yes_of gi
              try dsimp only at gi
              have hi : i < p.rules.length := by omega
              have hmem : p.rules.getD i rul0 ∈ p.rules := by simp [List.getD, hi]
              have hcl := hc _ hmem
              have hpn := part_next (front := front) (u := 1) hi
              (repeat((conv=>whnf);first|apply ω0|apply ω1|apply ω2|refine τ3 rfl ?_|refine τ4 rfl ?_|refine ⟨rfl,?_⟩|apply τa|refine τb rfl ?_|refine ⟨⟨by kernel_rfl,by kernel_rfl⟩,?_⟩|refine ⟨by decide,?_⟩|apply τt|apply τf))
              refine ⟨⟨by first | omega | (dsimp only; omega), by first | omega | (dsimp only; omega)⟩, ?_⟩
              (repeat((conv=>whnf);first|apply ω0|apply ω1|apply ω2|refine τ3 rfl ?_|refine τ4 rfl ?_|refine ⟨rfl,?_⟩|apply τa|refine τb rfl ?_|refine ⟨⟨by kernel_rfl,by kernel_rfl⟩,?_⟩|refine ⟨by decide,?_⟩|apply τt|apply τf))
              intro c hcc
              have hk : c = keyB (p.rules.getD i rul0).name front := hcc
              clear hcc
              cases c
              · have hsel : selR front 1 (p.rules.getD i rul0) = true := by unfold selR; rw [← hk]; rfl
                rw [hsel, if_pos rfl] at hpn
                clear hk hsel
                have hw1 : IntKind.i64.wrap (((p.rules.getD i rul0).conds.length : Int) - 1) = ((p.rules.getD i rul0).conds.length : Int) - 1 - ((0 : Nat) : Int) := by rw [wrap_id (by omega) (by omega)]; omega
                (repeat((conv=>whnf);first|apply ω0|apply ω1|apply ω2|refine τ3 rfl ?_|refine τ4 rfl ?_|refine ⟨rfl,?_⟩|apply τa|refine τb rfl ?_|refine ⟨⟨by kernel_rfl,by kernel_rfl⟩,?_⟩|refine ⟨by decide,?_⟩|apply τt|apply τf))
                refine aw_mixN 14 _ (fun i => match i with | 13 => true | _ => false) (fun _ => false) [0, 1, 2, 3, 4, 5, 6, 7, 8, 9, 10, 11, 12, 13] (by kernel_rfl) (by kernel_rfl) (HB.refl _) ?_
                (repeat((conv=>whnf);first|apply ω0|apply ω1|apply ω2|refine τ3 rfl ?_|refine τ4 rfl ?_|refine ⟨rfl,?_⟩|apply τa|refine τb rfl ?_|refine ⟨⟨by kernel_rfl,by kernel_rfl⟩,?_⟩|refine ⟨by decide,?_⟩|apply τt|apply τf))
                refine splitV_eq (b := ruls p.rules) rfl ?_
                (repeat((conv=>whnf);first|apply ω0|apply ω1|apply ω2|refine τ3 rfl ?_|refine τ4 rfl ?_|refine ⟨rfl,?_⟩|apply τa|refine τb rfl ?_|refine ⟨⟨by kernel_rfl,by kernel_rfl⟩,?_⟩|refine ⟨by decide,?_⟩|apply τt|apply τf))
                refine ⟨⟨by first | omega | (dsimp only; omega), by first | omega | (dsimp only; omega)⟩, ?_⟩
                (repeat((conv=>whnf);first|apply ω0|apply ω1|apply ω2|refine τ3 rfl ?_|refine τ4 rfl ?_|refine ⟨rfl,?_⟩|apply τa|refine τb rfl ?_|refine ⟨⟨by kernel_rfl,by kernel_rfl⟩,?_⟩|refine ⟨by decide,?_⟩|apply τt|apply τf))
                refine splitV_eq (b := ruls p.rules) rfl ?_
                (repeat((conv=>whnf);first|apply ω0|apply ω1|apply ω2|refine τ3 rfl ?_|refine τ4 rfl ?_|refine ⟨rfl,?_⟩|apply τa|refine τb rfl ?_|refine ⟨⟨by kernel_rfl,by kernel_rfl⟩,?_⟩|refine ⟨by decide,?_⟩|apply τt|apply τf))
                refine ⟨⟨by first | omega | (dsimp only; omega), by first | omega | (dsimp only; omega)⟩, ?_⟩
                (repeat((conv=>whnf);first|apply ω0|apply ω1|apply ω2|refine τ3 rfl ?_|refine τ4 rfl ?_|refine ⟨rfl,?_⟩|apply τa|refine τb rfl ?_|refine ⟨⟨by kernel_rfl,by kernel_rfl⟩,?_⟩|refine ⟨by decide,?_⟩|apply τt|apply τf))
                refine splitV_eq (b := .rp (rulC4 (p.rules.getD i rul0))) rfl ?_
                (conv => whnf)
                refine ⟨_, eff_alloc rfl rfl z_rul (HB.cons rfl (HB.one rfl)), fun r h' hr => ?_⟩
                obtain ⟨rfl, rfl⟩ := hr
                (repeat((conv=>whnf);first|apply ω0|apply ω1|apply ω2|refine τ3 rfl ?_|refine τ4 rfl ?_|refine ⟨rfl,?_⟩|apply τa|refine τb rfl ?_|refine ⟨⟨by kernel_rfl,by kernel_rfl⟩,?_⟩|refine ⟨by decide,?_⟩|apply τt|apply τf))
                refine splitO_eq (b := ruls p.rules) rfl ?_
                (repeat((conv=>whnf);first|apply ω0|apply ω1|apply ω2|refine τ3 rfl ?_|refine τ4 rfl ?_|refine ⟨rfl,?_⟩|apply τa|refine τb rfl ?_|refine ⟨⟨by kernel_rfl,by kernel_rfl⟩,?_⟩|refine ⟨by decide,?_⟩|apply τt|apply τf))
                refine ⟨⟨by first | omega | (dsimp only; omega), by first | omega | (dsimp only; omega)⟩, ?_⟩
                (repeat((conv=>whnf);first|apply ω0|apply ω1|apply ω2|refine τ3 rfl ?_|refine τ4 rfl ?_|refine ⟨rfl,?_⟩|apply τa|refine τb rfl ?_|refine ⟨⟨by kernel_rfl,by kernel_rfl⟩,?_⟩|refine ⟨by decide,?_⟩|apply τt|apply τf))
                refine aw_loop (fun y : Nat × Option Nat × Nat => mk 117 [(1, strA front), (2, .bp (0, nx) 0), (5, .bp (1, nx1) 0), (6, int 1), (7, int i), (8, .bp (2, nx4) 0), (9, int (((p.rules.getD i rul0).conds.length : Int) - 1 - (y.1 : Int)))] ⟨[((2, nx4), .c [strA (p.rules.getD i rul0).name, int (p.rules.getD i rul0).act.1, int (p.rules.getD i rul0).act.2, .os 4 y.1 (cndF (p.rules.getD i rul0).conds.reverse) (nm2 y.2.1)]), ((1, nx1), .c (qO p Q oq)), ((0, nx), .c (polC p))], pm2 y.2.1 y.1 ++ pm1 oq Q.length, y.2.2, 3⟩) (fun y => y.1 ≤ (p.rules.getD i rul0).conds.length ∧ (y.2.1 = none → y.1 = 0)) (fun y => (p.rules.getD i rul0).conds.length - y.1) ?_ ?_
                · exact ⟨(0, none, nx4 + 1), ⟨Nat.zero_le _, fun _ => rfl⟩, ele_tell (pm := pm1 oq Q.length) (bx := [((2, nx4), .c [strA (p.rules.getD i rul0).name, int (p.rules.getD i rul0).act.1, int (p.rules.getD i rul0).act.2, .os 4 0 (cndF (p.rules.getD i rul0).conds.reverse) none]), ((1, nx1), .c (qO p Q oq)), ((0, nx), .c (polC p))]) _ _ rfl rfl (List.Sublist.refl _) (List.Sublist.refl _) ⟨rfl, ⟨AVle.refl _, AVle.refl _, AVle.refl _, AVle.os_nil, trivial⟩, BxLe.refl _⟩ (pm1_refl _ _) ⟨AVle.refl _, AVle.refl _, AVle.refl _, AVle.refl _, AVle.refl _, AVle.refl _, le_int hw1, trivial⟩⟩
                · rintro ⟨j, oc, nx5⟩ ⟨q1, q2⟩
                  dsimp only at q1 q2
                  (repeat((conv=>whnf);first|apply ω0|apply ω1|apply ω2|refine τ3 rfl ?_|refine τ4 rfl ?_|refine ⟨rfl,?_⟩|apply τa|refine τb rfl ?_|refine ⟨⟨by kernel_rfl,by kernel_rfl⟩,?_⟩|refine ⟨by decide,?_⟩|apply τt|apply τf))
                  intro c gk; cases c
                  · have gk := not_of gk
                    try dsimp only at gk
                    have hj : j = (p.rules.getD i rul0).conds.length := by omega
                    (repeat((conv=>whnf);first|apply ω0|apply ω2|refine τ3 rfl ?_|refine τ4 rfl ?_|refine ⟨rfl,?_⟩|apply τa|refine τb rfl ?_|refine ⟨⟨by kernel_rfl,by kernel_rfl⟩,?_⟩|refine ⟨by decide,?_⟩|apply τt|apply τf))
                    (conv => whnf)
                    refine AW.le (E' := mk 117 [(1, strA front), (2, .bp (0, nx) 0), (5, .bp (1, nx1) 0), (6, int 1), (7, int i), (8, .bp (2, nx4) 0)] ⟨[((2, nx4), .c (rulC4 (revR (p.rules.getD i rul0)))), ((1, nx1), .c (qO p Q oq)), ((0, nx), .c (polC p))], pm1 oq Q.length, nx5, 3⟩) (ele_tell _ _ rfl rfl (List.Sublist.refl _) (List.sublist_append_right _ _) ⟨rfl, ⟨AVle.refl _, AVle.refl _, AVle.refl _, le_rev hj, trivial⟩, BxLe.refl _⟩ (pm1_refl _ _) ⟨AVle.refl _, AVle.refl _, AVle.refl _, AVle.refl _, AVle.refl _, AVle.refl _, trivial⟩) ?_
                    (repeat((conv=>whnf);first|apply ω0|apply ω2|refine τ3 rfl ?_|refine τ4 rfl ?_|refine ⟨rfl,?_⟩|apply τa|refine τb rfl ?_|refine ⟨⟨by kernel_rfl,by kernel_rfl⟩,?_⟩|refine ⟨by decide,?_⟩|apply τt|apply τf))
                    refine aw_regionY (fun i => match i with | 0 => true | _ => false) 5 ?_
                    (repeat((conv=>whnf);first|apply ω0|apply ω1|apply ω2|refine τ3 rfl ?_|refine τ4 rfl ?_|refine ⟨rfl,?_⟩|apply τa|refine τb rfl ?_|refine ⟨⟨by kernel_rfl,by kernel_rfl⟩,?_⟩|refine ⟨by decide,?_⟩|apply τt|apply τf))
                    rcases oq with _ | o1
                    · obtain rfl := k2 rfl
                      refine AOp.any (aop_append (e := 65) (n := 0) (oi := none) (sz := 4) (f := rulF []) (m := 1) (szx := 4) rfl rfl (.inr ⟨_, rfl⟩) Tryz.underlying24 gr_o14 (.inl ⟨rfl, rfl⟩) (.inr gc_o14.symm) (fun i h => by cases h) (oneRow_one rfl) (fun _ => by rw [gb_o14]; omega) (fun _ => by omega) (fun hm => absurd hm (by decide)) (fun hm => ?_))
                      (repeat((conv=>whnf);first|apply ω0|apply ω1|apply ω2|refine τ3 rfl ?_|refine τ4 rfl ?_|refine ⟨rfl,?_⟩|apply τa|refine τb rfl ?_|refine ⟨⟨by kernel_rfl,by kernel_rfl⟩,?_⟩|refine ⟨by decide,?_⟩|apply τt|apply τf))
                      exact back (i + 1, [revR (p.rules.getD i rul0)], some nx5, nx5 + 1) ⟨hi, (fun h => by cases h), by dsimp only; rw [hpn, ← List.append_assoc, ← k3]; rfl, by dsimp only; simp; omega⟩ (by dsimp only; omega) (ele_tell (pm := [((1, nx5), [revR (p.rules.getD i rul0)].length * 4)]) (bx := [((1, nx1), .c (qO p [revR (p.rules.getD i rul0)] (some nx5))), ((0, nx), .c (polC p))]) _ _ rfl rfl (.cons _ (List.Sublist.refl _)) (List.Sublist.refl _) ⟨rfl, ⟨AVle.refl _, AVle.refl _, AVle.refl _, le_catR (L := []), trivial⟩, BxLe.refl _⟩ ⟨rfl, show (0 + 1) * Tryz.prog.cellsOf 65 = 1 * 4 by rw [gc_o14], trivial⟩ ⟨AVle.refl _, AVle.refl _, AVle.refl _, AVle.refl _, le_int (wrap_succ (by first | omega | (dsimp only; omega))), trivial⟩)
                    · refine AOp.any (aop_append (e := 65) (n := Q.length) (oi := some (1, o1)) (sz := 4) (f := rulF Q) (m := 1) (szx := 4) rfl rfl (.inr ⟨_, rfl⟩) Tryz.underlying24 gr_o14 (.inr gc_o14.symm) (.inr gc_o14.symm) (fun i h => by cases h; rw [gc_o14]; rfl) (oneRow_one rfl) (fun _ => by rw [gb_o14]; omega) (fun _ => by omega) (fun hm => absurd hm (by decide)) (fun hm => ?_))
                      (repeat((conv=>whnf);first|apply ω0|apply ω1|apply ω2|refine τ3 rfl ?_|refine τ4 rfl ?_|refine ⟨rfl,?_⟩|apply τa|refine τb rfl ?_|refine ⟨⟨by kernel_rfl,by kernel_rfl⟩,?_⟩|refine ⟨by decide,?_⟩|apply τt|apply τf))
                      exact back (i + 1, Q ++ [revR (p.rules.getD i rul0)], some nx5, nx5 + 1) ⟨hi, (fun h => by cases h), by dsimp only; rw [hpn, ← List.append_assoc, ← k3], by dsimp only; simp; omega⟩ (by dsimp only; omega) (ele_tell (pm := [((1, nx5), (Q ++ [revR (p.rules.getD i rul0)]).length * 4)]) (bx := [((1, nx1), .c (qO p (Q ++ [revR (p.rules.getD i rul0)]) (some nx5))), ((0, nx), .c (polC p))]) _ _ rfl rfl (.cons _ (List.Sublist.refl _)) (List.Sublist.refl _) ⟨rfl, ⟨AVle.refl _, AVle.refl _, AVle.refl _, le_catR, trivial⟩, BxLe.refl _⟩ ⟨rfl, show (Q.length + 1) * Tryz.prog.cellsOf 65 = (Q ++ [revR (p.rules.getD i rul0)]).length * 4 by rw [gc_o14]; simp, trivial⟩ ⟨AVle.refl _, AVle.refl _, AVle.refl _, AVle.refl _, le_int (wrap_succ (by first | omega | (dsimp only; omega))), trivial⟩)
                  · have gk := yes_of gk
                    try dsimp only at gk
                    have hj : j < (p.rules.getD i rul0).conds.length := by omega
                    have hix := idx_rev hj
                    have hra := rev_at hj
                    (repeat((conv=>whnf);first|apply ω0|apply ω1|apply ω2|refine τ3 rfl ?_|refine τ4 rfl ?_|refine ⟨rfl,?_⟩|apply τa|refine τb rfl ?_|refine ⟨⟨by kernel_rfl,by kernel_rfl⟩,?_⟩|refine ⟨by decide,?_⟩|apply τt|apply τf))
                    rcases oc with _ | o2
                    · obtain rfl := q2 rfl
                      refine aw_mixN 13 _ (fun i => match i with | 12 => true | _ => false) (fun _ => false) [0, 1, 2, 3, 4, 5, 6, 7, 8, 9, 10, 11, 12] (by kernel_rfl) (by kernel_rfl) (HB.refl _) ?_
                      (repeat((conv=>whnf);first|apply ω0|apply ω1|apply ω2|refine τ3 rfl ?_|refine τ4 rfl ?_|refine ⟨rfl,?_⟩|apply τa|refine τb rfl ?_|refine ⟨⟨by kernel_rfl,by kernel_rfl⟩,?_⟩|refine ⟨by decide,?_⟩|apply τt|apply τf))
                      refine splitV_eq (b := ruls p.rules) rfl ?_
                      (repeat((conv=>whnf);first|apply ω0|apply ω1|apply ω2|refine τ3 rfl ?_|refine τ4 rfl ?_|refine ⟨rfl,?_⟩|apply τa|refine τb rfl ?_|refine ⟨⟨by kernel_rfl,by kernel_rfl⟩,?_⟩|refine ⟨by decide,?_⟩|apply τt|apply τf))
                      refine ⟨⟨by first | omega | (dsimp only; omega), by first | omega | (dsimp only; omega)⟩, ?_⟩
                      (repeat((conv=>whnf);first|apply ω0|apply ω1|apply ω2|refine τ3 rfl ?_|refine τ4 rfl ?_|refine ⟨rfl,?_⟩|apply τa|refine τb rfl ?_|refine ⟨⟨by kernel_rfl,by kernel_rfl⟩,?_⟩|refine ⟨by decide,?_⟩|apply τt|apply τf))
                      refine ⟨⟨ixge hix, ixlt hix (by show (p.rules.getD i rul0).conds.length - 1 - 0 < (p.rules.getD i rul0).conds.length; omega)⟩, splitV_eq (b := .rp (cndA ((p.rules.getD i rul0).conds.getD ((p.rules.getD i rul0).conds.length - 1 - 0) cnd0)).cells) (congrArg (fun z : Int => AV.rp (cndA ((p.rules.getD i rul0).conds.getD z.toNat cnd0)).cells) hix) ?_⟩
                      (repeat((conv=>whnf);first|apply ω0|apply ω1|apply ω2|refine τ3 rfl ?_|refine τ4 rfl ?_|refine ⟨rfl,?_⟩|apply τa|refine τb rfl ?_|refine ⟨⟨by kernel_rfl,by kernel_rfl⟩,?_⟩|refine ⟨by decide,?_⟩|apply τt|apply τf))
                      refine ⟨_, eff_append (e := 70) (n := 0) (oi := none) (sz := 4) (f := cndF (p.rules.getD i rul0).conds.reverse) (m := 1) (szx := 4) (HB.refl _) rfl rfl rfl (.inr ⟨_, rfl⟩) Tryz.underlying63 gr_o10 (.inl ⟨rfl, rfl⟩) (.inr gc_o10.symm) (fun i h => by cases h) (oneRow_one rfl) (fun _ => by rw [gb_o10]; omega) (fun _ => by omega), fun r h' hr => ?_⟩
                      rcases hr with ⟨hr, -⟩ | ⟨-, rfl, rfl⟩
                      · exact absurd hr (by decide)
                      (repeat((conv=>whnf);first|apply ω0|apply ω1|apply ω2|refine τ3 rfl ?_|refine τ4 rfl ?_|refine ⟨rfl,?_⟩|apply τa|refine τb rfl ?_|refine ⟨⟨by kernel_rfl,by kernel_rfl⟩,?_⟩|refine ⟨by decide,?_⟩|apply τt|apply τf))
                      exact back (0 + 1, some nx5, nx5 + 1) ⟨hj, (fun h => by cases h)⟩ (by dsimp only; omega) (ele_tell (pm := ((2, nx5), (0 + 1) * 4) :: pm1 oq Q.length) (bx := [((2, nx4), .c [strA (p.rules.getD i rul0).name, int (p.rules.getD i rul0).act.1, int (p.rules.getD i rul0).act.2, .os 4 (0 + 1) (cndF (p.rules.getD i rul0).conds.reverse) (some (2, nx5))]), ((1, nx1), .c (qO p Q oq)), ((0, nx), .c (polC p))]) _ _ rfl rfl (List.Sublist.refl _) (List.Sublist.refl _) ⟨rfl, ⟨AVle.refl _, AVle.refl _, AVle.refl _, le_catF rfl hra.symm rfl, trivial⟩, BxLe.refl _⟩ ⟨rfl, show (0 + 1) * Tryz.prog.cellsOf 70 = (0 + 1) * 4 by rw [gc_o10], pm1_refl _ _⟩ ⟨AVle.refl _, AVle.refl _, AVle.refl _, AVle.refl _, AVle.refl _, AVle.refl _, le_int (idx_down (by omega) hj), trivial⟩)
                    · refine aw_mixN 13 _ (fun i => match i with | 12 => true | _ => false) (fun _ => false) [0, 1, 2, 3, 4, 5, 6, 7, 8, 9, 10, 11, 12] (by kernel_rfl) (by kernel_rfl) (HB.refl _) ?_
                      (repeat((conv=>whnf);first|apply ω0|apply ω1|apply ω2|refine τ3 rfl ?_|refine τ4 rfl ?_|refine ⟨rfl,?_⟩|apply τa|refine τb rfl ?_|refine ⟨⟨by kernel_rfl,by kernel_rfl⟩,?_⟩|refine ⟨by decide,?_⟩|apply τt|apply τf))
                      refine splitV_eq (b := ruls p.rules) rfl ?_
                      (repeat((conv=>whnf);first|apply ω0|apply ω1|apply ω2|refine τ3 rfl ?_|refine τ4 rfl ?_|refine ⟨rfl,?_⟩|apply τa|refine τb rfl ?_|refine ⟨⟨by kernel_rfl,by kernel_rfl⟩,?_⟩|refine ⟨by decide,?_⟩|apply τt|apply τf))
                      refine ⟨⟨by first | omega | (dsimp only; omega), by first | omega | (dsimp only; omega)⟩, ?_⟩
                      (repeat((conv=>whnf);first|apply ω0|apply ω1|apply ω2|refine τ3 rfl ?_|refine τ4 rfl ?_|refine ⟨rfl,?_⟩|apply τa|refine τb rfl ?_|refine ⟨⟨by kernel_rfl,by kernel_rfl⟩,?_⟩|refine ⟨by decide,?_⟩|apply τt|apply τf))
                      refine ⟨⟨ixge hix, ixlt hix (by show (p.rules.getD i rul0).conds.length - 1 - j < (p.rules.getD i rul0).conds.length; omega)⟩, splitV_eq (b := .rp (cndA ((p.rules.getD i rul0).conds.getD ((p.rules.getD i rul0).conds.length - 1 - j) cnd0)).cells) (congrArg (fun z : Int => AV.rp (cndA ((p.rules.getD i rul0).conds.getD z.toNat cnd0)).cells) hix) ?_⟩
                      (repeat((conv=>whnf);first|apply ω0|apply ω1|apply ω2|refine τ3 rfl ?_|refine τ4 rfl ?_|refine ⟨rfl,?_⟩|apply τa|refine τb rfl ?_|refine ⟨⟨by kernel_rfl,by kernel_rfl⟩,?_⟩|refine ⟨by decide,?_⟩|apply τt|apply τf))
                      refine ⟨_, eff_append (e := 70) (n := j) (oi := some (2, o2)) (sz := 4) (f := cndF (p.rules.getD i rul0).conds.reverse) (m := 1) (szx := 4) (HB.refl _) rfl rfl rfl (.inr ⟨_, rfl⟩) Tryz.underlying63 gr_o10 (.inr gc_o10.symm) (.inr gc_o10.symm) (fun i h => by cases h; rw [gc_o10]; rfl) (oneRow_one rfl) (fun _ => by rw [gb_o10]; omega) (fun _ => by omega), fun r h' hr => ?_⟩
                      rcases hr with ⟨hr, -⟩ | ⟨-, rfl, rfl⟩
                      · exact absurd hr (by decide)
                      (repeat((conv=>whnf);first|apply ω0|apply ω1|apply ω2|refine τ3 rfl ?_|refine τ4 rfl ?_|refine ⟨rfl,?_⟩|apply τa|refine τb rfl ?_|refine ⟨⟨by kernel_rfl,by kernel_rfl⟩,?_⟩|refine ⟨by decide,?_⟩|apply τt|apply τf))
                      exact back (j + 1, some nx5, nx5 + 1) ⟨hj, (fun h => by cases h)⟩ (by dsimp only; omega) (ele_tell (pm := ((2, nx5), (j + 1) * 4) :: pm1 oq Q.length) (bx := [((2, nx4), .c [strA (p.rules.getD i rul0).name, int (p.rules.getD i rul0).act.1, int (p.rules.getD i rul0).act.2, .os 4 (j + 1) (cndF (p.rules.getD i rul0).conds.reverse) (some (2, nx5))]), ((1, nx1), .c (qO p Q oq)), ((0, nx), .c (polC p))]) _ _ rfl rfl (List.Sublist.refl _) (List.Sublist.refl _) ⟨rfl, ⟨AVle.refl _, AVle.refl _, AVle.refl _, le_catF rfl hra.symm rfl, trivial⟩, BxLe.refl _⟩ ⟨rfl, show (j + 1) * Tryz.prog.cellsOf 70 = (j + 1) * 4 by rw [gc_o10], pm1_refl _ _⟩ ⟨AVle.refl _, AVle.refl _, AVle.refl _, AVle.refl _, AVle.refl _, AVle.refl _, le_int (idx_down (by omega) hj), trivial⟩)
              · have hsel : selR front 1 (p.rules.getD i rul0) = false := by unfold selR; rw [← hk]; rfl
                rw [hsel, if_neg (by decide), List.append_nil] at hpn
                clear hk
                (repeat((conv=>whnf);first|apply ω0|apply ω1|apply ω2|refine τ3 rfl ?_|refine τ4 rfl ?_|refine ⟨rfl,?_⟩|apply τa|refine τb rfl ?_|refine ⟨⟨by kernel_rfl,by kernel_rfl⟩,?_⟩|refine ⟨by decide,?_⟩|apply τt|apply τf))
                exact back (i + 1, Q, oq, nx4) ⟨hi, k2, by dsimp only; rw [hpn]; exact k3, by dsimp only; omega⟩ (by dsimp only; omega) (ele_tell _ _ rfl rfl (List.Sublist.refl _) (List.Sublist.refl _) (BxLe.refl _) (pm1_refl _ _) ⟨AVle.refl _, AVle.refl _, AVle.refl _, AVle.refl _, le_int (wrap_succ (by first | omega | (dsimp only; omega))), trivial⟩)
        · refine AW.le (E' := mk 117 [(2, .bp (0, nx) 0), (5, .bp (1, nx1) 0), (6, int 2)] ⟨[((1, nx1), .c (polC (orderP p front))), ((0, nx), .c (polC p))], [], nx3, 2⟩) (ele_tell (pm := []) _ [] rfl rfl (List.Sublist.refl _) (List.nil_sublist _) ⟨rfl, ⟨AVle.refl _, AVle.refl _, AVle.refl _, le_ord h3, trivial⟩, BxLe.refl _⟩ trivial ⟨AVle.refl _, AVle.refl _, AVle.refl _, trivial⟩) ?_
          (repeat((conv=>whnf);first|apply ω0|apply ω1|apply ω2|refine τ3 rfl ?_|refine τ4 rfl ?_|refine ⟨rfl,?_⟩|apply τa|refine τb rfl ?_|refine ⟨⟨by kernel_rfl,by kernel_rfl⟩,?_⟩|refine ⟨by decide,?_⟩|apply τt|apply τf))
          refine splitO_eq (b := polA p) rfl ?_
          (repeat((conv=>whnf);first|apply ω0|apply ω1|apply ω2|refine τ3 rfl ?_|refine τ4 rfl ?_|refine ⟨rfl,?_⟩|apply τa|refine τb rfl ?_|refine ⟨⟨by kernel_rfl,by kernel_rfl⟩,?_⟩|refine ⟨by decide,?_⟩|apply τt|apply τf))
          refine aop_tells rfl rfl hof ⟨AVle.refl _, trivial⟩ fun nx4 => ?_
          (repeat((conv=>whnf);first|apply ω0|apply ω1|apply ω2|refine τ3 rfl ?_|refine τ4 rfl ?_|refine ⟨rfl,?_⟩|apply τa|refine τb rfl ?_|refine ⟨⟨by kernel_rfl,by kernel_rfl⟩,?_⟩|refine ⟨by decide,?_⟩|apply τt|apply τf))
          refine aop_tells rfl rfl h16 ⟨AVle.refl _, trivial⟩ fun nx5 => ?_
          (repeat((conv=>whnf);first|apply ω0|apply ω1|apply ω2|refine τ3 rfl ?_|refine τ4 rfl ?_|refine ⟨rfl,?_⟩|apply τa|refine τb rfl ?_|refine ⟨⟨by kernel_rfl,by kernel_rfl⟩,?_⟩|refine ⟨by decide,?_⟩|apply τt|apply τf))
          refine splitO_eq (b := polA (orderP p front)) rfl ?_
          (repeat((conv=>whnf);first|apply ω0|apply ω1|apply ω2|refine τ3 rfl ?_|refine τ4 rfl ?_|refine ⟨rfl,?_⟩|apply τa|refine τb rfl ?_|refine ⟨⟨by kernel_rfl,by kernel_rfl⟩,?_⟩|refine ⟨by decide,?_⟩|apply τt|apply τf))
          refine aop_tells rfl rfl hofq ⟨AVle.refl _, trivial⟩ fun nx6 => ?_
          (repeat((conv=>whnf);first|apply ω0|apply ω1|apply ω2|refine τ3 rfl ?_|refine τ4 rfl ?_|refine ⟨rfl,?_⟩|apply τa|refine τb rfl ?_|refine ⟨⟨by kernel_rfl,by kernel_rfl⟩,?_⟩|refine ⟨by decide,?_⟩|apply τt|apply τf))
          refine aop_tells rfl rfl h16q ⟨AVle.refl _, trivial⟩ fun nx7 => ?_
          (repeat((conv=>whnf);first|apply ω0|apply ω1|apply ω2|refine τ3 rfl ?_|refine τ4 rfl ?_|refine ⟨rfl,?_⟩|apply τa|refine τb rfl ?_|refine ⟨⟨by kernel_rfl,by kernel_rfl⟩,?_⟩|refine ⟨by decide,?_⟩|apply τt|apply τf))
          intro c hc
          have hc2 : c = true := hc.trans (beq_self_eq_true _)
          clear hc; subst hc2
          (repeat((conv=>whnf);first|apply ω0|apply ω1|apply ω2|refine τ3 rfl ?_|refine τ4 rfl ?_|refine ⟨rfl,?_⟩|apply τa|refine τb rfl ?_|refine ⟨⟨by kernel_rfl,by kernel_rfl⟩,?_⟩|refine ⟨by decide,?_⟩|apply τt|apply τf))
          refine splitO_eq (b := polA n) rfl ?_
          (repeat((conv=>whnf);first|apply ω0|apply ω1|apply ω2|refine τ3 rfl ?_|refine τ4 rfl ?_|refine ⟨rfl,?_⟩|apply τa|refine τb rfl ?_|refine ⟨⟨by kernel_rfl,by kernel_rfl⟩,?_⟩|refine ⟨by decide,?_⟩|apply τt|apply τf))
          refine splitO_eq (b := polA n) rfl ?_
          (repeat((conv=>whnf);first|apply ω0|apply ω1|apply ω2|refine τ3 rfl ?_|refine τ4 rfl ?_|refine ⟨rfl,?_⟩|apply τa|refine τb rfl ?_|refine ⟨⟨by kernel_rfl,by kernel_rfl⟩,?_⟩|refine ⟨by decide,?_⟩|apply τt|apply τf))
          refine aop_tells rfl rfl hsm ⟨AVle.refl _, AVle.refl _, trivial⟩ fun nx8 => ?_
          intro c hc
          have hc2 : c = true := hc
          clear hc; subst hc2
          (repeat((conv=>whnf);first|apply ω0|apply ω1|apply ω2|refine τ3 rfl ?_|refine τ4 rfl ?_|refine ⟨rfl,?_⟩|apply τa|refine τb rfl ?_|refine ⟨⟨by kernel_rfl,by kernel_rfl⟩,?_⟩|refine ⟨by decide,?_⟩|apply τt|apply τf))
          refine aop_tells rfl rfl awake16_spec trivial fun nx9 => ?_
          intro c hc
          have hc2 : c = true := hc
          clear hc; subst hc2
          (repeat((conv=>whnf);first|apply ω0|apply ω1|apply ω2|refine τ3 rfl ?_|refine τ4 rfl ?_|refine ⟨rfl,?_⟩|apply τa|refine τb rfl ?_|refine ⟨⟨by kernel_rfl,by kernel_rfl⟩,?_⟩|refine ⟨by decide,?_⟩|apply τt|apply τf))
          exact ret_tells rfl (AVle.refl _)
    · (repeat((conv=>whnf);first|apply ω0|apply ω1|apply ω2|refine τ3 rfl ?_|refine τ4 rfl ?_|refine ⟨rfl,?_⟩|apply τa|refine τb rfl ?_|refine ⟨⟨by kernel_rfl,by kernel_rfl⟩,?_⟩|refine ⟨by decide,?_⟩|apply τt|apply τf))
      refine splitO_eq (b := polA p) rfl ?_
      (repeat((conv=>whnf);first|apply ω0|apply ω1|apply ω2|refine τ3 rfl ?_|refine τ4 rfl ?_|refine ⟨rfl,?_⟩|apply τa|refine τb rfl ?_|refine ⟨⟨by kernel_rfl,by kernel_rfl⟩,?_⟩|refine ⟨by decide,?_⟩|apply τt|apply τf))
      refine aop_tells rfl rfl hli ⟨AVle.refl _, trivial⟩ fun nx2 => ?_
      (repeat((conv=>whnf);first|apply ω0|apply ω1|apply ω2|refine τ3 rfl ?_|refine τ4 rfl ?_|refine ⟨rfl,?_⟩|apply τa|refine τb rfl ?_|refine ⟨⟨by kernel_rfl,by kernel_rfl⟩,?_⟩|refine ⟨by decide,?_⟩|apply τt|apply τf))
      intro c hcc
      have hc2 : c = true := hcc.trans (decide_eq_true (by omega))
      clear hcc; subst hc2
      (repeat((conv=>whnf);first|apply ω0|apply ω1|apply ω2|refine τ3 rfl ?_|refine τ4 rfl ?_|refine ⟨rfl,?_⟩|apply τa|refine τb rfl ?_|refine ⟨⟨by kernel_rfl,by kernel_rfl⟩,?_⟩|refine ⟨by decide,?_⟩|apply τt|apply τf))
      exact ret_tells rfl (AVle.refl _)
end Go.Proofs.W

import Derived.Test.YtgjlifhlajionaaGreatDoorE
import Derived.Test.YtgjlifhlajionaaGreatDoorD
import Derived.Test.YtgjlifhlajionaaGreatDoorC
import Derived.Sort.Walk0
set_option linter.unusedVariables false
set_option linter.unusedSimpArgs false
namespace Go.Proofs.W
open Go.Vl
set_option maxRecDepth 100000

/- What groups hold, and what is put out of them. -/
def addN (l : List Rul) (r : Rul) : List Rul :=
  match normR r with
  | none => l
  | some n => if hidden l n then l else l ++ [n]
def gOf (s : ByteArray) (rs : List Rul) : List Rul := rs.foldl (fun l r => if keyB s r.name then addN l r else l) []
theorem keyB_refl (s : ByteArray) : keyB s s = true := keyB_eq.2 rfl
theorem keyB_sym {s t : ByteArray} (h : keyB s t = false) : keyB t s = false := by
  rw [Bool.eq_false_iff] at h ⊢
  exact fun k => h (keyB_eq.2 (keyB_eq.1 k).symm)
theorem gget_gadd {s t : ByteArray} {n : Rul} : ∀ {H : List (ByteArray × List Rul)}, gget (gadd H t n) s = if keyB s t then gget H s ++ [n] else gget H s
  | [] => by
    show (if keyB s t = true then [n] else []) = _
    by_cases h : keyB s t = true
    · rw [if_pos h, if_pos h]; rfl
    · rw [if_neg h, if_neg h]; rfl
  | h :: H => by
    unfold gadd
    by_cases ht : keyB t h.1 = true
    · rw [if_pos ht]
      obtain rfl := keyB_eq.1 ht
      show (if keyB s h.1 = true then _ else gget H s) = _
      by_cases hs : keyB s h.1 = true
      · rw [if_pos hs, if_pos hs]; show _ = (if keyB s h.1 = true then _ else _) ++ _; rw [if_pos hs]
      · rw [if_neg hs, if_neg hs]; show _ = (if keyB s h.1 = true then _ else _); rw [if_neg hs]
    · rw [if_neg ht]
      show (if keyB s h.1 = true then h.2 else gget (gadd H t n) s) = if keyB s t = true then (if keyB s h.1 = true then h.2 else gget H s) ++ [n] else (if keyB s h.1 = true then h.2 else gget H s)
      by_cases hs : keyB s h.1 = true
      · rw [if_pos hs, if_pos hs]
        have : ¬ keyB s t = true := fun k => ht (by rw [← keyB_eq.1 k]; exact hs)
        rw [if_neg this]
      · rw [if_neg hs, if_neg hs, gget_gadd]
theorem gget_gstep {s : ByteArray} {H : List (ByteArray × List Rul)} {r : Rul} : gget (gstep H r) s = if keyB s r.name then addN (gget H s) r else gget H s := by
  unfold gstep addN
  cases hN : normR r with
  | none => simp
  | some n =>
    dsimp only
    by_cases hs : keyB s r.name = true
    · obtain rfl := keyB_eq.1 hs
      rw [if_pos hs]
      by_cases hh : hidden (gget H r.name) n = true
      · rw [if_pos hh, if_pos hh]
      · rw [if_neg hh, if_neg hh, gget_gadd, if_pos hs]
    · rw [if_neg hs]
      by_cases hh : hidden (gget H r.name) n = true
      · rw [if_pos hh]
      · rw [if_neg hh, gget_gadd, if_neg hs]
theorem gget_fold {s : ByteArray} : ∀ (rs : List Rul) (H : List (ByteArray × List Rul)), gget (rs.foldl gstep H) s = rs.foldl (fun l r => if keyB s r.name then addN l r else l) (gget H s)
  | [], _ => rfl
  | r :: rs, H => by
    rw [List.foldl_cons, gget_fold rs, List.foldl_cons, gget_gstep]
theorem gget_groups (s : ByteArray) (rs : List Rul) : gget (groupsOf rs) s = gOf s rs := gget_fold rs []

/-- The keys of groups: each once; none without a group. -/
theorem gadd_keys {t : ByteArray} {n : Rul} : ∀ {H : List (ByteArray × List Rul)} {s : ByteArray}, s ∈ (gadd H t n).map (·.1) ↔ s = t ∨ s ∈ H.map (·.1)
  | [], s => by simp [gadd]
  | h :: H, s => by
    unfold gadd
    by_cases ht : keyB t h.1 = true
    · rw [if_pos ht]
      obtain rfl := keyB_eq.1 ht
      simp
    · rw [if_neg ht, List.map_cons, List.mem_cons, gadd_keys, List.map_cons, List.mem_cons]
      constructor
      · rintro (h | h | h)
        · exact .inr (.inl h)
        · exact .inl h
        · exact .inr (.inr h)
      · rintro (h | h | h)
        · exact .inr (.inl h)
        · exact .inl h
        · exact .inr (.inr h)
theorem gadd_nodup {t : ByteArray} {n : Rul} : ∀ {H : List (ByteArray × List Rul)}, (H.map (·.1)).Nodup → ((gadd H t n).map (·.1)).Nodup
  | [], _ => by simp [gadd]
  | h :: H, hn => by
    unfold gadd
    by_cases ht : keyB t h.1 = true
    · rw [if_pos ht]; exact hn
    · rw [if_neg ht]
      rw [List.map_cons, List.nodup_cons] at hn ⊢
      refine ⟨fun hm => ?_, gadd_nodup hn.2⟩
      rcases gadd_keys.1 hm with e | e
      · exact ht (by rw [← e]; exact keyB_refl _)
      · exact hn.1 e
theorem gstep_nodup {H : List (ByteArray × List Rul)} {r : Rul} (h : (H.map (·.1)).Nodup) : ((gstep H r).map (·.1)).Nodup := by
  unfold gstep
  cases normR r with
  | none => exact h
  | some n =>
    dsimp only
    split
    · exact h
    · exact gadd_nodup h
theorem groups_nodup (rs : List Rul) : ((groupsOf rs).map (·.1)).Nodup := by
  have key : ∀ (rs : List Rul) (H : List (ByteArray × List Rul)), (H.map (·.1)).Nodup → ((rs.foldl gstep H).map (·.1)).Nodup := by
    intro rs
    induction rs with
    | nil => intro H h; exact h
    | cons r rs ih => intro H h; exact ih _ (gstep_nodup h)
  exact key rs [] List.nodup_nil
theorem gget_mem {s : ByteArray} : ∀ {H : List (ByteArray × List Rul)}, gget H s ≠ [] → s ∈ H.map (·.1)
  | [], h => absurd rfl h
  | h :: H, hne => by
    by_cases hs : keyB s h.1 = true
    · rw [keyB_eq.1 hs]; simp
    · have : gget (h :: H) s = gget H s := if_neg hs
      rw [this] at hne
      exact List.mem_cons_of_mem _ (gget_mem hne)
def RS (a b : List UInt8) : Prop := Go.Sort.ltStr a b = true
theorem RS_irr (x : List UInt8) : ¬ RS x x := by unfold RS; rw [Go.Sort.swo_ltStr.irrefl]; decide
theorem RS_tr (x y z : List UInt8) (h : RS x y) (k : RS y z) : RS x z := Go.Sort.swo_ltStr.trans x y z h k
theorem data_inj {s t : ByteArray} (h : s.data.toList = t.data.toList) : s = t := by
  obtain ⟨⟨a⟩⟩ := s; obtain ⟨⟨b⟩⟩ := t; simpa using h
theorem keys_strict {H : List (ByteArray × List Rul)} (hn : (H.map (·.1)).Nodup) : (keysOf H).Pairwise RS := by
  have h1 := sortBy_pair Go.Sort.swo_ltStr (H.map fun h => h.1.data.toList)
  have h2 : (keysOf H).Nodup := by
    refine (List.mergeSort_perm _ _).nodup_iff.2 ?_
    have : (H.map fun h => h.1.data.toList) = (H.map (·.1)).map (fun s : ByteArray => s.data.toList) := by rw [List.map_map]; rfl
    rw [this]
    exact List.pairwise_map.2 (hn.imp fun h e => h (data_inj e))
  refine (h1.and h2).imp fun {a b} h => ?_
  unfold RS
  cases hl : Go.Sort.ltStr a b with
  | true => rfl
  | false => exact absurd (ltStr_tot _ _ hl h.1) h.2
theorem keys_mem {H : List (ByteArray × List Rul)} {s : ByteArray} : s.data.toList ∈ keysOf H ↔ s ∈ H.map (·.1) := by
  unfold keysOf
  rw [sortBy_mem, List.mem_map, List.mem_map]
  constructor
  · rintro ⟨h, hh, e⟩; exact ⟨h, hh, data_inj e⟩
  · rintro ⟨h, hh, e⟩; exact ⟨h, hh, by rw [e]⟩
/-- What is put out hangs on what the groups hold alone. -/
theorem outR_filter {d : A2} {H : List (ByteArray × List Rul)} : ∀ (N : List (List UInt8)), outR d H N = outR d H (N.filter fun z => !(cutL d (gget H ⟨z.toArray⟩)).isEmpty)
  | [] => rfl
  | z :: N => by
    have ih := outR_filter (d := d) (H := H) N
    unfold outR at ih ⊢
    rw [List.flatMap_cons, List.filter_cons]
    cases hc : cutL d (gget H ⟨z.toArray⟩) with
    | nil => rw [List.nil_append, ih]; rfl
    | cons a b => rw [ih]; simp [hc]
theorem out_same {d : A2} {H H' : List (ByteArray × List Rul)} {N N' : List (List UInt8)} (h1 : N.Pairwise RS) (h2 : N'.Pairwise RS) (he : ∀ s, cutL d (gget H s) = cutL d (gget H' s))
    (hi : ∀ s : ByteArray, cutL d (gget H s) ≠ [] → s.data.toList ∈ N ∧ s.data.toList ∈ N') : outR d H N = outR d H' N' := by
  have e1 : outR d H' N' = outR d H N' := by
    unfold outR
    congr 1
    funext z; rw [he]
  rw [e1, outR_filter N, outR_filter N']
  congr 1
  refine pair_same RS_irr RS_tr (h1.filter _) (h2.filter _) fun z => ?_
  rw [List.mem_filter, List.mem_filter]
  have hz : (⟨z.toArray⟩ : ByteArray).data.toList = z := by simp
  constructor
  · rintro ⟨ha, hb⟩
    refine ⟨?_, hb⟩
    have := (hi ⟨z.toArray⟩ (by intro e; rw [e] at hb; simp at hb)).2
    rwa [hz] at this
  · rintro ⟨ha, hb⟩
    refine ⟨?_, hb⟩
    have := (hi ⟨z.toArray⟩ (by intro e; rw [e] at hb; simp at hb)).1
    rwa [hz] at this
theorem keys_in {d : A2} {H : List (ByteArray × List Rul)} {s : ByteArray} (h : cutL d (gget H s) ≠ []) : s.data.toList ∈ keysOf H :=
  keys_mem.2 (gget_mem (fun e => h (by rw [e]; rfl)))
/-- Policies whose names have the same groups, as far as they are put out. -/
theorem norm_same {p q : Pol} (hd : p.dflt = q.dflt) (hx : p.x32 = q.x32) (h : ∀ s, cutL p.dflt (gOf s p.rules) = cutL p.dflt (gOf s q.rules)) : normP p = normP q := by
  unfold normP
  have hk : ∀ s, cutL p.dflt (gget (groupsOf p.rules) s) = cutL p.dflt (gget (groupsOf q.rules) s) := fun s => by rw [gget_groups, gget_groups]; exact h s
  rw [← hd, ← hx, out_same (keys_strict (groups_nodup _)) (keys_strict (groups_nodup _)) hk fun s hs => ⟨keys_in hs, keys_in (by rw [← hk]; exact hs)⟩]
/-- A rule without conditions, of the default's action, behind all others, changes nothing. -/
theorem norm_drops {p : Pol} {s : ByteArray} : normP p = normP ⟨p.dflt, p.x32, p.rules ++ [⟨s, p.dflt, []⟩]⟩ := by
  refine norm_same rfl rfl fun t => ?_
  dsimp only
  unfold gOf
  rw [List.foldl_append]
  generalize p.rules.foldl (fun l r => if keyB t r.name then addN l r else l) [] = l
  show _ = cutL p.dflt (if keyB t s = true then addN l ⟨s, p.dflt, []⟩ else l)
  by_cases hs : keyB t s = true
  · rw [if_pos hs]
    unfold addN
    rw [show normR ⟨s, p.dflt, []⟩ = some ⟨s, p.dflt, []⟩ from rfl]
    dsimp only
    by_cases hh : hidden l ⟨s, p.dflt, []⟩ = true
    · rw [if_pos hh]
    · rw [if_neg hh, cutL_snoc, if_pos rfl]
  · rw [if_neg hs]
/-- A fold that looks at some alone. -/
theorem gOf_filter (s : ByteArray) (rs : List Rul) : gOf s rs = (rs.filter fun r => keyB s r.name).foldl addN [] := by
  unfold gOf
  have key : ∀ (rs : List Rul) (l : List Rul), rs.foldl (fun l r => if keyB s r.name then addN l r else l) l = (rs.filter fun r => keyB s r.name).foldl addN l := by
    intro rs
    induction rs with
    | nil => intro l; rfl
    | cons r rs ih =>
      intro l
      rw [List.foldl_cons, ih, List.filter_cons]
      by_cases h : keyB s r.name = true
      · rw [if_pos h, if_pos h]; rfl
      · rw [if_neg h, if_neg h]
  exact key rs []
def revR (r : Rul) : Rul := ⟨r.name, r.act, r.conds.reverse⟩
def orderL (front : ByteArray) (rs : List Rul) : List Rul := (rs.filter fun r => keyB r.name front).map revR ++ (rs.filter fun r => !keyB r.name front).map revR
theorem keyB_comm (s t : ByteArray) : keyB s t = keyB t s := by
  rw [Bool.eq_iff_iff, keyB_eq, keyB_eq]; exact eq_comm
theorem addN_rev (l : List Rul) (r : Rul) : addN l (revR r) = addN l r := by
  unfold addN
  rw [normR_mem (r := revR r) (r' := r) rfl rfl fun x => by unfold revR; simp]
theorem fold_rev (rs : List Rul) (l : List Rul) : (rs.map revR).foldl addN l = rs.foldl addN l := by
  rw [List.foldl_map]
  congr 1
  funext l r; exact addN_rev l r
theorem gOf_order (s front : ByteArray) (rs : List Rul) : gOf s (orderL front rs) = gOf s rs := by
  rw [gOf_filter, gOf_filter]
  unfold orderL
  rw [List.filter_append, List.filter_map, List.filter_map, List.filter_filter, List.filter_filter]
  have hc : ((fun r : Rul => keyB s r.name) ∘ revR) = fun r => keyB s r.name := rfl
  rw [hc]
  by_cases hs : keyB s front = true
  · obtain rfl := keyB_eq.1 hs
    have e1 : (rs.filter fun a => keyB s a.name && keyB a.name s) = rs.filter fun r => keyB s r.name := by
      congr 1; funext a; rw [keyB_comm a.name s, Bool.and_self]
    have e2 : (rs.filter fun a => keyB s a.name && !keyB a.name s) = [] := by
      rw [List.filter_eq_nil_iff]; intro a _; rw [keyB_comm a.name s]; cases keyB s a.name <;> simp
    rw [e1, e2, List.map_nil, List.append_nil, fold_rev]
  · have e1 : (rs.filter fun a => keyB s a.name && keyB a.name front) = [] := by
      rw [List.filter_eq_nil_iff]
      intro a _ h
      simp only [Bool.and_eq_true] at h
      exact hs (by rw [keyB_eq.1 h.1]; exact h.2)
    have e2 : (rs.filter fun a => keyB s a.name && !keyB a.name front) = rs.filter fun r => keyB s r.name := by
      congr 1; funext a
      by_cases h : keyB s a.name = true
      · rw [h]
        cases hf : keyB a.name front with
        | false => rfl
        | true => exact absurd (by rw [keyB_eq.1 h]; exact hf) hs
      · rw [Bool.not_eq_true] at h; rw [h]; rfl
    rw [e1, e2, List.map_nil, List.nil_append, fold_rev]
theorem norm_orders {p : Pol} {front : ByteArray} : normP p = normP ⟨p.dflt, p.x32, orderL front p.rules⟩ :=
  norm_same rfl rfl fun s => by dsimp only; rw [gOf_order]
theorem rightR_rev (r : Rul) : rightR (revR r) = rightR r := by
  unfold rightR revR
  dsimp only
  rw [List.length_reverse, List.any_reverse]
theorem filt_len (p : Rul → Bool) : ∀ l : List Rul, (l.filter p).length + (l.filter fun r => !p r).length = l.length
  | [] => rfl
  | r :: l => by
    have := filt_len p l
    rw [List.filter_cons, List.filter_cons]
    cases p r <;> simp <;> omega
theorem right_orders {p : Pol} {front : ByteArray} : rightP ⟨p.dflt, p.x32, orderL front p.rules⟩ = rightP p := by
  have hl : (orderL front p.rules).length = p.rules.length := by
    unfold orderL
    rw [List.length_append, List.length_map, List.length_map]
    exact filt_len (fun r => keyB r.name front) p.rules
  have ha : (orderL front p.rules).any (fun r => !rightR r) = p.rules.any (fun r => !rightR r) := by
    rw [Bool.eq_iff_iff, List.any_eq_true, List.any_eq_true]
    unfold orderL
    constructor
    · rintro ⟨x, hx, hb⟩
      rcases List.mem_append.1 hx with hx | hx
      · obtain ⟨y, hy, rfl⟩ := List.mem_map.1 hx
        rw [rightR_rev] at hb
        exact ⟨y, (List.mem_filter.1 hy).1, hb⟩
      · obtain ⟨y, hy, rfl⟩ := List.mem_map.1 hx
        rw [rightR_rev] at hb
        exact ⟨y, (List.mem_filter.1 hy).1, hb⟩
    · rintro ⟨x, hx, hb⟩
      refine ⟨revR x, ?_, by rw [rightR_rev]; exact hb⟩
      rw [List.mem_append]
      cases hk : keyB x.name front with
      | true => exact .inl (List.mem_map_of_mem (List.mem_filter.2 ⟨hx, hk⟩))
      | false => exact .inr (List.mem_map_of_mem (List.mem_filter.2 ⟨hx, by rw [hk]; rfl⟩))
  unfold rightP
  dsimp only
  rw [hl, ha]
/- The normal form of a normal form. -/
theorem nil_or_snoc (l : List Rul) : l = [] ∨ ∃ l' x, l = l' ++ [x] := by
  rcases List.eq_nil_or_concat l with h | ⟨l', x, h⟩
  · exact .inl h
  · exact .inr ⟨l', x, by rw [h, List.concat_eq_append]⟩
def GoodG (l : List Rul) : Prop := ∀ a n b, l = a ++ n :: b → normR n = some n ∧ hidden a n = false
theorem good_nil : GoodG [] := fun a n b h => by simp at h
theorem good_snoc {l : List Rul} {n : Rul} (h : GoodG l) (h1 : normR n = some n) (h2 : hidden l n = false) : GoodG (l ++ [n]) := fun a m b he => by
  rcases nil_or_snoc b with rfl | ⟨b', x, rfl⟩
  · have := List.append_inj' he rfl
    obtain ⟨rfl, hh⟩ := this
    cases hh
    exact ⟨h1, h2⟩
  · rw [show a ++ m :: (b' ++ [x]) = (a ++ m :: b') ++ [x] by simp] at he
    have := List.append_inj' he rfl
    exact h a m b' this.1
theorem good_front {l t : List Rul} (h : GoodG (l ++ t)) : GoodG l := fun a n b he => h a n (b ++ t) (by rw [he]; simp)
theorem addN_good {l : List Rul} {r : Rul} (h : GoodG l) : GoodG (addN l r) := by
  unfold addN
  cases hN : normR r with
  | none => exact h
  | some n =>
    dsimp only
    by_cases hh : hidden l n = true
    · rw [if_pos hh]; exact h
    · rw [if_neg hh]; exact good_snoc h (normR_again hN).1 (by simpa using hh)
theorem fold_good : ∀ (rs l : List Rul), GoodG l → GoodG (rs.foldl addN l)
  | [], _, h => h
  | r :: rs, l, h => fold_good rs _ (addN_good h)
theorem gOf_good (s : ByteArray) (rs : List Rul) : GoodG (gOf s rs) := by rw [gOf_filter]; exact fold_good _ _ good_nil
theorem good_fold {l : List Rul} (h : GoodG l) : l.foldl addN [] = l := by
  have key : ∀ (k : Nat) (l : List Rul), l.length = k → GoodG l → l.foldl addN [] = l := by
    intro k
    induction k with
    | zero => intro l hk _; rw [List.eq_nil_of_length_eq_zero hk]; rfl
    | succ k ih =>
      intro l hk h
      rcases nil_or_snoc l with rfl | ⟨l', x, rfl⟩
      · simp at hk
      · rw [List.foldl_append, ih l' (by simpa using hk) (good_front h)]
        obtain ⟨h1, h2⟩ := h l' x [] rfl
        show addN l' x = _
        unfold addN
        rw [h1]
        dsimp only
        rw [if_neg (by rw [h2]; decide)]
  exact key _ l rfl h
theorem cutL_front (d : A2) (l : List Rul) : ∃ t, l = cutL d l ++ t := by
  unfold cutL
  refine ⟨(l.reverse.takeWhile fun r => decide (r.act = d)).reverse, ?_⟩
  rw [← List.reverse_append, List.takeWhile_append_dropWhile, List.reverse_reverse]
theorem cutL_le (d : A2) (l : List Rul) : (cutL d l).length ≤ l.length := by
  obtain ⟨t, h⟩ := cutL_front d l
  have := congrArg List.length h
  rw [List.length_append] at this
  omega
theorem cutL_again (d : A2) (l : List Rul) : cutL d (cutL d l) = cutL d l := by
  have key : ∀ (k : Nat) (l : List Rul), l.length = k → cutL d (cutL d l) = cutL d l := by
    intro k
    induction k with
    | zero => intro l hk; rw [List.eq_nil_of_length_eq_zero hk]; rfl
    | succ k ih =>
      intro l hk
      rcases nil_or_snoc l with rfl | ⟨l', x, rfl⟩
      · rfl
      · rw [cutL_snoc]
        by_cases hx : x.act = d
        · rw [if_pos hx]; exact ih l' (by simpa using hk)
        · rw [if_neg hx, cutL_snoc, if_neg hx]
  exact key _ l rfl
theorem addN_mem {l : List Rul} {r n : Rul} (h : n ∈ addN l r) : n ∈ l ∨ normR r = some n := by
  unfold addN at h
  cases hN : normR r with
  | none => rw [hN] at h; exact .inl h
  | some m =>
    rw [hN] at h
    dsimp only at h
    split at h
    · exact .inl h
    · rcases List.mem_append.1 h with h | h
      · exact .inl h
      · rw [List.mem_singleton.1 h]; exact .inr rfl
theorem fold_mem : ∀ (rs l : List Rul) {n : Rul}, n ∈ rs.foldl addN l → n ∈ l ∨ ∃ r ∈ rs, normR r = some n
  | [], _, _, h => .inl h
  | r :: rs, l, n, h => by
    rcases fold_mem rs _ h with h | ⟨x, hx, h⟩
    · rcases addN_mem h with h | h
      · exact .inl h
      · exact .inr ⟨r, .head _, h⟩
    · exact .inr ⟨x, .tail _ hx, h⟩
theorem gOf_mem {s : ByteArray} {rs : List Rul} {n : Rul} (h : n ∈ gOf s rs) : n.name = s ∧ ∃ r ∈ rs, normR r = some n := by
  rw [gOf_filter] at h
  rcases fold_mem _ _ h with h | ⟨r, hr, h⟩
  · cases h
  · obtain ⟨h1, h2⟩ := List.mem_filter.1 hr
    exact ⟨(normR_conds h).2.1.trans (keyB_eq.1 h2).symm, r, h1, h⟩
theorem mem_cutL {d : A2} {l : List Rul} {x : Rul} (h : x ∈ cutL d l) : x ∈ l := by
  obtain ⟨t, ht⟩ := cutL_front d l
  rw [ht]; exact List.mem_append_left _ h
theorem out_mem {d : A2} {rs : List Rul} {N : List (List UInt8)} {n : Rul} (h : n ∈ outR d (groupsOf rs) N) : ∃ r ∈ rs, normR r = some n := by
  unfold outR at h
  obtain ⟨z, hz, h⟩ := List.mem_flatMap.1 h
  have := mem_cutL h
  rw [gget_groups] at this
  exact (gOf_mem this).2
theorem flat_one {X : List Rul} {z0 : List UInt8} : ∀ {N : List (List UInt8)}, N.Pairwise RS → N.flatMap (fun z => if z = z0 then X else []) = if z0 ∈ N then X else []
  | [], _ => by simp
  | z :: N, h => by
    rw [List.pairwise_cons] at h
    rw [List.flatMap_cons, flat_one h.2]
    by_cases hz : z = z0
    · subst hz
      have : z ∉ N := fun hm => RS_irr z (h.1 z hm)
      simp [this]
    · rw [if_neg hz, List.nil_append]
      simp [Ne.symm hz]
theorem filter_flat (s : ByteArray) (F : List UInt8 → List Rul) : ∀ N : List (List UInt8), (N.flatMap F).filter (fun r => keyB s r.name) = N.flatMap fun z => (F z).filter fun r => keyB s r.name
  | [] => rfl
  | z :: N => by rw [List.flatMap_cons, List.filter_append, filter_flat s F N, List.flatMap_cons]
theorem gOf_out (d : A2) (rs : List Rul) (s : ByteArray) : gOf s (outR d (groupsOf rs) (keysOf (groupsOf rs))) = cutL d (gOf s rs) := by
  rw [gOf_filter]
  unfold outR
  rw [filter_flat]
  have e : (fun z : List UInt8 => (cutL d (gget (groupsOf rs) ⟨z.toArray⟩)).filter fun r => keyB s r.name) = fun z => if z = s.data.toList then cutL d (gOf s rs) else [] := by
    funext z
    rw [gget_groups]
    by_cases hz : z = s.data.toList
    · subst hz
      rw [if_pos rfl]
      have es : (⟨s.data.toList.toArray⟩ : ByteArray) = s := by obtain ⟨⟨a⟩⟩ := s; rfl
      rw [es, List.filter_eq_self]
      intro n hn
      rw [(gOf_mem (mem_cutL hn)).1]; exact keyB_refl s
    · rw [if_neg hz, List.filter_eq_nil_iff]
      intro n hn hk
      have := (gOf_mem (mem_cutL hn)).1
      rw [this] at hk
      exact hz (by rw [keyB_eq.1 hk])
  rw [e, flat_one (keys_strict (groups_nodup rs))]
  have hg : GoodG (cutL d (gOf s rs)) := by
    obtain ⟨t, ht⟩ := cutL_front d (gOf s rs)
    have := gOf_good s rs
    rw [ht] at this
    exact good_front this
  by_cases hm : s.data.toList ∈ keysOf (groupsOf rs)
  · rw [if_pos hm]; exact good_fold hg
  · rw [if_neg hm]
    have : gget (groupsOf rs) s = [] := by
      by_cases h : gget (groupsOf rs) s = []
      · exact h
      · exact absurd (keys_mem.2 (gget_mem h)) hm
    rw [gget_groups] at this
    rw [this]; rfl
theorem norm_again (p : Pol) : normP (normP p) = normP p := by
  symm
  refine norm_same rfl rfl fun s => ?_
  show cutL p.dflt (gOf s p.rules) = cutL p.dflt (gOf s (outR p.dflt (groupsOf p.rules) (keysOf (groupsOf p.rules))))
  rw [gOf_out, cutL_again]
/-- A normal form has no more rules. -/
def totL (H : List (ByteArray × List Rul)) : Nat := (H.map fun h => h.2.length).sum
theorem gadd_tot {t : ByteArray} {n : Rul} : ∀ H : List (ByteArray × List Rul), totL (gadd H t n) = totL H + 1
  | [] => rfl
  | h :: H => by
    unfold gadd
    by_cases ht : keyB t h.1 = true
    · rw [if_pos ht]; unfold totL; simp; omega
    · rw [if_neg ht]
      have := gadd_tot (t := t) (n := n) H
      unfold totL at this ⊢
      rw [List.map_cons, List.sum_cons, this, List.map_cons, List.sum_cons]; omega
theorem gstep_tot {H : List (ByteArray × List Rul)} {r : Rul} : totL (gstep H r) ≤ totL H + 1 := by
  unfold gstep
  cases normR r with
  | none => exact Nat.le_succ _
  | some n =>
    dsimp only
    split
    · exact Nat.le_succ _
    · rw [gadd_tot]; exact Nat.le_refl _
theorem groups_tot (rs : List Rul) : totL (groupsOf rs) ≤ rs.length := by
  have key : ∀ (rs : List Rul) (H : List (ByteArray × List Rul)), totL (rs.foldl gstep H) ≤ totL H + rs.length := by
    intro rs
    induction rs with
    | nil => intro H; exact Nat.le_refl _
    | cons r rs ih =>
      intro H
      have h1 := ih (gstep H r)
      have h2 := gstep_tot (H := H) (r := r)
      rw [List.foldl_cons, List.length_cons]; omega
  have := key rs []
  rw [show totL [] = 0 from rfl, Nat.zero_add] at this
  exact this
theorem gget_key : ∀ {H : List (ByteArray × List Rul)}, (H.map (·.1)).Nodup → ∀ h ∈ H, gget H h.1 = h.2
  | [], _, _, hm => by cases hm
  | g :: H, hn, h, hm => by
    rw [List.map_cons, List.nodup_cons] at hn
    rcases List.mem_cons.1 hm with rfl | hm
    · exact if_pos (keyB_refl _)
    · have : ¬ keyB h.1 g.1 = true := fun hk => hn.1 (by rw [← keyB_eq.1 hk]; exact List.mem_map_of_mem hm)
      show (if keyB h.1 g.1 = true then g.2 else gget H h.1) = _
      rw [if_neg this]; exact gget_key hn.2 h hm
theorem out_len (d : A2) (rs : List Rul) : (outR d (groupsOf rs) (keysOf (groupsOf rs))).length ≤ rs.length := by
  refine Nat.le_trans ?_ (groups_tot rs)
  have hn := groups_nodup rs
  generalize groupsOf rs = H at hn
  unfold outR
  have hp : (keysOf H).Perm (H.map fun h => h.1.data.toList) := List.mergeSort_perm _ _
  rw [List.length_flatMap, (hp.map _).sum_nat, List.map_map]
  unfold totL
  have e : ∀ h ∈ H, ((fun a : List UInt8 => (cutL d (gget H ⟨a.toArray⟩)).length) ∘ fun h : ByteArray × List Rul => h.1.data.toList) h ≤ h.2.length := fun h hh => by
    show (cutL d (gget H ⟨h.1.data.toList.toArray⟩)).length ≤ _
    have es : (⟨h.1.data.toList.toArray⟩ : ByteArray) = h.1 := by obtain ⟨⟨⟨a⟩⟩, b⟩ := h; rfl
    rw [es, gget_key hn h hh]
    exact cutL_le d h.2
  clear hp hn
  generalize (fun a : List UInt8 => (cutL d (gget H ⟨a.toArray⟩)).length) ∘ (fun h : ByteArray × List Rul => h.1.data.toList) = f at e
  induction H with
  | nil => simp
  | cons h H ih =>
    rw [List.map_cons, List.sum_cons, List.map_cons, List.sum_cons]
    have h1 := e h (.head _)
    have h2 := ih fun x hx => e x (.tail _ hx)
    omega
theorem norm_right {p : Pol} (h : rightP p = true) : rightP (normP p) = true := by
  unfold rightP at h ⊢
  simp only [Bool.and_eq_true, decide_eq_true_eq, Bool.not_eq_true', List.any_eq_false] at h ⊢
  have hl := out_len p.dflt p.rules
  refine ⟨h.1, Nat.le_trans hl h.2.1, fun n hn => ?_⟩
  obtain ⟨r, hr, hN⟩ := out_mem hn
  have h2 := h.2.2 r hr
  have : rightR r = true := by simpa using h2
  rw [(normR_again hN).2.1 this]; decide
end Go.Proofs.W

namespace Go.Proofs.W
open Go.Vl
set_option maxRecDepth 100000

theorem noid_rul (r : Rul) : NoId (.ag [strA r.name, int r.act.1, int r.act.2, cnds r.conds]) := NoId.ag (by
  intro y hy
  simp only [List.mem_cons, List.not_mem_nil, or_false] at hy
  rcases hy with rfl | rfl | rfl | rfl
  · exact NoId.v _
  · exact NoId.v _
  · exact NoId.v _
  · refine NoId.sl fun i hi c hc => ?_
    simp only [cndA, AV.cells, List.mem_cons, List.not_mem_nil, or_false] at hc
    rcases hc with rfl | rfl | rfl | rfl <;> exact NoId.v _)
theorem bytes_cnd_l16 : Tryz.prog.bytesOf 51 = 32 := by kernel_rfl
theorem bytes_rul_l16 : Tryz.prog.bytesOf 47 = 56 := by kernel_rfl
theorem conds_l16 (c : Cnd) : Tells Tryz.prog 54 [cndA c] (cndA c) := by
  refine tells_of_aw Tryz.func54 rfl rfl fun nx => ?_
  (repeat((conv=>whnf);first|apply ω0|apply ω1|apply ω2|refine τ3 rfl ?_|refine τ4 rfl ?_|refine ⟨rfl,?_⟩|apply τa|refine τb rfl ?_|refine ⟨⟨by kernel_rfl,by kernel_rfl⟩,?_⟩|refine ⟨by decide,?_⟩|apply τt|apply τf))
  exact ret_tells_all rfl ⟨rfl, trivial⟩ (AVle.refl _)

set_option maxHeartbeats 1000000 in
theorem rule_l16 (nm : ByteArray) (k n : Int) (cs : List Cnd) (hl : cs.length ≤ 1000000) : Tells Tryz.prog 25 [.ag [strA nm, int k, int n, cnds cs]] (.ag [strA nm, int k, int n, cnds cs]) := by
  refine tells_of_aw Tryz.func25 rfl rfl fun nx => ?_
  (repeat((conv=>whnf);first|apply ω0|apply ω1|apply ω2|refine τ3 rfl ?_|refine τ4 rfl ?_|refine ⟨rfl,?_⟩|apply τa|refine τb rfl ?_|refine ⟨⟨by kernel_rfl,by kernel_rfl⟩,?_⟩|refine ⟨by decide,?_⟩|apply τt|apply τf))
  refine aw_loop (fun s : Nat × Option Nat × Nat => mk 34 [(1, .bp (0, nx) 0), (2, .bp (1, nx + 1) 0), (3, .bp (2, nx + 2) 0), (4, int s.1)] ⟨[((2, nx + 2), .c [strA nm, int k, int n, .os 4 s.1 (fun j => cndA (cs.getD j cnd0)) (nmd s.2.1)]), ((1, nx + 1), .c [strA ⟨#[]⟩, int 0, int 0, .os 0 0 (fun _ => .any) none]), ((0, nx), .c [strA nm, int k, int n, cnds cs])], pmOf (nmd s.2.1) (s.1 * 4), s.2.2, 3⟩) (fun s => s.1 ≤ cs.length ∧ (s.2.1 = none → s.1 = 0)) (fun s => cs.length - s.1) ?_ ?_
  · exact ⟨(0, none, nx + 3), ⟨Nat.zero_le _, fun _ => rfl⟩, ele_tell (pm := []) _ [] rfl rfl (List.Sublist.refl _) (List.Sublist.refl _) ⟨rfl, ⟨AVle.refl _, AVle.refl _, AVle.refl _, AVle.os_nil, trivial⟩, rfl, OwnLe.refl _, rfl, OwnLe.refl _, trivial⟩ trivial ⟨AVle.refl _, AVle.refl _, AVle.refl _, AVle.refl _, trivial⟩⟩
  · rintro ⟨i, oi, nx2⟩ ⟨h3, h4⟩
    dsimp only at h3 h4
    (repeat((conv=>whnf);first|apply ω0|apply ω1|apply ω2|refine τ3 rfl ?_|refine τ4 rfl ?_|refine ⟨rfl,?_⟩|apply τa|refine τb rfl ?_|refine ⟨⟨by kernel_rfl,by kernel_rfl⟩,?_⟩|refine ⟨by decide,?_⟩|apply τt|apply τf))
    intro c h5; cases c
    · have h6 := not_of h5
      dsimp only at h6
      obtain rfl : i = cs.length := by omega
      (repeat((conv=>whnf);first|apply ω0|apply ω1|apply ω2|refine τ3 rfl ?_|refine τ4 rfl ?_|refine ⟨rfl,?_⟩|apply τa|refine τb rfl ?_|refine ⟨⟨by kernel_rfl,by kernel_rfl⟩,?_⟩|refine ⟨by decide,?_⟩|apply τt|apply τf))
      exact ret_tells_all rfl ⟨rfl, trivial⟩ (AVle.ags ⟨AVle.refl _, AVle.refl _, AVle.refl _, AVle.os_sl, trivial⟩)
    · have h6 := yes_of h5
      dsimp only at h6
      have hi : i < cs.length := by omega
      have hcall := conds_l16 (cs.getD i cnd0)
      (repeat((conv=>whnf);first|apply ω0|apply ω1|apply ω2|refine τ3 rfl ?_|refine τ4 rfl ?_|refine ⟨rfl,?_⟩|apply τa|refine τb rfl ?_|refine ⟨⟨by kernel_rfl,by kernel_rfl⟩,?_⟩|refine ⟨by decide,?_⟩|apply τt|apply τf))
      refine aw_mixN 11 [((2, nx + 2), .c [strA nm, int k, int n, .os 4 i (fun j => cndA (cs.getD j cnd0)) (nmd oi)]), ((1, nx + 1), .c [strA ⟨#[]⟩, int 0, int 0, .os 0 0 (fun _ => .any) none]), ((0, nx), .c [strA nm, int k, int n, cnds cs])] (fun i => match i with | 9 => true | _ => false) (fun i => match i with | 7 => true | _ => false) [0, 1, 2, 3, 4, 5, 6, 7, 8, 9, 10] (by kernel_rfl) (by kernel_rfl) (HB.refl _) ?_
      (repeat((conv=>whnf);first|apply ω0|apply ω1|apply ω2|refine τ3 rfl ?_|refine τ4 rfl ?_|refine ⟨rfl,?_⟩|apply τa|refine τb rfl ?_|refine ⟨⟨by kernel_rfl,by kernel_rfl⟩,?_⟩|refine ⟨by decide,?_⟩|apply τt|apply τf))
      refine ⟨⟨by dsimp only; omega, by dsimp only; omega⟩, ?_⟩
      (repeat((conv=>whnf);first|apply ω0|apply ω1|apply ω2|refine τ3 rfl ?_|refine τ4 rfl ?_|refine ⟨rfl,?_⟩|apply τa|refine τb rfl ?_|refine ⟨⟨by kernel_rfl,by kernel_rfl⟩,?_⟩|refine ⟨by decide,?_⟩|apply τt|apply τf))
      refine ⟨_, pure_tells rfl rfl rfl hcall ⟨AVle.refl _, trivial⟩ (noid_cndA _), ?_⟩
      (repeat((conv=>whnf);first|apply ω0|apply ω1|apply ω2|refine τ3 rfl ?_|refine τ4 rfl ?_|refine ⟨rfl,?_⟩|apply τa|refine τb rfl ?_|refine ⟨⟨by kernel_rfl,by kernel_rfl⟩,?_⟩|refine ⟨by decide,?_⟩|apply τt|apply τf))
      rcases oi with _ | id
      · obtain rfl := h4 rfl
        refine ⟨_, eff_append1 (e := 51) (c := 4) (pm := []) (n := 0) (oi := none) (sz := 4) (f := fun j => cndA (cs.getD j cnd0)) (HB.refl _) rfl rfl rfl (.inr ⟨_, rfl⟩) (by kernel_rfl) (by kernel_rfl) (by kernel_rfl) (.inr rfl) (by kernel_rfl) (List.append_nil _).symm (oneRow_one rfl) (by rw [bytes_cnd_l16]; omega) (by omega), fun r h' hr => ?_⟩
        obtain ⟨rfl, rfl⟩ := hr
        (repeat((conv=>whnf);first|apply ω0|apply ω1|apply ω2|refine τ3 rfl ?_|refine τ4 rfl ?_|refine ⟨rfl,?_⟩|apply τa|refine τb rfl ?_|refine ⟨⟨by kernel_rfl,by kernel_rfl⟩,?_⟩|refine ⟨by decide,?_⟩|apply τt|apply τf))
        refine back (0 + 1, some nx2, nx2 + 1) ⟨by dsimp only; omega, (fun h => by cases h)⟩ (by dsimp only; omega) (ele_tell (pm := [((0, nx2), (0 + 1) * 4)]) _ _ rfl rfl (List.Sublist.refl _) (List.Sublist.refl _) ⟨rfl, ⟨AVle.refl _, AVle.refl _, AVle.refl _, (AVle.os_fun (appF_one (fun k h => absurd h (Nat.not_lt_zero k)) ?_)).trans (AVle.os_nm rfl), trivial⟩, rfl, OwnLe.refl _, rfl, OwnLe.refl _, trivial⟩ ⟨rfl, rfl, trivial⟩ ⟨AVle.refl _, AVle.refl _, AVle.refl _, le_int (wrap_succ (by dsimp only; omega)), trivial⟩)
        rfl
      · refine ⟨_, eff_append1 (e := 51) (c := 4) (pm := []) (n := i) (oi := some (0, id)) (sz := 4) (f := fun j => cndA (cs.getD j cnd0)) (HB.refl _) rfl rfl rfl (.inr ⟨_, rfl⟩) (by kernel_rfl) (by kernel_rfl) (by kernel_rfl) (.inr rfl) (by kernel_rfl) (List.append_nil _).symm (oneRow_one rfl) (by rw [bytes_cnd_l16]; omega) (by omega), fun r h' hr => ?_⟩
        obtain ⟨rfl, rfl⟩ := hr
        (repeat((conv=>whnf);first|apply ω0|apply ω1|apply ω2|refine τ3 rfl ?_|refine τ4 rfl ?_|refine ⟨rfl,?_⟩|apply τa|refine τb rfl ?_|refine ⟨⟨by kernel_rfl,by kernel_rfl⟩,?_⟩|refine ⟨by decide,?_⟩|apply τt|apply τf))
        refine back (i + 1, some nx2, nx2 + 1) ⟨by dsimp only; omega, (fun h => by cases h)⟩ (by dsimp only; omega) (ele_tell (pm := [((0, nx2), (i + 1) * 4)]) _ _ rfl rfl (List.Sublist.refl _) (List.Sublist.refl _) ⟨rfl, ⟨AVle.refl _, AVle.refl _, AVle.refl _, (AVle.os_fun (appF_one (fun k hk => rfl) ?_)).trans (AVle.os_nm rfl), trivial⟩, rfl, OwnLe.refl _, rfl, OwnLe.refl _, trivial⟩ ⟨rfl, rfl, trivial⟩ ⟨AVle.refl _, AVle.refl _, AVle.refl _, le_int (wrap_succ (by dsimp only; omega)), trivial⟩)
        rfl

set_option maxHeartbeats 1000000 in
theorem oft_l16 (k n : Int) (rs : List Rul) (hl : rs.length ≤ 1000000) (hc : ∀ r ∈ rs, r.conds.length ≤ 1000000) : Tells Tryz.prog 20 [.ag [int k, int n, boolA true, ruls rs]] (.ag [int k, int n, boolA true, ruls rs]) := by
  refine tells_of_aw Tryz.func20 rfl rfl fun nx => ?_
  (repeat((conv=>whnf);first|apply ω0|apply ω1|apply ω2|refine τ3 rfl ?_|refine τ4 rfl ?_|refine ⟨rfl,?_⟩|apply τa|refine τb rfl ?_|refine ⟨⟨by kernel_rfl,by kernel_rfl⟩,?_⟩|refine ⟨by decide,?_⟩|apply τt|apply τf))
  refine aw_loop (fun s : Nat × Option Nat × Nat => mk 34 [(1, .bp (0, nx) 0), (2, .bp (1, nx + 1) 0), (3, .bp (2, nx + 2) 0), (4, int s.1)] ⟨[((2, nx + 2), .c [int k, int n, boolA true, .os 4 s.1 (fun j => rulA (rs.getD j rul0)) (nmd s.2.1)]), ((1, nx + 1), .c [int 0, int 0, boolA false, .os 0 0 (fun _ => .any) none]), ((0, nx), .c [int k, int n, boolA true, ruls rs])], pmOf (nmd s.2.1) (s.1 * 4), s.2.2, 3⟩) (fun s => s.1 ≤ rs.length ∧ (s.2.1 = none → s.1 = 0)) (fun s => rs.length - s.1) ?_ ?_
  · exact ⟨(0, none, nx + 3), ⟨Nat.zero_le _, fun _ => rfl⟩, ele_tell (pm := []) _ [] rfl rfl (List.Sublist.refl _) (List.Sublist.refl _) ⟨rfl, ⟨AVle.refl _, AVle.refl _, AVle.refl _, AVle.os_nil, trivial⟩, rfl, OwnLe.refl _, rfl, OwnLe.refl _, trivial⟩ trivial ⟨AVle.refl _, AVle.refl _, AVle.refl _, AVle.refl _, trivial⟩⟩
  · rintro ⟨i, oi, nx2⟩ ⟨h3, h4⟩
    dsimp only at h3 h4
    (repeat((conv=>whnf);first|apply ω0|apply ω1|apply ω2|refine τ3 rfl ?_|refine τ4 rfl ?_|refine ⟨rfl,?_⟩|apply τa|refine τb rfl ?_|refine ⟨⟨by kernel_rfl,by kernel_rfl⟩,?_⟩|refine ⟨by decide,?_⟩|apply τt|apply τf))
    intro c h5; cases c
    · have h6 := not_of h5
      dsimp only at h6
      obtain rfl : i = rs.length := by omega
      (repeat((conv=>whnf);first|apply ω0|apply ω1|apply ω2|refine τ3 rfl ?_|refine τ4 rfl ?_|refine ⟨rfl,?_⟩|apply τa|refine τb rfl ?_|refine ⟨⟨by kernel_rfl,by kernel_rfl⟩,?_⟩|refine ⟨by decide,?_⟩|apply τt|apply τf))
      exact ret_tells_all rfl ⟨rfl, trivial⟩ (AVle.ags ⟨AVle.refl _, AVle.refl _, AVle.refl _, AVle.os_sl, trivial⟩)
    · have h6 := yes_of h5
      dsimp only at h6
      have hi : i < rs.length := by omega
      have hcall := rule_l16 (rs.getD i rul0).name (rs.getD i rul0).act.1 (rs.getD i rul0).act.2 (rs.getD i rul0).conds (hc _ (by simp [List.getD, hi]))
      (repeat((conv=>whnf);first|apply ω0|apply ω1|apply ω2|refine τ3 rfl ?_|refine τ4 rfl ?_|refine ⟨rfl,?_⟩|apply τa|refine τb rfl ?_|refine ⟨⟨by kernel_rfl,by kernel_rfl⟩,?_⟩|refine ⟨by decide,?_⟩|apply τt|apply τf))
      refine aw_mixN 11 [((2, nx + 2), .c [int k, int n, boolA true, .os 4 i (fun j => rulA (rs.getD j rul0)) (nmd oi)]), ((1, nx + 1), .c [int 0, int 0, boolA false, .os 0 0 (fun _ => .any) none]), ((0, nx), .c [int k, int n, boolA true, ruls rs])] (fun i => match i with | 9 => true | _ => false) (fun i => match i with | 7 => true | _ => false) [0, 1, 2, 3, 4, 5, 6, 7, 8, 9, 10] (by kernel_rfl) (by kernel_rfl) (HB.refl _) ?_
      (repeat((conv=>whnf);first|apply ω0|apply ω1|apply ω2|refine τ3 rfl ?_|refine τ4 rfl ?_|refine ⟨rfl,?_⟩|apply τa|refine τb rfl ?_|refine ⟨⟨by kernel_rfl,by kernel_rfl⟩,?_⟩|refine ⟨by decide,?_⟩|apply τt|apply τf))
      refine ⟨⟨by dsimp only; omega, by dsimp only; omega⟩, ?_⟩
      (repeat((conv=>whnf);first|apply ω0|apply ω1|apply ω2|refine τ3 rfl ?_|refine τ4 rfl ?_|refine ⟨rfl,?_⟩|apply τa|refine τb rfl ?_|refine ⟨⟨by kernel_rfl,by kernel_rfl⟩,?_⟩|refine ⟨by decide,?_⟩|apply τt|apply τf))
      refine ⟨_, pure_tells rfl rfl rfl hcall ⟨AVle.refl _, trivial⟩ (noid_rul (rs.getD i rul0)), ?_⟩
      (repeat((conv=>whnf);first|apply ω0|apply ω1|apply ω2|refine τ3 rfl ?_|refine τ4 rfl ?_|refine ⟨rfl,?_⟩|apply τa|refine τb rfl ?_|refine ⟨⟨by kernel_rfl,by kernel_rfl⟩,?_⟩|refine ⟨by decide,?_⟩|apply τt|apply τf))
      rcases oi with _ | id
      · obtain rfl := h4 rfl
        refine ⟨_, eff_append1 (e := 47) (c := 4) (pm := []) (n := 0) (oi := none) (sz := 4) (f := fun j => rulA (rs.getD j rul0)) (HB.refl _) rfl rfl rfl (.inr ⟨_, rfl⟩) (by kernel_rfl) (by kernel_rfl) (by kernel_rfl) (.inr rfl) (by kernel_rfl) (List.append_nil _).symm (oneRow_one rfl) (by rw [bytes_rul_l16]; omega) (by omega), fun r h' hr => ?_⟩
        obtain ⟨rfl, rfl⟩ := hr
        (repeat((conv=>whnf);first|apply ω0|apply ω1|apply ω2|refine τ3 rfl ?_|refine τ4 rfl ?_|refine ⟨rfl,?_⟩|apply τa|refine τb rfl ?_|refine ⟨⟨by kernel_rfl,by kernel_rfl⟩,?_⟩|refine ⟨by decide,?_⟩|apply τt|apply τf))
        refine back (0 + 1, some nx2, nx2 + 1) ⟨by dsimp only; omega, (fun h => by cases h)⟩ (by dsimp only; omega) (ele_tell (pm := [((0, nx2), (0 + 1) * 4)]) _ _ rfl rfl (List.Sublist.refl _) (List.Sublist.refl _) ⟨rfl, ⟨AVle.refl _, AVle.refl _, AVle.refl _, (AVle.os_fun (appF_one (fun k h => absurd h (Nat.not_lt_zero k)) ?_)).trans (AVle.os_nm rfl), trivial⟩, rfl, OwnLe.refl _, rfl, OwnLe.refl _, trivial⟩ ⟨rfl, rfl, trivial⟩ ⟨AVle.refl _, AVle.refl _, AVle.refl _, le_int (wrap_succ (by dsimp only; omega)), trivial⟩)
        rfl
      · refine ⟨_, eff_append1 (e := 47) (c := 4) (pm := []) (n := i) (oi := some (0, id)) (sz := 4) (f := fun j => rulA (rs.getD j rul0)) (HB.refl _) rfl rfl rfl (.inr ⟨_, rfl⟩) (by kernel_rfl) (by kernel_rfl) (by kernel_rfl) (.inr rfl) (by kernel_rfl) (List.append_nil _).symm (oneRow_one rfl) (by rw [bytes_rul_l16]; omega) (by omega), fun r h' hr => ?_⟩
        obtain ⟨rfl, rfl⟩ := hr
        (repeat((conv=>whnf);first|apply ω0|apply ω1|apply ω2|refine τ3 rfl ?_|refine τ4 rfl ?_|refine ⟨rfl,?_⟩|apply τa|refine τb rfl ?_|refine ⟨⟨by kernel_rfl,by kernel_rfl⟩,?_⟩|refine ⟨by decide,?_⟩|apply τt|apply τf))
        refine back (i + 1, some nx2, nx2 + 1) ⟨by dsimp only; omega, (fun h => by cases h)⟩ (by dsimp only; omega) (ele_tell (pm := [((0, nx2), (i + 1) * 4)]) _ _ rfl rfl (List.Sublist.refl _) (List.Sublist.refl _) ⟨rfl, ⟨AVle.refl _, AVle.refl _, AVle.refl _, (AVle.os_fun (appF_one (fun k hk => rfl) ?_)).trans (AVle.os_nm rfl), trivial⟩, rfl, OwnLe.refl _, rfl, OwnLe.refl _, trivial⟩ ⟨rfl, rfl, trivial⟩ ⟨AVle.refl _, AVle.refl _, AVle.refl _, le_int (wrap_succ (by dsimp only; omega)), trivial⟩)
        rfl

set_option maxHeartbeats 1000000 in
theorem off_l16 (k n : Int) (rs : List Rul) (hl : rs.length ≤ 1000000) (hc : ∀ r ∈ rs, r.conds.length ≤ 1000000) : Tells Tryz.prog 20 [.ag [int k, int n, boolA false, ruls rs]] (.ag [int k, int n, boolA false, ruls rs]) := by
  refine tells_of_aw Tryz.func20 rfl rfl fun nx => ?_
  (repeat((conv=>whnf);first|apply ω0|apply ω1|apply ω2|refine τ3 rfl ?_|refine τ4 rfl ?_|refine ⟨rfl,?_⟩|apply τa|refine τb rfl ?_|refine ⟨⟨by kernel_rfl,by kernel_rfl⟩,?_⟩|refine ⟨by decide,?_⟩|apply τt|apply τf))
  refine aw_loop (fun s : Nat × Option Nat × Nat => mk 34 [(1, .bp (0, nx) 0), (2, .bp (1, nx + 1) 0), (3, .bp (2, nx + 2) 0), (4, int s.1)] ⟨[((2, nx + 2), .c [int k, int n, boolA false, .os 4 s.1 (fun j => rulA (rs.getD j rul0)) (nmd s.2.1)]), ((1, nx + 1), .c [int 0, int 0, boolA false, .os 0 0 (fun _ => .any) none]), ((0, nx), .c [int k, int n, boolA false, ruls rs])], pmOf (nmd s.2.1) (s.1 * 4), s.2.2, 3⟩) (fun s => s.1 ≤ rs.length ∧ (s.2.1 = none → s.1 = 0)) (fun s => rs.length - s.1) ?_ ?_
  · exact ⟨(0, none, nx + 3), ⟨Nat.zero_le _, fun _ => rfl⟩, ele_tell (pm := []) _ [] rfl rfl (List.Sublist.refl _) (List.Sublist.refl _) ⟨rfl, ⟨AVle.refl _, AVle.refl _, AVle.refl _, AVle.os_nil, trivial⟩, rfl, OwnLe.refl _, rfl, OwnLe.refl _, trivial⟩ trivial ⟨AVle.refl _, AVle.refl _, AVle.refl _, AVle.refl _, trivial⟩⟩
  · rintro ⟨i, oi, nx2⟩ ⟨h3, h4⟩
    dsimp only at h3 h4
    (repeat((conv=>whnf);first|apply ω0|apply ω1|apply ω2|refine τ3 rfl ?_|refine τ4 rfl ?_|refine ⟨rfl,?_⟩|apply τa|refine τb rfl ?_|refine ⟨⟨by kernel_rfl,by kernel_rfl⟩,?_⟩|refine ⟨by decide,?_⟩|apply τt|apply τf))
    intro c h5; cases c
    · have h6 := not_of h5
      dsimp only at h6
      obtain rfl : i = rs.length := by omega
      (repeat((conv=>whnf);first|apply ω0|apply ω1|apply ω2|refine τ3 rfl ?_|refine τ4 rfl ?_|refine ⟨rfl,?_⟩|apply τa|refine τb rfl ?_|refine ⟨⟨by kernel_rfl,by kernel_rfl⟩,?_⟩|refine ⟨by decide,?_⟩|apply τt|apply τf))
      exact ret_tells_all rfl ⟨rfl, trivial⟩ (AVle.ags ⟨AVle.refl _, AVle.refl _, AVle.refl _, AVle.os_sl, trivial⟩)
    · have h6 := yes_of h5
      dsimp only at h6
      have hi : i < rs.length := by omega
      have hcall := rule_l16 (rs.getD i rul0).name (rs.getD i rul0).act.1 (rs.getD i rul0).act.2 (rs.getD i rul0).conds (hc _ (by simp [List.getD, hi]))
      (repeat((conv=>whnf);first|apply ω0|apply ω1|apply ω2|refine τ3 rfl ?_|refine τ4 rfl ?_|refine ⟨rfl,?_⟩|apply τa|refine τb rfl ?_|refine ⟨⟨by kernel_rfl,by kernel_rfl⟩,?_⟩|refine ⟨by decide,?_⟩|apply τt|apply τf))
      refine aw_mixN 11 [((2, nx + 2), .c [int k, int n, boolA false, .os 4 i (fun j => rulA (rs.getD j rul0)) (nmd oi)]), ((1, nx + 1), .c [int 0, int 0, boolA false, .os 0 0 (fun _ => .any) none]), ((0, nx), .c [int k, int n, boolA false, ruls rs])] (fun i => match i with | 9 => true | _ => false) (fun i => match i with | 7 => true | _ => false) [0, 1, 2, 3, 4, 5, 6, 7, 8, 9, 10] (by kernel_rfl) (by kernel_rfl) (HB.refl _) ?_
      (repeat((conv=>whnf);first|apply ω0|apply ω1|apply ω2|refine τ3 rfl ?_|refine τ4 rfl ?_|refine ⟨rfl,?_⟩|apply τa|refine τb rfl ?_|refine ⟨⟨by kernel_rfl,by kernel_rfl⟩,?_⟩|refine ⟨by decide,?_⟩|apply τt|apply τf))
      refine ⟨⟨by dsimp only; omega, by dsimp only; omega⟩, ?_⟩
      (repeat((conv=>whnf);first|apply ω0|apply ω1|apply ω2|refine τ3 rfl ?_|refine τ4 rfl ?_|refine ⟨rfl,?_⟩|apply τa|refine τb rfl ?_|refine ⟨⟨by kernel_rfl,by kernel_rfl⟩,?_⟩|refine ⟨by decide,?_⟩|apply τt|apply τf))
      refine ⟨_, pure_tells rfl rfl rfl hcall ⟨AVle.refl _, trivial⟩ (noid_rul (rs.getD i rul0)), ?_⟩
      (repeat((conv=>whnf);first|apply ω0|apply ω1|apply ω2|refine τ3 rfl ?_|refine τ4 rfl ?_|refine ⟨rfl,?_⟩|apply τa|refine τb rfl ?_|refine ⟨⟨by kernel_rfl,by kernel_rfl⟩,?_⟩|refine ⟨by decide,?_⟩|apply τt|apply τf))
      rcases oi with _ | id
      · obtain rfl := h4 rfl
        refine ⟨_, eff_append1 (e := 47) (c := 4) (pm := []) (n := 0) (oi := none) (sz := 4) (f := fun j => rulA (rs.getD j rul0)) (HB.refl _) rfl rfl rfl (.inr ⟨_, rfl⟩) (by kernel_rfl) (by kernel_rfl) (by kernel_rfl) (.inr rfl) (by kernel_rfl) (List.append_nil _).symm (oneRow_one rfl) (by rw [bytes_rul_l16]; omega) (by omega), fun r h' hr => ?_⟩
        obtain ⟨rfl, rfl⟩ := hr
        (repeat((conv=>whnf);first|apply ω0|apply ω1|apply ω2|refine τ3 rfl ?_|refine τ4 rfl ?_|refine ⟨rfl,?_⟩|apply τa|refine τb rfl ?_|refine ⟨⟨by kernel_rfl,by kernel_rfl⟩,?_⟩|refine ⟨by decide,?_⟩|apply τt|apply τf))
        refine back (0 + 1, some nx2, nx2 + 1) ⟨by dsimp only; omega, (fun h => by cases h)⟩ (by dsimp only; omega) (ele_tell (pm := [((0, nx2), (0 + 1) * 4)]) _ _ rfl rfl (List.Sublist.refl _) (List.Sublist.refl _) ⟨rfl, ⟨AVle.refl _, AVle.refl _, AVle.refl _, (AVle.os_fun (appF_one (fun k h => absurd h (Nat.not_lt_zero k)) ?_)).trans (AVle.os_nm rfl), trivial⟩, rfl, OwnLe.refl _, rfl, OwnLe.refl _, trivial⟩ ⟨rfl, rfl, trivial⟩ ⟨AVle.refl _, AVle.refl _, AVle.refl _, le_int (wrap_succ (by dsimp only; omega)), trivial⟩)
        rfl
      · refine ⟨_, eff_append1 (e := 47) (c := 4) (pm := []) (n := i) (oi := some (0, id)) (sz := 4) (f := fun j => rulA (rs.getD j rul0)) (HB.refl _) rfl rfl rfl (.inr ⟨_, rfl⟩) (by kernel_rfl) (by kernel_rfl) (by kernel_rfl) (.inr rfl) (by kernel_rfl) (List.append_nil _).symm (oneRow_one rfl) (by rw [bytes_rul_l16]; omega) (by omega), fun r h' hr => ?_⟩
        obtain ⟨rfl, rfl⟩ := hr
        (repeat((conv=>whnf);first|apply ω0|apply ω1|apply ω2|refine τ3 rfl ?_|refine τ4 rfl ?_|refine ⟨rfl,?_⟩|apply τa|refine τb rfl ?_|refine ⟨⟨by kernel_rfl,by kernel_rfl⟩,?_⟩|refine ⟨by decide,?_⟩|apply τt|apply τf))
        refine back (i + 1, some nx2, nx2 + 1) ⟨by dsimp only; omega, (fun h => by cases h)⟩ (by dsimp only; omega) (ele_tell (pm := [((0, nx2), (i + 1) * 4)]) _ _ rfl rfl (List.Sublist.refl _) (List.Sublist.refl _) ⟨rfl, ⟨AVle.refl _, AVle.refl _, AVle.refl _, (AVle.os_fun (appF_one (fun k hk => rfl) ?_)).trans (AVle.os_nm rfl), trivial⟩, rfl, OwnLe.refl _, rfl, OwnLe.refl _, trivial⟩ ⟨rfl, rfl, trivial⟩ ⟨AVle.refl _, AVle.refl _, AVle.refl _, le_int (wrap_succ (by dsimp only; omega)), trivial⟩)
        rfl
theorem pol_l16 (p : Pol) (hl : p.rules.length ≤ 1000000) (hc : ∀ r ∈ p.rules, r.conds.length ≤ 1000000) : Tells Tryz.prog 20 [polA p] (polA p) := by
  obtain ⟨⟨k, n⟩, x, rs⟩ := p
  cases x
  · exact off_l16 k n rs hl hc
  · exact oft_l16 k n rs hl hc
end Go.Proofs.W

namespace Go.Proofs.W
open Go.Vl
set_option maxRecDepth 100000

theorem light_l16 (p : Pol) (hl : p.rules.length ≤ maxLen) : Tells Tryz.prog 18 [polA p] (boolA (lightP p)) := by
  obtain ⟨⟨k, n⟩, x, rs⟩ := p
  dsimp only at hl
  refine tells_of_aw Tryz.func18 rfl rfl fun nx => ?_
  (repeat((conv=>whnf);first|apply ω0|apply ω1|apply ω2|refine τ3 rfl ?_|refine τ4 rfl ?_|refine ⟨rfl,?_⟩|apply τa|refine τb rfl ?_|refine ⟨⟨by kernel_rfl,by kernel_rfl⟩,?_⟩|refine ⟨by decide,?_⟩|apply τt|apply τf))
  intro c g1; cases c
  rotate_left
  · (repeat((conv=>whnf);first|apply ω0|apply ω1|apply ω2|refine τ3 rfl ?_|refine τ4 rfl ?_|refine ⟨rfl,?_⟩|apply τa|refine τb rfl ?_|refine ⟨⟨by kernel_rfl,by kernel_rfl⟩,?_⟩|refine ⟨by decide,?_⟩|apply τt|apply τf))
    have g1 : ((rs.length : Nat) : Int) > 40 := yes_of g1
    exact ret_tells rfl (le_bool (by show false = (decide (rs.length ≤ 40) && _); rw [decide_eq_false (by omega)]; rfl))
  have g1 : ¬ ((rs.length : Nat) : Int) > 40 := not_of g1
  have h40 : rs.length ≤ 40 := by omega
  (repeat((conv=>whnf);first|apply ω0|apply ω1|apply ω2|refine τ3 rfl ?_|refine τ4 rfl ?_|refine ⟨rfl,?_⟩|apply τa|refine τb rfl ?_|refine ⟨⟨by kernel_rfl,by kernel_rfl⟩,?_⟩|refine ⟨by decide,?_⟩|apply τt|apply τf))
  refine aw_loop (fun s : Nat × Nat => mk 33 [(1, .bp (0, nx) 0), (3, int s.1)] ⟨[((0, nx), .c [int k, int n, boolA x, ruls rs])], [], s.2, 1⟩) (fun s => s.1 ≤ rs.length ∧ ∀ j, j < s.1 → lightR (rs.getD j rul0) = true) (fun s => rs.length - s.1) ?_ ?_
  · exact ⟨(0, nx + 1), ⟨Nat.zero_le _, fun j h => absurd h (Nat.not_lt_zero _)⟩, ele_tell (pm := []) _ [] rfl rfl (List.Sublist.refl _) (List.Sublist.refl _) ⟨rfl, OwnLe.refl _, trivial⟩ trivial ⟨AVle.refl _, AVle.refl _, trivial⟩⟩
  · rintro ⟨i, nx2⟩ ⟨h3, h4⟩
    dsimp only at h3 h4
    (repeat((conv=>whnf);first|apply ω0|apply ω1|apply ω2|refine τ3 rfl ?_|refine τ4 rfl ?_|refine ⟨rfl,?_⟩|apply τa|refine τb rfl ?_|refine ⟨⟨by kernel_rfl,by kernel_rfl⟩,?_⟩|refine ⟨by decide,?_⟩|apply τt|apply τf))
    intro c h5; cases c
    · have h6 := not_of h5
      dsimp only at h6
      obtain rfl : i = rs.length := by omega
      (repeat((conv=>whnf);first|apply ω0|apply ω1|apply ω2|refine τ3 rfl ?_|refine τ4 rfl ?_|refine ⟨rfl,?_⟩|apply τa|refine τb rfl ?_|refine ⟨⟨by kernel_rfl,by kernel_rfl⟩,?_⟩|refine ⟨by decide,?_⟩|apply τt|apply τf))
      refine ret_tells rfl (le_bool ?_)
      show true = (decide (rs.length ≤ 40) && rs.all lightR)
      rw [decide_eq_true h40, Bool.true_and, eq_comm, List.all_eq_true]
      intro r hr
      obtain ⟨j, hj, rfl⟩ := List.getElem_of_mem hr
      have := h4 j hj
      simpa [List.getD, hj] using this
    · have h6 := yes_of h5
      dsimp only at h6
      have hi : i < rs.length := by omega
      have hbad : ∀ b : Bool, lightR (rs.getD i rul0) = false → false = lightP ⟨(k, n), x, rs⟩ := fun b hb => by
        show false = (decide (rs.length ≤ 40) && rs.all lightR)
        rw [decide_eq_true h40, Bool.true_and, eq_comm, List.all_eq_false]
        exact ⟨rs.getD i rul0, by simp [List.getD, hi], by rw [hb]; decide⟩
      (repeat((conv=>whnf);first|apply ω0|apply ω1|apply ω2|refine τ3 rfl ?_|refine τ4 rfl ?_|refine ⟨rfl,?_⟩|apply τa|refine τb rfl ?_|refine ⟨⟨by kernel_rfl,by kernel_rfl⟩,?_⟩|refine ⟨by decide,?_⟩|apply τt|apply τf))
      refine ⟨⟨by dsimp only; omega, by dsimp only; omega⟩, ?_⟩
      (repeat((conv=>whnf);first|apply ω0|apply ω1|apply ω2|refine τ3 rfl ?_|refine τ4 rfl ?_|refine ⟨rfl,?_⟩|apply τa|refine τb rfl ?_|refine ⟨⟨by kernel_rfl,by kernel_rfl⟩,?_⟩|refine ⟨by decide,?_⟩|apply τt|apply τf))
      intro c t1; cases c
      · have t1 : ¬ (((rs.getD i rul0).name.size : Nat) : Int) > 60 := not_of t1
        (repeat((conv=>whnf);first|apply ω0|apply ω1|apply ω2|refine τ3 rfl ?_|refine τ4 rfl ?_|refine ⟨rfl,?_⟩|apply τa|refine τb rfl ?_|refine ⟨⟨by kernel_rfl,by kernel_rfl⟩,?_⟩|refine ⟨by decide,?_⟩|apply τt|apply τf))
        refine ⟨⟨by dsimp only; omega, by dsimp only; omega⟩, ?_⟩
        (repeat((conv=>whnf);first|apply ω0|apply ω1|apply ω2|refine τ3 rfl ?_|refine τ4 rfl ?_|refine ⟨rfl,?_⟩|apply τa|refine τb rfl ?_|refine ⟨⟨by kernel_rfl,by kernel_rfl⟩,?_⟩|refine ⟨by decide,?_⟩|apply τt|apply τf))
        intro c t2; cases c
        · have t2 : ¬ (((rs.getD i rul0).conds.length : Nat) : Int) > 12 := not_of t2
          (repeat((conv=>whnf);first|apply ω0|apply ω1|apply ω2|refine τ3 rfl ?_|refine τ4 rfl ?_|refine ⟨rfl,?_⟩|apply τa|refine τb rfl ?_|refine ⟨⟨by kernel_rfl,by kernel_rfl⟩,?_⟩|refine ⟨by decide,?_⟩|apply τt|apply τf))
          refine back (i + 1, nx2) ⟨by dsimp only; omega, fun j hj => ?_⟩ (by dsimp only; omega) (ele_tell (pm := []) _ [] rfl rfl (List.Sublist.refl _) (List.Sublist.refl _) ⟨rfl, OwnLe.refl _, trivial⟩ trivial ⟨AVle.refl _, le_int (wrap_succ (by dsimp only; omega)), trivial⟩)
          dsimp only at hj
          rcases Nat.lt_or_ge j i with h | h
          · exact h4 j h
          · obtain rfl : j = i := by omega
            unfold lightR
            rw [decide_eq_true (by omega), decide_eq_true (by omega)]; rfl
        · have t2 : (((rs.getD i rul0).conds.length : Nat) : Int) > 12 := yes_of t2
          (repeat((conv=>whnf);first|apply ω0|apply ω1|apply ω2|refine τ3 rfl ?_|refine τ4 rfl ?_|refine ⟨rfl,?_⟩|apply τa|refine τb rfl ?_|refine ⟨⟨by kernel_rfl,by kernel_rfl⟩,?_⟩|refine ⟨by decide,?_⟩|apply τt|apply τf))
          exact ret_tells rfl (le_bool (hbad true (by unfold lightR; rw [decide_eq_false (p := (rs.getD i rul0).conds.length ≤ 12) (by omega), Bool.and_false])))
      · have t1 : (((rs.getD i rul0).name.size : Nat) : Int) > 60 := yes_of t1
        (repeat((conv=>whnf);first|apply ω0|apply ω1|apply ω2|refine τ3 rfl ?_|refine τ4 rfl ?_|refine ⟨rfl,?_⟩|apply τa|refine τb rfl ?_|refine ⟨⟨by kernel_rfl,by kernel_rfl⟩,?_⟩|refine ⟨by decide,?_⟩|apply τt|apply τf))
        exact ret_tells rfl (le_bool (hbad true (by unfold lightR; rw [decide_eq_false (p := (rs.getD i rul0).name.size ≤ 60) (by omega), Bool.false_and])))
end Go.Proofs.W

namespace Go.Proofs.W
open Go.Vl
set_option maxRecDepth 100000

theorem lightP_lens {p : Pol} (h : lightP p = true) : p.rules.length ≤ 40 ∧ ∀ r ∈ p.rules, r.name.size ≤ 60 ∧ r.conds.length ≤ 12 := by
  unfold lightP lightR at h
  simp only [Bool.and_eq_true, decide_eq_true_eq, List.all_eq_true] at h
  exact h
theorem sameR_self (r : Rul) : sameR r r = true := by unfold sameR; simp
theorem sameP_self (p : Pol) : sameP p p = true := by
  unfold sameP sameL
  rw [decide_eq_true rfl, decide_eq_true rfl, decide_eq_true rfl]
  simp only [Bool.true_and, List.all_eq_true]
  exact fun j _ => sameR_self _
theorem norm_ok {p : Pol} (hp : p.ok) : (normP p).ok := by
  refine ⟨Nat.le_trans (out_len p.dflt p.rules) hp.1, fun n hn => ?_⟩
  obtain ⟨r, hr, hN⟩ := out_mem hn
  obtain ⟨h1, h2, h3⟩ := hp.2 r hr
  obtain ⟨c1, c2, c3⟩ := normR_conds hN
  exact ⟨by rw [c2]; exact h1, Nat.le_trans c1 h2, (normR_again hN).2.2 h3⟩
theorem norm_len {p : Pol} : (normP p).rules.length ≤ p.rules.length := out_len p.dflt p.rules
theorem norm_cl {p : Pol} {k : Nat} (h : ∀ r ∈ p.rules, r.conds.length ≤ k) : ∀ r ∈ (normP p).rules, r.conds.length ≤ k := fun n hn => by
  obtain ⟨r, hr, hN⟩ := out_mem hn
  exact Nat.le_trans (normR_conds hN).1 (h r hr)
set_option maxHeartbeats 4000000 in
theorem normagain_law (p : Pol) (hp : p.ok) : Tells Tryz.prog 8 [polA p] (boolA true) := by
  have hli := light_l16 p hp.1
  refine tells_of_aw Tryz.func8 rfl rfl fun nx => ?_
  cases hb : lightP p with
  | false =>
    rw [hb] at hli
    (repeat((conv=>whnf);first|apply ω0|apply ω1|apply ω2|refine τ3 rfl ?_|refine τ4 rfl ?_|refine ⟨rfl,?_⟩|apply τa|refine τb rfl ?_|refine ⟨⟨by kernel_rfl,by kernel_rfl⟩,?_⟩|refine ⟨by decide,?_⟩|apply τt|apply τf))
    refine splitO_eq (b := polA p) rfl ?_
    (repeat((conv=>whnf);first|apply ω0|apply ω1|apply ω2|refine τ3 rfl ?_|refine τ4 rfl ?_|refine ⟨rfl,?_⟩|apply τa|refine τb rfl ?_|refine ⟨⟨by kernel_rfl,by kernel_rfl⟩,?_⟩|refine ⟨by decide,?_⟩|apply τt|apply τf))
    refine aop_tells rfl rfl hli ⟨AVle.refl _, trivial⟩ fun nx2 => ?_
    (repeat((conv=>whnf);first|apply ω0|apply ω1|apply ω2|refine τ3 rfl ?_|refine τ4 rfl ?_|refine ⟨rfl,?_⟩|apply τa|refine τb rfl ?_|refine ⟨⟨by kernel_rfl,by kernel_rfl⟩,?_⟩|refine ⟨by decide,?_⟩|apply τt|apply τf))
    exact ret_tells rfl (AVle.refl _)
  | true =>
    rw [hb] at hli
    obtain ⟨hl, hc⟩ := lightP_lens hb
    have hof := pol_l16 p (by omega) (fun r hr => by have := (hc r hr).2; omega)
    have h16 := policy16_spec p hp
    have hq := policy16_spec (normP p) (norm_ok hp)
    have hpr := pright_spec (normP p) (norm_ok hp)
    have hnl := norm_len (p := p)
    have hsm := same_spec14 (normP p) (normP p) (by omega) (fun r hr => by have := norm_cl (p := p) (k := 12) (fun r hr => (hc r hr).2) r hr; omega)
    rw [sameP_self] at hsm
    cases hr : rightP p with
    | false =>
      have e : normA p = .tup [polA pol0, int 13] := by unfold normA; rw [hr]; rfl
      rw [e] at h16
      (repeat((conv=>whnf);first|apply ω0|apply ω1|apply ω2|refine τ3 rfl ?_|refine τ4 rfl ?_|refine ⟨rfl,?_⟩|apply τa|refine τb rfl ?_|refine ⟨⟨by kernel_rfl,by kernel_rfl⟩,?_⟩|refine ⟨by decide,?_⟩|apply τt|apply τf))
      refine splitO_eq (b := polA p) rfl ?_
      (repeat((conv=>whnf);first|apply ω0|apply ω1|apply ω2|refine τ3 rfl ?_|refine τ4 rfl ?_|refine ⟨rfl,?_⟩|apply τa|refine τb rfl ?_|refine ⟨⟨by kernel_rfl,by kernel_rfl⟩,?_⟩|refine ⟨by decide,?_⟩|apply τt|apply τf))
      refine aop_tells rfl rfl hli ⟨AVle.refl _, trivial⟩ fun nx2 => ?_
      (repeat((conv=>whnf);first|apply ω0|apply ω1|apply ω2|refine τ3 rfl ?_|refine τ4 rfl ?_|refine ⟨rfl,?_⟩|apply τa|refine τb rfl ?_|refine ⟨⟨by kernel_rfl,by kernel_rfl⟩,?_⟩|refine ⟨by decide,?_⟩|apply τt|apply τf))
      refine splitO_eq (b := polA p) rfl ?_
      (repeat((conv=>whnf);first|apply ω0|apply ω1|apply ω2|refine τ3 rfl ?_|refine τ4 rfl ?_|refine ⟨rfl,?_⟩|apply τa|refine τb rfl ?_|refine ⟨⟨by kernel_rfl,by kernel_rfl⟩,?_⟩|refine ⟨by decide,?_⟩|apply τt|apply τf))
      refine aop_tells rfl rfl hof ⟨AVle.refl _, trivial⟩ fun nx3 => ?_
      (repeat((conv=>whnf);first|apply ω0|apply ω1|apply ω2|refine τ3 rfl ?_|refine τ4 rfl ?_|refine ⟨rfl,?_⟩|apply τa|refine τb rfl ?_|refine ⟨⟨by kernel_rfl,by kernel_rfl⟩,?_⟩|refine ⟨by decide,?_⟩|apply τt|apply τf))
      refine aop_tells rfl rfl h16 ⟨AVle.refl _, trivial⟩ fun nx4 => ?_
      (repeat((conv=>whnf);first|apply ω0|apply ω1|apply ω2|refine τ3 rfl ?_|refine τ4 rfl ?_|refine ⟨rfl,?_⟩|apply τa|refine τb rfl ?_|refine ⟨⟨by kernel_rfl,by kernel_rfl⟩,?_⟩|refine ⟨by decide,?_⟩|apply τt|apply τf))
      refine aop_tells rfl rfl awake16_spec trivial fun nx5 => ?_
      (repeat((conv=>whnf);first|apply ω0|apply ω1|apply ω2|refine τ3 rfl ?_|refine τ4 rfl ?_|refine ⟨rfl,?_⟩|apply τa|refine τb rfl ?_|refine ⟨⟨by kernel_rfl,by kernel_rfl⟩,?_⟩|refine ⟨by decide,?_⟩|apply τt|apply τf))
      exact ret_tells rfl (AVle.refl _)
    | true =>
      have e : normA p = .tup [polA (normP p), int 0] := by unfold normA; rw [hr]; rfl
      have hrn := norm_right hr
      have e2 : normA (normP p) = .tup [polA (normP p), int 0] := by unfold normA; rw [hrn, norm_again]; rfl
      rw [e] at h16
      rw [e2] at hq
      rw [hrn] at hpr
      generalize normP p = n at *
      (repeat((conv=>whnf);first|apply ω0|apply ω1|apply ω2|refine τ3 rfl ?_|refine τ4 rfl ?_|refine ⟨rfl,?_⟩|apply τa|refine τb rfl ?_|refine ⟨⟨by kernel_rfl,by kernel_rfl⟩,?_⟩|refine ⟨by decide,?_⟩|apply τt|apply τf))
      refine splitO_eq (b := polA p) rfl ?_
      (repeat((conv=>whnf);first|apply ω0|apply ω1|apply ω2|refine τ3 rfl ?_|refine τ4 rfl ?_|refine ⟨rfl,?_⟩|apply τa|refine τb rfl ?_|refine ⟨⟨by kernel_rfl,by kernel_rfl⟩,?_⟩|refine ⟨by decide,?_⟩|apply τt|apply τf))
      refine aop_tells rfl rfl hli ⟨AVle.refl _, trivial⟩ fun nx2 => ?_
      (repeat((conv=>whnf);first|apply ω0|apply ω1|apply ω2|refine τ3 rfl ?_|refine τ4 rfl ?_|refine ⟨rfl,?_⟩|apply τa|refine τb rfl ?_|refine ⟨⟨by kernel_rfl,by kernel_rfl⟩,?_⟩|refine ⟨by decide,?_⟩|apply τt|apply τf))
      refine splitO_eq (b := polA p) rfl ?_
      (repeat((conv=>whnf);first|apply ω0|apply ω1|apply ω2|refine τ3 rfl ?_|refine τ4 rfl ?_|refine ⟨rfl,?_⟩|apply τa|refine τb rfl ?_|refine ⟨⟨by kernel_rfl,by kernel_rfl⟩,?_⟩|refine ⟨by decide,?_⟩|apply τt|apply τf))
      refine aop_tells rfl rfl hof ⟨AVle.refl _, trivial⟩ fun nx3 => ?_
      (repeat((conv=>whnf);first|apply ω0|apply ω1|apply ω2|refine τ3 rfl ?_|refine τ4 rfl ?_|refine ⟨rfl,?_⟩|apply τa|refine τb rfl ?_|refine ⟨⟨by kernel_rfl,by kernel_rfl⟩,?_⟩|refine ⟨by decide,?_⟩|apply τt|apply τf))
      refine aop_tells rfl rfl h16 ⟨AVle.refl _, trivial⟩ fun nx4 => ?_
      (repeat((conv=>whnf);first|apply ω0|apply ω1|apply ω2|refine τ3 rfl ?_|refine τ4 rfl ?_|refine ⟨rfl,?_⟩|apply τa|refine τb rfl ?_|refine ⟨⟨by kernel_rfl,by kernel_rfl⟩,?_⟩|refine ⟨by decide,?_⟩|apply τt|apply τf))
      refine splitO_eq (b := polA n) rfl ?_
      (repeat((conv=>whnf);first|apply ω0|apply ω1|apply ω2|refine τ3 rfl ?_|refine τ4 rfl ?_|refine ⟨rfl,?_⟩|apply τa|refine τb rfl ?_|refine ⟨⟨by kernel_rfl,by kernel_rfl⟩,?_⟩|refine ⟨by decide,?_⟩|apply τt|apply τf))
      refine aop_tells rfl rfl hq ⟨AVle.refl _, trivial⟩ fun nx5 => ?_
      (repeat((conv=>whnf);first|apply ω0|apply ω1|apply ω2|refine τ3 rfl ?_|refine τ4 rfl ?_|refine ⟨rfl,?_⟩|apply τa|refine τb rfl ?_|refine ⟨⟨by kernel_rfl,by kernel_rfl⟩,?_⟩|refine ⟨by decide,?_⟩|apply τt|apply τf))
      refine splitO_eq (b := polA n) rfl ?_
      (repeat((conv=>whnf);first|apply ω0|apply ω1|apply ω2|refine τ3 rfl ?_|refine τ4 rfl ?_|refine ⟨rfl,?_⟩|apply τa|refine τb rfl ?_|refine ⟨⟨by kernel_rfl,by kernel_rfl⟩,?_⟩|refine ⟨by decide,?_⟩|apply τt|apply τf))
      refine aop_tells rfl rfl hsm ⟨AVle.refl _, AVle.refl _, trivial⟩ fun nx6 => ?_
      intro c hc
      have hc2 : c = true := hc
      clear hc; subst hc2
      (repeat((conv=>whnf);first|apply ω0|apply ω1|apply ω2|refine τ3 rfl ?_|refine τ4 rfl ?_|refine ⟨rfl,?_⟩|apply τa|refine τb rfl ?_|refine ⟨⟨by kernel_rfl,by kernel_rfl⟩,?_⟩|refine ⟨by decide,?_⟩|apply τt|apply τf))
      refine aop_tells rfl rfl hpr ⟨AVle.refl _, trivial⟩ fun nx7 => ?_
      intro c hc
      have hc2 : c = true := hc
      clear hc; subst hc2
      (repeat((conv=>whnf);first|apply ω0|apply ω1|apply ω2|refine τ3 rfl ?_|refine τ4 rfl ?_|refine ⟨rfl,?_⟩|apply τa|refine τb rfl ?_|refine ⟨⟨by kernel_rfl,by kernel_rfl⟩,?_⟩|refine ⟨by decide,?_⟩|apply τt|apply τf))
      intro c hc
      have hc2 : c = true := hc.trans (decide_eq_true (by omega))
      clear hc; subst hc2
      (repeat((conv=>whnf);first|apply ω0|apply ω1|apply ω2|refine τ3 rfl ?_|refine τ4 rfl ?_|refine ⟨rfl,?_⟩|apply τa|refine τb rfl ?_|refine ⟨⟨by kernel_rfl,by kernel_rfl⟩,?_⟩|refine ⟨by decide,?_⟩|apply τt|apply τf))
      refine aop_tells rfl rfl awake16_spec trivial fun nx8 => ?_
      intro c hc
      have hc2 : c = true := hc
      clear hc; subst hc2
      (repeat((conv=>whnf);first|apply ω0|apply ω1|apply ω2|refine τ3 rfl ?_|refine τ4 rfl ?_|refine ⟨rfl,?_⟩|apply τa|refine τb rfl ?_|refine ⟨⟨by kernel_rfl,by kernel_rfl⟩,?_⟩|refine ⟨by decide,?_⟩|apply τt|apply τf))
      exact ret_tells rfl (AVle.refl _)
end Go.Proofs.W

namespace Go.Proofs.W
open Go.Vl
set_option maxRecDepth 100000

/- The reference's normal forms: the plain side. -/
def putC : List Cnd → Cnd → List Cnd
  | [], c => [c]
  | x :: l, c => if ltC x c = true then x :: putC l c else if x = c then x :: l else c :: x :: l
theorem putC_at {c : Cnd} : ∀ {l : List Cnd} {k : Nat}, k ≤ l.length → (∀ j, j < k → ltC (l.getD j cnd0) c = true) → (k < l.length → ltC (l.getD k cnd0) c = false) →
    putC l c = if k < l.length ∧ l.getD k cnd0 = c then l else l.take k ++ c :: l.drop k
  | [], k, hk, _, _ => by
    obtain rfl : k = 0 := by simpa using hk
    simp [putC]
  | x :: l, 0, _, _, h => by
    have h : ltC x c = false := h (by simp)
    unfold putC
    rw [h, if_neg (by decide)]
    by_cases e : x = c
    · rw [if_pos e, if_pos ⟨by simp, e⟩]
    · rw [if_neg e, if_neg (fun k => e k.2)]; rfl
  | x :: l, k + 1, hk, hj, h => by
    have h0 : ltC x c = true := hj 0 (by omega)
    have ih := putC_at (c := c) (l := l) (k := k) (by simpa using hk) (fun j q => hj (j + 1) (by omega)) (fun q => h (by simpa using q))
    unfold putC
    rw [if_pos h0, ih]
    by_cases e : k < l.length ∧ l.getD k cnd0 = c
    · rw [if_pos e, if_pos ⟨by simpa using e.1, by simpa [List.getD] using e.2⟩]
    · rw [if_neg e, if_neg (fun q => e ⟨by simpa using q.1, by simpa [List.getD] using q.2⟩)]; rfl
theorem putC_len {c : Cnd} : ∀ {l : List Cnd}, (putC l c).length ≤ l.length + 1
  | [] => Nat.le_refl _
  | x :: l => by
    have := putC_len (c := c) (l := l)
    unfold putC
    split
    · simp; omega
    · split <;> simp
theorem putC_mem {c x : Cnd} : ∀ {l : List Cnd}, x ∈ putC l c ↔ x = c ∨ x ∈ l
  | [] => by simp [putC]
  | y :: l => by
    unfold putC
    split
    · rw [List.mem_cons, putC_mem, List.mem_cons]
      constructor
      · rintro (h | h | h)
        · exact .inr (.inl h)
        · exact .inl h
        · exact .inr (.inr h)
      · rintro (h | h | h)
        · exact .inr (.inl h)
        · exact .inl h
        · exact .inr (.inr h)
    · split
      · rename_i h; subst h; simp
      · simp
theorem putC_pw {c : Cnd} : ∀ {l : List Cnd}, l.Pairwise RC → (putC l c).Pairwise RC
  | [], _ => List.pairwise_singleton _ _
  | y :: l, h => by
    have hc := List.pairwise_cons.1 h
    unfold putC
    split
    · rename_i hy
      refine List.pairwise_cons.2 ⟨fun z hz => ?_, putC_pw hc.2⟩
      rcases putC_mem.1 hz with rfl | hz
      · exact hy
      · exact hc.1 z hz
    · split
      · exact h
      · rename_i hy hne
        have hcy : RC c y := by
          unfold RC
          cases hl : ltC c y with
          | true => rfl
          | false => exact absurd (ltC_tot (by simpa using hy) hl) hne
        refine List.pairwise_cons.2 ⟨fun z hz => ?_, h⟩
        rcases List.mem_cons.1 hz with rfl | hz
        · exact hcy
        · exact RC_tr _ _ _ hcy (hc.1 z hz)
theorem fold_put (L : List Cnd) : L.foldl putC [] = cmpt L := by
  have key : ∀ (L acc : List Cnd), acc.Pairwise RC → (L.foldl putC acc).Pairwise RC ∧ ∀ x, x ∈ L.foldl putC acc ↔ x ∈ L ∨ x ∈ acc := by
    intro L
    induction L with
    | nil => intro acc h; exact ⟨h, fun x => by simp⟩
    | cons c L ih =>
      intro acc h
      obtain ⟨h1, h2⟩ := ih (putC acc c) (putC_pw h)
      refine ⟨h1, fun x => ?_⟩
      rw [List.foldl_cons, h2, putC_mem, List.mem_cons]
      constructor
      · rintro (h | h | h)
        · exact .inl (.inr h)
        · exact .inl (.inl h)
        · exact .inr h
      · rintro ((h | h) | h)
        · exact .inr (.inl h)
        · exact .inl h
        · exact .inr (.inr h)
  obtain ⟨h1, h2⟩ := key L [] List.Pairwise.nil
  exact pair_same RC_irr RC_tr h1 (cmpt_spec L).1 fun x => (h2 x).trans (by simpa using ((cmpt_spec L).2 x).symm)
theorem fold_put_len (L : List Cnd) : (L.foldl putC []).length ≤ L.length := by rw [fold_put]; exact cmpt_le L
def nmL (r : Rul) : List UInt8 := r.name.data.toList
def undone (N : List (List UInt8)) (rs : List Rul) : Nat := (rs.filter fun r => !decide (nmL r ∈ N)).length
theorem undone_le (N : List (List UInt8)) (z : List UInt8) : ∀ rs : List Rul, undone (N ++ [z]) rs ≤ undone N rs
  | [] => Nat.le_refl _
  | r :: rs => by
    have ih := undone_le N z rs
    unfold undone at ih ⊢
    rw [List.filter_cons, List.filter_cons]
    by_cases h : nmL r ∈ N
    · rw [if_neg (by simp [h]), if_neg (by simp [h])]; exact ih
    · by_cases h2 : nmL r = z
      · rw [if_neg (by simp [h2]), if_pos (by simp [h])]
        simp only [List.length_cons]; omega
      · rw [if_pos (by simp [h, h2]), if_pos (by simp [h])]
        simp only [List.length_cons]; omega
theorem undone_lt {N : List (List UInt8)} : ∀ {rs : List Rul} {r : Rul}, r ∈ rs → ¬ nmL r ∈ N → undone (N ++ [nmL r]) rs < undone N rs
  | [], _, h, _ => by cases h
  | x :: rs, r, h, hn => by
    have hle := undone_le N (nmL r) rs
    rcases List.mem_cons.1 h with rfl | h
    · unfold undone at hle ⊢
      rw [List.filter_cons, List.filter_cons, if_neg (by simp), if_pos (by simp [hn])]
      simp only [List.length_cons]; omega
    · have ih := undone_lt h hn
      unfold undone at ih ⊢
      rw [List.filter_cons, List.filter_cons]
      by_cases h : nmL x ∈ N
      · rw [if_neg (by simp [h]), if_neg (by simp [h])]; exact ih
      · by_cases h2 : nmL x = nmL r
        · rw [if_neg (by simp [h2]), if_pos (by simp [h])]
          simp only [List.length_cons]; omega
        · rw [if_pos (by simp [h, h2]), if_pos (by simp [h])]
          simp only [List.length_cons]; omega
/-- The outer loop's state: the names that are done. -/
structure RefI (p : Pol) (N : List (List UInt8)) (D : List Bool) : Prop where
  len : D.length = p.rules.length
  pw : N.Pairwise RS
  done : ∀ j, j < p.rules.length → D.getD j false = decide (nmL (p.rules.getD j rul0) ∈ N)
  above : ∀ j, j < p.rules.length → ¬ nmL (p.rules.getD j rul0) ∈ N → ∀ z ∈ N, RS z (nmL (p.rules.getD j rul0))
theorem ref_start (p : Pol) : RefI p [] (List.replicate p.rules.length false) :=
  ⟨List.length_replicate, List.Pairwise.nil, fun j hj => by simp [List.getD, hj], fun _ _ _ z hz => by cases hz⟩
theorem ref_end {p : Pol} {N : List (List UInt8)} {D : List Bool} (h : RefI p N D) (hall : ∀ j, j < p.rules.length → D.getD j false = true) :
    outR p.dflt (groupsOf p.rules) N = outR p.dflt (groupsOf p.rules) (keysOf (groupsOf p.rules)) := by
  refine out_same h.pw (keys_strict (groups_nodup _)) (fun _ => rfl) fun s hs => ⟨?_, keys_in hs⟩
  have hne : gOf s p.rules ≠ [] := by
    rw [← gget_groups]
    intro e; rw [e] at hs; exact hs rfl
  obtain ⟨n, hn⟩ := List.exists_mem_of_ne_nil _ hne
  obtain ⟨h1, r, hr, h2⟩ := gOf_mem hn
  obtain ⟨j, hj, rfl⟩ := List.getElem_of_mem hr
  have h3 := h.done j hj
  rw [hall j hj] at h3
  have h4 : nmL (p.rules.getD j rul0) ∈ N := of_decide_eq_true h3.symm
  have h5 : p.rules.getD j rul0 = p.rules[j] := by simp [List.getD, hj]
  rw [h5] at h4
  unfold nmL at h4
  have h6 := (normR_conds h2).2.1
  rw [h1] at h6
  rwa [← h6] at h4
theorem ref_next {p : Pol} {N : List (List UInt8)} {D D' : List Bool} {a : Nat} (h : RefI p N D) (ha : a < p.rules.length) (hd : D.getD a false = false)
    (hmin : ∀ j, j < p.rules.length → D.getD j false = false → Go.Sort.ltStr (nmL (p.rules.getD j rul0)) (nmL (p.rules.getD a rul0)) = false)
    (hl : D'.length = p.rules.length) (hD : ∀ j, j < p.rules.length → D'.getD j false = (D.getD j false || keyB (p.rules.getD j rul0).name (p.rules.getD a rul0).name)) :
    RefI p (N ++ [nmL (p.rules.getD a rul0)]) D' := by
  have hna : ¬ nmL (p.rules.getD a rul0) ∈ N := by
    have := h.done a ha
    rw [hd] at this
    exact of_decide_eq_false this.symm
  have hk : ∀ s t : Rul, keyB s.name t.name = decide (nmL s = nmL t) := fun s t => by
    rw [Bool.eq_iff_iff, keyB_eq, decide_eq_true_iff]
    exact ⟨fun e => by unfold nmL; rw [e], fun e => data_inj e⟩
  refine ⟨hl, ?_, fun j hj => ?_, fun j hj hn z hz => ?_⟩
  · rw [List.pairwise_append]
    refine ⟨h.pw, List.pairwise_singleton _ _, fun z hz b hb => ?_⟩
    rw [List.mem_singleton.1 hb]
    exact h.above a ha hna z hz
  · rw [hD j hj, h.done j hj, hk]
    rw [Bool.eq_iff_iff]; simp
  · have hn1 : ¬ nmL (p.rules.getD j rul0) ∈ N := fun q => hn (List.mem_append_left _ q)
    have hn2 : ¬ nmL (p.rules.getD j rul0) = nmL (p.rules.getD a rul0) := fun q => hn (by rw [q]; simp)
    rcases List.mem_append.1 hz with hz | hz
    · exact h.above j hj hn1 z hz
    · rw [List.mem_singleton.1 hz]
      unfold RS
      cases hl : Go.Sort.ltStr (nmL (p.rules.getD a rul0)) (nmL (p.rules.getD j rul0)) with
      | true => rfl
      | false => exact absurd (ltStr_tot _ _ (hmin j hj (by rw [h.done j hj]; exact decide_eq_false hn1)) hl) hn2
theorem out_snoc {d : A2} {rs : List Rul} {N : List (List UInt8)} {r : Rul} : outR d (groupsOf rs) (N ++ [nmL r]) = outR d (groupsOf rs) N ++ cutL d (gOf r.name rs) := by
  unfold outR
  rw [List.flatMap_append]
  simp only [List.flatMap_cons, List.flatMap_nil, List.append_nil]
  have : (⟨(nmL r).toArray⟩ : ByteArray) = r.name := by unfold nmL; obtain ⟨⟨⟨a⟩⟩, b, c⟩ := r; rfl
  rw [this, gget_groups]
theorem gOf_next {s : ByteArray} {rs : List Rul} {i : Nat} (h : i < rs.length) : gOf s (rs.take (i + 1)) = if keyB s (rs.getD i rul0).name then addN (gOf s (rs.take i)) (rs.getD i rul0) else gOf s (rs.take i) := by
  unfold gOf; rw [take_getD rul0 h, List.foldl_append]; rfl
theorem addN_len {l : List Rul} {r : Rul} : (addN l r).length ≤ l.length + 1 := by
  unfold addN
  split
  · omega
  · split
    · omega
    · simp
theorem gOf_len {s : ByteArray} : ∀ {i : Nat} {rs : List Rul}, i ≤ rs.length → (gOf s (rs.take i)).length ≤ i
  | 0, _, _ => by simp [gOf]
  | i + 1, rs, h => by
    have ih := gOf_len (s := s) (i := i) (rs := rs) (by omega)
    rw [gOf_next (by omega)]
    split
    · have := addN_len (l := gOf s (rs.take i)) (r := rs.getD i rul0); omega
    · omega
theorem out_lenN {p : Pol} {N : List (List UInt8)} {D : List Bool} (h : RefI p N D) : (outR p.dflt (groupsOf p.rules) N).length ≤ N.length * p.rules.length := by
  unfold outR
  have hb : ∀ z : List UInt8, (cutL p.dflt (gget (groupsOf p.rules) ⟨z.toArray⟩)).length ≤ p.rules.length := fun z => by
    refine Nat.le_trans (cutL_le _ _) ?_
    rw [gget_groups]
    have := gOf_len (s := ⟨z.toArray⟩) (i := p.rules.length) (rs := p.rules) (Nat.le_refl _)
    rwa [List.take_length] at this
  clear h
  induction N with
  | nil => simp
  | cons z N ih =>
    rw [List.flatMap_cons, List.length_append, List.length_cons, Nat.succ_mul]
    have := hb z
    omega
end Go.Proofs.W

namespace Go.Proofs.W
open Go.Vl
set_option maxRecDepth 100000

theorem ahead_spec (a b : Cnd) : Tells Tryz.prog 90 [cndA a, cndA b] (boolA (ltC a b)) := by
  refine tells_of_aw Tryz.func90 rfl rfl fun nx => ?_
  have hlt := ltC_iff (a := a) (b := b)
  generalize ltC a b = t at hlt
  obtain ⟨a1, a2, a3, a4⟩ := a
  obtain ⟨b1, b2, b3, b4⟩ := b
  dsimp only at hlt
  (repeat((conv=>whnf);first|apply ω0|apply ω1|apply ω2|refine τ3 rfl ?_|refine τ4 rfl ?_|refine ⟨rfl,?_⟩|apply τa|refine τb rfl ?_|refine ⟨⟨by kernel_rfl,by kernel_rfl⟩,?_⟩|refine ⟨by decide,?_⟩|apply τt|apply τf))
  intro c g1; cases c
  · have g1 : a1 = b1 := by simpa using g1.symm
    (repeat((conv=>whnf);first|apply ω0|apply ω1|apply ω2|refine τ3 rfl ?_|refine τ4 rfl ?_|refine ⟨rfl,?_⟩|apply τa|refine τb rfl ?_|refine ⟨⟨by kernel_rfl,by kernel_rfl⟩,?_⟩|refine ⟨by decide,?_⟩|apply τt|apply τf))
    intro c g2; cases c
    · have g2 : a2 = b2 := by simpa using g2.symm
      (repeat((conv=>whnf);first|apply ω0|apply ω1|apply ω2|refine τ3 rfl ?_|refine τ4 rfl ?_|refine ⟨rfl,?_⟩|apply τa|refine τb rfl ?_|refine ⟨⟨by kernel_rfl,by kernel_rfl⟩,?_⟩|refine ⟨by decide,?_⟩|apply τt|apply τf))
      intro c g3; cases c
      · have g3 : a3 = b3 := by have : (a3 : Int) = (b3 : Int) := by simpa using g3.symm
                                omega
        (repeat((conv=>whnf);first|apply ω0|apply ω1|apply ω2|refine τ3 rfl ?_|refine τ4 rfl ?_|refine ⟨rfl,?_⟩|apply τa|refine τb rfl ?_|refine ⟨⟨by kernel_rfl,by kernel_rfl⟩,?_⟩|refine ⟨by decide,?_⟩|apply τt|apply τf))
        have hq : decide ((a4 : Int) < (b4 : Int)) = t := by rw [Bool.eq_iff_iff, decide_eq_true_iff, hlt]; omega
        intro c h9; cases c
        all_goals
          (repeat((conv=>whnf);first|apply ω0|apply ω1|apply ω2|refine τ3 rfl ?_|refine τ4 rfl ?_|refine ⟨rfl,?_⟩|apply τa|refine τb rfl ?_|refine ⟨⟨by kernel_rfl,by kernel_rfl⟩,?_⟩|refine ⟨by decide,?_⟩|apply τt|apply τf))
          exact ret_tells rfl (le_bool (h9.trans hq))
      · have g3 : ¬ a3 = b3 := fun h => by subst h; simp at g3
        (repeat((conv=>whnf);first|apply ω0|apply ω1|apply ω2|refine τ3 rfl ?_|refine τ4 rfl ?_|refine ⟨rfl,?_⟩|apply τa|refine τb rfl ?_|refine ⟨⟨by kernel_rfl,by kernel_rfl⟩,?_⟩|refine ⟨by decide,?_⟩|apply τt|apply τf))
        have hq : decide ((a3 : Int) < (b3 : Int)) = t := by rw [Bool.eq_iff_iff, decide_eq_true_iff, hlt]; omega
        intro c h9; cases c
        all_goals
          (repeat((conv=>whnf);first|apply ω0|apply ω1|apply ω2|refine τ3 rfl ?_|refine τ4 rfl ?_|refine ⟨rfl,?_⟩|apply τa|refine τb rfl ?_|refine ⟨⟨by kernel_rfl,by kernel_rfl⟩,?_⟩|refine ⟨by decide,?_⟩|apply τt|apply τf))
          exact ret_tells rfl (le_bool (h9.trans hq))
    · have g2 : ¬ a2 = b2 := fun h => by subst h; simp at g2
      (repeat((conv=>whnf);first|apply ω0|apply ω1|apply ω2|refine τ3 rfl ?_|refine τ4 rfl ?_|refine ⟨rfl,?_⟩|apply τa|refine τb rfl ?_|refine ⟨⟨by kernel_rfl,by kernel_rfl⟩,?_⟩|refine ⟨by decide,?_⟩|apply τt|apply τf))
      have hq : decide (a2 < b2) = t := by rw [Bool.eq_iff_iff, decide_eq_true_iff, hlt]; omega
      intro c h9; cases c
      all_goals
        (repeat((conv=>whnf);first|apply ω0|apply ω1|apply ω2|refine τ3 rfl ?_|refine τ4 rfl ?_|refine ⟨rfl,?_⟩|apply τa|refine τb rfl ?_|refine ⟨⟨by kernel_rfl,by kernel_rfl⟩,?_⟩|refine ⟨by decide,?_⟩|apply τt|apply τf))
        exact ret_tells rfl (le_bool (h9.trans hq))
  · have g1 : ¬ a1 = b1 := fun h => by subst h; simp at g1
    (repeat((conv=>whnf);first|apply ω0|apply ω1|apply ω2|refine τ3 rfl ?_|refine τ4 rfl ?_|refine ⟨rfl,?_⟩|apply τa|refine τb rfl ?_|refine ⟨⟨by kernel_rfl,by kernel_rfl⟩,?_⟩|refine ⟨by decide,?_⟩|apply τt|apply τf))
    have hq : decide (a1 < b1) = t := by rw [Bool.eq_iff_iff, decide_eq_true_iff, hlt]; omega
    intro c h9; cases c
    all_goals
      (repeat((conv=>whnf);first|apply ω0|apply ω1|apply ω2|refine τ3 rfl ?_|refine τ4 rfl ?_|refine ⟨rfl,?_⟩|apply τa|refine τb rfl ?_|refine ⟨⟨by kernel_rfl,by kernel_rfl⟩,?_⟩|refine ⟨by decide,?_⟩|apply τt|apply τf))
      exact ret_tells rfl (le_bool (h9.trans hq))
theorem same16_spec (a b : List Cnd) (ha : a.length ≤ 1000000) : Tells Tryz.prog 57 [cnds a, cnds b] (boolA (decide (a = b))) := by
  refine tells_of_aw Tryz.func57 rfl rfl fun nx => ?_
  (repeat((conv=>whnf);first|apply ω0|apply ω1|apply ω2|refine τ3 rfl ?_|refine τ4 rfl ?_|refine ⟨rfl,?_⟩|apply τa|refine τb rfl ?_|refine ⟨⟨by kernel_rfl,by kernel_rfl⟩,?_⟩|refine ⟨by decide,?_⟩|apply τt|apply τf))
  intro c g1; cases c
  rotate_left
  · have g1 : ((a.length : Nat) : Int) ≠ ((b.length : Nat) : Int) := fct_n1.1 g1
    (repeat((conv=>whnf);first|apply ω0|apply ω1|apply ω2|refine τ3 rfl ?_|refine τ4 rfl ?_|refine ⟨rfl,?_⟩|apply τa|refine τb rfl ?_|refine ⟨⟨by kernel_rfl,by kernel_rfl⟩,?_⟩|refine ⟨by decide,?_⟩|apply τt|apply τf))
    exact ret_tells rfl (le_bool (by rw [eq_comm]; exact decide_eq_false (fun h => g1 (by rw [h]))))
  have g1 : ((a.length : Nat) : Int) = ((b.length : Nat) : Int) := fct_n0.1 g1
  have hl : a.length = b.length := by omega
  (repeat((conv=>whnf);first|apply ω0|apply ω1|apply ω2|refine τ3 rfl ?_|refine τ4 rfl ?_|refine ⟨rfl,?_⟩|apply τa|refine τb rfl ?_|refine ⟨⟨by kernel_rfl,by kernel_rfl⟩,?_⟩|refine ⟨by decide,?_⟩|apply τt|apply τf))
  refine aw_loop (fun s : Nat × Nat => mk 26 [(0, cnds a), (1, cnds b), (5, int s.1)] ⟨[], [], s.2, 0⟩) (fun s => s.1 ≤ a.length ∧ ∀ j, j < s.1 → a.getD j cnd0 = b.getD j cnd0) (fun s => a.length - s.1) ?_ ?_
  · exact ⟨(0, nx), ⟨Nat.zero_le _, fun j h => absurd h (Nat.not_lt_zero _)⟩, ele_mk rfl rfl ⟨AVle.refl _, AVle.refl _, AVle.refl _, trivial⟩⟩
  · rintro ⟨i, nx2⟩ ⟨h3, h4⟩
    dsimp only at h3 h4
    (repeat((conv=>whnf);first|apply ω0|apply ω1|apply ω2|refine τ3 rfl ?_|refine τ4 rfl ?_|refine ⟨rfl,?_⟩|apply τa|refine τb rfl ?_|refine ⟨⟨by kernel_rfl,by kernel_rfl⟩,?_⟩|refine ⟨by decide,?_⟩|apply τt|apply τf))
    intro c h5; cases c
    · have h6 := not_of h5
      dsimp only at h6
      obtain rfl : i = a.length := by omega
      have he := eq_of_get hl h4
      (repeat((conv=>whnf);first|apply ω0|apply ω1|apply ω2|refine τ3 rfl ?_|refine τ4 rfl ?_|refine ⟨rfl,?_⟩|apply τa|refine τb rfl ?_|refine ⟨⟨by kernel_rfl,by kernel_rfl⟩,?_⟩|refine ⟨by decide,?_⟩|apply τt|apply τf))
      exact ret_tells rfl (le_bool (by rw [eq_comm]; exact decide_eq_true he))
    · have h6 := yes_of h5
      dsimp only at h6
      have hi : i < a.length := by omega
      (repeat((conv=>whnf);first|apply ω0|apply ω1|apply ω2|refine τ3 rfl ?_|refine τ4 rfl ?_|refine ⟨rfl,?_⟩|apply τa|refine τb rfl ?_|refine ⟨⟨by kernel_rfl,by kernel_rfl⟩,?_⟩|refine ⟨by decide,?_⟩|apply τt|apply τf))
      (refine aw_draw 9 ?_ ?_ ?_ ?_; (· kernel_rfl); (· kernel_rfl); (· kernel_rfl))
      (repeat((conv=>whnf);first|apply ω0|apply ω1|apply ω2|refine τ3 rfl ?_|refine τ4 rfl ?_|refine ⟨rfl,?_⟩|apply τa|refine τb rfl ?_|refine ⟨⟨by kernel_rfl,by kernel_rfl⟩,?_⟩|refine ⟨by decide,?_⟩|apply τt|apply τf))
      refine ⟨⟨by dsimp only; omega, by dsimp only; omega⟩, ?_⟩
      (repeat((conv=>whnf);first|apply ω0|apply ω1|apply ω2|refine τ3 rfl ?_|refine τ4 rfl ?_|refine ⟨rfl,?_⟩|apply τa|refine τb rfl ?_|refine ⟨⟨by kernel_rfl,by kernel_rfl⟩,?_⟩|refine ⟨by decide,?_⟩|apply τt|apply τf))
      refine ⟨⟨by dsimp only; omega, by dsimp only; omega⟩, ?_⟩
      (repeat((conv=>whnf);first|apply ω0|apply ω1|apply ω2|refine τ3 rfl ?_|refine τ4 rfl ?_|refine ⟨rfl,?_⟩|apply τa|refine τb rfl ?_|refine ⟨⟨by kernel_rfl,by kernel_rfl⟩,?_⟩|refine ⟨by decide,?_⟩|apply τt|apply τf))
      intro c hc
      have hc2 : c = !decide (a.getD i cnd0 = b.getD i cnd0) := hc.trans (congrArg (!·) cnd_eqb)
      cases c
      · have he : a.getD i cnd0 = b.getD i cnd0 := by simpa using hc2
        (repeat((conv=>whnf);first|apply ω0|apply ω1|apply ω2|refine τ3 rfl ?_|refine τ4 rfl ?_|refine ⟨rfl,?_⟩|apply τa|refine τb rfl ?_|refine ⟨⟨by kernel_rfl,by kernel_rfl⟩,?_⟩|refine ⟨by decide,?_⟩|apply τt|apply τf))
        refine back (i + 1, nx2) ⟨by dsimp only; omega, fun j hj => ?_⟩ (by dsimp only; omega) (ele_mk rfl rfl ⟨AVle.refl _, AVle.refl _, le_int (wrap_succ (by dsimp only; omega)), trivial⟩)
        dsimp only at hj
        rcases Nat.lt_or_ge j i with h | h
        · exact h4 j h
        · obtain rfl : j = i := by omega
          exact he
      · have he : ¬ a.getD i cnd0 = b.getD i cnd0 := by simpa using hc2
        (repeat((conv=>whnf);first|apply ω0|apply ω1|apply ω2|refine τ3 rfl ?_|refine τ4 rfl ?_|refine ⟨rfl,?_⟩|apply τa|refine τb rfl ?_|refine ⟨⟨by kernel_rfl,by kernel_rfl⟩,?_⟩|refine ⟨by decide,?_⟩|apply τt|apply τf))
        exact ret_tells rfl (le_bool (by rw [eq_comm]; exact decide_eq_false (fun h => he (by rw [h]))))
def cdF (R : List Cnd) (j : Nat) : AV := cndA (R.getD j cnd0)
theorem gr_c10 : growOk Tryz.prog 70 = true := by kernel_rfl
theorem gc_c10 : Tryz.prog.cellsOf 70 = 4 := by kernel_rfl
theorem gb_c10 : Tryz.prog.bytesOf 70 = 32 := by kernel_rfl
theorem appF_lt {n : Nat} {f f' : Nat → AV} {k : Nat} (h : k < n) : appF n f f' k = f k := by
  unfold appF
  rw [show Nat.blt k n = true from Nat.ble_eq_true_of_le h]; rfl
theorem appF_ge {n : Nat} {f f' : Nat → AV} {k : Nat} (h : ¬ k < n) : appF n f f' k = f' (k - n) := by
  unfold appF
  rw [show Nat.blt k n = false from by cases hb : Nat.blt k n with | false => rfl | true => exact absurd (Nat.le_of_ble_eq_true hb) (by omega)]; rfl
theorem put_row1 {l : List Cnd} {c : Cnd} {m k : Nat} {f f' f'' : Nat → AV} {i j : Vl.Id} (hm : m = k) (hk : k ≤ l.length) (h1 : ∀ j, j < k → f' j = cndA (l.getD j cnd0)) (h2 : f'' 0 = cndA c) (h : i.2 = j.2) :
    AVle (.os 4 (0 + m + 1) (appF (0 + m) (appF 0 f f') f'') (some i)) (.os 4 (k + 1) (cdF (l.take k ++ [c])) (some j)) := by
  subst hm
  rw [Nat.zero_add]
  refine (AVle.os_fun fun q hq => ?_).trans (AVle.os_nm h)
  by_cases hq2 : q < m
  · rw [appF_lt hq2, appF_ge (Nat.not_lt_zero _), Nat.sub_zero, h1 q hq2]
    unfold cdF
    congr 1
    simp only [List.getD]
    rw [List.getElem?_append_left (by rw [List.length_take]; omega), List.getElem?_take, if_pos hq2]
  · rw [appF_ge hq2, show q - m = 0 by omega, h2]
    unfold cdF
    simp [List.getD, List.getElem?_append_right, hk, show q = m by omega]
theorem put_row0 {l : List Cnd} {c : Cnd} {f f'' : Nat → AV} {i j : Vl.Id} (h2 : f'' 0 = cndA c) (h : i.2 = j.2) :
    AVle (.os 4 (0 + 1) (appF 0 f f'') (some i)) (.os 4 (0 + 1) (cdF (l.take 0 ++ [c])) (some j)) := by
  refine (AVle.os_fun fun q hq => ?_).trans (AVle.os_nm h)
  obtain rfl : q = 0 := by omega
  rw [appF_ge (by omega), Nat.sub_zero, h2]; rfl
theorem put_row2 {l : List Cnd} {c : Cnd} {k : Nat} {f' : Nat → AV} {oi : Option Vl.Id} (hk : k ≤ l.length) (h1 : ∀ j, j < l.length - k → f' j = cndA (l.getD (k + j) cnd0)) :
    AVle (.os 4 (k + 1 + (l.length - k)) (appF (k + 1) (cdF (l.take k ++ [c])) f') oi) (cnds (l.take k ++ c :: l.drop k)) := by
  have hlen : (l.take k ++ c :: l.drop k).length = k + 1 + (l.length - k) := by simp; omega
  refine AVle.os_sl.trans ?_
  unfold cnds slOf
  rw [hlen]
  refine AVle.sl_fun fun q hq => ?_
  by_cases hq2 : q < k + 1
  · rw [appF_lt hq2]
    unfold cdF
    rw [show l.take k ++ c :: l.drop k = (l.take k ++ [c]) ++ l.drop k by simp]
    congr 1
    simp only [List.getD]
    have e : (l.take k ++ [c]).length = k + 1 := by rw [List.length_append, List.length_take]; simp; omega
    have h2 := List.getElem?_append_left (l₂ := l.drop k) (show q < (l.take k ++ [c]).length by omega)
    rw [h2]
  · rw [appF_ge hq2, h1 _ (by omega)]
    rw [show l.take k ++ c :: l.drop k = (l.take k ++ [c]) ++ l.drop k by simp]
    congr 1
    simp only [List.getD]
    have e : (l.take k ++ [c]).length = k + 1 := by rw [List.length_append, List.length_take]; simp; omega
    have h2 := List.getElem?_append_right (l₂ := l.drop k) (show (l.take k ++ [c]).length ≤ q by omega)
    rw [h2, List.getElem?_drop, e]
theorem put_row3 {l : List Cnd} {c : Cnd} {k : Nat} {oi : Option Vl.Id} (hk : l.length - k = 0) (hk2 : k ≤ l.length) : AVle (.os 4 (k + 1) (cdF (l.take k ++ [c])) oi) (cnds (l.take k ++ c :: l.drop k)) := by
  have hlen : (l.take k ++ c :: l.drop k).length = k + 1 := by simp; omega
  refine AVle.os_sl.trans ?_
  unfold cnds slOf
  rw [hlen]
  refine AVle.sl_fun fun q hq => ?_
  unfold cdF
  rw [show l.drop k = [] from List.drop_eq_nil_of_le (by omega)]
set_option maxHeartbeats 4000000 in
theorem put_spec16 (l : List Cnd) (c : Cnd) (hl : l.length ≤ 1000000) : Tells Tryz.prog 56 [cnds l, cndA c] (cnds (putC l c)) := by
  refine tells_of_aw Tryz.func56 rfl rfl fun nx => ?_
  (repeat((conv=>whnf);first|apply ω0|apply ω1|apply ω2|refine τ3 rfl ?_|refine τ4 rfl ?_|refine ⟨rfl,?_⟩|apply τa|refine τb rfl ?_|refine ⟨⟨by kernel_rfl,by kernel_rfl⟩,?_⟩|refine ⟨by decide,?_⟩|apply τt|apply τf))
  refine aw_midB (fun y : Nat × Nat => mk 47 [(0, cnds l), (3, .bp (0, nx) 0), (5, int y.1)] ⟨[((0, nx), .c [int c.arg, int c.op, u64 c.mask, u64 c.value])], [], y.2, 1⟩) (fun y => y.1 ≤ l.length ∧ (∀ j, j < y.1 → ltC (l.getD j cnd0) c = true) ∧ (y.1 < l.length → ltC (l.getD y.1 cnd0) c = false)) ?_ ?_
  · refine aw_loop (fun y : Nat × Nat => mk 47 [(0, cnds l), (3, .bp (0, nx) 0), (5, int y.1)] ⟨[((0, nx), .c [int c.arg, int c.op, u64 c.mask, u64 c.value])], [], y.2, 1⟩) (fun y => y.1 ≤ l.length ∧ ∀ j, j < y.1 → ltC (l.getD j cnd0) c = true) (fun y => l.length - y.1) ?_ ?_
    · exact ⟨(0, nx + 1), ⟨Nat.zero_le _, fun j h => absurd h (Nat.not_lt_zero _)⟩, ele_tell _ _ rfl rfl (List.Sublist.refl _) .slnil (BxLe.refl _) trivial ⟨AVle.refl _, AVle.refl _, AVle.refl _, trivial⟩⟩
    · rintro ⟨k, nx1⟩ ⟨h1, h2⟩
      dsimp only at h1 h2
      (repeat((conv=>whnf);first|apply ω0|apply ω1|apply ω2|refine τ3 rfl ?_|refine τ4 rfl ?_|refine ⟨rfl,?_⟩|apply τa|refine τb rfl ?_|refine ⟨⟨by kernel_rfl,by kernel_rfl⟩,?_⟩|refine ⟨by decide,?_⟩|apply τt|apply τf))
      by_cases hk : k < l.length
      · have hd : decide ((k : Int) < (l.length : Int)) = true := decide_eq_true (by omega)
        have hah := ahead_spec (l.getD k cnd0) c
        cases hb : ltC (l.getD k cnd0) c with
        | true =>
          rw [hb] at hah
          refine aw_mixN 12 _ (fun _ => false) (fun i => match i with | 3 => true | 10 => true | _ => false) [0, 1, 2, 3, 4, 5, 6, 7, 8, 9, 10, 11] (by kernel_rfl) (by kernel_rfl) (HB.refl _) ?_
          (repeat((conv=>whnf);first|apply ω0|apply ω1|apply ω2|refine τ3 rfl ?_|refine τ4 rfl ?_|refine ⟨rfl,?_⟩|apply τa|refine τb rfl ?_|refine ⟨⟨by kernel_rfl,by kernel_rfl⟩,?_⟩|refine ⟨by decide,?_⟩|apply τt|apply τf))
          refine ⟨.v (.bool true), pure_bool rfl rfl trivial hd, ?_⟩
          (repeat((conv=>whnf);first|apply ω0|apply ω1|apply ω2|refine τ3 rfl ?_|refine τ4 rfl ?_|refine ⟨rfl,?_⟩|apply τa|refine τb rfl ?_|refine ⟨⟨by kernel_rfl,by kernel_rfl⟩,?_⟩|refine ⟨by decide,?_⟩|apply τt|apply τf))
          refine ⟨_, pure_yes rfl rfl rfl rfl trivial, ?_⟩
          (repeat((conv=>whnf);first|apply ω0|apply ω1|apply ω2|refine τ3 rfl ?_|refine τ4 rfl ?_|refine ⟨rfl,?_⟩|apply τa|refine τb rfl ?_|refine ⟨⟨by kernel_rfl,by kernel_rfl⟩,?_⟩|refine ⟨by decide,?_⟩|apply τt|apply τf))
          refine ⟨_, pure_yes rfl rfl rfl rfl trivial, ?_⟩
          (repeat((conv=>whnf);first|apply ω0|apply ω1|apply ω2|refine τ3 rfl ?_|refine τ4 rfl ?_|refine ⟨rfl,?_⟩|apply τa|refine τb rfl ?_|refine ⟨⟨by kernel_rfl,by kernel_rfl⟩,?_⟩|refine ⟨by decide,?_⟩|apply τt|apply τf))
          refine ⟨_, pure_yes rfl rfl rfl rfl ⟨by first | omega | (dsimp only; omega), by first | omega | (dsimp only; omega)⟩, ?_⟩
          (repeat((conv=>whnf);first|apply ω0|apply ω1|apply ω2|refine τ3 rfl ?_|refine τ4 rfl ?_|refine ⟨rfl,?_⟩|apply τa|refine τb rfl ?_|refine ⟨⟨by kernel_rfl,by kernel_rfl⟩,?_⟩|refine ⟨by decide,?_⟩|apply τt|apply τf))
          refine splitV_eq (b := .rp (cndA (l.getD k cnd0)).cells) rfl ?_
          (repeat((conv=>whnf);first|apply ω0|apply ω1|apply ω2|refine τ3 rfl ?_|refine τ4 rfl ?_|refine ⟨rfl,?_⟩|apply τa|refine τb rfl ?_|refine ⟨⟨by kernel_rfl,by kernel_rfl⟩,?_⟩|refine ⟨by decide,?_⟩|apply τt|apply τf))
          refine ⟨_, pure_yes rfl rfl rfl rfl trivial, ?_⟩
          (repeat((conv=>whnf);first|apply ω0|apply ω1|apply ω2|refine τ3 rfl ?_|refine τ4 rfl ?_|refine ⟨rfl,?_⟩|apply τa|refine τb rfl ?_|refine ⟨⟨by kernel_rfl,by kernel_rfl⟩,?_⟩|refine ⟨by decide,?_⟩|apply τt|apply τf))
          refine splitV_eq (b := cndA (l.getD k cnd0)) rfl ?_
          (repeat((conv=>whnf);first|apply ω0|apply ω1|apply ω2|refine τ3 rfl ?_|refine τ4 rfl ?_|refine ⟨rfl,?_⟩|apply τa|refine τb rfl ?_|refine ⟨⟨by kernel_rfl,by kernel_rfl⟩,?_⟩|refine ⟨by decide,?_⟩|apply τt|apply τf))
          refine ⟨_, pure_yes rfl rfl rfl rfl (by first | trivial | exact ⟨rfl, Nat.le_of_ble_eq_true rfl⟩), ?_⟩
          (repeat((conv=>whnf);first|apply ω0|apply ω1|apply ω2|refine τ3 rfl ?_|refine τ4 rfl ?_|refine ⟨rfl,?_⟩|apply τa|refine τb rfl ?_|refine ⟨⟨by kernel_rfl,by kernel_rfl⟩,?_⟩|refine ⟨by decide,?_⟩|apply τt|apply τf))
          refine splitV_eq (b := cndA c) rfl ?_
          (repeat((conv=>whnf);first|apply ω0|apply ω1|apply ω2|refine τ3 rfl ?_|refine τ4 rfl ?_|refine ⟨rfl,?_⟩|apply τa|refine τb rfl ?_|refine ⟨⟨by kernel_rfl,by kernel_rfl⟩,?_⟩|refine ⟨by decide,?_⟩|apply τt|apply τf))
          refine ⟨_, pure_yesT rfl rfl rfl rfl rfl hah ⟨AVle.refl _, AVle.refl _, trivial⟩ (NoId.v _), ?_⟩
          (repeat((conv=>whnf);first|apply ω0|apply ω1|apply ω2|refine τ3 rfl ?_|refine τ4 rfl ?_|refine ⟨rfl,?_⟩|apply τa|refine τb rfl ?_|refine ⟨⟨by kernel_rfl,by kernel_rfl⟩,?_⟩|refine ⟨by decide,?_⟩|apply τt|apply τf))
          exact back (k + 1, nx1) ⟨hk, fun j hj => by dsimp only at hj; rcases Nat.lt_or_ge j k with q | q; exact h2 j q; rw [show j = k by omega]; exact hb⟩ (by dsimp only; omega) (ele_tell _ _ rfl rfl (List.Sublist.refl _) .slnil (BxLe.refl _) trivial ⟨AVle.refl _, AVle.refl _, le_int (wrap_succ (by first | omega | (dsimp only; omega))), trivial⟩)
        | false =>
          rw [hb] at hah
          refine aw_mixN 12 _ (fun _ => false) (fun i => match i with | 3 => true | 10 => true | _ => false) [0, 1, 2, 3, 4, 5, 6, 7, 8, 9, 10, 11] (by kernel_rfl) (by kernel_rfl) (HB.refl _) ?_
          (repeat((conv=>whnf);first|apply ω0|apply ω1|apply ω2|refine τ3 rfl ?_|refine τ4 rfl ?_|refine ⟨rfl,?_⟩|apply τa|refine τb rfl ?_|refine ⟨⟨by kernel_rfl,by kernel_rfl⟩,?_⟩|refine ⟨by decide,?_⟩|apply τt|apply τf))
          refine ⟨.v (.bool true), pure_bool rfl rfl trivial hd, ?_⟩
          (repeat((conv=>whnf);first|apply ω0|apply ω1|apply ω2|refine τ3 rfl ?_|refine τ4 rfl ?_|refine ⟨rfl,?_⟩|apply τa|refine τb rfl ?_|refine ⟨⟨by kernel_rfl,by kernel_rfl⟩,?_⟩|refine ⟨by decide,?_⟩|apply τt|apply τf))
          refine ⟨_, pure_yes rfl rfl rfl rfl trivial, ?_⟩
          (repeat((conv=>whnf);first|apply ω0|apply ω1|apply ω2|refine τ3 rfl ?_|refine τ4 rfl ?_|refine ⟨rfl,?_⟩|apply τa|refine τb rfl ?_|refine ⟨⟨by kernel_rfl,by kernel_rfl⟩,?_⟩|refine ⟨by decide,?_⟩|apply τt|apply τf))
          refine ⟨_, pure_yes rfl rfl rfl rfl trivial, ?_⟩
          (repeat((conv=>whnf);first|apply ω0|apply ω1|apply ω2|refine τ3 rfl ?_|refine τ4 rfl ?_|refine ⟨rfl,?_⟩|apply τa|refine τb rfl ?_|refine ⟨⟨by kernel_rfl,by kernel_rfl⟩,?_⟩|refine ⟨by decide,?_⟩|apply τt|apply τf))
          refine ⟨_, pure_yes rfl rfl rfl rfl ⟨by first | omega | (dsimp only; omega), by first | omega | (dsimp only; omega)⟩, ?_⟩
          (repeat((conv=>whnf);first|apply ω0|apply ω1|apply ω2|refine τ3 rfl ?_|refine τ4 rfl ?_|refine ⟨rfl,?_⟩|apply τa|refine τb rfl ?_|refine ⟨⟨by kernel_rfl,by kernel_rfl⟩,?_⟩|refine ⟨by decide,?_⟩|apply τt|apply τf))
          refine splitV_eq (b := .rp (cndA (l.getD k cnd0)).cells) rfl ?_
          (repeat((conv=>whnf);first|apply ω0|apply ω1|apply ω2|refine τ3 rfl ?_|refine τ4 rfl ?_|refine ⟨rfl,?_⟩|apply τa|refine τb rfl ?_|refine ⟨⟨by kernel_rfl,by kernel_rfl⟩,?_⟩|refine ⟨by decide,?_⟩|apply τt|apply τf))
          refine ⟨_, pure_yes rfl rfl rfl rfl trivial, ?_⟩
          (repeat((conv=>whnf);first|apply ω0|apply ω1|apply ω2|refine τ3 rfl ?_|refine τ4 rfl ?_|refine ⟨rfl,?_⟩|apply τa|refine τb rfl ?_|refine ⟨⟨by kernel_rfl,by kernel_rfl⟩,?_⟩|refine ⟨by decide,?_⟩|apply τt|apply τf))
          refine splitV_eq (b := cndA (l.getD k cnd0)) rfl ?_
          (repeat((conv=>whnf);first|apply ω0|apply ω1|apply ω2|refine τ3 rfl ?_|refine τ4 rfl ?_|refine ⟨rfl,?_⟩|apply τa|refine τb rfl ?_|refine ⟨⟨by kernel_rfl,by kernel_rfl⟩,?_⟩|refine ⟨by decide,?_⟩|apply τt|apply τf))
          refine ⟨_, pure_yes rfl rfl rfl rfl (by first | trivial | exact ⟨rfl, Nat.le_of_ble_eq_true rfl⟩), ?_⟩
          (repeat((conv=>whnf);first|apply ω0|apply ω1|apply ω2|refine τ3 rfl ?_|refine τ4 rfl ?_|refine ⟨rfl,?_⟩|apply τa|refine τb rfl ?_|refine ⟨⟨by kernel_rfl,by kernel_rfl⟩,?_⟩|refine ⟨by decide,?_⟩|apply τt|apply τf))
          refine splitV_eq (b := cndA c) rfl ?_
          (repeat((conv=>whnf);first|apply ω0|apply ω1|apply ω2|refine τ3 rfl ?_|refine τ4 rfl ?_|refine ⟨rfl,?_⟩|apply τa|refine τb rfl ?_|refine ⟨⟨by kernel_rfl,by kernel_rfl⟩,?_⟩|refine ⟨by decide,?_⟩|apply τt|apply τf))
          refine ⟨_, pure_yesT rfl rfl rfl rfl rfl hah ⟨AVle.refl _, AVle.refl _, trivial⟩ (NoId.v _), ?_⟩
          (repeat((conv=>whnf);first|apply ω0|apply ω1|apply ω2|refine τ3 rfl ?_|refine τ4 rfl ?_|refine ⟨rfl,?_⟩|apply τa|refine τb rfl ?_|refine ⟨⟨by kernel_rfl,by kernel_rfl⟩,?_⟩|refine ⟨by decide,?_⟩|apply τt|apply τf))
          exact ⟨(k, nx1), ⟨h1, h2, fun _ => hb⟩, ele_tell _ _ rfl rfl (List.Sublist.refl _) .slnil (BxLe.refl _) trivial ⟨AVle.refl _, AVle.refl _, AVle.refl _, trivial⟩⟩
      · have hd : decide ((k : Int) < (l.length : Int)) = false := decide_eq_false (by omega)
        refine aw_mixN 12 _ (fun _ => false) (fun i => match i with | 3 => true | 10 => true | _ => false) [0, 1, 2, 3, 4, 5, 6, 7, 8, 9, 10, 11] (by kernel_rfl) (by kernel_rfl) (HB.refl _) ?_
        (repeat((conv=>whnf);first|apply ω0|apply ω1|apply ω2|refine τ3 rfl ?_|refine τ4 rfl ?_|refine ⟨rfl,?_⟩|apply τa|refine τb rfl ?_|refine ⟨⟨by kernel_rfl,by kernel_rfl⟩,?_⟩|refine ⟨by decide,?_⟩|apply τt|apply τf))
        refine ⟨.v (.bool false), pure_bool rfl rfl trivial hd, ?_⟩
        (repeat((conv=>whnf);first|apply ω0|apply ω1|apply ω2|refine τ3 rfl ?_|refine τ4 rfl ?_|refine ⟨rfl,?_⟩|apply τa|refine τb rfl ?_|refine ⟨⟨by kernel_rfl,by kernel_rfl⟩,?_⟩|refine ⟨by decide,?_⟩|apply τt|apply τf))
        refine ⟨_, pure_no rfl rfl rfl, ?_⟩
        (repeat((conv=>whnf);first|apply ω0|apply ω1|apply ω2|refine τ3 rfl ?_|refine τ4 rfl ?_|refine ⟨rfl,?_⟩|apply τa|refine τb rfl ?_|refine ⟨⟨by kernel_rfl,by kernel_rfl⟩,?_⟩|refine ⟨by decide,?_⟩|apply τt|apply τf))
        refine ⟨_, pure_no rfl rfl rfl, ?_⟩
        (repeat((conv=>whnf);first|apply ω0|apply ω1|apply ω2|refine τ3 rfl ?_|refine τ4 rfl ?_|refine ⟨rfl,?_⟩|apply τa|refine τb rfl ?_|refine ⟨⟨by kernel_rfl,by kernel_rfl⟩,?_⟩|refine ⟨by decide,?_⟩|apply τt|apply τf))
        refine ⟨_, pure_no rfl rfl rfl, ?_⟩
        (repeat((conv=>whnf);first|apply ω0|apply ω1|apply ω2|refine τ3 rfl ?_|refine τ4 rfl ?_|refine ⟨rfl,?_⟩|apply τa|refine τb rfl ?_|refine ⟨⟨by kernel_rfl,by kernel_rfl⟩,?_⟩|refine ⟨by decide,?_⟩|apply τt|apply τf))
        refine ⟨_, pure_no rfl rfl rfl, ?_⟩
        (repeat((conv=>whnf);first|apply ω0|apply ω1|apply ω2|refine τ3 rfl ?_|refine τ4 rfl ?_|refine ⟨rfl,?_⟩|apply τa|refine τb rfl ?_|refine ⟨⟨by kernel_rfl,by kernel_rfl⟩,?_⟩|refine ⟨by decide,?_⟩|apply τt|apply τf))
        refine ⟨_, pure_no rfl rfl rfl, ?_⟩
        (repeat((conv=>whnf);first|apply ω0|apply ω1|apply ω2|refine τ3 rfl ?_|refine τ4 rfl ?_|refine ⟨rfl,?_⟩|apply τa|refine τb rfl ?_|refine ⟨⟨by kernel_rfl,by kernel_rfl⟩,?_⟩|refine ⟨by decide,?_⟩|apply τt|apply τf))
        refine ⟨_, pure_no rfl rfl rfl, ?_⟩
        (repeat((conv=>whnf);first|apply ω0|apply ω1|apply ω2|refine τ3 rfl ?_|refine τ4 rfl ?_|refine ⟨rfl,?_⟩|apply τa|refine τb rfl ?_|refine ⟨⟨by kernel_rfl,by kernel_rfl⟩,?_⟩|refine ⟨by decide,?_⟩|apply τt|apply τf))
        exact ⟨(k, nx1), ⟨h1, h2, fun h => absurd h hk⟩, ele_tell _ _ rfl rfl (List.Sublist.refl _) .slnil (BxLe.refl _) trivial ⟨AVle.refl _, AVle.refl _, AVle.refl _, trivial⟩⟩
  · rintro ⟨k, nx1⟩ ⟨h1, h2, h3⟩
    dsimp only at h1 h2 h3
    rw [putC_at h1 h2 h3]
    (repeat((conv=>whnf);first|apply ω0|apply ω1|apply ω2|refine τ3 rfl ?_|refine τ4 rfl ?_|refine ⟨rfl,?_⟩|apply τa|refine τb rfl ?_|refine ⟨⟨by kernel_rfl,by kernel_rfl⟩,?_⟩|refine ⟨by decide,?_⟩|apply τt|apply τf))
    refine aw_mid (fun y : Nat => mk 47 [(0, cnds l), (3, .bp (0, nx) 0), (5, int k), (32, boolA (decide (k < l.length ∧ l.getD k cnd0 = c)))] ⟨[((0, nx), .c [int c.arg, int c.op, u64 c.mask, u64 c.value])], [], y, 1⟩) (fun _ => True) ?_ ?_
    · by_cases hk : k < l.length
      · have hd : decide ((k : Int) < (l.length : Int)) = true := decide_eq_true (by omega)
        by_cases he : l.getD k cnd0 = c
        · rw [decide_eq_true (show k < l.length ∧ l.getD k cnd0 = c from ⟨hk, he⟩)]
          refine aw_mixN 12 _ (fun _ => false) (fun i => match i with | 3 => true | 10 => true | _ => false) [0, 1, 2, 3, 4, 5, 6, 7, 8, 9, 10, 11] (by kernel_rfl) (by kernel_rfl) (HB.refl _) ?_
          (repeat((conv=>whnf);first|apply ω0|apply ω1|apply ω2|refine τ3 rfl ?_|refine τ4 rfl ?_|refine ⟨rfl,?_⟩|apply τa|refine τb rfl ?_|refine ⟨⟨by kernel_rfl,by kernel_rfl⟩,?_⟩|refine ⟨by decide,?_⟩|apply τt|apply τf))
          refine ⟨.v (.bool true), pure_bool rfl rfl trivial hd, ?_⟩
          (repeat((conv=>whnf);first|apply ω0|apply ω1|apply ω2|refine τ3 rfl ?_|refine τ4 rfl ?_|refine ⟨rfl,?_⟩|apply τa|refine τb rfl ?_|refine ⟨⟨by kernel_rfl,by kernel_rfl⟩,?_⟩|refine ⟨by decide,?_⟩|apply τt|apply τf))
          refine ⟨_, pure_yes rfl rfl rfl rfl trivial, ?_⟩
          (repeat((conv=>whnf);first|apply ω0|apply ω1|apply ω2|refine τ3 rfl ?_|refine τ4 rfl ?_|refine ⟨rfl,?_⟩|apply τa|refine τb rfl ?_|refine ⟨⟨by kernel_rfl,by kernel_rfl⟩,?_⟩|refine ⟨by decide,?_⟩|apply τt|apply τf))
          refine ⟨_, pure_yes rfl rfl rfl rfl trivial, ?_⟩
          (repeat((conv=>whnf);first|apply ω0|apply ω1|apply ω2|refine τ3 rfl ?_|refine τ4 rfl ?_|refine ⟨rfl,?_⟩|apply τa|refine τb rfl ?_|refine ⟨⟨by kernel_rfl,by kernel_rfl⟩,?_⟩|refine ⟨by decide,?_⟩|apply τt|apply τf))
          refine ⟨_, pure_yes rfl rfl rfl rfl ⟨by first | omega | (dsimp only; omega), by first | omega | (dsimp only; omega)⟩, ?_⟩
          (repeat((conv=>whnf);first|apply ω0|apply ω1|apply ω2|refine τ3 rfl ?_|refine τ4 rfl ?_|refine ⟨rfl,?_⟩|apply τa|refine τb rfl ?_|refine ⟨⟨by kernel_rfl,by kernel_rfl⟩,?_⟩|refine ⟨by decide,?_⟩|apply τt|apply τf))
          refine splitV_eq (b := .rp (cndA (l.getD k cnd0)).cells) rfl ?_
          (repeat((conv=>whnf);first|apply ω0|apply ω1|apply ω2|refine τ3 rfl ?_|refine τ4 rfl ?_|refine ⟨rfl,?_⟩|apply τa|refine τb rfl ?_|refine ⟨⟨by kernel_rfl,by kernel_rfl⟩,?_⟩|refine ⟨by decide,?_⟩|apply τt|apply τf))
          refine ⟨_, pure_yes rfl rfl rfl rfl trivial, ?_⟩
          (repeat((conv=>whnf);first|apply ω0|apply ω1|apply ω2|refine τ3 rfl ?_|refine τ4 rfl ?_|refine ⟨rfl,?_⟩|apply τa|refine τb rfl ?_|refine ⟨⟨by kernel_rfl,by kernel_rfl⟩,?_⟩|refine ⟨by decide,?_⟩|apply τt|apply τf))
          refine splitV_eq (b := cndA (l.getD k cnd0)) rfl ?_
          (repeat((conv=>whnf);first|apply ω0|apply ω1|apply ω2|refine τ3 rfl ?_|refine τ4 rfl ?_|refine ⟨rfl,?_⟩|apply τa|refine τb rfl ?_|refine ⟨⟨by kernel_rfl,by kernel_rfl⟩,?_⟩|refine ⟨by decide,?_⟩|apply τt|apply τf))
          refine ⟨_, pure_yes rfl rfl rfl rfl (by first | trivial | exact ⟨rfl, Nat.le_of_ble_eq_true rfl⟩), ?_⟩
          (repeat((conv=>whnf);first|apply ω0|apply ω1|apply ω2|refine τ3 rfl ?_|refine τ4 rfl ?_|refine ⟨rfl,?_⟩|apply τa|refine τb rfl ?_|refine ⟨⟨by kernel_rfl,by kernel_rfl⟩,?_⟩|refine ⟨by decide,?_⟩|apply τt|apply τf))
          refine splitV_eq (b := cndA c) rfl ?_
          (repeat((conv=>whnf);first|apply ω0|apply ω1|apply ω2|refine τ3 rfl ?_|refine τ4 rfl ?_|refine ⟨rfl,?_⟩|apply τa|refine τb rfl ?_|refine ⟨⟨by kernel_rfl,by kernel_rfl⟩,?_⟩|refine ⟨by decide,?_⟩|apply τt|apply τf))
          refine ⟨.v (.bool true), pure_yesB rfl rfl rfl rfl ⟨by kernel_rfl, by kernel_rfl⟩ (cnd_eqb.trans (decide_eq_true he)), ?_⟩
          (repeat((conv=>whnf);first|apply ω0|apply ω1|apply ω2|refine τ3 rfl ?_|refine τ4 rfl ?_|refine ⟨rfl,?_⟩|apply τa|refine τb rfl ?_|refine ⟨⟨by kernel_rfl,by kernel_rfl⟩,?_⟩|refine ⟨by decide,?_⟩|apply τt|apply τf))
          exact ⟨nx1, trivial, ele_tell _ _ rfl rfl (List.Sublist.refl _) .slnil (BxLe.refl _) trivial ⟨AVle.refl _, AVle.refl _, AVle.refl _, AVle.refl _, trivial⟩⟩
        · rw [decide_eq_false (show ¬ (k < l.length ∧ l.getD k cnd0 = c) from fun h => he h.2)]
          refine aw_mixN 12 _ (fun _ => false) (fun i => match i with | 3 => true | 10 => true | _ => false) [0, 1, 2, 3, 4, 5, 6, 7, 8, 9, 10, 11] (by kernel_rfl) (by kernel_rfl) (HB.refl _) ?_
          (repeat((conv=>whnf);first|apply ω0|apply ω1|apply ω2|refine τ3 rfl ?_|refine τ4 rfl ?_|refine ⟨rfl,?_⟩|apply τa|refine τb rfl ?_|refine ⟨⟨by kernel_rfl,by kernel_rfl⟩,?_⟩|refine ⟨by decide,?_⟩|apply τt|apply τf))
          refine ⟨.v (.bool true), pure_bool rfl rfl trivial hd, ?_⟩
          (repeat((conv=>whnf);first|apply ω0|apply ω1|apply ω2|refine τ3 rfl ?_|refine τ4 rfl ?_|refine ⟨rfl,?_⟩|apply τa|refine τb rfl ?_|refine ⟨⟨by kernel_rfl,by kernel_rfl⟩,?_⟩|refine ⟨by decide,?_⟩|apply τt|apply τf))
          refine ⟨_, pure_yes rfl rfl rfl rfl trivial, ?_⟩
          (repeat((conv=>whnf);first|apply ω0|apply ω1|apply ω2|refine τ3 rfl ?_|refine τ4 rfl ?_|refine ⟨rfl,?_⟩|apply τa|refine τb rfl ?_|refine ⟨⟨by kernel_rfl,by kernel_rfl⟩,?_⟩|refine ⟨by decide,?_⟩|apply τt|apply τf))
          refine ⟨_, pure_yes rfl rfl rfl rfl trivial, ?_⟩
          (repeat((conv=>whnf);first|apply ω0|apply ω1|apply ω2|refine τ3 rfl ?_|refine τ4 rfl ?_|refine ⟨rfl,?_⟩|apply τa|refine τb rfl ?_|refine ⟨⟨by kernel_rfl,by kernel_rfl⟩,?_⟩|refine ⟨by decide,?_⟩|apply τt|apply τf))
          refine ⟨_, pure_yes rfl rfl rfl rfl ⟨by first | omega | (dsimp only; omega), by first | omega | (dsimp only; omega)⟩, ?_⟩
          (repeat((conv=>whnf);first|apply ω0|apply ω1|apply ω2|refine τ3 rfl ?_|refine τ4 rfl ?_|refine ⟨rfl,?_⟩|apply τa|refine τb rfl ?_|refine ⟨⟨by kernel_rfl,by kernel_rfl⟩,?_⟩|refine ⟨by decide,?_⟩|apply τt|apply τf))
          refine splitV_eq (b := .rp (cndA (l.getD k cnd0)).cells) rfl ?_
          (repeat((conv=>whnf);first|apply ω0|apply ω1|apply ω2|refine τ3 rfl ?_|refine τ4 rfl ?_|refine ⟨rfl,?_⟩|apply τa|refine τb rfl ?_|refine ⟨⟨by kernel_rfl,by kernel_rfl⟩,?_⟩|refine ⟨by decide,?_⟩|apply τt|apply τf))
          refine ⟨_, pure_yes rfl rfl rfl rfl trivial, ?_⟩
          (repeat((conv=>whnf);first|apply ω0|apply ω1|apply ω2|refine τ3 rfl ?_|refine τ4 rfl ?_|refine ⟨rfl,?_⟩|apply τa|refine τb rfl ?_|refine ⟨⟨by kernel_rfl,by kernel_rfl⟩,?_⟩|refine ⟨by decide,?_⟩|apply τt|apply τf))
          refine splitV_eq (b := cndA (l.getD k cnd0)) rfl ?_
          (repeat((conv=>whnf);first|apply ω0|apply ω1|apply ω2|refine τ3 rfl ?_|refine τ4 rfl ?_|refine ⟨rfl,?_⟩|apply τa|refine τb rfl ?_|refine ⟨⟨by kernel_rfl,by kernel_rfl⟩,?_⟩|refine ⟨by decide,?_⟩|apply τt|apply τf))
          refine ⟨_, pure_yes rfl rfl rfl rfl (by first | trivial | exact ⟨rfl, Nat.le_of_ble_eq_true rfl⟩), ?_⟩
          (repeat((conv=>whnf);first|apply ω0|apply ω1|apply ω2|refine τ3 rfl ?_|refine τ4 rfl ?_|refine ⟨rfl,?_⟩|apply τa|refine τb rfl ?_|refine ⟨⟨by kernel_rfl,by kernel_rfl⟩,?_⟩|refine ⟨by decide,?_⟩|apply τt|apply τf))
          refine splitV_eq (b := cndA c) rfl ?_
          (repeat((conv=>whnf);first|apply ω0|apply ω1|apply ω2|refine τ3 rfl ?_|refine τ4 rfl ?_|refine ⟨rfl,?_⟩|apply τa|refine τb rfl ?_|refine ⟨⟨by kernel_rfl,by kernel_rfl⟩,?_⟩|refine ⟨by decide,?_⟩|apply τt|apply τf))
          refine ⟨.v (.bool false), pure_yesB rfl rfl rfl rfl ⟨by kernel_rfl, by kernel_rfl⟩ (cnd_eqb.trans (decide_eq_false he)), ?_⟩
          (repeat((conv=>whnf);first|apply ω0|apply ω1|apply ω2|refine τ3 rfl ?_|refine τ4 rfl ?_|refine ⟨rfl,?_⟩|apply τa|refine τb rfl ?_|refine ⟨⟨by kernel_rfl,by kernel_rfl⟩,?_⟩|refine ⟨by decide,?_⟩|apply τt|apply τf))
          exact ⟨nx1, trivial, ele_tell _ _ rfl rfl (List.Sublist.refl _) .slnil (BxLe.refl _) trivial ⟨AVle.refl _, AVle.refl _, AVle.refl _, AVle.refl _, trivial⟩⟩
      · have hd : decide ((k : Int) < (l.length : Int)) = false := decide_eq_false (by omega)
        rw [decide_eq_false (show ¬ (k < l.length ∧ l.getD k cnd0 = c) from fun h => hk h.1)]
        refine aw_mixN 12 _ (fun _ => false) (fun i => match i with | 3 => true | 10 => true | _ => false) [0, 1, 2, 3, 4, 5, 6, 7, 8, 9, 10, 11] (by kernel_rfl) (by kernel_rfl) (HB.refl _) ?_
        (repeat((conv=>whnf);first|apply ω0|apply ω1|apply ω2|refine τ3 rfl ?_|refine τ4 rfl ?_|refine ⟨rfl,?_⟩|apply τa|refine τb rfl ?_|refine ⟨⟨by kernel_rfl,by kernel_rfl⟩,?_⟩|refine ⟨by decide,?_⟩|apply τt|apply τf))
        refine ⟨.v (.bool false), pure_bool rfl rfl trivial hd, ?_⟩
        (repeat((conv=>whnf);first|apply ω0|apply ω1|apply ω2|refine τ3 rfl ?_|refine τ4 rfl ?_|refine ⟨rfl,?_⟩|apply τa|refine τb rfl ?_|refine ⟨⟨by kernel_rfl,by kernel_rfl⟩,?_⟩|refine ⟨by decide,?_⟩|apply τt|apply τf))
        refine ⟨_, pure_no rfl rfl rfl, ?_⟩
        (repeat((conv=>whnf);first|apply ω0|apply ω1|apply ω2|refine τ3 rfl ?_|refine τ4 rfl ?_|refine ⟨rfl,?_⟩|apply τa|refine τb rfl ?_|refine ⟨⟨by kernel_rfl,by kernel_rfl⟩,?_⟩|refine ⟨by decide,?_⟩|apply τt|apply τf))
        refine ⟨_, pure_no rfl rfl rfl, ?_⟩
        (repeat((conv=>whnf);first|apply ω0|apply ω1|apply ω2|refine τ3 rfl ?_|refine τ4 rfl ?_|refine ⟨rfl,?_⟩|apply τa|refine τb rfl ?_|refine ⟨⟨by kernel_rfl,by kernel_rfl⟩,?_⟩|refine ⟨by decide,?_⟩|apply τt|apply τf))
        refine ⟨_, pure_no rfl rfl rfl, ?_⟩
        (repeat((conv=>whnf);first|apply ω0|apply ω1|apply ω2|refine τ3 rfl ?_|refine τ4 rfl ?_|refine ⟨rfl,?_⟩|apply τa|refine τb rfl ?_|refine ⟨⟨by kernel_rfl,by kernel_rfl⟩,?_⟩|refine ⟨by decide,?_⟩|apply τt|apply τf))
        refine ⟨_, pure_no rfl rfl rfl, ?_⟩
        (repeat((conv=>whnf);first|apply ω0|apply ω1|apply ω2|refine τ3 rfl ?_|refine τ4 rfl ?_|refine ⟨rfl,?_⟩|apply τa|refine τb rfl ?_|refine ⟨⟨by kernel_rfl,by kernel_rfl⟩,?_⟩|refine ⟨by decide,?_⟩|apply τt|apply τf))
        refine ⟨_, pure_no rfl rfl rfl, ?_⟩
        (repeat((conv=>whnf);first|apply ω0|apply ω1|apply ω2|refine τ3 rfl ?_|refine τ4 rfl ?_|refine ⟨rfl,?_⟩|apply τa|refine τb rfl ?_|refine ⟨⟨by kernel_rfl,by kernel_rfl⟩,?_⟩|refine ⟨by decide,?_⟩|apply τt|apply τf))
        refine ⟨_, pure_no rfl rfl rfl, ?_⟩
        (repeat((conv=>whnf);first|apply ω0|apply ω1|apply ω2|refine τ3 rfl ?_|refine τ4 rfl ?_|refine ⟨rfl,?_⟩|apply τa|refine τb rfl ?_|refine ⟨⟨by kernel_rfl,by kernel_rfl⟩,?_⟩|refine ⟨by decide,?_⟩|apply τt|apply τf))
        exact ⟨nx1, trivial, ele_tell _ _ rfl rfl (List.Sublist.refl _) .slnil (BxLe.refl _) trivial ⟨AVle.refl _, AVle.refl _, AVle.refl _, AVle.refl _, trivial⟩⟩
    · rintro nx2 -
      by_cases hq : k < l.length ∧ l.getD k cnd0 = c
      · rw [decide_eq_true hq, if_pos hq]
        (repeat((conv=>whnf);first|apply ω0|apply ω1|apply ω2|refine τ3 rfl ?_|refine τ4 rfl ?_|refine ⟨rfl,?_⟩|apply τa|refine τb rfl ?_|refine ⟨⟨by kernel_rfl,by kernel_rfl⟩,?_⟩|refine ⟨by decide,?_⟩|apply τt|apply τf))
        exact ret_tells rfl (AVle.refl _)
      · rw [decide_eq_false hq, if_neg hq]
        (repeat((conv=>whnf);first|apply ω0|apply ω1|apply ω2|refine τ3 rfl ?_|refine τ4 rfl ?_|refine ⟨rfl,?_⟩|apply τa|refine τb rfl ?_|refine ⟨⟨by kernel_rfl,by kernel_rfl⟩,?_⟩|refine ⟨by decide,?_⟩|apply τt|apply τf))
        refine aw_mid (fun y : Nat × Nat => mk 47 [(0, cnds l), (5, int k), (6, .os 4 (k + 1) (cdF (l.take k ++ [c])) (some (0, y.1)))] ⟨[], [((0, y.1), (k + 1) * 4)], y.2, 1⟩) (fun _ => True) ?_ ?_
        · refine aw_mixN 9 _ (fun i => match i with | 4 => true | 7 => true | _ => false) (fun _ => false) [0, 1, 2, 3, 5, 6, 4, 7, 8] (by kernel_rfl) (by kernel_rfl) (HB.refl _) ?_
          (repeat((conv=>whnf);first|apply ω0|apply ω1|apply ω2|refine τ3 rfl ?_|refine τ4 rfl ?_|refine ⟨rfl,?_⟩|apply τa|refine τb rfl ?_|refine ⟨⟨by kernel_rfl,by kernel_rfl⟩,?_⟩|refine ⟨by decide,?_⟩|apply τt|apply τf))
          refine ⟨⟨by first | omega | (dsimp only; omega), by first | omega | (dsimp only; omega)⟩, ?_⟩
          (repeat((conv=>whnf);first|apply ω0|apply ω1|apply ω2|refine τ3 rfl ?_|refine τ4 rfl ?_|refine ⟨rfl,?_⟩|apply τa|refine τb rfl ?_|refine ⟨⟨by kernel_rfl,by kernel_rfl⟩,?_⟩|refine ⟨by decide,?_⟩|apply τt|apply τf))
          refine splitV_eq (b := cndA c) rfl ?_
          (repeat((conv=>whnf);first|apply ω0|apply ω1|apply ω2|refine τ3 rfl ?_|refine τ4 rfl ?_|refine ⟨rfl,?_⟩|apply τa|refine τb rfl ?_|refine ⟨⟨by kernel_rfl,by kernel_rfl⟩,?_⟩|refine ⟨by decide,?_⟩|apply τt|apply τf))
          refine ⟨_, eff_append (e := 70) (n := 0) (oi := none) (sz := 4) (m := k) (szx := 4) (f' := fun k => cndA (l.getD k cnd0)) (HB.refl _) rfl rfl rfl (.inl rfl) Tryz.underlying63 gr_c10 (.inl ⟨rfl, rfl⟩) (.inr gc_c10.symm) (fun i h => by cases h) (fun k _ => rfl) (fun _ => by rw [gb_c10]; omega) (fun _ => by omega), fun r h' hr => ?_⟩
          rcases hr with ⟨hm, rfl, rfl⟩ | ⟨hm, rfl, rfl⟩
          · obtain rfl : k = 0 := hm
            (repeat((conv=>whnf);first|apply ω0|apply ω1|apply ω2|refine τ3 rfl ?_|refine τ4 rfl ?_|refine ⟨rfl,?_⟩|apply τa|refine τb rfl ?_|refine ⟨⟨by kernel_rfl,by kernel_rfl⟩,?_⟩|refine ⟨by decide,?_⟩|apply τt|apply τf))
            refine ⟨_, eff_append (e := 70) (n := 0) (oi := none) (sz := 4) (f := _) (m := 1) (szx := 4) (HB.refl _) rfl rfl rfl (.inr ⟨_, rfl⟩) Tryz.underlying63 gr_c10 (.inr gc_c10.symm) (.inr gc_c10.symm) (fun i h => by cases h) (oneRow_one rfl) (fun _ => by rw [gb_c10]; omega) (fun _ => by omega), fun r h' hr => ?_⟩
            rcases hr with ⟨hr, -⟩ | ⟨-, rfl, rfl⟩
            · exact absurd hr (by decide)
            (repeat((conv=>whnf);first|apply ω0|apply ω1|apply ω2|refine τ3 rfl ?_|refine τ4 rfl ?_|refine ⟨rfl,?_⟩|apply τa|refine τb rfl ?_|refine ⟨⟨by kernel_rfl,by kernel_rfl⟩,?_⟩|refine ⟨by decide,?_⟩|apply τt|apply τf))
            exact ⟨(nx2, nx2 + 1), trivial, ele_tell (pm := [((0, nx2), (0 + 1) * 4)]) (bx := []) _ _ rfl rfl (.cons _ .slnil) (List.Sublist.refl _) trivial ⟨rfl, show (0 + 1) * Tryz.prog.cellsOf 70 = (0 + 1) * 4 by rw [gc_c10], trivial⟩ ⟨AVle.refl _, AVle.refl _, put_row0 rfl rfl, trivial⟩⟩
          · (repeat((conv=>whnf);first|apply ω0|apply ω1|apply ω2|refine τ3 rfl ?_|refine τ4 rfl ?_|refine ⟨rfl,?_⟩|apply τa|refine τb rfl ?_|refine ⟨⟨by kernel_rfl,by kernel_rfl⟩,?_⟩|refine ⟨by decide,?_⟩|apply τt|apply τf))
            refine ⟨_, eff_append (e := 70) (n := 0 + k) (oi := some (1, nx2)) (sz := 4) (f := _) (m := 1) (szx := 4) (HB.refl _) rfl rfl rfl (.inr ⟨_, rfl⟩) Tryz.underlying63 gr_c10 (.inr gc_c10.symm) (.inr gc_c10.symm) (fun i h => by cases h; rw [gc_c10]; rfl) (oneRow_one rfl) (fun _ => by rw [gb_c10]; omega) (fun _ => by omega), fun r h' hr => ?_⟩
            rcases hr with ⟨hr, -⟩ | ⟨-, rfl, rfl⟩
            · exact absurd hr (by decide)
            (repeat((conv=>whnf);first|apply ω0|apply ω1|apply ω2|refine τ3 rfl ?_|refine τ4 rfl ?_|refine ⟨rfl,?_⟩|apply τa|refine τb rfl ?_|refine ⟨⟨by kernel_rfl,by kernel_rfl⟩,?_⟩|refine ⟨by decide,?_⟩|apply τt|apply τf))
            exact ⟨(nx2 + 1, nx2 + 2), trivial, ele_tell (pm := [((0, nx2 + 1), (k + 1) * 4)]) (bx := []) _ _ rfl rfl (.cons _ .slnil) (List.Sublist.refl _) trivial ⟨rfl, show (0 + k + 1) * Tryz.prog.cellsOf 70 = (k + 1) * 4 by rw [gc_c10, Nat.zero_add], trivial⟩ ⟨AVle.refl _, AVle.refl _, put_row1 rfl h1 (fun _ _ => rfl) rfl rfl, trivial⟩⟩
        · rintro ⟨s1, nx3⟩ -
          (repeat((conv=>whnf);first|apply ω0|apply ω2|refine τ3 rfl ?_|refine τ4 rfl ?_|refine ⟨rfl,?_⟩|apply τa|refine τb rfl ?_|refine ⟨⟨by kernel_rfl,by kernel_rfl⟩,?_⟩|refine ⟨by decide,?_⟩|apply τt|apply τf))
          refine aw_regionY (fun i => match i with | 1 => true | _ => false) 6 ?_
          (repeat((conv=>whnf);first|apply ω0|apply ω1|apply ω2|refine τ3 rfl ?_|refine τ4 rfl ?_|refine ⟨rfl,?_⟩|apply τa|refine τb rfl ?_|refine ⟨⟨by kernel_rfl,by kernel_rfl⟩,?_⟩|refine ⟨by decide,?_⟩|apply τt|apply τf))
          refine ⟨⟨by first | omega | (dsimp only; omega), by first | omega | (dsimp only; omega)⟩, ?_⟩
          (repeat((conv=>whnf);first|apply ω0|apply ω1|apply ω2|refine τ3 rfl ?_|refine τ4 rfl ?_|refine ⟨rfl,?_⟩|apply τa|refine τb rfl ?_|refine ⟨⟨by kernel_rfl,by kernel_rfl⟩,?_⟩|refine ⟨by decide,?_⟩|apply τt|apply τf))
          refine splitO_eq (b := .sl 4 (l.length - k) (fun j => cndA (l.getD (k + j) cnd0))) rfl ?_
          (repeat((conv=>whnf);first|apply ω0|apply ω1|apply ω2|refine τ3 rfl ?_|refine τ4 rfl ?_|refine ⟨rfl,?_⟩|apply τa|refine τb rfl ?_|refine ⟨⟨by kernel_rfl,by kernel_rfl⟩,?_⟩|refine ⟨by decide,?_⟩|apply τt|apply τf))
          refine AOp.any (aop_append (e := 70) (n := k + 1) (oi := some (0, s1)) (sz := 4) (f := cdF (l.take k ++ [c])) (m := l.length - k) (szx := 4) (f' := fun j => cndA (l.getD (k + j) cnd0)) rfl rfl (.inl rfl) Tryz.underlying63 gr_c10 (.inr gc_c10.symm) (.inr gc_c10.symm) (fun i h => by cases h; rw [gc_c10]; rfl) (fun k _ => rfl) (fun _ => by rw [gb_c10]; omega) (fun _ => by omega) (fun hm => ?_) (fun hm => ?_))
          · (repeat((conv=>whnf);first|apply ω0|apply ω1|apply ω2|refine τ3 rfl ?_|refine τ4 rfl ?_|refine ⟨rfl,?_⟩|apply τa|refine τb rfl ?_|refine ⟨⟨by kernel_rfl,by kernel_rfl⟩,?_⟩|refine ⟨by decide,?_⟩|apply τt|apply τf))
            exact ret_tells rfl (put_row3 hm h1)
          · (repeat((conv=>whnf);first|apply ω0|apply ω1|apply ω2|refine τ3 rfl ?_|refine τ4 rfl ?_|refine ⟨rfl,?_⟩|apply τa|refine τb rfl ?_|refine ⟨⟨by kernel_rfl,by kernel_rfl⟩,?_⟩|refine ⟨by decide,?_⟩|apply τt|apply τf))
            exact ret_tells rfl (put_row2 h1 (fun _ _ => rfl))
end Go.Proofs.W

namespace Go.Proofs.W
open Go.Vl
set_option maxRecDepth 100000

def rrB (nx : Nat) (s : ByteArray) (k n : Int) (cs L : List Cnd) : List (Vl.Id × Own) := [((2, nx + 2), .c [strA s, int k, int n, cnds L]), ((1, nx + 1), .c [strA ⟨#[]⟩, int 0, int 0, .os 0 0 (fun _ => .any) none]), ((0, nx), .c [strA s, int k, int n, cnds cs])]
theorem rr_0 (nx : Nat) (s : ByteArray) (k n : Int) (cs : List Cnd) : BxLe [((2, nx + 2), .c [strA s, int k, int n, .os 0 0 (fun _ => .any) none]), ((1, nx + 1), .c [strA ⟨#[]⟩, int 0, int 0, .os 0 0 (fun _ => .any) none]), ((0, nx), .c [strA s, int k, int n, cnds cs])] (rrB nx s k n cs []) :=
  ⟨rfl, ⟨AVle.refl _, AVle.refl _, AVle.refl _, AVle.os_sl0, trivial⟩, BxLe.refl _⟩
set_option maxHeartbeats 8000000 in
theorem rref16_spec (r : Rul) (hok : ∀ c ∈ r.conds, c.ok) (hrt : ∀ c ∈ r.conds, rightC c = true) (hl : r.conds.length ≤ 1000000) : Tells Tryz.prog 26 [rulA r] (rulOpt (normR r)) := by
  obtain ⟨s, ⟨k, n⟩, cs⟩ := r
  dsimp only at hok hl hrt
  refine tells_of_aw Tryz.func26 rfl rfl fun nx => ?_
  (repeat((conv=>whnf);first|apply ω0|apply ω1|apply ω2|refine τ3 rfl ?_|refine τ4 rfl ?_|refine ⟨rfl,?_⟩|apply τa|refine τb rfl ?_|refine ⟨⟨by kernel_rfl,by kernel_rfl⟩,?_⟩|refine ⟨by decide,?_⟩|apply τt|apply τf))
  refine aw_loop (fun y : Nat × List Cnd × Nat => mk 40 [(1, .bp (0, nx) 0), (2, .bp (1, nx + 1) 0), (4, .bp (2, nx + 2) 0), (5, int y.1)] ⟨rrB nx s k n cs y.2.1, [], y.2.2, 3⟩) (fun y => y.1 ≤ cs.length ∧ y.2.1 = (asksOf (cs.take y.1)).foldl putC [] ∧ ∀ j, j < y.1 → neverC (cs.getD j cnd0) = false) (fun y => cs.length - y.1) ?_ ?_
  · exact ⟨(0, [], nx + 3), ⟨Nat.zero_le _, rfl, fun j h => absurd h (Nat.not_lt_zero _)⟩, ele_tell (pm := []) _ [] rfl rfl (List.Sublist.refl _) (List.Sublist.refl _) (rr_0 nx s k n cs) trivial ⟨AVle.refl _, AVle.refl _, AVle.refl _, AVle.refl _, trivial⟩⟩
  · rintro ⟨i, L, nx1⟩ ⟨h1, hL, h3⟩
    dsimp only at h1 hL h3
    have hLl : L.length ≤ cs.length := by
      rw [hL]
      refine Nat.le_trans (fold_put_len _) (Nat.le_trans (asks_len _) ?_)
      rw [List.length_take]; omega
    (repeat((conv=>whnf);first|apply ω0|apply ω1|apply ω2|refine τ3 rfl ?_|refine τ4 rfl ?_|refine ⟨rfl,?_⟩|apply τa|refine τb rfl ?_|refine ⟨⟨by kernel_rfl,by kernel_rfl⟩,?_⟩|refine ⟨by decide,?_⟩|apply τt|apply τf))
    intro c g; cases c
    · have g := not_of g
      try dsimp only at g
      have hi : i = cs.length := by omega
      subst hi
      rw [List.take_length] at hL
      have hR : normR ⟨s, (k, n), cs⟩ = some ⟨s, (k, n), L⟩ := by
        unfold normR
        dsimp only
        rw [any_take h3, hL, fold_put]; rfl
      rw [hR]
      (repeat((conv=>whnf);first|apply ω0|apply ω1|apply ω2|refine τ3 rfl ?_|refine τ4 rfl ?_|refine ⟨rfl,?_⟩|apply τa|refine τb rfl ?_|refine ⟨⟨by kernel_rfl,by kernel_rfl⟩,?_⟩|refine ⟨by decide,?_⟩|apply τt|apply τf))
      exact ret_tells_all rfl ⟨rfl, trivial⟩ (AVle.tups (cs := [_, _]) ⟨AVle.refl _, AVle.refl _, trivial⟩)
    · have g := yes_of g
      try dsimp only at g
      have hi : i < cs.length := by omega
      have hcs := ref16_spec (cs.getD i cnd0) (getD_okC hok hi) (hrt _ (by simp [List.getD, hi]))
      have ha := asks_next hi
      have hnv : neverC (cs.getD i cnd0) = decide ((normC (cs.getD i cnd0)).2 = 2) := rfl
      have hak0 := askC_0 (c := cs.getD i cnd0)
      have hak1 := askC_1 (c := cs.getD i cnd0)
      generalize normC (cs.getD i cnd0) = N at hcs hnv hak0 hak1
      obtain ⟨⟨qa, qo, qm, qv⟩, st⟩ := N
      dsimp only at hnv hak0 hak1
      have hput := put_spec16 L ⟨qa, qo, qm, qv⟩ (by omega)
      (repeat((conv=>whnf);first|apply ω0|apply ω1|apply ω2|refine τ3 rfl ?_|refine τ4 rfl ?_|refine ⟨rfl,?_⟩|apply τa|refine τb rfl ?_|refine ⟨⟨by kernel_rfl,by kernel_rfl⟩,?_⟩|refine ⟨by decide,?_⟩|apply τt|apply τf))
      refine ⟨⟨by first | omega | (dsimp only; omega), by first | omega | (dsimp only; omega)⟩, ?_⟩
      (repeat((conv=>whnf);first|apply ω0|apply ω1|apply ω2|refine τ3 rfl ?_|refine τ4 rfl ?_|refine ⟨rfl,?_⟩|apply τa|refine τb rfl ?_|refine ⟨⟨by kernel_rfl,by kernel_rfl⟩,?_⟩|refine ⟨by decide,?_⟩|apply τt|apply τf))
      refine aop_tells rfl rfl hcs ⟨AVle.refl _, trivial⟩ fun nx2 => ?_
      (repeat((conv=>whnf);first|apply ω0|apply ω1|apply ω2|refine τ3 rfl ?_|refine τ4 rfl ?_|refine ⟨rfl,?_⟩|apply τa|refine τb rfl ?_|refine ⟨⟨by kernel_rfl,by kernel_rfl⟩,?_⟩|refine ⟨by decide,?_⟩|apply τt|apply τf))
      intro c g2; cases c
      · have g2 : st ≠ 2 := fun h => by subst h; cases g2
        rw [decide_eq_false g2] at hnv
        have h3' : ∀ j, j < i + 1 → neverC (cs.getD j cnd0) = false := fun j hj => by
          rcases Nat.lt_or_ge j i with q | q
          · exact h3 j q
          · rw [show j = i by omega]; exact hnv
        (repeat((conv=>whnf);first|apply ω0|apply ω1|apply ω2|refine τ3 rfl ?_|refine τ4 rfl ?_|refine ⟨rfl,?_⟩|apply τa|refine τb rfl ?_|refine ⟨⟨by kernel_rfl,by kernel_rfl⟩,?_⟩|refine ⟨by decide,?_⟩|apply τt|apply τf))
        intro c g3; cases c
        · have g3 : st ≠ 0 := fun h => by subst h; cases g3
          rw [hak1 g3] at ha
          (repeat((conv=>whnf);first|apply ω0|apply ω1|apply ω2|refine τ3 rfl ?_|refine τ4 rfl ?_|refine ⟨rfl,?_⟩|apply τa|refine τb rfl ?_|refine ⟨⟨by kernel_rfl,by kernel_rfl⟩,?_⟩|refine ⟨by decide,?_⟩|apply τt|apply τf))
          exact back (i + 1, L, _) ⟨hi, by dsimp only; rw [ha, hL]; simp, h3'⟩ (by dsimp only; omega) (ele_tell (bx := rrB nx s k n cs L) _ [] rfl rfl (.cons _ (List.Sublist.refl _)) (List.Sublist.refl _) (BxLe.refl _) trivial ⟨AVle.refl _, AVle.refl _, AVle.refl _, le_int (wrap_succ (by first | omega | (dsimp only; omega))), trivial⟩)
        · have g3 : st = 0 := by
            by_cases h : st = 0
            · exact h
            · exfalso
              have : ((st : Int) == 0) = false := beq_eq_false_iff_ne.2 (by omega)
              exact absurd (g3.trans this) (by decide)
          rw [hak0 g3] at ha
          have hL2 : putC L ⟨qa, qo, qm, qv⟩ = (asksOf (cs.take (i + 1))).foldl putC [] := by rw [ha, List.foldl_append, ← hL]; rfl
          (repeat((conv=>whnf);first|apply ω0|apply ω1|apply ω2|refine τ3 rfl ?_|refine τ4 rfl ?_|refine ⟨rfl,?_⟩|apply τa|refine τb rfl ?_|refine ⟨⟨by kernel_rfl,by kernel_rfl⟩,?_⟩|refine ⟨by decide,?_⟩|apply τt|apply τf))
          refine aop_tells rfl rfl hput ⟨AVle.refl _, AVle.refl _, trivial⟩ fun nx3 => ?_
          (repeat((conv=>whnf);first|apply ω0|apply ω1|apply ω2|refine τ3 rfl ?_|refine τ4 rfl ?_|refine ⟨rfl,?_⟩|apply τa|refine τb rfl ?_|refine ⟨⟨by kernel_rfl,by kernel_rfl⟩,?_⟩|refine ⟨by decide,?_⟩|apply τt|apply τf))
          exact back (i + 1, putC L ⟨qa, qo, qm, qv⟩, _) ⟨hi, hL2, h3'⟩ (by dsimp only; omega) (ele_tell (bx := rrB nx s k n cs (putC L ⟨qa, qo, qm, qv⟩)) _ [] rfl rfl (.cons _ (List.Sublist.refl _)) (List.Sublist.refl _) (BxLe.refl _) trivial ⟨AVle.refl _, AVle.refl _, AVle.refl _, le_int (wrap_succ (by first | omega | (dsimp only; omega))), trivial⟩)
      · have g2 : st = 2 := by
          by_cases h : st = 2
          · exact h
          · exfalso
            have : ((st : Int) == 2) = false := beq_eq_false_iff_ne.2 (by omega)
            exact absurd (g2.trans this) (by decide)
        have hR : normR ⟨s, (k, n), cs⟩ = none := by
          unfold normR
          dsimp only
          rw [any_at hi (by rw [hnv]; exact decide_eq_true g2)]; rfl
        rw [hR]
        (repeat((conv=>whnf);first|apply ω0|apply ω1|apply ω2|refine τ3 rfl ?_|refine τ4 rfl ?_|refine ⟨rfl,?_⟩|apply τa|refine τb rfl ?_|refine ⟨⟨by kernel_rfl,by kernel_rfl⟩,?_⟩|refine ⟨by decide,?_⟩|apply τt|apply τf))
        exact ret_tells_all rfl ⟨rfl, trivial⟩ (AVle.tups (cs := [_, _]) ⟨AVle.ags (cs := [_, _, _, _]) ⟨AVle.refl _, AVle.refl _, AVle.refl _, AVle.os_sl0, trivial⟩, AVle.refl _, trivial⟩)
end Go.Proofs.W

namespace Go.Proofs.W
open Go.Vl
set_option maxRecDepth 100000

def qC (p : Pol) (R : List Rul) (oi : Option Nat) : List AV := [int p.dflt.1, int p.dflt.2, boolA p.x32, .os 4 R.length (rulF R) (nmd oi)]
def nmq : Option Nat → Option Vl.Id
  | none => none
  | some s => some (1, s)
def rpB (nx : Nat) (p : Pol) (D : List Bool) (R : List Rul) (oi : Option Nat) : List (Vl.Id × Own) := [((3, nx + 3), .c (D.map boolA)), ((2, nx + 2), .c (qC p R oi)), ((1, nx + 1), .c zpolL), ((0, nx), .c (polC p))]
def atI : Option Nat → Int
  | none => -1
  | some a => a
def AtI (p : Pol) (D : List Bool) (i : Nat) : Option Nat → Prop
  | none => ∀ j, j < i → D.getD j false = true
  | some a => a < i ∧ D.getD a false = false ∧ ∀ j, j < i → D.getD j false = false → Go.Sort.ltStr (nmL (p.rules.getD j rul0)) (nmL (p.rules.getD a rul0)) = false
theorem less_nm (r t : Rul) : Op.bytesLess r.name.toList t.name.toList = Go.Sort.ltStr (nmL r) (nmL t) := by
  rw [Go.Proofs.bytesLess_eq, Lib.toList_data, Lib.toList_data]; rfl
theorem at_skip {p : Pol} {D : List Bool} {i : Nat} {a : Option Nat} (h : AtI p D i a) (hd : D.getD i false = true) : AtI p D (i + 1) a := by
  cases a with
  | none => exact fun j hj => by rcases Nat.lt_or_ge j i with q | q; exact h j q; rw [show j = i by omega]; exact hd
  | some a => exact ⟨Nat.lt_succ_of_lt h.1, h.2.1, fun j hj hn => by
      rcases Nat.lt_or_ge j i with q | q
      · exact h.2.2 j q hn
      · rw [show j = i by omega, hd] at hn; cases hn⟩
theorem at_first {p : Pol} {D : List Bool} {i : Nat} (h : AtI p D i none) (hd : D.getD i false = false) : AtI p D (i + 1) (some i) :=
  ⟨Nat.lt_succ_self _, hd, fun j hj hn => by
    rcases Nat.lt_or_ge j i with q | q
    · rw [h j q] at hn; cases hn
    · rw [show j = i by omega]; exact Go.Sort.swo_ltStr.irrefl _⟩
theorem at_less {p : Pol} {D : List Bool} {i a : Nat} (h : AtI p D i (some a)) (hd : D.getD i false = false) (hl : Go.Sort.ltStr (nmL (p.rules.getD i rul0)) (nmL (p.rules.getD a rul0)) = true) : AtI p D (i + 1) (some i) :=
  ⟨Nat.lt_succ_self _, hd, fun j hj hn => by
    rcases Nat.lt_or_ge j i with q | q
    · cases hc : Go.Sort.ltStr (nmL (p.rules.getD j rul0)) (nmL (p.rules.getD i rul0)) with
      | false => rfl
      | true => rw [← h.2.2 j q hn]; exact (Go.Sort.swo_ltStr.trans _ _ _ hc hl).symm
    · rw [show j = i by omega]; exact Go.Sort.swo_ltStr.irrefl _⟩
theorem at_more {p : Pol} {D : List Bool} {i a : Nat} (h : AtI p D i (some a)) (hl : Go.Sort.ltStr (nmL (p.rules.getD i rul0)) (nmL (p.rules.getD a rul0)) = false) : AtI p D (i + 1) (some a) :=
  ⟨Nat.lt_succ_of_lt h.1, h.2.1, fun j hj hn => by
    rcases Nat.lt_or_ge j i with q | q
    · exact h.2.2 j q hn
    · rw [show j = i by omega]; exact hl⟩
theorem done_keep {D D' : List Bool} {n i : Nat} {key : Nat → Bool} (h : ∀ j, j < n → D'.getD j false = (D.getD j false || (decide (j < i) && key j))) (hk : key i = false) : ∀ j, j < n → D'.getD j false = (D.getD j false || (decide (j < i + 1) && key j)) := fun j hj => by
  rw [h j hj]
  by_cases e : j = i
  · subst e; rw [hk, Bool.and_false, Bool.and_false]
  · rw [show decide (j < i + 1) = decide (j < i) from by rw [Bool.eq_iff_iff, decide_eq_true_iff, decide_eq_true_iff]; omega]
theorem done_set {D D' : List Bool} {n i : Nat} {key : Nat → Bool} (h : ∀ j, j < n → D'.getD j false = (D.getD j false || (decide (j < i) && key j))) (hk : key i = true) (hl : D'.length = n) (hi : i < n) : ∀ j, j < n → (D'.set i true).getD j false = (D.getD j false || (decide (j < i + 1) && key j)) := fun j hj => by
  by_cases e : j = i
  · subst e; rw [hk, decide_eq_true (Nat.lt_succ_self _)]; simp [List.getD, hl, hi]
  · rw [show decide (j < i + 1) = decide (j < i) from by rw [Bool.eq_iff_iff, decide_eq_true_iff, decide_eq_true_iff]; omega, ← h j hj]
    simp [List.getD, List.getElem?_set, Ne.symm e]
def nor (r : Rul) : Rul := (normR r).getD rul0
def isN (r : Rul) (L : List Rul) (k : Nat) : Bool := (normR r).isSome && !hidden (L.take k) (nor r)
theorem rulOpt_nor (r : Rul) : rulOpt (normR r) = .tup [rulA (nor r), boolA (normR r).isSome] := by
  unfold nor
  cases normR r <;> rfl
theorem hid_next {L : List Rul} {n : Rul} {k : Nat} (h : k < L.length) : hidden (L.take (k + 1)) n = (hidden (L.take k) n || hidR n (L.getD k rul0)) := by
  unfold hidden; rw [take_getD rul0 h, List.any_append]; simp
theorem isN_next {r : Rul} {L : List Rul} {k : Nat} (h : k < L.length) : isN r L (k + 1) = (isN r L k && !hidR (nor r) (L.getD k rul0)) := by
  unfold isN; rw [hid_next h]
  cases (normR r).isSome <;> cases hidden (L.take k) (nor r) <;> cases hidR (nor r) (L.getD k rul0) <;> rfl
theorem isN_add {r : Rul} {L : List Rul} : addN L r = if isN r L L.length then L ++ [nor r] else L := by
  unfold addN isN nor
  rw [List.take_length]
  cases normR r with
  | none => rfl
  | some n =>
    show (if hidden L n = true then L else L ++ [n]) = if (true && !hidden L n) = true then L ++ [n] else L
    cases hidden L n <;> rfl
theorem gr_r14 : growOk Tryz.prog 65 = true := by kernel_rfl
theorem gc_r14 : Tryz.prog.cellsOf 65 = 4 := by kernel_rfl
theorem gb_r14 : Tryz.prog.bytesOf 65 = 56 := by kernel_rfl
theorem gOf_conds {s : ByteArray} {rs : List Rul} {k : Nat} (h : ∀ r ∈ rs, r.conds.length ≤ k) {n : Rul} (hn : n ∈ gOf s rs) : n.conds.length ≤ k := by
  obtain ⟨_, r, hr, h2⟩ := gOf_mem hn
  exact Nat.le_trans (normR_conds h2).1 (h r hr)
theorem rightP_conds2 {p : Pol} (h : rightP p = true) : ∀ r ∈ p.rules, ∀ c ∈ r.conds, rightC c = true := by
  unfold rightP at h
  simp only [Bool.and_eq_true, decide_eq_true_eq, Bool.not_eq_true', List.any_eq_false] at h
  intro r hr c hc
  have h1 : rightR r = true := by have := h.2.2 r hr; simpa using this
  unfold rightR at h1
  simp only [Bool.and_eq_true, decide_eq_true_eq, Bool.not_eq_true', List.any_eq_false] at h1
  have := h1.2.2.2 c hc
  simpa using this
theorem nor_len {r : Rul} {k : Nat} (h : r.conds.length ≤ k) : (nor r).conds.length ≤ k := by
  unfold nor
  cases hN : normR r with
  | none => exact Nat.zero_le _
  | some n => exact Nat.le_trans (normR_conds hN).1 h
theorem b_bool : Tryz.prog.bytesOf 4 = 1 := by kernel_rfl
theorem c_bool : Tryz.prog.cellsOf 4 = 1 := by kernel_rfl
set_option maxHeartbeats 8000000 in
theorem refpolicy16_spec (p : Pol) (hp : p.ok) (hr : rightP p = true) : Tells Tryz.prog 27 [polA p] (polA (normP p)) := by
  obtain ⟨hl, hc6⟩ := rightP_conds hr
  refine tells_of_aw Tryz.func27 rfl rfl fun nx => ?_
  (repeat((conv=>whnf);first|apply ω0|apply ω1|apply ω2|refine τ3 rfl ?_|refine τ4 rfl ?_|refine ⟨rfl,?_⟩|apply τa|refine τb rfl ?_|refine ⟨⟨by kernel_rfl,by kernel_rfl⟩,?_⟩|refine ⟨by decide,?_⟩|apply τt|apply τf))
  intro c hc
  subst hc
  (repeat((conv=>whnf);first|apply ω0|apply ω1|apply ω2|refine τ3 rfl ?_|refine τ4 rfl ?_|refine ⟨rfl,?_⟩|apply τa|refine τb rfl ?_|refine ⟨⟨by kernel_rfl,by kernel_rfl⟩,?_⟩|refine ⟨by decide,?_⟩|apply τt|apply τf))
  (conv => whnf)
  refine ⟨by omega, by omega, by rw [b_bool]; omega, by omega, ?_⟩
  (repeat((conv=>whnf);first|apply ω0|apply ω1|apply ω2|refine τ3 rfl ?_|refine τ4 rfl ?_|refine ⟨rfl,?_⟩|apply τa|refine τb rfl ?_|refine ⟨⟨by kernel_rfl,by kernel_rfl⟩,?_⟩|refine ⟨by decide,?_⟩|apply τt|apply τf))
  refine aw_loop (fun y : List (List UInt8) × List Bool × List Rul × Option Nat × Nat => mk 147 [(1, .bp (0, nx) 0), (2, .bp (1, nx + 1) 0), (3, .bp (2, nx + 2) 0), (4, .hs (3, nx + 3) 0 p.rules.length p.rules.length)] ⟨rpB nx p y.2.1 y.2.2.1 y.2.2.2.1, pmOf (nmd y.2.2.2.1) (y.2.2.1.length * 4), y.2.2.2.2, 4⟩)
    (fun y => RefI p y.1 y.2.1 ∧ y.2.2.1 = outR p.dflt (groupsOf p.rules) y.1 ∧ (y.2.2.2.1 = none → y.2.2.1 = []) ∧ y.1.length + undone y.1 p.rules ≤ p.rules.length) (fun y => undone y.1 p.rules) ?_ ?_
  · refine ⟨([], List.replicate p.rules.length false, [], none, nx + 4), ⟨ref_start p, rfl, fun _ => rfl, ?_⟩, ?_⟩
    · dsimp only; unfold undone; rw [List.length_nil, Nat.zero_add]; exact List.length_filter_le _ _
    · refine ele_tell (pm := []) (bx := rpB nx p (List.replicate p.rules.length false) [] none) _ [] rfl rfl (List.Sublist.refl _) (List.Sublist.refl _) ⟨rfl, own_eq ?_, rfl, ⟨AVle.refl _, AVle.refl _, AVle.refl _, AVle.os_nil, trivial⟩, BxLe.refl _⟩ trivial ⟨AVle.refl _, AVle.refl _, AVle.refl _, AVle.refl _, trivial⟩
      rw [List.map_replicate]; rfl
  · rintro ⟨N, D, R, oi, nx1⟩ ⟨h1, h2, h3, h4⟩
    dsimp only at h1 h2 h3 h4
    have hRl := out_lenN h1
    rw [← h2] at hRl
    have hDl := h1.len
    (repeat((conv=>whnf);first|apply ω0|apply ω1|apply ω2|refine τ3 rfl ?_|refine τ4 rfl ?_|refine ⟨rfl,?_⟩|apply τa|refine τb rfl ?_|refine ⟨⟨by kernel_rfl,by kernel_rfl⟩,?_⟩|refine ⟨by decide,?_⟩|apply τt|apply τf))
    refine aw_midB (fun y : Option Nat × Nat => mk 147 [(1, .bp (0, nx) 0), (2, .bp (1, nx + 1) 0), (3, .bp (2, nx + 2) 0), (4, .hs (3, nx + 3) 0 p.rules.length p.rules.length), (5, int (atI y.1))] ⟨rpB nx p D R oi, pmOf (nmd oi) (R.length * 4), y.2, 4⟩) (fun y => AtI p D p.rules.length y.1) ?_ ?_
    · refine aw_loop (fun y : Nat × Option Nat × Nat => mk 147 [(1, .bp (0, nx) 0), (2, .bp (1, nx + 1) 0), (3, .bp (2, nx + 2) 0), (4, .hs (3, nx + 3) 0 p.rules.length p.rules.length), (5, int (atI y.2.1)), (6, int y.1)] ⟨rpB nx p D R oi, pmOf (nmd oi) (R.length * 4), y.2.2, 4⟩) (fun y => y.1 ≤ p.rules.length ∧ AtI p D y.1 y.2.1) (fun y => p.rules.length - y.1) ?_ ?_
      · exact ⟨(0, none, nx1), ⟨Nat.zero_le _, fun j h => absurd h (Nat.not_lt_zero _)⟩, ele_tell _ _ rfl rfl (List.Sublist.refl _) (List.Sublist.refl _) (BxLe.refl _) (PmEq.refl _) ⟨AVle.refl _, AVle.refl _, AVle.refl _, AVle.refl _, AVle.refl _, AVle.refl _, trivial⟩⟩
      · rintro ⟨i, a, nx2⟩ ⟨k1, k2⟩
        dsimp only at k1 k2
        (repeat((conv=>whnf);first|apply ω0|apply ω1|apply ω2|refine τ3 rfl ?_|refine τ4 rfl ?_|refine ⟨rfl,?_⟩|apply τa|refine τb rfl ?_|refine ⟨⟨by kernel_rfl,by kernel_rfl⟩,?_⟩|refine ⟨by decide,?_⟩|apply τt|apply τf))
        intro c g; cases c
        · have g := not_of g
          try dsimp only at g
          have hi : i = p.rules.length := by omega
          subst hi
          (repeat((conv=>whnf);first|apply ω0|apply ω1|apply ω2|refine τ3 rfl ?_|refine τ4 rfl ?_|refine ⟨rfl,?_⟩|apply τa|refine τb rfl ?_|refine ⟨⟨by kernel_rfl,by kernel_rfl⟩,?_⟩|refine ⟨by decide,?_⟩|apply τt|apply τf))
          exact ⟨(a, nx2), k2, ele_tell _ _ rfl rfl (List.Sublist.refl _) (List.Sublist.refl _) (BxLe.refl _) (PmEq.refl _) ⟨AVle.refl _, AVle.refl _, AVle.refl _, AVle.refl _, AVle.refl _, trivial⟩⟩
        · have g := yes_of g
          try dsimp only at g
          have hi : i < p.rules.length := by omega
          have hit : (0 + (Int.toNat (i : Int)) * Tryz.prog.cellsOf 4) = i := by rw [c_bool]; omega
          (repeat((conv=>whnf);first|apply ω0|apply ω1|apply ω2|refine τ3 rfl ?_|refine τ4 rfl ?_|refine ⟨rfl,?_⟩|apply τa|refine τb rfl ?_|refine ⟨⟨by kernel_rfl,by kernel_rfl⟩,?_⟩|refine ⟨by decide,?_⟩|apply τt|apply τf))
          (refine aw_draw 24 ?_ ?_ ?_ ?_; (· kernel_rfl); (· kernel_rfl); (· kernel_rfl))
          (repeat((conv=>whnf);first|apply ω0|apply ω1|apply ω2|refine τ3 rfl ?_|refine τ4 rfl ?_|refine ⟨rfl,?_⟩|apply τa|refine τb rfl ?_|refine ⟨⟨by kernel_rfl,by kernel_rfl⟩,?_⟩|refine ⟨by decide,?_⟩|apply τt|apply τf))
          refine ⟨⟨by first | omega | (dsimp only; omega), by first | omega | (dsimp only; omega)⟩, splitO_eq (b := .bp (3, nx + 3) i) (congrArg (AV.bp (3, nx + 3)) hit) ?_⟩
          (conv => whnf)
          cases hD : D.getD i false with
          | true =>
            refine ⟨⟨rfl, by rw [List.length_map]; omega⟩, splitO_eq (b := .v (.bool true)) ((getD_map (by omega)).trans (by rw [hD]; rfl)) ?_⟩
            (repeat((conv=>whnf);first|apply ω0|apply ω1|apply ω2|refine τ3 rfl ?_|refine τ4 rfl ?_|refine ⟨rfl,?_⟩|apply τa|refine τb rfl ?_|refine ⟨⟨by kernel_rfl,by kernel_rfl⟩,?_⟩|refine ⟨by decide,?_⟩|apply τt|apply τf))
            exact back (i + 1, a, nx2) ⟨hi, at_skip k2 hD⟩ (by dsimp only; omega) (ele_tell _ _ rfl rfl (List.Sublist.refl _) (List.Sublist.refl _) (BxLe.refl _) (PmEq.refl _) ⟨AVle.refl _, AVle.refl _, AVle.refl _, AVle.refl _, AVle.refl _, le_int (wrap_succ (by first | omega | (dsimp only; omega))), trivial⟩)
          | false =>
            refine ⟨⟨rfl, by rw [List.length_map]; omega⟩, splitO_eq (b := .v (.bool false)) ((getD_map (by omega)).trans (by rw [hD]; rfl)) ?_⟩
            cases a with
            | none =>
              (repeat((conv=>whnf);first|apply ω0|apply ω1|apply ω2|refine τ3 rfl ?_|refine τ4 rfl ?_|refine ⟨rfl,?_⟩|apply τa|refine τb rfl ?_|refine ⟨⟨by kernel_rfl,by kernel_rfl⟩,?_⟩|refine ⟨by decide,?_⟩|apply τt|apply τf))
              exact back (i + 1, some i, nx2) ⟨hi, at_first k2 hD⟩ (by dsimp only; omega) (ele_tell _ _ rfl rfl (List.Sublist.refl _) (List.Sublist.refl _) (BxLe.refl _) (PmEq.refl _) ⟨AVle.refl _, AVle.refl _, AVle.refl _, AVle.refl _, AVle.refl _, le_int (wrap_succ (by first | omega | (dsimp only; omega))), trivial⟩)
            | some a =>
              have ha := k2.1
              (repeat((conv=>whnf);first|apply ω0|apply ω1|apply ω2|refine τ3 rfl ?_|refine τ4 rfl ?_|refine ⟨rfl,?_⟩|apply τa|refine τb rfl ?_|refine ⟨⟨by kernel_rfl,by kernel_rfl⟩,?_⟩|refine ⟨by decide,?_⟩|apply τt|apply τf))
              (conv => whnf)
              refine ⟨⟨by first | omega | (dsimp only; omega), by first | omega | (dsimp only; omega)⟩, ?_⟩
              (repeat((conv=>whnf);first|apply ω0|apply ω1|apply ω2|refine τ3 rfl ?_|refine τ4 rfl ?_|refine ⟨rfl,?_⟩|apply τa|refine τb rfl ?_|refine ⟨⟨by kernel_rfl,by kernel_rfl⟩,?_⟩|refine ⟨by decide,?_⟩|apply τt|apply τf))
              (conv => whnf)
              refine ⟨⟨Int.natCast_nonneg a, show (a : Int) < (p.rules.length : Int) by omega⟩, ?_⟩
              (repeat((conv=>whnf);first|apply ω0|apply ω1|apply ω2|refine τ3 rfl ?_|refine τ4 rfl ?_|refine ⟨rfl,?_⟩|apply τa|refine τb rfl ?_|refine ⟨⟨by kernel_rfl,by kernel_rfl⟩,?_⟩|refine ⟨by decide,?_⟩|apply τt|apply τf))
              intro c hc
              have hc2 : c = Go.Sort.ltStr (nmL (p.rules.getD i rul0)) (nmL (p.rules.getD a rul0)) := hc.trans (less_nm _ _)
              clear hc
              cases c
              · (repeat((conv=>whnf);first|apply ω0|apply ω1|apply ω2|refine τ3 rfl ?_|refine τ4 rfl ?_|refine ⟨rfl,?_⟩|apply τa|refine τb rfl ?_|refine ⟨⟨by kernel_rfl,by kernel_rfl⟩,?_⟩|refine ⟨by decide,?_⟩|apply τt|apply τf))
                exact back (i + 1, some a, nx2) ⟨hi, at_more k2 hc2.symm⟩ (by dsimp only; omega) (ele_tell _ _ rfl rfl (List.Sublist.refl _) (List.Sublist.refl _) (BxLe.refl _) (PmEq.refl _) ⟨AVle.refl _, AVle.refl _, AVle.refl _, AVle.refl _, AVle.refl _, le_int (wrap_succ (by first | omega | (dsimp only; omega))), trivial⟩)
              · (repeat((conv=>whnf);first|apply ω0|apply ω1|apply ω2|refine τ3 rfl ?_|refine τ4 rfl ?_|refine ⟨rfl,?_⟩|apply τa|refine τb rfl ?_|refine ⟨⟨by kernel_rfl,by kernel_rfl⟩,?_⟩|refine ⟨by decide,?_⟩|apply τt|apply τf))
                exact back (i + 1, some i, nx2) ⟨hi, at_less k2 hD hc2.symm⟩ (by dsimp only; omega) (ele_tell _ _ rfl rfl (List.Sublist.refl _) (List.Sublist.refl _) (BxLe.refl _) (PmEq.refl _) ⟨AVle.refl _, AVle.refl _, AVle.refl _, AVle.refl _, AVle.refl _, le_int (wrap_succ (by first | omega | (dsimp only; omega))), trivial⟩)
    · rintro ⟨a, nx2⟩ hat
      dsimp only at hat
      (repeat((conv=>whnf);first|apply ω0|apply ω1|apply ω2|refine τ3 rfl ?_|refine τ4 rfl ?_|refine ⟨rfl,?_⟩|apply τa|refine τb rfl ?_|refine ⟨⟨by kernel_rfl,by kernel_rfl⟩,?_⟩|refine ⟨by decide,?_⟩|apply τt|apply τf))
      cases a with
      | none =>
        have hall : outR p.dflt (groupsOf p.rules) N = outR p.dflt (groupsOf p.rules) (keysOf (groupsOf p.rules)) := ref_end h1 hat
        (repeat((conv=>whnf);first|apply ω0|apply ω1|apply ω2|refine τ3 rfl ?_|refine τ4 rfl ?_|refine ⟨rfl,?_⟩|apply τa|refine τb rfl ?_|refine ⟨⟨by kernel_rfl,by kernel_rfl⟩,?_⟩|refine ⟨by decide,?_⟩|apply τt|apply τf))
        unfold normP
        rw [← hall, ← h2]
        exact ret_tells_all rfl (by first | trivial | exact ⟨rfl, trivial⟩ | exact ⟨⟨rfl, rfl⟩, trivial⟩) (AVle.ags (cs := [_, _, _, _]) ⟨AVle.refl _, AVle.refl _, AVle.refl _, AVle.os_sl, trivial⟩)
      | some a =>
        obtain ⟨ha, hDa, hmin⟩ := hat
        (repeat((conv=>whnf);first|apply ω0|apply ω1|apply ω2|refine τ3 rfl ?_|refine τ4 rfl ?_|refine ⟨rfl,?_⟩|apply τa|refine τb rfl ?_|refine ⟨⟨by kernel_rfl,by kernel_rfl⟩,?_⟩|refine ⟨by decide,?_⟩|apply τt|apply τf))
        (conv => whnf)
        refine ⟨⟨Int.natCast_nonneg a, show (a : Int) < (p.rules.length : Int) by omega⟩, ?_⟩
        (repeat((conv=>whnf);first|apply ω0|apply ω1|apply ω2|refine τ3 rfl ?_|refine τ4 rfl ?_|refine ⟨rfl,?_⟩|apply τa|refine τb rfl ?_|refine ⟨⟨by kernel_rfl,by kernel_rfl⟩,?_⟩|refine ⟨by decide,?_⟩|apply τt|apply τf))
        refine aw_midB (fun y : List Bool × List Rul × Option Nat × Nat => mk 147 [(1, .bp (0, nx) 0), (2, .bp (1, nx + 1) 0), (3, .bp (2, nx + 2) 0), (4, .hs (3, nx + 3) 0 p.rules.length p.rules.length), (8, .os 4 y.2.1.length (rulF y.2.1) (nmq y.2.2.1))] ⟨rpB nx p y.1 R oi, pmOf (nmq y.2.2.1) (y.2.1.length * 4) ++ pmOf (nmd oi) (R.length * 4), y.2.2.2, 4⟩) (fun y => y.1.length = p.rules.length ∧ (∀ j, j < p.rules.length → y.1.getD j false = (D.getD j false || keyB (p.rules.getD j rul0).name (p.rules.getD a rul0).name)) ∧ y.2.1 = gOf (p.rules.getD a rul0).name p.rules ∧ (y.2.2.1 = none → y.2.1 = [])) ?_ ?_
        · refine aw_loop (fun y : Nat × List Bool × List Rul × Option Nat × Nat => mk 147 [(1, .bp (0, nx) 0), (2, .bp (1, nx + 1) 0), (3, .bp (2, nx + 2) 0), (4, .hs (3, nx + 3) 0 p.rules.length p.rules.length), (7, strA (p.rules.getD a rul0).name), (8, .os 4 y.2.2.1.length (rulF y.2.2.1) (nmq y.2.2.2.1)), (9, int y.1)] ⟨rpB nx p y.2.1 R oi, pmOf (nmq y.2.2.2.1) (y.2.2.1.length * 4) ++ pmOf (nmd oi) (R.length * 4), y.2.2.2.2, 4⟩) (fun y => y.1 ≤ p.rules.length ∧ y.2.1.length = p.rules.length ∧ (∀ j, j < p.rules.length → y.2.1.getD j false = (D.getD j false || (decide (j < y.1) && keyB (p.rules.getD j rul0).name (p.rules.getD a rul0).name))) ∧ y.2.2.1 = gOf (p.rules.getD a rul0).name (p.rules.take y.1) ∧ (y.2.2.2.1 = none → y.2.2.1 = [])) (fun y => p.rules.length - y.1) ?_ ?_
          · exact ⟨(0, D, [], none, nx2), ⟨Nat.zero_le _, hDl, fun j _ => by simp, rfl, fun _ => rfl⟩, ele_tell _ _ rfl rfl (List.Sublist.refl _) (List.Sublist.refl _) (BxLe.refl _) (PmEq.refl _) ⟨AVle.refl _, AVle.refl _, AVle.refl _, AVle.refl _, AVle.refl _, AVle.os_nil, AVle.refl _, trivial⟩⟩
          · rintro ⟨i, D', L, li, nx3⟩ ⟨k1, k2, k3, k4, k5⟩
            dsimp only at k1 k2 k3 k4 k5
            (repeat((conv=>whnf);first|apply ω0|apply ω1|apply ω2|refine τ3 rfl ?_|refine τ4 rfl ?_|refine ⟨rfl,?_⟩|apply τa|refine τb rfl ?_|refine ⟨⟨by kernel_rfl,by kernel_rfl⟩,?_⟩|refine ⟨by decide,?_⟩|apply τt|apply τf))
            intro c g; cases c
            · have g := not_of g
              try dsimp only at g
              have hi : i = p.rules.length := by omega
              subst hi
              rw [List.take_length] at k4
              (repeat((conv=>whnf);first|apply ω0|apply ω1|apply ω2|refine τ3 rfl ?_|refine τ4 rfl ?_|refine ⟨rfl,?_⟩|apply τa|refine τb rfl ?_|refine ⟨⟨by kernel_rfl,by kernel_rfl⟩,?_⟩|refine ⟨by decide,?_⟩|apply τt|apply τf))
              exact ⟨(D', L, li, nx3), ⟨k2, fun j hj => by rw [k3 j hj, decide_eq_true hj, Bool.true_and], k4, k5⟩, ele_tell _ _ rfl rfl (List.Sublist.refl _) (List.Sublist.refl _) (BxLe.refl _) (PmEq.refl _) ⟨AVle.refl _, AVle.refl _, AVle.refl _, AVle.refl _, AVle.refl _, trivial⟩⟩
            · have g := yes_of g
              try dsimp only at g
              have hi : i < p.rules.length := by omega
              have hmem : p.rules.getD i rul0 ∈ p.rules := by simp [List.getD, hi]
              have hnext := gOf_next (s := (p.rules.getD a rul0).name) hi
              have hLl : L.length ≤ i := by rw [k4]; exact gOf_len k1
              (repeat((conv=>whnf);first|apply ω0|apply ω1|apply ω2|refine τ3 rfl ?_|refine τ4 rfl ?_|refine ⟨rfl,?_⟩|apply τa|refine τb rfl ?_|refine ⟨⟨by kernel_rfl,by kernel_rfl⟩,?_⟩|refine ⟨by decide,?_⟩|apply τt|apply τf))
              (conv => whnf)
              refine ⟨⟨by first | omega | (dsimp only; omega), by first | omega | (dsimp only; omega)⟩, ?_⟩
              (repeat((conv=>whnf);first|apply ω0|apply ω1|apply ω2|refine τ3 rfl ?_|refine τ4 rfl ?_|refine ⟨rfl,?_⟩|apply τa|refine τb rfl ?_|refine ⟨⟨by kernel_rfl,by kernel_rfl⟩,?_⟩|refine ⟨by decide,?_⟩|apply τt|apply τf))
              intro c hc
              have hk : c = !keyB (p.rules.getD i rul0).name (p.rules.getD a rul0).name := hc
              clear hc
              cases c
              · have hk1 : keyB (p.rules.getD i rul0).name (p.rules.getD a rul0).name = true := by simpa using hk.symm
                rw [keyB_comm, if_pos hk1, ← k4] at hnext
                have hit : (0 + (Int.toNat (i : Int)) * Tryz.prog.cellsOf 4) = i := by rw [c_bool]; omega
                have hsp : splice (D'.map boolA) i [.v (.bool true)] = (D'.set i true).map boolA := splice_one (f := boolA) (x := true) (by omega)
                have hrp : Tells Tryz.prog 26 [rulA (p.rules.getD i rul0)] (.tup [rulA (nor (p.rules.getD i rul0)), boolA (normR (p.rules.getD i rul0)).isSome]) := by
                  rw [← rulOpt_nor]
                  exact rref16_spec _ (hp.2 _ hmem).2.2 (rightP_conds2 hr _ hmem) (by have := hc6 _ hmem; omega)
                have hset := done_set k3 hk1 k2 hi
                have hnc : (nor (p.rules.getD i rul0)).conds.length ≤ 6 := nor_len (hc6 _ hmem)
                have hLc : ∀ x ∈ L, x.conds.length ≤ 6 := fun x hx => gOf_conds (fun r hr => hc6 r (List.mem_of_mem_take hr)) (by rw [← k4]; exact hx)
                (repeat((conv=>whnf);first|apply ω0|apply ω1|apply ω2|refine τ3 rfl ?_|refine τ4 rfl ?_|refine ⟨rfl,?_⟩|apply τa|refine τb rfl ?_|refine ⟨⟨by kernel_rfl,by kernel_rfl⟩,?_⟩|refine ⟨by decide,?_⟩|apply τt|apply τf))
                refine ⟨⟨by first | omega | (dsimp only; omega), by first | omega | (dsimp only; omega)⟩, splitO_eq (b := .bp (3, nx + 3) i) (congrArg (AV.bp (3, nx + 3)) hit) ?_⟩
                (conv => whnf)
                refine ⟨⟨rfl, by rw [List.length_map]; show i + 1 ≤ D'.length; omega⟩, ?_⟩
                rw [hsp]
                (repeat((conv=>whnf);first|apply ω0|apply ω1|apply ω2|refine τ3 rfl ?_|refine τ4 rfl ?_|refine ⟨rfl,?_⟩|apply τa|refine τb rfl ?_|refine ⟨⟨by kernel_rfl,by kernel_rfl⟩,?_⟩|refine ⟨by decide,?_⟩|apply τt|apply τf))
                refine ⟨⟨by first | omega | (dsimp only; omega), by first | omega | (dsimp only; omega)⟩, ?_⟩
                (repeat((conv=>whnf);first|apply ω0|apply ω1|apply ω2|refine τ3 rfl ?_|refine τ4 rfl ?_|refine ⟨rfl,?_⟩|apply τa|refine τb rfl ?_|refine ⟨⟨by kernel_rfl,by kernel_rfl⟩,?_⟩|refine ⟨by decide,?_⟩|apply τt|apply τf))
                refine aop_tells rfl rfl hrp ⟨AVle.refl _, trivial⟩ fun nx4 => ?_
                intro c hc
                have hc2 : c = isN (p.rules.getD i rul0) L 0 := hc.trans (by unfold isN hidden; simp)
                clear hc
                (repeat((conv=>whnf);first|apply ω0|apply ω1|apply ω2|refine τ3 rfl ?_|refine τ4 rfl ?_|refine ⟨rfl,?_⟩|apply τa|refine τb rfl ?_|refine ⟨⟨by kernel_rfl,by kernel_rfl⟩,?_⟩|refine ⟨by decide,?_⟩|apply τt|apply τf))
                refine aw_midB (fun y : Bool × Nat => mk 147 [(1, .bp (0, nx) 0), (2, .bp (1, nx + 1) 0), (3, .bp (2, nx + 2) 0), (4, .hs (3, nx + 3) 0 p.rules.length p.rules.length), (7, strA (p.rules.getD a rul0).name), (8, .os 4 L.length (rulF L) (nmq li)), (9, int i), (10, .bp (4, nx4) 0), (11, boolA y.1)] ⟨((4, nx4), .c (rulC4 (nor (p.rules.getD i rul0)))) :: rpB nx p (D'.set i true) R oi, pmOf (nmq li) (L.length * 4) ++ pmOf (nmd oi) (R.length * 4), y.2, 5⟩) (fun y => y.1 = isN (p.rules.getD i rul0) L L.length) ?_ ?_
                · refine aw_loop (fun y : Nat × Bool × Nat => mk 147 [(1, .bp (0, nx) 0), (2, .bp (1, nx + 1) 0), (3, .bp (2, nx + 2) 0), (4, .hs (3, nx + 3) 0 p.rules.length p.rules.length), (7, strA (p.rules.getD a rul0).name), (8, .os 4 L.length (rulF L) (nmq li)), (9, int i), (10, .bp (4, nx4) 0), (11, boolA y.2.1), (12, int y.1)] ⟨((4, nx4), .c (rulC4 (nor (p.rules.getD i rul0)))) :: rpB nx p (D'.set i true) R oi, pmOf (nmq li) (L.length * 4) ++ pmOf (nmd oi) (R.length * 4), y.2.2, 5⟩) (fun y => y.1 ≤ L.length ∧ y.2.1 = isN (p.rules.getD i rul0) L y.1) (fun y => L.length - y.1) ?_ ?_
                  · exact ⟨(0, c, nx4 + 1), ⟨Nat.zero_le _, hc2⟩, ele_tell _ _ rfl rfl (List.Sublist.refl _) (List.Sublist.refl _) (BxLe.refl _) (PmEq.refl _) ⟨AVle.refl _, AVle.refl _, AVle.refl _, AVle.refl _, AVle.refl _, AVle.refl _, AVle.refl _, AVle.refl _, AVle.refl _, AVle.refl _, trivial⟩⟩
                  · rintro ⟨k, b, nx5⟩ ⟨q1, q2⟩
                    dsimp only at q1 q2
                    (repeat((conv=>whnf);first|apply ω0|apply ω1|apply ω2|refine τ3 rfl ?_|refine τ4 rfl ?_|refine ⟨rfl,?_⟩|apply τa|refine τb rfl ?_|refine ⟨⟨by kernel_rfl,by kernel_rfl⟩,?_⟩|refine ⟨by decide,?_⟩|apply τt|apply τf))
                    intro c gk; cases c
                    · have gk := not_of gk
                      try dsimp only at gk
                      have hk : k = L.length := by omega
                      subst hk
                      (repeat((conv=>whnf);first|apply ω0|apply ω1|apply ω2|refine τ3 rfl ?_|refine τ4 rfl ?_|refine ⟨rfl,?_⟩|apply τa|refine τb rfl ?_|refine ⟨⟨by kernel_rfl,by kernel_rfl⟩,?_⟩|refine ⟨by decide,?_⟩|apply τt|apply τf))
                      exact ⟨(b, nx5), q2, ele_tell _ _ rfl rfl (List.Sublist.refl _) (List.Sublist.refl _) (BxLe.refl _) (PmEq.refl _) ⟨AVle.refl _, AVle.refl _, AVle.refl _, AVle.refl _, AVle.refl _, AVle.refl _, AVle.refl _, AVle.refl _, AVle.refl _, trivial⟩⟩
                    · have gk := yes_of gk
                      try dsimp only at gk
                      have hk : k < L.length := by omega
                      have hnx := isN_next (r := p.rules.getD i rul0) hk
                      rw [← q2] at hnx
                      (repeat((conv=>whnf);first|apply ω0|apply ω1|apply ω2|refine τ3 rfl ?_|refine τ4 rfl ?_|refine ⟨rfl,?_⟩|apply τa|refine τb rfl ?_|refine ⟨⟨by kernel_rfl,by kernel_rfl⟩,?_⟩|refine ⟨by decide,?_⟩|apply τt|apply τf))
                      cases b with
                      | false =>
                        (repeat((conv=>whnf);first|apply ω0|apply ω1|apply ω2|refine τ3 rfl ?_|refine τ4 rfl ?_|refine ⟨rfl,?_⟩|apply τa|refine τb rfl ?_|refine ⟨⟨by kernel_rfl,by kernel_rfl⟩,?_⟩|refine ⟨by decide,?_⟩|apply τt|apply τf))
                        refine aw_mixN 21 _ (fun _ => false) (fun _ => false) [0, 1, 2, 3, 4, 5, 6, 7, 8, 9, 10, 11, 12, 13, 14, 15, 16, 17, 18, 19, 20] (by kernel_rfl) (by kernel_rfl) (HB.refl _) ?_
                        (repeat((conv=>whnf);first|apply ω0|apply ω1|apply ω2|refine τ3 rfl ?_|refine τ4 rfl ?_|refine ⟨rfl,?_⟩|apply τa|refine τb rfl ?_|refine ⟨⟨by kernel_rfl,by kernel_rfl⟩,?_⟩|refine ⟨by decide,?_⟩|apply τt|apply τf))
                        refine ⟨_, pure_no rfl rfl rfl, ?_⟩
                        (repeat((conv=>whnf);first|apply ω0|apply ω1|apply ω2|refine τ3 rfl ?_|refine τ4 rfl ?_|refine ⟨rfl,?_⟩|apply τa|refine τb rfl ?_|refine ⟨⟨by kernel_rfl,by kernel_rfl⟩,?_⟩|refine ⟨by decide,?_⟩|apply τt|apply τf))
                        refine ⟨_, pure_no rfl rfl rfl, ?_⟩
                        (repeat((conv=>whnf);first|apply ω0|apply ω1|apply ω2|refine τ3 rfl ?_|refine τ4 rfl ?_|refine ⟨rfl,?_⟩|apply τa|refine τb rfl ?_|refine ⟨⟨by kernel_rfl,by kernel_rfl⟩,?_⟩|refine ⟨by decide,?_⟩|apply τt|apply τf))
                        refine ⟨_, pure_no rfl rfl rfl, ?_⟩
                        (repeat((conv=>whnf);first|apply ω0|apply ω1|apply ω2|refine τ3 rfl ?_|refine τ4 rfl ?_|refine ⟨rfl,?_⟩|apply τa|refine τb rfl ?_|refine ⟨⟨by kernel_rfl,by kernel_rfl⟩,?_⟩|refine ⟨by decide,?_⟩|apply τt|apply τf))
                        refine ⟨_, pure_no rfl rfl rfl, ?_⟩
                        (repeat((conv=>whnf);first|apply ω0|apply ω1|apply ω2|refine τ3 rfl ?_|refine τ4 rfl ?_|refine ⟨rfl,?_⟩|apply τa|refine τb rfl ?_|refine ⟨⟨by kernel_rfl,by kernel_rfl⟩,?_⟩|refine ⟨by decide,?_⟩|apply τt|apply τf))
                        refine ⟨_, pure_no rfl rfl rfl, ?_⟩
                        (repeat((conv=>whnf);first|apply ω0|apply ω1|apply ω2|refine τ3 rfl ?_|refine τ4 rfl ?_|refine ⟨rfl,?_⟩|apply τa|refine τb rfl ?_|refine ⟨⟨by kernel_rfl,by kernel_rfl⟩,?_⟩|refine ⟨by decide,?_⟩|apply τt|apply τf))
                        refine ⟨_, pure_no rfl rfl rfl, ?_⟩
                        (repeat((conv=>whnf);first|apply ω0|apply ω1|apply ω2|refine τ3 rfl ?_|refine τ4 rfl ?_|refine ⟨rfl,?_⟩|apply τa|refine τb rfl ?_|refine ⟨⟨by kernel_rfl,by kernel_rfl⟩,?_⟩|refine ⟨by decide,?_⟩|apply τt|apply τf))
                        refine ⟨_, pure_no rfl rfl rfl, ?_⟩
                        (repeat((conv=>whnf);first|apply ω0|apply ω1|apply ω2|refine τ3 rfl ?_|refine τ4 rfl ?_|refine ⟨rfl,?_⟩|apply τa|refine τb rfl ?_|refine ⟨⟨by kernel_rfl,by kernel_rfl⟩,?_⟩|refine ⟨by decide,?_⟩|apply τt|apply τf))
                        refine ⟨_, pure_no rfl rfl rfl, ?_⟩
                        (repeat((conv=>whnf);first|apply ω0|apply ω1|apply ω2|refine τ3 rfl ?_|refine τ4 rfl ?_|refine ⟨rfl,?_⟩|apply τa|refine τb rfl ?_|refine ⟨⟨by kernel_rfl,by kernel_rfl⟩,?_⟩|refine ⟨by decide,?_⟩|apply τt|apply τf))
                        refine ⟨_, pure_no rfl rfl rfl, ?_⟩
                        (repeat((conv=>whnf);first|apply ω0|apply ω1|apply ω2|refine τ3 rfl ?_|refine τ4 rfl ?_|refine ⟨rfl,?_⟩|apply τa|refine τb rfl ?_|refine ⟨⟨by kernel_rfl,by kernel_rfl⟩,?_⟩|refine ⟨by decide,?_⟩|apply τt|apply τf))
                        refine ⟨_, pure_no rfl rfl rfl, ?_⟩
                        (repeat((conv=>whnf);first|apply ω0|apply ω1|apply ω2|refine τ3 rfl ?_|refine τ4 rfl ?_|refine ⟨rfl,?_⟩|apply τa|refine τb rfl ?_|refine ⟨⟨by kernel_rfl,by kernel_rfl⟩,?_⟩|refine ⟨by decide,?_⟩|apply τt|apply τf))
                        refine ⟨_, pure_no rfl rfl rfl, ?_⟩
                        (repeat((conv=>whnf);first|apply ω0|apply ω1|apply ω2|refine τ3 rfl ?_|refine τ4 rfl ?_|refine ⟨rfl,?_⟩|apply τa|refine τb rfl ?_|refine ⟨⟨by kernel_rfl,by kernel_rfl⟩,?_⟩|refine ⟨by decide,?_⟩|apply τt|apply τf))
                        refine ⟨_, pure_no rfl rfl rfl, ?_⟩
                        (repeat((conv=>whnf);first|apply ω0|apply ω1|apply ω2|refine τ3 rfl ?_|refine τ4 rfl ?_|refine ⟨rfl,?_⟩|apply τa|refine τb rfl ?_|refine ⟨⟨by kernel_rfl,by kernel_rfl⟩,?_⟩|refine ⟨by decide,?_⟩|apply τt|apply τf))
                        refine ⟨_, pure_no rfl rfl rfl, ?_⟩
                        (repeat((conv=>whnf);first|apply ω0|apply ω1|apply ω2|refine τ3 rfl ?_|refine τ4 rfl ?_|refine ⟨rfl,?_⟩|apply τa|refine τb rfl ?_|refine ⟨⟨by kernel_rfl,by kernel_rfl⟩,?_⟩|refine ⟨by decide,?_⟩|apply τt|apply τf))
                        refine ⟨_, pure_no rfl rfl rfl, ?_⟩
                        (repeat((conv=>whnf);first|apply ω0|apply ω1|apply ω2|refine τ3 rfl ?_|refine τ4 rfl ?_|refine ⟨rfl,?_⟩|apply τa|refine τb rfl ?_|refine ⟨⟨by kernel_rfl,by kernel_rfl⟩,?_⟩|refine ⟨by decide,?_⟩|apply τt|apply τf))
                        refine ⟨_, pure_no rfl rfl rfl, ?_⟩
                        (repeat((conv=>whnf);first|apply ω0|apply ω1|apply ω2|refine τ3 rfl ?_|refine τ4 rfl ?_|refine ⟨rfl,?_⟩|apply τa|refine τb rfl ?_|refine ⟨⟨by kernel_rfl,by kernel_rfl⟩,?_⟩|refine ⟨by decide,?_⟩|apply τt|apply τf))
                        refine ⟨_, pure_no rfl rfl rfl, ?_⟩
                        (repeat((conv=>whnf);first|apply ω0|apply ω1|apply ω2|refine τ3 rfl ?_|refine τ4 rfl ?_|refine ⟨rfl,?_⟩|apply τa|refine τb rfl ?_|refine ⟨⟨by kernel_rfl,by kernel_rfl⟩,?_⟩|refine ⟨by decide,?_⟩|apply τt|apply τf))
                        exact back (k + 1, false, nx5) ⟨hk, hnx.symm⟩ (by dsimp only; omega) (ele_tell _ _ rfl rfl (List.Sublist.refl _) (List.Sublist.refl _) (BxLe.refl _) (PmEq.refl _) ⟨AVle.refl _, AVle.refl _, AVle.refl _, AVle.refl _, AVle.refl _, AVle.refl _, AVle.refl _, AVle.refl _, AVle.refl _, le_int (wrap_succ (by first | omega | (dsimp only; omega))), trivial⟩)
                      | true =>
                        (repeat((conv=>whnf);first|apply ω0|apply ω1|apply ω2|refine τ3 rfl ?_|refine τ4 rfl ?_|refine ⟨rfl,?_⟩|apply τa|refine τb rfl ?_|refine ⟨⟨by kernel_rfl,by kernel_rfl⟩,?_⟩|refine ⟨by decide,?_⟩|apply τt|apply τf))
                        refine aw_mixN 21 _ (fun _ => false) (fun _ => false) [0, 1, 2, 3, 4, 5, 6, 7, 8, 9, 10, 11, 12, 13, 14, 15, 16, 17, 18, 19, 20] (by kernel_rfl) (by kernel_rfl) (HB.refl _) ?_
                        (repeat((conv=>whnf);first|apply ω0|apply ω1|apply ω2|refine τ3 rfl ?_|refine τ4 rfl ?_|refine ⟨rfl,?_⟩|apply τa|refine τb rfl ?_|refine ⟨⟨by kernel_rfl,by kernel_rfl⟩,?_⟩|refine ⟨by decide,?_⟩|apply τt|apply τf))
                        refine ⟨_, pure_yes rfl rfl rfl rfl (by first | trivial | exact ⟨rfl, Nat.le_of_ble_eq_true rfl⟩ | exact ⟨by first | omega | (dsimp only; omega), by first | omega | (dsimp only; omega)⟩), ?_⟩
                        (repeat((conv=>whnf);first|apply ω0|apply ω1|apply ω2|refine τ3 rfl ?_|refine τ4 rfl ?_|refine ⟨rfl,?_⟩|apply τa|refine τb rfl ?_|refine ⟨⟨by kernel_rfl,by kernel_rfl⟩,?_⟩|refine ⟨by decide,?_⟩|apply τt|apply τf))
                        refine ⟨_, pure_yes rfl rfl rfl rfl (by first | trivial | exact ⟨rfl, Nat.le_of_ble_eq_true rfl⟩ | exact ⟨by first | omega | (dsimp only; omega), by first | omega | (dsimp only; omega)⟩), ?_⟩
                        (repeat((conv=>whnf);first|apply ω0|apply ω1|apply ω2|refine τ3 rfl ?_|refine τ4 rfl ?_|refine ⟨rfl,?_⟩|apply τa|refine τb rfl ?_|refine ⟨⟨by kernel_rfl,by kernel_rfl⟩,?_⟩|refine ⟨by decide,?_⟩|apply τt|apply τf))
                        refine ⟨_, pure_yes rfl rfl rfl rfl (by first | trivial | exact ⟨rfl, Nat.le_of_ble_eq_true rfl⟩ | exact ⟨by first | omega | (dsimp only; omega), by first | omega | (dsimp only; omega)⟩), ?_⟩
                        (repeat((conv=>whnf);first|apply ω0|apply ω1|apply ω2|refine τ3 rfl ?_|refine τ4 rfl ?_|refine ⟨rfl,?_⟩|apply τa|refine τb rfl ?_|refine ⟨⟨by kernel_rfl,by kernel_rfl⟩,?_⟩|refine ⟨by decide,?_⟩|apply τt|apply τf))
                        refine splitV_eq (b := .rp (rulC4 (L.getD k rul0))) rfl ?_
                        (repeat((conv=>whnf);first|apply ω0|apply ω1|apply ω2|refine τ3 rfl ?_|refine τ4 rfl ?_|refine ⟨rfl,?_⟩|apply τa|refine τb rfl ?_|refine ⟨⟨by kernel_rfl,by kernel_rfl⟩,?_⟩|refine ⟨by decide,?_⟩|apply τt|apply τf))
                        refine ⟨_, pure_yes rfl rfl rfl rfl (by first | trivial | exact ⟨rfl, Nat.le_of_ble_eq_true rfl⟩ | exact ⟨by first | omega | (dsimp only; omega), by first | omega | (dsimp only; omega)⟩), ?_⟩
                        (repeat((conv=>whnf);first|apply ω0|apply ω1|apply ω2|refine τ3 rfl ?_|refine τ4 rfl ?_|refine ⟨rfl,?_⟩|apply τa|refine τb rfl ?_|refine ⟨⟨by kernel_rfl,by kernel_rfl⟩,?_⟩|refine ⟨by decide,?_⟩|apply τt|apply τf))
                        refine ⟨_, pure_yes rfl rfl rfl rfl (by first | trivial | exact ⟨rfl, Nat.le_of_ble_eq_true rfl⟩ | exact ⟨by first | omega | (dsimp only; omega), by first | omega | (dsimp only; omega)⟩), ?_⟩
                        (repeat((conv=>whnf);first|apply ω0|apply ω1|apply ω2|refine τ3 rfl ?_|refine τ4 rfl ?_|refine ⟨rfl,?_⟩|apply τa|refine τb rfl ?_|refine ⟨⟨by kernel_rfl,by kernel_rfl⟩,?_⟩|refine ⟨by decide,?_⟩|apply τt|apply τf))
                        refine ⟨_, pure_yes rfl rfl rfl rfl (by first | trivial | exact ⟨rfl, Nat.le_of_ble_eq_true rfl⟩ | exact ⟨by first | omega | (dsimp only; omega), by first | omega | (dsimp only; omega)⟩), ?_⟩
                        (repeat((conv=>whnf);first|apply ω0|apply ω1|apply ω2|refine τ3 rfl ?_|refine τ4 rfl ?_|refine ⟨rfl,?_⟩|apply τa|refine τb rfl ?_|refine ⟨⟨by kernel_rfl,by kernel_rfl⟩,?_⟩|refine ⟨by decide,?_⟩|apply τt|apply τf))
                        by_cases hz : (L.getD k rul0).conds = []
                        · have hdz : decide (((L.getD k rul0).conds.length : Int) > 0) = false := by rw [hz]; rfl
                          have hid : hidR (nor (p.rules.getD i rul0)) (L.getD k rul0) = true := by unfold hidR; rw [decide_eq_true hz]; rfl
                          refine ⟨.v (.bool false), pure_yesB rfl rfl rfl rfl trivial hdz, ?_⟩
                          (repeat((conv=>whnf);first|apply ω0|apply ω1|apply ω2|refine τ3 rfl ?_|refine τ4 rfl ?_|refine ⟨rfl,?_⟩|apply τa|refine τb rfl ?_|refine ⟨⟨by kernel_rfl,by kernel_rfl⟩,?_⟩|refine ⟨by decide,?_⟩|apply τt|apply τf))
                          refine ⟨_, pure_no rfl rfl rfl, ?_⟩
                          (repeat((conv=>whnf);first|apply ω0|apply ω1|apply ω2|refine τ3 rfl ?_|refine τ4 rfl ?_|refine ⟨rfl,?_⟩|apply τa|refine τb rfl ?_|refine ⟨⟨by kernel_rfl,by kernel_rfl⟩,?_⟩|refine ⟨by decide,?_⟩|apply τt|apply τf))
                          refine ⟨_, pure_no rfl rfl rfl, ?_⟩
                          (repeat((conv=>whnf);first|apply ω0|apply ω1|apply ω2|refine τ3 rfl ?_|refine τ4 rfl ?_|refine ⟨rfl,?_⟩|apply τa|refine τb rfl ?_|refine ⟨⟨by kernel_rfl,by kernel_rfl⟩,?_⟩|refine ⟨by decide,?_⟩|apply τt|apply τf))
                          refine ⟨_, pure_no rfl rfl rfl, ?_⟩
                          (repeat((conv=>whnf);first|apply ω0|apply ω1|apply ω2|refine τ3 rfl ?_|refine τ4 rfl ?_|refine ⟨rfl,?_⟩|apply τa|refine τb rfl ?_|refine ⟨⟨by kernel_rfl,by kernel_rfl⟩,?_⟩|refine ⟨by decide,?_⟩|apply τt|apply τf))
                          refine ⟨_, pure_no rfl rfl rfl, ?_⟩
                          (repeat((conv=>whnf);first|apply ω0|apply ω1|apply ω2|refine τ3 rfl ?_|refine τ4 rfl ?_|refine ⟨rfl,?_⟩|apply τa|refine τb rfl ?_|refine ⟨⟨by kernel_rfl,by kernel_rfl⟩,?_⟩|refine ⟨by decide,?_⟩|apply τt|apply τf))
                          refine ⟨_, pure_no rfl rfl rfl, ?_⟩
                          (repeat((conv=>whnf);first|apply ω0|apply ω1|apply ω2|refine τ3 rfl ?_|refine τ4 rfl ?_|refine ⟨rfl,?_⟩|apply τa|refine τb rfl ?_|refine ⟨⟨by kernel_rfl,by kernel_rfl⟩,?_⟩|refine ⟨by decide,?_⟩|apply τt|apply τf))
                          refine ⟨_, pure_no rfl rfl rfl, ?_⟩
                          (repeat((conv=>whnf);first|apply ω0|apply ω1|apply ω2|refine τ3 rfl ?_|refine τ4 rfl ?_|refine ⟨rfl,?_⟩|apply τa|refine τb rfl ?_|refine ⟨⟨by kernel_rfl,by kernel_rfl⟩,?_⟩|refine ⟨by decide,?_⟩|apply τt|apply τf))
                          refine ⟨_, pure_no rfl rfl rfl, ?_⟩
                          (repeat((conv=>whnf);first|apply ω0|apply ω1|apply ω2|refine τ3 rfl ?_|refine τ4 rfl ?_|refine ⟨rfl,?_⟩|apply τa|refine τb rfl ?_|refine ⟨⟨by kernel_rfl,by kernel_rfl⟩,?_⟩|refine ⟨by decide,?_⟩|apply τt|apply τf))
                          refine ⟨_, pure_no rfl rfl rfl, ?_⟩
                          (repeat((conv=>whnf);first|apply ω0|apply ω1|apply ω2|refine τ3 rfl ?_|refine τ4 rfl ?_|refine ⟨rfl,?_⟩|apply τa|refine τb rfl ?_|refine ⟨⟨by kernel_rfl,by kernel_rfl⟩,?_⟩|refine ⟨by decide,?_⟩|apply τt|apply τf))
                          refine ⟨_, pure_no rfl rfl rfl, ?_⟩
                          (repeat((conv=>whnf);first|apply ω0|apply ω1|apply ω2|refine τ3 rfl ?_|refine τ4 rfl ?_|refine ⟨rfl,?_⟩|apply τa|refine τb rfl ?_|refine ⟨⟨by kernel_rfl,by kernel_rfl⟩,?_⟩|refine ⟨by decide,?_⟩|apply τt|apply τf))
                          exact back (k + 1, false, nx5) ⟨hk, by dsimp only; rw [hnx, hid]; rfl⟩ (by dsimp only; omega) (ele_tell _ _ rfl rfl (List.Sublist.refl _) (List.Sublist.refl _) (BxLe.refl _) (PmEq.refl _) ⟨AVle.refl _, AVle.refl _, AVle.refl _, AVle.refl _, AVle.refl _, AVle.refl _, AVle.refl _, AVle.refl _, AVle.refl _, le_int (wrap_succ (by first | omega | (dsimp only; omega))), trivial⟩)
                        · have hdz : decide (((L.getD k rul0).conds.length : Int) > 0) = true := decide_eq_true (by have : (L.getD k rul0).conds.length ≠ 0 := fun h => hz (List.eq_nil_of_length_eq_zero h)
                                                                                                                    omega)
                          have hid : hidR (nor (p.rules.getD i rul0)) (L.getD k rul0) = decide ((L.getD k rul0).conds = (nor (p.rules.getD i rul0)).conds) := by unfold hidR; rw [decide_eq_false hz]; rfl
                          have hsm := same16_spec (L.getD k rul0).conds (nor (p.rules.getD i rul0)).conds (by have := hLc _ (show L.getD k rul0 ∈ L by simp [List.getD, hk]); omega)
                          refine ⟨.v (.bool true), pure_yesB rfl rfl rfl rfl trivial hdz, ?_⟩
                          (repeat((conv=>whnf);first|apply ω0|apply ω1|apply ω2|refine τ3 rfl ?_|refine τ4 rfl ?_|refine ⟨rfl,?_⟩|apply τa|refine τb rfl ?_|refine ⟨⟨by kernel_rfl,by kernel_rfl⟩,?_⟩|refine ⟨by decide,?_⟩|apply τt|apply τf))
                          refine ⟨_, pure_yes rfl rfl rfl rfl (by first | trivial | exact ⟨rfl, Nat.le_of_ble_eq_true rfl⟩ | exact ⟨by first | omega | (dsimp only; omega), by first | omega | (dsimp only; omega)⟩), ?_⟩
                          (repeat((conv=>whnf);first|apply ω0|apply ω1|apply ω2|refine τ3 rfl ?_|refine τ4 rfl ?_|refine ⟨rfl,?_⟩|apply τa|refine τb rfl ?_|refine ⟨⟨by kernel_rfl,by kernel_rfl⟩,?_⟩|refine ⟨by decide,?_⟩|apply τt|apply τf))
                          refine ⟨_, pure_yes rfl rfl rfl rfl (by first | trivial | exact ⟨rfl, Nat.le_of_ble_eq_true rfl⟩ | exact ⟨by first | omega | (dsimp only; omega), by first | omega | (dsimp only; omega)⟩), ?_⟩
                          (repeat((conv=>whnf);first|apply ω0|apply ω1|apply ω2|refine τ3 rfl ?_|refine τ4 rfl ?_|refine ⟨rfl,?_⟩|apply τa|refine τb rfl ?_|refine ⟨⟨by kernel_rfl,by kernel_rfl⟩,?_⟩|refine ⟨by decide,?_⟩|apply τt|apply τf))
                          refine ⟨_, pure_yes rfl rfl rfl rfl (by first | trivial | exact ⟨rfl, Nat.le_of_ble_eq_true rfl⟩ | exact ⟨by first | omega | (dsimp only; omega), by first | omega | (dsimp only; omega)⟩), ?_⟩
                          (repeat((conv=>whnf);first|apply ω0|apply ω1|apply ω2|refine τ3 rfl ?_|refine τ4 rfl ?_|refine ⟨rfl,?_⟩|apply τa|refine τb rfl ?_|refine ⟨⟨by kernel_rfl,by kernel_rfl⟩,?_⟩|refine ⟨by decide,?_⟩|apply τt|apply τf))
                          refine splitV_eq (b := .rp (rulC4 (L.getD k rul0))) rfl ?_
                          (repeat((conv=>whnf);first|apply ω0|apply ω1|apply ω2|refine τ3 rfl ?_|refine τ4 rfl ?_|refine ⟨rfl,?_⟩|apply τa|refine τb rfl ?_|refine ⟨⟨by kernel_rfl,by kernel_rfl⟩,?_⟩|refine ⟨by decide,?_⟩|apply τt|apply τf))
                          refine ⟨_, pure_yes rfl rfl rfl rfl (by first | trivial | exact ⟨rfl, Nat.le_of_ble_eq_true rfl⟩ | exact ⟨by first | omega | (dsimp only; omega), by first | omega | (dsimp only; omega)⟩), ?_⟩
                          (repeat((conv=>whnf);first|apply ω0|apply ω1|apply ω2|refine τ3 rfl ?_|refine τ4 rfl ?_|refine ⟨rfl,?_⟩|apply τa|refine τb rfl ?_|refine ⟨⟨by kernel_rfl,by kernel_rfl⟩,?_⟩|refine ⟨by decide,?_⟩|apply τt|apply τf))
                          refine ⟨_, pure_yes rfl rfl rfl rfl (by first | trivial | exact ⟨rfl, Nat.le_of_ble_eq_true rfl⟩ | exact ⟨by first | omega | (dsimp only; omega), by first | omega | (dsimp only; omega)⟩), ?_⟩
                          (repeat((conv=>whnf);first|apply ω0|apply ω1|apply ω2|refine τ3 rfl ?_|refine τ4 rfl ?_|refine ⟨rfl,?_⟩|apply τa|refine τb rfl ?_|refine ⟨⟨by kernel_rfl,by kernel_rfl⟩,?_⟩|refine ⟨by decide,?_⟩|apply τt|apply τf))
                          refine ⟨_, pure_yes rfl rfl rfl rfl (by first | trivial | exact ⟨rfl, Nat.le_of_ble_eq_true rfl⟩ | exact ⟨by first | omega | (dsimp only; omega), by first | omega | (dsimp only; omega)⟩), ?_⟩
                          (repeat((conv=>whnf);first|apply ω0|apply ω1|apply ω2|refine τ3 rfl ?_|refine τ4 rfl ?_|refine ⟨rfl,?_⟩|apply τa|refine τb rfl ?_|refine ⟨⟨by kernel_rfl,by kernel_rfl⟩,?_⟩|refine ⟨by decide,?_⟩|apply τt|apply τf))
                          refine ⟨_, pure_yes rfl rfl rfl rfl (by first | trivial | exact ⟨rfl, Nat.le_of_ble_eq_true rfl⟩ | exact ⟨by first | omega | (dsimp only; omega), by first | omega | (dsimp only; omega)⟩), ?_⟩
                          (repeat((conv=>whnf);first|apply ω0|apply ω1|apply ω2|refine τ3 rfl ?_|refine τ4 rfl ?_|refine ⟨rfl,?_⟩|apply τa|refine τb rfl ?_|refine ⟨⟨by kernel_rfl,by kernel_rfl⟩,?_⟩|refine ⟨by decide,?_⟩|apply τt|apply τf))
                          cases hq : decide ((L.getD k rul0).conds = (nor (p.rules.getD i rul0)).conds) with
                          | true =>
                            rw [hq] at hsm hid
                            refine ⟨_, pure_yesT rfl rfl rfl rfl rfl hsm ⟨AVle.refl _, AVle.refl _, trivial⟩ (NoId.v _), ?_⟩
                            (repeat((conv=>whnf);first|apply ω0|apply ω1|apply ω2|refine τ3 rfl ?_|refine τ4 rfl ?_|refine ⟨rfl,?_⟩|apply τa|refine τb rfl ?_|refine ⟨⟨by kernel_rfl,by kernel_rfl⟩,?_⟩|refine ⟨by decide,?_⟩|apply τt|apply τf))
                            refine splitV_eq (b := .v (.bool true)) rfl ?_
                            (repeat((conv=>whnf);first|apply ω0|apply ω1|apply ω2|refine τ3 rfl ?_|refine τ4 rfl ?_|refine ⟨rfl,?_⟩|apply τa|refine τb rfl ?_|refine ⟨⟨by kernel_rfl,by kernel_rfl⟩,?_⟩|refine ⟨by decide,?_⟩|apply τt|apply τf))
                            refine ⟨_, pure_yes rfl rfl rfl rfl (by first | trivial | exact ⟨rfl, Nat.le_of_ble_eq_true rfl⟩ | exact ⟨by first | omega | (dsimp only; omega), by first | omega | (dsimp only; omega)⟩), ?_⟩
                            (repeat((conv=>whnf);first|apply ω0|apply ω1|apply ω2|refine τ3 rfl ?_|refine τ4 rfl ?_|refine ⟨rfl,?_⟩|apply τa|refine τb rfl ?_|refine ⟨⟨by kernel_rfl,by kernel_rfl⟩,?_⟩|refine ⟨by decide,?_⟩|apply τt|apply τf))
                            exact back (k + 1, false, nx5) ⟨hk, by dsimp only; rw [hnx, hid]; rfl⟩ (by dsimp only; omega) (ele_tell _ _ rfl rfl (List.Sublist.refl _) (List.Sublist.refl _) (BxLe.refl _) (PmEq.refl _) ⟨AVle.refl _, AVle.refl _, AVle.refl _, AVle.refl _, AVle.refl _, AVle.refl _, AVle.refl _, AVle.refl _, AVle.refl _, le_int (wrap_succ (by first | omega | (dsimp only; omega))), trivial⟩)
                          | false =>
                            rw [hq] at hsm hid
                            refine ⟨_, pure_yesT rfl rfl rfl rfl rfl hsm ⟨AVle.refl _, AVle.refl _, trivial⟩ (NoId.v _), ?_⟩
                            (repeat((conv=>whnf);first|apply ω0|apply ω1|apply ω2|refine τ3 rfl ?_|refine τ4 rfl ?_|refine ⟨rfl,?_⟩|apply τa|refine τb rfl ?_|refine ⟨⟨by kernel_rfl,by kernel_rfl⟩,?_⟩|refine ⟨by decide,?_⟩|apply τt|apply τf))
                            refine splitV_eq (b := .v (.bool false)) rfl ?_
                            (repeat((conv=>whnf);first|apply ω0|apply ω1|apply ω2|refine τ3 rfl ?_|refine τ4 rfl ?_|refine ⟨rfl,?_⟩|apply τa|refine τb rfl ?_|refine ⟨⟨by kernel_rfl,by kernel_rfl⟩,?_⟩|refine ⟨by decide,?_⟩|apply τt|apply τf))
                            refine ⟨_, pure_yes rfl rfl rfl rfl (by first | trivial | exact ⟨rfl, Nat.le_of_ble_eq_true rfl⟩ | exact ⟨by first | omega | (dsimp only; omega), by first | omega | (dsimp only; omega)⟩), ?_⟩
                            (repeat((conv=>whnf);first|apply ω0|apply ω1|apply ω2|refine τ3 rfl ?_|refine τ4 rfl ?_|refine ⟨rfl,?_⟩|apply τa|refine τb rfl ?_|refine ⟨⟨by kernel_rfl,by kernel_rfl⟩,?_⟩|refine ⟨by decide,?_⟩|apply τt|apply τf))
                            exact back (k + 1, true, nx5) ⟨hk, by dsimp only; rw [hnx, hid]; rfl⟩ (by dsimp only; omega) (ele_tell _ _ rfl rfl (List.Sublist.refl _) (List.Sublist.refl _) (BxLe.refl _) (PmEq.refl _) ⟨AVle.refl _, AVle.refl _, AVle.refl _, AVle.refl _, AVle.refl _, AVle.refl _, AVle.refl _, AVle.refl _, AVle.refl _, le_int (wrap_succ (by first | omega | (dsimp only; omega))), trivial⟩)
                · rintro ⟨b, nx5⟩ hb
                  dsimp only at hb
                  have hadd := isN_add (r := p.rules.getD i rul0) (L := L)
                  rw [← hb] at hadd
                  rw [hadd] at hnext
                  clear hadd
                  cases b with
                  | false =>
                    (repeat((conv=>whnf);first|apply ω0|apply ω1|apply ω2|refine τ3 rfl ?_|refine τ4 rfl ?_|refine ⟨rfl,?_⟩|apply τa|refine τb rfl ?_|refine ⟨⟨by kernel_rfl,by kernel_rfl⟩,?_⟩|refine ⟨by decide,?_⟩|apply τt|apply τf))
                    exact back (i + 1, D'.set i true, L, li, nx5) ⟨hi, by dsimp only; rw [List.length_set]; exact k2, hset, hnext.symm, k5⟩ (by dsimp only; omega) (ele_tell (bx := rpB nx p (D'.set i true) R oi) _ _ rfl rfl (.cons _ (List.Sublist.refl _)) (List.Sublist.refl _) (BxLe.refl _) (PmEq.refl _) ⟨AVle.refl _, AVle.refl _, AVle.refl _, AVle.refl _, AVle.refl _, AVle.refl _, le_int (wrap_succ (by first | omega | (dsimp only; omega))), trivial⟩)
                  | true =>
                    (repeat((conv=>whnf);first|apply ω0|apply ω2|refine τ3 rfl ?_|refine τ4 rfl ?_|refine ⟨rfl,?_⟩|apply τa|refine τb rfl ?_|refine ⟨⟨by kernel_rfl,by kernel_rfl⟩,?_⟩|refine ⟨by decide,?_⟩|apply τt|apply τf))
                    refine aw_region ?_
                    (repeat((conv=>whnf);first|apply ω0|apply ω2|refine τ3 rfl ?_|refine τ4 rfl ?_|refine ⟨rfl,?_⟩|apply τa|refine τb rfl ?_|refine ⟨⟨by kernel_rfl,by kernel_rfl⟩,?_⟩|refine ⟨by decide,?_⟩|apply τt|apply τf))
                    refine aw_regionY (fun i => match i with | 1 => true | _ => false) 5 ?_
                    (repeat((conv=>whnf);first|apply ω0|apply ω1|apply ω2|refine τ3 rfl ?_|refine τ4 rfl ?_|refine ⟨rfl,?_⟩|apply τa|refine τb rfl ?_|refine ⟨⟨by kernel_rfl,by kernel_rfl⟩,?_⟩|refine ⟨by decide,?_⟩|apply τt|apply τf))
                    rcases li with _ | l1
                    · obtain rfl := k5 rfl
                      refine AOp.any (aop_append (e := 65) (n := 0) (oi := none) (sz := 4) (f := rulF []) (m := 1) (szx := 4) rfl rfl (.inr ⟨_, rfl⟩) Tryz.underlying24 gr_r14 (.inl ⟨rfl, rfl⟩) (.inr gc_r14.symm) (fun i h => by cases h) (oneRow_one rfl) (fun _ => by rw [gb_r14]; omega) (fun _ => by omega) (fun hm => absurd hm (by decide)) (fun hm => ?_))
                      (repeat((conv=>whnf);first|apply ω0|apply ω1|apply ω2|refine τ3 rfl ?_|refine τ4 rfl ?_|refine ⟨rfl,?_⟩|apply τa|refine τb rfl ?_|refine ⟨⟨by kernel_rfl,by kernel_rfl⟩,?_⟩|refine ⟨by decide,?_⟩|apply τt|apply τf))
                      exact back (i + 1, D'.set i true, [nor (p.rules.getD i rul0)], some nx5, nx5 + 1) ⟨hi, by dsimp only; rw [List.length_set]; exact k2, hset, hnext.symm, (fun h => by cases h)⟩ (by dsimp only; omega) (ele_tell (pm := ((1, nx5), [nor (p.rules.getD i rul0)].length * 4) :: pmOf (nmd oi) (R.length * 4)) (bx := rpB nx p (D'.set i true) R oi) _ _ rfl rfl (.cons _ (List.Sublist.refl _)) (List.Sublist.refl _) (BxLe.refl _) ⟨rfl, show (0 + 1) * Tryz.prog.cellsOf 65 = 1 * 4 by rw [gc_r14], PmEq.refl _⟩ ⟨AVle.refl _, AVle.refl _, AVle.refl _, AVle.refl _, AVle.refl _, le_catR (L := []), le_int (wrap_succ (by first | omega | (dsimp only; omega))), trivial⟩)
                    · refine AOp.any (aop_append (e := 65) (n := L.length) (oi := some (1, l1)) (sz := 4) (f := rulF L) (m := 1) (szx := 4) rfl rfl (.inr ⟨_, rfl⟩) Tryz.underlying24 gr_r14 (.inr gc_r14.symm) (.inr gc_r14.symm) (fun i h => by cases h; rw [gc_r14]; rfl) (oneRow_one rfl) (fun _ => by rw [gb_r14]; omega) (fun _ => by omega) (fun hm => absurd hm (by decide)) (fun hm => ?_))
                      (repeat((conv=>whnf);first|apply ω0|apply ω1|apply ω2|refine τ3 rfl ?_|refine τ4 rfl ?_|refine ⟨rfl,?_⟩|apply τa|refine τb rfl ?_|refine ⟨⟨by kernel_rfl,by kernel_rfl⟩,?_⟩|refine ⟨by decide,?_⟩|apply τt|apply τf))
                      exact back (i + 1, D'.set i true, L ++ [nor (p.rules.getD i rul0)], some nx5, nx5 + 1) ⟨hi, by dsimp only; rw [List.length_set]; exact k2, hset, hnext.symm, (fun h => by cases h)⟩ (by dsimp only; omega) (ele_tell (pm := ((1, nx5), (L ++ [nor (p.rules.getD i rul0)]).length * 4) :: pmOf (nmd oi) (R.length * 4)) (bx := rpB nx p (D'.set i true) R oi) _ _ rfl rfl (.cons _ (List.Sublist.refl _)) (List.Sublist.refl _) (BxLe.refl _) ⟨rfl, show (L.length + 1) * Tryz.prog.cellsOf 65 = (L ++ [nor (p.rules.getD i rul0)]).length * 4 by rw [gc_r14]; simp, PmEq.refl _⟩ ⟨AVle.refl _, AVle.refl _, AVle.refl _, AVle.refl _, AVle.refl _, le_catR, le_int (wrap_succ (by first | omega | (dsimp only; omega))), trivial⟩)
              · have hk1 : keyB (p.rules.getD i rul0).name (p.rules.getD a rul0).name = false := by simpa using hk.symm
                rw [keyB_comm, hk1, if_neg (by decide), ← k4] at hnext
                (repeat((conv=>whnf);first|apply ω0|apply ω1|apply ω2|refine τ3 rfl ?_|refine τ4 rfl ?_|refine ⟨rfl,?_⟩|apply τa|refine τb rfl ?_|refine ⟨⟨by kernel_rfl,by kernel_rfl⟩,?_⟩|refine ⟨by decide,?_⟩|apply τt|apply τf))
                exact back (i + 1, D', L, li, nx3) ⟨hi, k2, done_keep k3 hk1, hnext.symm, k5⟩ (by dsimp only; omega) (ele_tell _ _ rfl rfl (List.Sublist.refl _) (List.Sublist.refl _) (BxLe.refl _) (PmEq.refl _) ⟨AVle.refl _, AVle.refl _, AVle.refl _, AVle.refl _, AVle.refl _, AVle.refl _, le_int (wrap_succ (by first | omega | (dsimp only; omega))), trivial⟩)
        · rintro ⟨D', L, li, nx3⟩ ⟨k2, k3, k4, k5⟩
          dsimp only at k2 k3 k4 k5
          have hI := ref_next h1 ha hDa hmin k2 k3
          have hna : ¬ nmL (p.rules.getD a rul0) ∈ N := by
            have := h1.done a ha
            rw [hDa] at this
            exact of_decide_eq_false this.symm
          have hmem : p.rules.getD a rul0 ∈ p.rules := by simp [List.getD, ha]
          have hun := undone_lt hmem hna
          have hLl : L.length ≤ p.rules.length := by rw [k4]; have := gOf_len (s := (p.rules.getD a rul0).name) (i := p.rules.length) (rs := p.rules) (Nat.le_refl _); rwa [List.take_length] at this
          have hNl : N.length * p.rules.length ≤ 500 * 500 := Nat.mul_le_mul (by omega) hl
          have hout := out_snoc (d := p.dflt) (rs := p.rules) (N := N) (r := p.rules.getD a rul0)
          rw [← h2, ← k4] at hout
          refine AW.le (E' := mk 147 [(1, .bp (0, nx) 0), (2, .bp (1, nx + 1) 0), (3, .bp (2, nx + 2) 0), (4, .hs (3, nx + 3) 0 p.rules.length p.rules.length), (8, .sl 4 L.length (rulF L))] ⟨rpB nx p D' R oi, pmOf (nmd oi) (R.length * 4), nx3, 4⟩) (ele_tell _ _ rfl rfl (List.Sublist.refl _) (List.sublist_append_right _ _) (BxLe.refl _) (PmEq.refl _) ⟨AVle.refl _, AVle.refl _, AVle.refl _, AVle.refl _, AVle.os_sl, trivial⟩) ?_
          (repeat((conv=>whnf);first|apply ω0|apply ω1|apply ω2|refine τ3 rfl ?_|refine τ4 rfl ?_|refine ⟨rfl,?_⟩|apply τa|refine τb rfl ?_|refine ⟨⟨by kernel_rfl,by kernel_rfl⟩,?_⟩|refine ⟨by decide,?_⟩|apply τt|apply τf))
          refine aw_midB (fun y : Nat × Nat => mk 147 [(1, .bp (0, nx) 0), (2, .bp (1, nx + 1) 0), (3, .bp (2, nx + 2) 0), (4, .hs (3, nx + 3) 0 p.rules.length p.rules.length), (8, .sl 4 y.1 (rulF L))] ⟨rpB nx p D' R oi, pmOf (nmd oi) (R.length * 4), y.2, 4⟩) (fun y => y.1 ≤ L.length ∧ cutL p.dflt L = L.take y.1) ?_ ?_
          · refine aw_loop (fun y : Nat × Nat => mk 147 [(1, .bp (0, nx) 0), (2, .bp (1, nx + 1) 0), (3, .bp (2, nx + 2) 0), (4, .hs (3, nx + 3) 0 p.rules.length p.rules.length), (8, .sl 4 y.1 (rulF L))] ⟨rpB nx p D' R oi, pmOf (nmd oi) (R.length * 4), nx3, 4⟩) (fun y => y.1 ≤ L.length ∧ cutL p.dflt L = cutL p.dflt (L.take y.1)) (fun y => y.1) ?_ ?_
            · exact ⟨(L.length, 0), ⟨Nat.le_refl _, by rw [List.take_length]⟩, ele_tell _ _ rfl rfl (List.Sublist.refl _) (List.Sublist.refl _) (BxLe.refl _) (PmEq.refl _) ⟨AVle.refl _, AVle.refl _, AVle.refl _, AVle.refl _, AVle.refl _, trivial⟩⟩
            · rintro ⟨m, zz⟩ ⟨hml, hcut⟩
              dsimp only at hml hcut
              by_cases hm0 : 0 < m
              · have hd : decide ((m : Int) > 0) = true := decide_eq_true (by omega)
                have hm1 : IntKind.i64.wrap ((m : Int) - 1) = ((m - 1 : Nat) : Int) := by rw [wrap_id (by omega) (by omega)]; omega
                rw [take_last hm0 hml, cutL_snoc] at hcut
                (repeat((conv=>whnf);first|apply ω0|apply ω1|apply ω2|refine τ3 rfl ?_|refine τ4 rfl ?_|refine ⟨rfl,?_⟩|apply τa|refine τb rfl ?_|refine ⟨⟨by kernel_rfl,by kernel_rfl⟩,?_⟩|refine ⟨by decide,?_⟩|apply τt|apply τf))
                (refine aw_draw 15 ?_ ?_ ?_ ?_; (· kernel_rfl); (· kernel_rfl); (· kernel_rfl))
                (repeat((conv=>whnf);first|apply ω0|apply ω1|apply ω2|refine τ3 rfl ?_|refine τ4 rfl ?_|refine ⟨rfl,?_⟩|apply τa|refine τb rfl ?_|refine ⟨⟨by kernel_rfl,by kernel_rfl⟩,?_⟩|refine ⟨by decide,?_⟩|apply τt|apply τf))
                (conv => whnf)
                refine lit_eq hd ?_
                (repeat((conv=>whnf);first|apply ω0|apply ω1|apply ω2|refine τ3 rfl ?_|refine τ4 rfl ?_|refine ⟨rfl,?_⟩|apply τa|refine τb rfl ?_|refine ⟨⟨by kernel_rfl,by kernel_rfl⟩,?_⟩|refine ⟨by decide,?_⟩|apply τt|apply τf))
                refine ⟨⟨ixge (i := m - 1) hm1, ixlt (i := m - 1) hm1 (by omega)⟩, splitO_eq (b := .rp (rulA (L.getD (m - 1) rul0)).cells) (congrArg (fun z : Int => AV.rp (rulF L z.toNat).cells) hm1) ?_⟩
                (repeat((conv=>whnf);first|apply ω0|apply ω1|apply ω2|refine τ3 rfl ?_|refine τ4 rfl ?_|refine ⟨rfl,?_⟩|apply τa|refine τb rfl ?_|refine ⟨⟨by kernel_rfl,by kernel_rfl⟩,?_⟩|refine ⟨by decide,?_⟩|apply τt|apply τf))
                intro c hc
                have hc2 : c = decide ((L.getD (m - 1) rul0).act = p.dflt) := hc.trans act_eqb
                clear hc
                cases c
                · have hne : ¬ (L.getD (m - 1) rul0).act = p.dflt := of_decide_eq_false hc2.symm
                  rw [if_neg hne, ← take_last hm0 hml] at hcut
                  clear hc2
                  (repeat((conv=>whnf);first|apply ω0|apply ω1|apply ω2|refine τ3 rfl ?_|refine τ4 rfl ?_|refine ⟨rfl,?_⟩|apply τa|refine τb rfl ?_|refine ⟨⟨by kernel_rfl,by kernel_rfl⟩,?_⟩|refine ⟨by decide,?_⟩|apply τt|apply τf))
                  exact ⟨(m, nx3), ⟨hml, hcut⟩, ele_tell _ _ rfl rfl (List.Sublist.refl _) (List.Sublist.refl _) (BxLe.refl _) (PmEq.refl _) ⟨AVle.refl _, AVle.refl _, AVle.refl _, AVle.refl _, AVle.refl _, trivial⟩⟩
                · have heq : (L.getD (m - 1) rul0).act = p.dflt := of_decide_eq_true hc2.symm
                  rw [if_pos heq] at hcut
                  clear hc2
                  (repeat((conv=>whnf);first|apply ω0|apply ω1|apply ω2|refine τ3 rfl ?_|refine τ4 rfl ?_|refine ⟨rfl,?_⟩|apply τa|refine τb rfl ?_|refine ⟨⟨by kernel_rfl,by kernel_rfl⟩,?_⟩|refine ⟨by decide,?_⟩|apply τt|apply τf))
                  refine ⟨⟨ixge (i := m - 1) hm1, Int.le_of_lt (ixlt (i := m - 1) hm1 (by omega))⟩, ?_⟩
                  (repeat((conv=>whnf);first|apply ω0|apply ω1|apply ω2|refine τ3 rfl ?_|refine τ4 rfl ?_|refine ⟨rfl,?_⟩|apply τa|refine τb rfl ?_|refine ⟨⟨by kernel_rfl,by kernel_rfl⟩,?_⟩|refine ⟨by decide,?_⟩|apply τt|apply τf))
                  exact back (m - 1, 0) ⟨by dsimp only; omega, hcut⟩ (by dsimp only; omega) (ele_tell _ _ rfl rfl (List.Sublist.refl _) (List.Sublist.refl _) (BxLe.refl _) (PmEq.refl _) ⟨AVle.refl _, AVle.refl _, AVle.refl _, AVle.refl _, AVle.of_eq (congrArg (fun z : Int => AV.sl 4 z.toNat (rulF L)) hm1), trivial⟩)
              · have hd : decide ((m : Int) > 0) = false := decide_eq_false (by omega)
                have hm00 : m = 0 := by omega
                have hct : cutL p.dflt L = L.take m := by rw [hcut, hm00]; rfl
                (repeat((conv=>whnf);first|apply ω0|apply ω1|apply ω2|refine τ3 rfl ?_|refine τ4 rfl ?_|refine ⟨rfl,?_⟩|apply τa|refine τb rfl ?_|refine ⟨⟨by kernel_rfl,by kernel_rfl⟩,?_⟩|refine ⟨by decide,?_⟩|apply τt|apply τf))
                (refine aw_draw 15 ?_ ?_ ?_ ?_; (· kernel_rfl); (· kernel_rfl); (· kernel_rfl))
                (repeat((conv=>whnf);first|apply ω0|apply ω1|apply ω2|refine τ3 rfl ?_|refine τ4 rfl ?_|refine ⟨rfl,?_⟩|apply τa|refine τb rfl ?_|refine ⟨⟨by kernel_rfl,by kernel_rfl⟩,?_⟩|refine ⟨by decide,?_⟩|apply τt|apply τf))
                (conv => whnf)
                refine lit_eq hd ?_
                (repeat((conv=>whnf);first|apply ω0|apply ω1|apply ω2|refine τ3 rfl ?_|refine τ4 rfl ?_|refine ⟨rfl,?_⟩|apply τa|refine τb rfl ?_|refine ⟨⟨by kernel_rfl,by kernel_rfl⟩,?_⟩|refine ⟨by decide,?_⟩|apply τt|apply τf))
                exact ⟨(m, nx3), ⟨hml, hct⟩, ele_tell _ _ rfl rfl (List.Sublist.refl _) (List.Sublist.refl _) (BxLe.refl _) (PmEq.refl _) ⟨AVle.refl _, AVle.refl _, AVle.refl _, AVle.refl _, AVle.refl _, trivial⟩⟩
          · rintro ⟨m, nx6⟩ ⟨hml, hct⟩
            dsimp only at hml hct
            rw [hct] at hout
            (repeat((conv=>whnf);first|apply ω0|apply ω2|refine τ3 rfl ?_|refine τ4 rfl ?_|refine ⟨rfl,?_⟩|apply τa|refine τb rfl ?_|refine ⟨⟨by kernel_rfl,by kernel_rfl⟩,?_⟩|refine ⟨by decide,?_⟩|apply τt|apply τf))
            refine aw_regionY (fun i => match i with | 0 => true | _ => false) 4 ?_
            (repeat((conv=>whnf);first|apply ω0|apply ω1|apply ω2|refine τ3 rfl ?_|refine τ4 rfl ?_|refine ⟨rfl,?_⟩|apply τa|refine τb rfl ?_|refine ⟨⟨by kernel_rfl,by kernel_rfl⟩,?_⟩|refine ⟨by decide,?_⟩|apply τt|apply τf))
            rcases oi with _ | o1
            · have hR0 := h3 rfl
              subst hR0
              refine AOp.any (aop_append (e := 65) (n := 0) (oi := none) (sz := 4) (f := rulF []) (m := m) (szx := 4) (f' := rulF L) rfl rfl (.inl rfl) Tryz.underlying24 gr_r14 (.inl ⟨rfl, rfl⟩) (.inr gc_r14.symm) (fun i h => by cases h) (fun k _ => one_rul _) (fun _ => by rw [gb_r14]; omega) (fun _ => by omega) (fun hm => ?_) (fun hm => ?_))
              · subst hm
                (repeat((conv=>whnf);first|apply ω0|apply ω1|apply ω2|refine τ3 rfl ?_|refine τ4 rfl ?_|refine ⟨rfl,?_⟩|apply τa|refine τb rfl ?_|refine ⟨⟨by kernel_rfl,by kernel_rfl⟩,?_⟩|refine ⟨by decide,?_⟩|apply τt|apply τf))
                exact back (N ++ [nmL (p.rules.getD a rul0)], D', [], none, nx6) ⟨hI, by dsimp only; rw [hout]; rfl, fun _ => rfl, by dsimp only; rw [List.length_append, List.length_singleton]; omega⟩ hun (ele_tell (pm := []) (bx := rpB nx p D' [] none) _ _ rfl rfl (List.Sublist.refl _) (List.Sublist.refl _) (BxLe.refl _) trivial ⟨AVle.refl _, AVle.refl _, AVle.refl _, AVle.refl _, trivial⟩)
              · (repeat((conv=>whnf);first|apply ω0|apply ω1|apply ω2|refine τ3 rfl ?_|refine τ4 rfl ?_|refine ⟨rfl,?_⟩|apply τa|refine τb rfl ?_|refine ⟨⟨by kernel_rfl,by kernel_rfl⟩,?_⟩|refine ⟨by decide,?_⟩|apply τt|apply τf))
                exact back (N ++ [nmL (p.rules.getD a rul0)], D', L.take m, some nx6, nx6 + 1) ⟨hI, by dsimp only; rw [hout]; rfl, (fun h => by cases h), by dsimp only; rw [List.length_append, List.length_singleton]; omega⟩ hun (ele_tell (pm := [((0, nx6), (L.take m).length * 4)]) (bx := rpB nx p D' (L.take m) (some nx6)) _ _ rfl rfl (List.Sublist.refl _) (List.Sublist.refl _) ⟨rfl, OwnLe.refl _, rfl, ⟨AVle.refl _, AVle.refl _, AVle.refl _, le_catL (R := []) hml rfl, trivial⟩, BxLe.refl _⟩ ⟨rfl, show (0 + m) * Tryz.prog.cellsOf 65 = (L.take m).length * 4 by rw [gc_r14, List.length_take]; omega, trivial⟩ ⟨AVle.refl _, AVle.refl _, AVle.refl _, AVle.refl _, trivial⟩)
            · refine AOp.any (aop_append (e := 65) (n := R.length) (oi := some (0, o1)) (sz := 4) (f := rulF R) (m := m) (szx := 4) (f' := rulF L) rfl rfl (.inl rfl) Tryz.underlying24 gr_r14 (.inr gc_r14.symm) (.inr gc_r14.symm) (fun i h => by cases h; rw [gc_r14]; rfl) (fun k _ => one_rul _) (fun _ => by rw [gb_r14]; omega) (fun _ => by omega) (fun hm => ?_) (fun hm => ?_))
              · subst hm
                (repeat((conv=>whnf);first|apply ω0|apply ω1|apply ω2|refine τ3 rfl ?_|refine τ4 rfl ?_|refine ⟨rfl,?_⟩|apply τa|refine τb rfl ?_|refine ⟨⟨by kernel_rfl,by kernel_rfl⟩,?_⟩|refine ⟨by decide,?_⟩|apply τt|apply τf))
                exact back (N ++ [nmL (p.rules.getD a rul0)], D', R, some o1, nx6) ⟨hI, by dsimp only; rw [hout]; exact (List.append_nil _).symm, (fun h => by cases h), by dsimp only; rw [List.length_append, List.length_singleton]; omega⟩ hun (ele_tell (pm := pmOf (nmd (some o1)) (R.length * 4)) (bx := rpB nx p D' R (some o1)) _ _ rfl rfl (List.Sublist.refl _) (List.Sublist.refl _) (BxLe.refl _) (PmEq.refl _) ⟨AVle.refl _, AVle.refl _, AVle.refl _, AVle.refl _, trivial⟩)
              · (repeat((conv=>whnf);first|apply ω0|apply ω1|apply ω2|refine τ3 rfl ?_|refine τ4 rfl ?_|refine ⟨rfl,?_⟩|apply τa|refine τb rfl ?_|refine ⟨⟨by kernel_rfl,by kernel_rfl⟩,?_⟩|refine ⟨by decide,?_⟩|apply τt|apply τf))
                exact back (N ++ [nmL (p.rules.getD a rul0)], D', R ++ L.take m, some nx6, nx6 + 1) ⟨hI, hout.symm, (fun h => by cases h), by dsimp only; rw [List.length_append, List.length_singleton]; omega⟩ hun (ele_tell (pm := [((0, nx6), (R ++ L.take m).length * 4)]) (bx := rpB nx p D' (R ++ L.take m) (some nx6)) _ _ rfl rfl (List.Sublist.refl _) (List.Sublist.refl _) ⟨rfl, OwnLe.refl _, rfl, ⟨AVle.refl _, AVle.refl _, AVle.refl _, le_catL hml rfl, trivial⟩, BxLe.refl _⟩ ⟨rfl, show (R.length + m) * Tryz.prog.cellsOf 65 = (R ++ L.take m).length * 4 by rw [gc_r14, List.length_append, List.length_take]; omega, trivial⟩ ⟨AVle.refl _, AVle.refl _, AVle.refl _, AVle.refl _, trivial⟩)
end Go.Proofs.W

namespace Go.Proofs.W
open Go.Vl
set_option maxRecDepth 100000

theorem noid_rul16 (r : Rul) : NoId (rulA r) := noid_rul r
theorem noid_pol16 (p : Pol) : NoId (polA p) := NoId.ag (by
  intro y hy
  simp only [List.mem_cons, List.not_mem_nil, or_false] at hy
  rcases hy with rfl | rfl | rfl | rfl
  · exact NoId.v _
  · exact NoId.v _
  · exact NoId.v _
  · refine NoId.sl fun i hi c hc => ?_
    have hc : c ∈ (rulA (p.rules.getD i rul0)).cells := hc
    unfold rulA AV.cells at hc
    simp only [List.mem_cons, List.not_mem_nil, or_false] at hc
    rcases hc with rfl | rfl | rfl | rfl
    · exact NoId.v _
    · exact NoId.v _
    · exact NoId.v _
    · refine NoId.sl fun i hi c hc => ?_
      simp only [cndA, AV.cells, List.mem_cons, List.not_mem_nil, or_false] at hc
      rcases hc with rfl | rfl | rfl | rfl <;> exact NoId.v _)
def pol1 (r : Rul) : Pol := ⟨(0, 0), false, [r]⟩
theorem le_pol1 {r : Rul} {f : Nat → AV} {oi : Option Vl.Id} (h : f 0 = rulA r) : AVle (.ag [int 0, int 0, boolA false, .os 4 1 f oi]) (polA (pol1 r)) :=
  AVle.ags (cs := [_, _, _, _]) ⟨AVle.refl _, AVle.refl _, AVle.refl _, AVle.os_sl.trans (AVle.sl_fun fun k hk => by obtain rfl : k = 0 := by omega
                                                                                                                     exact h), trivial⟩
set_option maxHeartbeats 4000000 in
theorem normpolicies_law (p : Pol) (hp : p.ok) : Tells Tryz.prog 7 [polA p] (boolA true) := by
  have hli := light_l16 p hp.1
  refine tells_of_aw Tryz.func7 rfl rfl fun nx => ?_
  cases hb : lightP p with
  | false =>
    rw [hb] at hli
    (repeat((conv=>whnf);first|apply ω0|apply ω1|apply ω2|refine τ3 rfl ?_|refine τ4 rfl ?_|refine ⟨rfl,?_⟩|apply τa|refine τb rfl ?_|refine ⟨⟨by kernel_rfl,by kernel_rfl⟩,?_⟩|refine ⟨by decide,?_⟩|apply τt|apply τf))
    refine splitO_eq (b := polA p) rfl ?_
    (repeat((conv=>whnf);first|apply ω0|apply ω1|apply ω2|refine τ3 rfl ?_|refine τ4 rfl ?_|refine ⟨rfl,?_⟩|apply τa|refine τb rfl ?_|refine ⟨⟨by kernel_rfl,by kernel_rfl⟩,?_⟩|refine ⟨by decide,?_⟩|apply τt|apply τf))
    refine aop_tells rfl rfl hli ⟨AVle.refl _, trivial⟩ fun nx2 => ?_
    (repeat((conv=>whnf);first|apply ω0|apply ω1|apply ω2|refine τ3 rfl ?_|refine τ4 rfl ?_|refine ⟨rfl,?_⟩|apply τa|refine τb rfl ?_|refine ⟨⟨by kernel_rfl,by kernel_rfl⟩,?_⟩|refine ⟨by decide,?_⟩|apply τt|apply τf))
    exact ret_tells rfl (AVle.refl _)
  | true =>
    rw [hb] at hli
    obtain ⟨hl, hc⟩ := lightP_lens hb
    have hof := pol_l16 p (by omega) (fun r hr => by have := (hc r hr).2; omega)
    have h16 := policy16_spec p hp
    have h14 := right14_spec p
    cases hr : rightP p with
    | false =>
      have e : normA p = .tup [polA pol0, int 13] := by unfold normA; rw [hr]; rfl
      rw [e] at h16
      rw [hr] at h14
      have hsm := same_spec14 pol0 pol0 (Nat.zero_le _) (fun r hr => by cases hr)
      rw [sameP_self] at hsm
      (repeat((conv=>whnf);first|apply ω0|apply ω1|apply ω2|refine τ3 rfl ?_|refine τ4 rfl ?_|refine ⟨rfl,?_⟩|apply τa|refine τb rfl ?_|refine ⟨⟨by kernel_rfl,by kernel_rfl⟩,?_⟩|refine ⟨by decide,?_⟩|apply τt|apply τf))
      refine splitO_eq (b := polA p) rfl ?_
      (repeat((conv=>whnf);first|apply ω0|apply ω1|apply ω2|refine τ3 rfl ?_|refine τ4 rfl ?_|refine ⟨rfl,?_⟩|apply τa|refine τb rfl ?_|refine ⟨⟨by kernel_rfl,by kernel_rfl⟩,?_⟩|refine ⟨by decide,?_⟩|apply τt|apply τf))
      refine aop_tells rfl rfl hli ⟨AVle.refl _, trivial⟩ fun nx2 => ?_
      (repeat((conv=>whnf);first|apply ω0|apply ω1|apply ω2|refine τ3 rfl ?_|refine τ4 rfl ?_|refine ⟨rfl,?_⟩|apply τa|refine τb rfl ?_|refine ⟨⟨by kernel_rfl,by kernel_rfl⟩,?_⟩|refine ⟨by decide,?_⟩|apply τt|apply τf))
      refine splitO_eq (b := polA p) rfl ?_
      (repeat((conv=>whnf);first|apply ω0|apply ω1|apply ω2|refine τ3 rfl ?_|refine τ4 rfl ?_|refine ⟨rfl,?_⟩|apply τa|refine τb rfl ?_|refine ⟨⟨by kernel_rfl,by kernel_rfl⟩,?_⟩|refine ⟨by decide,?_⟩|apply τt|apply τf))
      refine aop_tells rfl rfl hof ⟨AVle.refl _, trivial⟩ fun nx3 => ?_
      (repeat((conv=>whnf);first|apply ω0|apply ω1|apply ω2|refine τ3 rfl ?_|refine τ4 rfl ?_|refine ⟨rfl,?_⟩|apply τa|refine τb rfl ?_|refine ⟨⟨by kernel_rfl,by kernel_rfl⟩,?_⟩|refine ⟨by decide,?_⟩|apply τt|apply τf))
      refine aop_tells rfl rfl h16 ⟨AVle.refl _, trivial⟩ fun nx4 => ?_
      (repeat((conv=>whnf);first|apply ω0|apply ω1|apply ω2|refine τ3 rfl ?_|refine τ4 rfl ?_|refine ⟨rfl,?_⟩|apply τa|refine τb rfl ?_|refine ⟨⟨by kernel_rfl,by kernel_rfl⟩,?_⟩|refine ⟨by decide,?_⟩|apply τt|apply τf))
      refine splitO_eq (b := polA p) rfl ?_
      (repeat((conv=>whnf);first|apply ω0|apply ω1|apply ω2|refine τ3 rfl ?_|refine τ4 rfl ?_|refine ⟨rfl,?_⟩|apply τa|refine τb rfl ?_|refine ⟨⟨by kernel_rfl,by kernel_rfl⟩,?_⟩|refine ⟨by decide,?_⟩|apply τt|apply τf))
      refine aop_tells rfl rfl h14 ⟨AVle.refl _, trivial⟩ fun nx5 => ?_
      (repeat((conv=>whnf);first|apply ω0|apply ω1|apply ω2|refine τ3 rfl ?_|refine τ4 rfl ?_|refine ⟨rfl,?_⟩|apply τa|refine τb rfl ?_|refine ⟨⟨by kernel_rfl,by kernel_rfl⟩,?_⟩|refine ⟨by decide,?_⟩|apply τt|apply τf))
      refine aop_tells rfl rfl hsm ⟨AVle.refl _, AVle.ags (cs := [_, _, _, _]) ⟨AVle.refl _, AVle.refl _, AVle.refl _, AVle.os_sl0, trivial⟩, trivial⟩ fun nx6 => ?_
      intro c hc
      have hc2 : c = true := hc
      clear hc; subst hc2
      (repeat((conv=>whnf);first|apply ω0|apply ω1|apply ω2|refine τ3 rfl ?_|refine τ4 rfl ?_|refine ⟨rfl,?_⟩|apply τa|refine τb rfl ?_|refine ⟨⟨by kernel_rfl,by kernel_rfl⟩,?_⟩|refine ⟨by decide,?_⟩|apply τt|apply τf))
      refine aop_tells rfl rfl awake16_spec trivial fun nx8 => ?_
      intro c hc
      have hc2 : c = true := hc
      clear hc; subst hc2
      (repeat((conv=>whnf);first|apply ω0|apply ω1|apply ω2|refine τ3 rfl ?_|refine τ4 rfl ?_|refine ⟨rfl,?_⟩|apply τa|refine τb rfl ?_|refine ⟨⟨by kernel_rfl,by kernel_rfl⟩,?_⟩|refine ⟨by decide,?_⟩|apply τt|apply τf))
      exact ret_tells rfl (AVle.refl _)
    | true =>
      have e : normA p = .tup [polA (normP p), int 0] := by unfold normA; rw [hr]; rfl
      have hrp := refpolicy16_spec p hp hr
      have hnl := norm_len (p := p)
      have hncl := fun r h => norm_cl (p := p) (k := 12) (fun r hr => (hc r hr).2) r h
      have hofn := pol_l16 (normP p) (by omega) (fun r hr => by have := hncl r hr; omega)
      have hsm := same_spec14 (normP p) (normP p) (by omega) (fun r hr => by have := hncl r hr; omega)
      rw [sameP_self] at hsm
      have hrt := rightP_conds2 hr
      rw [e] at h16
      rw [hr] at h14
      clear e hnl hncl
      generalize normP p = n at *
      (repeat((conv=>whnf);first|apply ω0|apply ω1|apply ω2|refine τ3 rfl ?_|refine τ4 rfl ?_|refine ⟨rfl,?_⟩|apply τa|refine τb rfl ?_|refine ⟨⟨by kernel_rfl,by kernel_rfl⟩,?_⟩|refine ⟨by decide,?_⟩|apply τt|apply τf))
      refine splitO_eq (b := polA p) rfl ?_
      (repeat((conv=>whnf);first|apply ω0|apply ω1|apply ω2|refine τ3 rfl ?_|refine τ4 rfl ?_|refine ⟨rfl,?_⟩|apply τa|refine τb rfl ?_|refine ⟨⟨by kernel_rfl,by kernel_rfl⟩,?_⟩|refine ⟨by decide,?_⟩|apply τt|apply τf))
      refine aop_tells rfl rfl hli ⟨AVle.refl _, trivial⟩ fun nx2 => ?_
      (repeat((conv=>whnf);first|apply ω0|apply ω1|apply ω2|refine τ3 rfl ?_|refine τ4 rfl ?_|refine ⟨rfl,?_⟩|apply τa|refine τb rfl ?_|refine ⟨⟨by kernel_rfl,by kernel_rfl⟩,?_⟩|refine ⟨by decide,?_⟩|apply τt|apply τf))
      refine splitO_eq (b := polA p) rfl ?_
      (repeat((conv=>whnf);first|apply ω0|apply ω1|apply ω2|refine τ3 rfl ?_|refine τ4 rfl ?_|refine ⟨rfl,?_⟩|apply τa|refine τb rfl ?_|refine ⟨⟨by kernel_rfl,by kernel_rfl⟩,?_⟩|refine ⟨by decide,?_⟩|apply τt|apply τf))
      refine aop_tells rfl rfl hof ⟨AVle.refl _, trivial⟩ fun nx3 => ?_
      (repeat((conv=>whnf);first|apply ω0|apply ω1|apply ω2|refine τ3 rfl ?_|refine τ4 rfl ?_|refine ⟨rfl,?_⟩|apply τa|refine τb rfl ?_|refine ⟨⟨by kernel_rfl,by kernel_rfl⟩,?_⟩|refine ⟨by decide,?_⟩|apply τt|apply τf))
      refine aop_tells rfl rfl h16 ⟨AVle.refl _, trivial⟩ fun nx4 => ?_
      (repeat((conv=>whnf);first|apply ω0|apply ω1|apply ω2|refine τ3 rfl ?_|refine τ4 rfl ?_|refine ⟨rfl,?_⟩|apply τa|refine τb rfl ?_|refine ⟨⟨by kernel_rfl,by kernel_rfl⟩,?_⟩|refine ⟨by decide,?_⟩|apply τt|apply τf))
      refine splitO_eq (b := polA p) rfl ?_
      (repeat((conv=>whnf);first|apply ω0|apply ω1|apply ω2|refine τ3 rfl ?_|refine τ4 rfl ?_|refine ⟨rfl,?_⟩|apply τa|refine τb rfl ?_|refine ⟨⟨by kernel_rfl,by kernel_rfl⟩,?_⟩|refine ⟨by decide,?_⟩|apply τt|apply τf))
      refine aop_tells rfl rfl h14 ⟨AVle.refl _, trivial⟩ fun nx5 => ?_
      (repeat((conv=>whnf);first|apply ω0|apply ω1|apply ω2|refine τ3 rfl ?_|refine τ4 rfl ?_|refine ⟨rfl,?_⟩|apply τa|refine τb rfl ?_|refine ⟨⟨by kernel_rfl,by kernel_rfl⟩,?_⟩|refine ⟨by decide,?_⟩|apply τt|apply τf))
      refine aw_midB (fun y : Nat => mk 84 [(1, .bp (0, nx) 0), (3, .bp (1, nx4) 0), (4, int 0)] ⟨[((1, nx4), .c (polC n)), ((0, nx), .c (polC p))], [], y, 2⟩) (fun _ => True) ?_ ?_
      · refine aw_loop (fun y : Nat × Nat => mk 84 [(1, .bp (0, nx) 0), (3, .bp (1, nx4) 0), (4, int 0), (5, int y.1)] ⟨[((1, nx4), .c (polC n)), ((0, nx), .c (polC p))], [], y.2, 2⟩) (fun y => y.1 ≤ p.rules.length) (fun y => p.rules.length - y.1) ?_ ?_
        · exact ⟨(0, nx5), Nat.zero_le _, ele_tell _ _ rfl rfl (List.Sublist.refl _) (List.Sublist.refl _) (BxLe.refl _) trivial ⟨AVle.refl _, AVle.refl _, AVle.refl _, AVle.refl _, trivial⟩⟩
        · rintro ⟨i, nx6⟩ k1
          dsimp only at k1
          (repeat((conv=>whnf);first|apply ω0|apply ω1|apply ω2|refine τ3 rfl ?_|refine τ4 rfl ?_|refine ⟨rfl,?_⟩|apply τa|refine τb rfl ?_|refine ⟨⟨by kernel_rfl,by kernel_rfl⟩,?_⟩|refine ⟨by decide,?_⟩|apply τt|apply τf))
          intro c g; cases c
          · have g := not_of g
            try dsimp only at g
            (repeat((conv=>whnf);first|apply ω0|apply ω1|apply ω2|refine τ3 rfl ?_|refine τ4 rfl ?_|refine ⟨rfl,?_⟩|apply τa|refine τb rfl ?_|refine ⟨⟨by kernel_rfl,by kernel_rfl⟩,?_⟩|refine ⟨by decide,?_⟩|apply τt|apply τf))
            exact ⟨nx6, trivial, ele_tell _ _ rfl rfl (List.Sublist.refl _) (List.Sublist.refl _) (BxLe.refl _) trivial ⟨AVle.refl _, AVle.refl _, AVle.refl _, trivial⟩⟩
          · have g := yes_of g
            try dsimp only at g
            have hi : i < p.rules.length := by omega
            have hmem : p.rules.getD i rul0 ∈ p.rules := by simp [List.getD, hi]
            have hcl := (hc _ hmem).2
            have hru := rule_l16 (p.rules.getD i rul0).name (p.rules.getD i rul0).act.1 (p.rules.getD i rul0).act.2 (p.rules.getD i rul0).conds (by omega)
            have hn := rule16_spec (p.rules.getD i rul0) (hp.2 _ hmem).2.2 hcl
            have hw := rref16_spec (p.rules.getD i rul0) (hp.2 _ hmem).2.2 (hrt _ hmem) (by omega)
            rw [rulOpt_nor] at hn hw
            have hncl := nor_len hcl
            have hru2 := rule_l16 (nor (p.rules.getD i rul0)).name (nor (p.rules.getD i rul0)).act.1 (nor (p.rules.getD i rul0)).act.2 (nor (p.rules.getD i rul0)).conds (by omega)
            have hs2 := same_spec14 (pol1 (nor (p.rules.getD i rul0))) (pol1 (nor (p.rules.getD i rul0))) (show 1 ≤ 1000000 by decide) (fun r hr => by rw [List.mem_singleton.1 hr]; omega)
            rw [sameP_self] at hs2
            generalize nor (p.rules.getD i rul0) = w at hn hw hru2 hs2
            generalize (normR (p.rules.getD i rul0)).isSome = b at hn hw
            cases b
            all_goals
              (repeat((conv=>whnf);first|apply ω0|apply ω1|apply ω2|refine τ3 rfl ?_|refine τ4 rfl ?_|refine ⟨rfl,?_⟩|apply τa|refine τb rfl ?_|refine ⟨⟨by kernel_rfl,by kernel_rfl⟩,?_⟩|refine ⟨by decide,?_⟩|apply τt|apply τf))
              refine ⟨⟨by first | omega | (dsimp only; omega), by first | omega | (dsimp only; omega)⟩, ?_⟩
              (repeat((conv=>whnf);first|apply ω0|apply ω1|apply ω2|refine τ3 rfl ?_|refine τ4 rfl ?_|refine ⟨rfl,?_⟩|apply τa|refine τb rfl ?_|refine ⟨⟨by kernel_rfl,by kernel_rfl⟩,?_⟩|refine ⟨by decide,?_⟩|apply τt|apply τf))
              refine aop_tells rfl rfl hru ⟨AVle.refl _, trivial⟩ fun nx7 => ?_
              (repeat((conv=>whnf);first|apply ω0|apply ω1|apply ω2|refine τ3 rfl ?_|refine τ4 rfl ?_|refine ⟨rfl,?_⟩|apply τa|refine τb rfl ?_|refine ⟨⟨by kernel_rfl,by kernel_rfl⟩,?_⟩|refine ⟨by decide,?_⟩|apply τt|apply τf))
              refine aop_tells rfl rfl hn ⟨AVle.refl _, trivial⟩ fun nx8 => ?_
              (repeat((conv=>whnf);first|apply ω0|apply ω1|apply ω2|refine τ3 rfl ?_|refine τ4 rfl ?_|refine ⟨rfl,?_⟩|apply τa|refine τb rfl ?_|refine ⟨⟨by kernel_rfl,by kernel_rfl⟩,?_⟩|refine ⟨by decide,?_⟩|apply τt|apply τf))
              refine ⟨⟨by first | omega | (dsimp only; omega), by first | omega | (dsimp only; omega)⟩, ?_⟩
              (repeat((conv=>whnf);first|apply ω0|apply ω1|apply ω2|refine τ3 rfl ?_|refine τ4 rfl ?_|refine ⟨rfl,?_⟩|apply τa|refine τb rfl ?_|refine ⟨⟨by kernel_rfl,by kernel_rfl⟩,?_⟩|refine ⟨by decide,?_⟩|apply τt|apply τf))
              refine aop_tells rfl rfl hw ⟨AVle.refl _, trivial⟩ fun nx9 => ?_
              (repeat((conv=>whnf);first|apply ω0|apply ω1|apply ω2|refine τ3 rfl ?_|refine τ4 rfl ?_|refine ⟨rfl,?_⟩|apply τa|refine τb rfl ?_|refine ⟨⟨by kernel_rfl,by kernel_rfl⟩,?_⟩|refine ⟨by decide,?_⟩|apply τt|apply τf))
              refine aw_mixN 14 _ (fun _ => false) (fun i => match i with | 2 => true | _ => false) [0, 1, 2, 3, 4, 5, 6, 7, 8, 9, 10, 11, 12, 13] (by kernel_rfl) (by kernel_rfl) (HB.refl _) ?_
              (repeat((conv=>whnf);first|apply ω0|apply ω1|apply ω2|refine τ3 rfl ?_|refine τ4 rfl ?_|refine ⟨rfl,?_⟩|apply τa|refine τb rfl ?_|refine ⟨⟨by kernel_rfl,by kernel_rfl⟩,?_⟩|refine ⟨by decide,?_⟩|apply τt|apply τf))
              refine ⟨.v (.bool false), pure_bool rfl rfl trivial rfl, ?_⟩
              (repeat((conv=>whnf);first|apply ω0|apply ω1|apply ω2|refine τ3 rfl ?_|refine τ4 rfl ?_|refine ⟨rfl,?_⟩|apply τa|refine τb rfl ?_|refine ⟨⟨by kernel_rfl,by kernel_rfl⟩,?_⟩|refine ⟨by decide,?_⟩|apply τt|apply τf))
              refine ⟨_, pure_yes rfl rfl rfl rfl (by first | trivial | exact ⟨rfl, Nat.le_of_ble_eq_true rfl⟩), ?_⟩
              (repeat((conv=>whnf);first|apply ω0|apply ω1|apply ω2|refine τ3 rfl ?_|refine τ4 rfl ?_|refine ⟨rfl,?_⟩|apply τa|refine τb rfl ?_|refine ⟨⟨by kernel_rfl,by kernel_rfl⟩,?_⟩|refine ⟨by decide,?_⟩|apply τt|apply τf))
              refine splitV_eq (b := rulA w) rfl ?_
              (repeat((conv=>whnf);first|apply ω0|apply ω1|apply ω2|refine τ3 rfl ?_|refine τ4 rfl ?_|refine ⟨rfl,?_⟩|apply τa|refine τb rfl ?_|refine ⟨⟨by kernel_rfl,by kernel_rfl⟩,?_⟩|refine ⟨by decide,?_⟩|apply τt|apply τf))
              refine ⟨_, pure_yes rfl rfl rfl rfl trivial, ?_⟩
              (repeat((conv=>whnf);first|apply ω0|apply ω1|apply ω2|refine τ3 rfl ?_|refine τ4 rfl ?_|refine ⟨rfl,?_⟩|apply τa|refine τb rfl ?_|refine ⟨⟨by kernel_rfl,by kernel_rfl⟩,?_⟩|refine ⟨by decide,?_⟩|apply τt|apply τf))
              refine ⟨_, pure_yes rfl rfl rfl rfl trivial, ?_⟩
              (repeat((conv=>whnf);first|apply ω0|apply ω1|apply ω2|refine τ3 rfl ?_|refine τ4 rfl ?_|refine ⟨rfl,?_⟩|apply τa|refine τb rfl ?_|refine ⟨⟨by kernel_rfl,by kernel_rfl⟩,?_⟩|refine ⟨by decide,?_⟩|apply τt|apply τf))
              refine ⟨_, pure_yes rfl rfl rfl rfl (by first | trivial | exact ⟨rfl, Nat.le_of_ble_eq_true rfl⟩), ?_⟩
              (repeat((conv=>whnf);first|apply ω0|apply ω1|apply ω2|refine τ3 rfl ?_|refine τ4 rfl ?_|refine ⟨rfl,?_⟩|apply τa|refine τb rfl ?_|refine ⟨⟨by kernel_rfl,by kernel_rfl⟩,?_⟩|refine ⟨by decide,?_⟩|apply τt|apply τf))
              refine splitV_eq (b := rulA w) rfl ?_
              (repeat((conv=>whnf);first|apply ω0|apply ω1|apply ω2|refine τ3 rfl ?_|refine τ4 rfl ?_|refine ⟨rfl,?_⟩|apply τa|refine τb rfl ?_|refine ⟨⟨by kernel_rfl,by kernel_rfl⟩,?_⟩|refine ⟨by decide,?_⟩|apply τt|apply τf))
              refine ⟨_, pure_yesT rfl rfl rfl rfl rfl hru2 ⟨AVle.refl _, trivial⟩ (noid_rul w), ?_⟩
              (repeat((conv=>whnf);first|apply ω0|apply ω1|apply ω2|refine τ3 rfl ?_|refine τ4 rfl ?_|refine ⟨rfl,?_⟩|apply τa|refine τb rfl ?_|refine ⟨⟨by kernel_rfl,by kernel_rfl⟩,?_⟩|refine ⟨by decide,?_⟩|apply τt|apply τf))
              refine ⟨_, pure_yes rfl rfl rfl rfl trivial, ?_⟩
              (repeat((conv=>whnf);first|apply ω0|apply ω1|apply ω2|refine τ3 rfl ?_|refine τ4 rfl ?_|refine ⟨rfl,?_⟩|apply τa|refine τb rfl ?_|refine ⟨⟨by kernel_rfl,by kernel_rfl⟩,?_⟩|refine ⟨by decide,?_⟩|apply τt|apply τf))
              refine ⟨_, pure_yes rfl rfl rfl rfl trivial, ?_⟩
              (repeat((conv=>whnf);first|apply ω0|apply ω1|apply ω2|refine τ3 rfl ?_|refine τ4 rfl ?_|refine ⟨rfl,?_⟩|apply τa|refine τb rfl ?_|refine ⟨⟨by kernel_rfl,by kernel_rfl⟩,?_⟩|refine ⟨by decide,?_⟩|apply τt|apply τf))
              refine ⟨_, pure_yesT rfl rfl rfl rfl rfl hs2 ⟨le_pol1 rfl, le_pol1 rfl, trivial⟩ (NoId.v _), ?_⟩
              (repeat((conv=>whnf);first|apply ω0|apply ω1|apply ω2|refine τ3 rfl ?_|refine τ4 rfl ?_|refine ⟨rfl,?_⟩|apply τa|refine τb rfl ?_|refine ⟨⟨by kernel_rfl,by kernel_rfl⟩,?_⟩|refine ⟨by decide,?_⟩|apply τt|apply τf))
              refine ⟨_, pure_yes rfl rfl rfl rfl trivial, ?_⟩
              (repeat((conv=>whnf);first|apply ω0|apply ω1|apply ω2|refine τ3 rfl ?_|refine τ4 rfl ?_|refine ⟨rfl,?_⟩|apply τa|refine τb rfl ?_|refine ⟨⟨by kernel_rfl,by kernel_rfl⟩,?_⟩|refine ⟨by decide,?_⟩|apply τt|apply τf))
              exact back (i + 1, nx9 + 1) (show i + 1 ≤ p.rules.length from hi) (by dsimp only; omega) (ele_tell (bx := [((1, nx4), .c (polC n)), ((0, nx), .c (polC p))]) _ [] rfl rfl (.cons _ (.cons _ (List.Sublist.refl _))) (List.Sublist.refl _) (BxLe.refl _) trivial ⟨AVle.refl _, AVle.refl _, AVle.refl _, le_int (wrap_succ (by first | omega | (dsimp only; omega))), trivial⟩)
      · rintro nx6 -
        (repeat((conv=>whnf);first|apply ω0|apply ω1|apply ω2|refine τ3 rfl ?_|refine τ4 rfl ?_|refine ⟨rfl,?_⟩|apply τa|refine τb rfl ?_|refine ⟨⟨by kernel_rfl,by kernel_rfl⟩,?_⟩|refine ⟨by decide,?_⟩|apply τt|apply τf))
        refine aw_mixN 12 _ (fun _ => false) (fun i => match i with | 10 => true | _ => false) [0, 1, 2, 3, 4, 5, 6, 7, 8, 9, 10, 11] (by kernel_rfl) (by kernel_rfl) (HB.refl _) ?_
        (repeat((conv=>whnf);first|apply ω0|apply ω1|apply ω2|refine τ3 rfl ?_|refine τ4 rfl ?_|refine ⟨rfl,?_⟩|apply τa|refine τb rfl ?_|refine ⟨⟨by kernel_rfl,by kernel_rfl⟩,?_⟩|refine ⟨by decide,?_⟩|apply τt|apply τf))
        refine ⟨_, pure_yes rfl rfl rfl rfl (by first | trivial | exact ⟨rfl, Nat.le_of_ble_eq_true rfl⟩), ?_⟩
        (repeat((conv=>whnf);first|apply ω0|apply ω1|apply ω2|refine τ3 rfl ?_|refine τ4 rfl ?_|refine ⟨rfl,?_⟩|apply τa|refine τb rfl ?_|refine ⟨⟨by kernel_rfl,by kernel_rfl⟩,?_⟩|refine ⟨by decide,?_⟩|apply τt|apply τf))
        refine splitV_eq (b := polA n) rfl ?_
        (repeat((conv=>whnf);first|apply ω0|apply ω1|apply ω2|refine τ3 rfl ?_|refine τ4 rfl ?_|refine ⟨rfl,?_⟩|apply τa|refine τb rfl ?_|refine ⟨⟨by kernel_rfl,by kernel_rfl⟩,?_⟩|refine ⟨by decide,?_⟩|apply τt|apply τf))
        refine ⟨_, pure_yes rfl rfl rfl rfl (by first | trivial | exact ⟨rfl, Nat.le_of_ble_eq_true rfl⟩), ?_⟩
        (repeat((conv=>whnf);first|apply ω0|apply ω1|apply ω2|refine τ3 rfl ?_|refine τ4 rfl ?_|refine ⟨rfl,?_⟩|apply τa|refine τb rfl ?_|refine ⟨⟨by kernel_rfl,by kernel_rfl⟩,?_⟩|refine ⟨by decide,?_⟩|apply τt|apply τf))
        refine splitV_eq (b := polA p) rfl ?_
        (repeat((conv=>whnf);first|apply ω0|apply ω1|apply ω2|refine τ3 rfl ?_|refine τ4 rfl ?_|refine ⟨rfl,?_⟩|apply τa|refine τb rfl ?_|refine ⟨⟨by kernel_rfl,by kernel_rfl⟩,?_⟩|refine ⟨by decide,?_⟩|apply τt|apply τf))
        refine ⟨_, pure_yesT rfl rfl rfl rfl rfl hrp ⟨AVle.refl _, trivial⟩ (noid_pol16 n), ?_⟩
        (repeat((conv=>whnf);first|apply ω0|apply ω1|apply ω2|refine τ3 rfl ?_|refine τ4 rfl ?_|refine ⟨rfl,?_⟩|apply τa|refine τb rfl ?_|refine ⟨⟨by kernel_rfl,by kernel_rfl⟩,?_⟩|refine ⟨by decide,?_⟩|apply τt|apply τf))
        refine splitV_eq (b := polA n) rfl ?_
        (repeat((conv=>whnf);first|apply ω0|apply ω1|apply ω2|refine τ3 rfl ?_|refine τ4 rfl ?_|refine ⟨rfl,?_⟩|apply τa|refine τb rfl ?_|refine ⟨⟨by kernel_rfl,by kernel_rfl⟩,?_⟩|refine ⟨by decide,?_⟩|apply τt|apply τf))
        refine ⟨_, pure_yesT rfl rfl rfl rfl rfl hofn ⟨AVle.refl _, trivial⟩ (noid_pol16 n), ?_⟩
        (repeat((conv=>whnf);first|apply ω0|apply ω1|apply ω2|refine τ3 rfl ?_|refine τ4 rfl ?_|refine ⟨rfl,?_⟩|apply τa|refine τb rfl ?_|refine ⟨⟨by kernel_rfl,by kernel_rfl⟩,?_⟩|refine ⟨by decide,?_⟩|apply τt|apply τf))
        refine splitV_eq (b := polA n) rfl ?_
        (repeat((conv=>whnf);first|apply ω0|apply ω1|apply ω2|refine τ3 rfl ?_|refine τ4 rfl ?_|refine ⟨rfl,?_⟩|apply τa|refine τb rfl ?_|refine ⟨⟨by kernel_rfl,by kernel_rfl⟩,?_⟩|refine ⟨by decide,?_⟩|apply τt|apply τf))
        refine ⟨_, pure_yesT rfl rfl rfl rfl rfl hsm ⟨AVle.refl _, AVle.refl _, trivial⟩ (NoId.v _), ?_⟩
        (repeat((conv=>whnf);first|apply ω0|apply ω1|apply ω2|refine τ3 rfl ?_|refine τ4 rfl ?_|refine ⟨rfl,?_⟩|apply τa|refine τb rfl ?_|refine ⟨⟨by kernel_rfl,by kernel_rfl⟩,?_⟩|refine ⟨by decide,?_⟩|apply τt|apply τf))
        refine splitV_eq (b := .v (.bool true)) rfl ?_
        (repeat((conv=>whnf);first|apply ω0|apply ω1|apply ω2|refine τ3 rfl ?_|refine τ4 rfl ?_|refine ⟨rfl,?_⟩|apply τa|refine τb rfl ?_|refine ⟨⟨by kernel_rfl,by kernel_rfl⟩,?_⟩|refine ⟨by decide,?_⟩|apply τt|apply τf))
        refine ⟨_, pure_yesT rfl rfl rfl rfl rfl awake16_spec trivial (NoId.v _), ?_⟩
        (repeat((conv=>whnf);first|apply ω0|apply ω1|apply ω2|refine τ3 rfl ?_|refine τ4 rfl ?_|refine ⟨rfl,?_⟩|apply τa|refine τb rfl ?_|refine ⟨⟨by kernel_rfl,by kernel_rfl⟩,?_⟩|refine ⟨by decide,?_⟩|apply τt|apply τf))
        exact ret_tells rfl (AVle.refl _)
end Go.Proofs.W

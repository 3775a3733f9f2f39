import Derived.Test.YtibmfgeambbpaaaDoorE
import Derived.Test.YtibmfgeambbpaaaDoorC
import Derived.Test.YtibmfgeambbpaaaDoorD
set_option linter.unusedVariables false
set_option linter.unusedSimpArgs false
namespace Go.Proofs.W
open Go.Vl
set_option maxRecDepth 100000

theorem addG_len (s : ByteArray) (x : Nat → Nat) : ∀ G : List Gat, (addG s x G).length ≤ G.length + 1
  | [] => Nat.le_refl _
  | g :: G => by
    unfold addG
    split
    · simp
    · have := addG_len s x G; simp only [List.length_cons]; omega
theorem noteG_m (g : Gat) (x : Nat → Nat) : (noteG g x).m = g.m + 1 := by
  unfold noteG; split
  · rename_i h; rw [h]
  · rfl
theorem noteG_name (g : Gat) (x : Nat → Nat) : (noteG g x).name = g.name := by unfold noteG; split <;> rfl
theorem addG_m {s : ByteArray} {x : Nat → Nat} {n : Nat} : ∀ {G : List Gat}, (∀ g ∈ G, g.m ≤ n) → ∀ g ∈ addG s x G, g.m ≤ n + 1
  | [], _, g, hg => by
    obtain rfl := List.mem_singleton.1 hg
    rw [noteG_m]; exact Nat.succ_le_succ (Nat.zero_le _)
  | y :: G, h, g, hg => by
    unfold addG at hg
    split at hg
    · rcases List.mem_cons.1 hg with rfl | hg
      · rw [noteG_m]; exact Nat.succ_le_succ (h y (.head _))
      · exact Nat.le_succ_of_le (h g (.tail _ hg))
    · rcases List.mem_cons.1 hg with rfl | hg
      · exact Nat.le_succ_of_le (h g (.head _))
      · exact addG_m (fun z hz => h z (.tail _ hz)) g hg
theorem gather_small (l : List TRow) : ∀ (rs : List Rec) (S : List Gat × Bool) (n : Nat), S.1.length ≤ n → (∀ g ∈ S.1, g.m ≤ n) → (rs.foldl (gatStep l) S).1.length ≤ n + rs.length ∧ ∀ g ∈ (rs.foldl (gatStep l) S).1, g.m ≤ n + rs.length
  | [], _, _, h1, h2 => ⟨h1, h2⟩
  | r :: rs, S, n, h1, h2 => by
    have ih := gather_small l rs (gatStep l S r) (n + 1) (by
      unfold gatStep; split
      · exact Nat.le_succ_of_le h1
      · exact Nat.le_trans (addG_len _ _ _) (Nat.succ_le_succ h1)) (fun g hg => by
      unfold gatStep at hg; split at hg
      · exact Nat.le_succ_of_le (h2 g hg)
      · exact addG_m h2 g hg)
    simp only [List.foldl_cons, List.length_cons]
    exact ⟨by omega, fun g hg => by have := ih.2 g hg; omega⟩
theorem gather_le (l : List TRow) (rs : List Rec) : (gather l rs).1.length ≤ rs.length ∧ ∀ g ∈ (gather l rs).1, g.m ≤ rs.length := by
  have := gather_small l rs ([], false) 0 (Nat.le_refl _) (by simp)
  simpa [gather] using this

structure Ct where
  name : ByteArray
  many : Nat
deriving DecidableEq
def ct0 : Ct := ⟨⟨#[]⟩, 0⟩
def ctA (c : Ct) : AV := .ag [strA c.name, int c.many]
def ctF (l : List Ct) (k : Nat) : AV := ctA (l.getD k ct0)
def cts (l : List Ct) : AV := slOf 2 ctA ct0 l
def gat0 : Gat := ⟨⟨#[]⟩, 0, fun _ => 0, fun _ => false⟩
def keysG (G : List Gat) : List (List UInt8) := sortBy Go.Sort.ltStr (G.map fun g => g.name.data.toList)
def gatOf (G : List Gat) (s : ByteArray) : Gat := (G.find? fun g => kS s g.name).getD gat0
def countsK (G : List Gat) (N : List (List UInt8)) : List Ct := N.map fun z => ⟨⟨z.toArray⟩, (gatOf G ⟨z.toArray⟩).m⟩
def countsL (G : List Gat) : List Ct := countsK G (keysG G)
theorem countsK_next {G : List Gat} {N : List (List UInt8)} {j : Nat} (h : j < N.length) : countsK G (N.take (j + 1)) = countsK G (N.take j) ++ [⟨⟨(N.getD j []).toArray⟩, (gatOf G ⟨(N.getD j []).toArray⟩).m⟩] := by
  unfold countsK
  rw [take_getD [] h, List.map_append]; rfl
theorem countsK_len {G : List Gat} {N : List (List UInt8)} {j : Nat} (h : j ≤ N.length) : (countsK G (N.take j)).length = j := by
  unfold countsK; rw [List.length_map, List.length_take, Nat.min_eq_left h]
theorem gatOf_at {s : ByteArray} {g : Gat} (hg : g.name = s) {G2 : List Gat} : ∀ {G1 : List Gat}, (∀ z ∈ G1, kS s z.name = false) → gatOf (G1 ++ g :: G2) s = g
  | [], _ => by
    unfold gatOf
    rw [List.nil_append, List.find?_cons, kS_eq.2 hg.symm]; rfl
  | y :: G1, h => by
    have ih := gatOf_at hg (G2 := G2) (G1 := G1) fun z hz => h z (.tail _ hz)
    unfold gatOf at ih ⊢
    rw [List.cons_append, List.find?_cons, h y (.head _)]
    exact ih
theorem sn_get {α : Type} {l : List α} {x d : α} {k : Nat} (h : k < l.length) : (l ++ [x]).getD k d = l.getD k d := by
  simp [List.getD, List.getElem?_append_left h]
theorem sn_last {α : Type} {l : List α} {x d : α} : (l ++ [x]).getD l.length d = x := by simp [List.getD]
theorem counts_bad (l : List TRow) (rs : List Rec) (hl : l.length ≤ 1000000) (hn : ∀ r ∈ l, r.name.size ≤ maxLen) (hb : (tabR l).2 ≠ 0) : Tells Tryd.prog 8 [trows l, recs rs] (.tup [cts [], int 18]) := by
  have ht := tabright_spec l hl hn
  generalize tabR l = e at ht hb
  refine tells_of_aw Tryd.func8 rfl rfl fun nx => ?_
  (repeat((conv=>whnf);first|apply ω0|apply ω1|apply ω2|refine τ3 rfl ?_|refine τ4 rfl ?_|refine ⟨rfl,?_⟩|apply τa|refine τb rfl ?_|refine ⟨⟨by kernel_rfl,by kernel_rfl⟩,?_⟩|refine ⟨by decide,?_⟩|apply τt|apply τf))
  refine aop_tells rfl rfl ht ⟨AVle.refl _, trivial⟩ fun nx2 => ?_
  (repeat((conv=>whnf);first|apply ω0|apply ω1|apply ω2|refine τ3 rfl ?_|refine τ4 rfl ?_|refine ⟨rfl,?_⟩|apply τa|refine τb rfl ?_|refine ⟨⟨by kernel_rfl,by kernel_rfl⟩,?_⟩|refine ⟨by decide,?_⟩|apply τt|apply τf))
  intro c hc
  obtain rfl : c = true := hc.trans (by simp [hb])
  (repeat((conv=>whnf);first|apply ω0|apply ω1|apply ω2|refine τ3 rfl ?_|refine τ4 rfl ?_|refine ⟨rfl,?_⟩|apply τa|refine τb rfl ?_|refine ⟨⟨by kernel_rfl,by kernel_rfl⟩,?_⟩|refine ⟨by decide,?_⟩|apply τt|apply τf))
  exact ret_tells rfl (AVle.tups (cs := [_, _]) ⟨AVle.os_sl0, AVle.refl _, trivial⟩)
set_option maxHeartbeats 4000000 in
theorem counts_ok (l : List TRow) (rs : List Rec) (hl : l.length ≤ 1000000) (hn : ∀ r ∈ l, r.name.size ≤ maxLen) (hr : ∀ r ∈ rs, r.ok) (hrn : rs.length ≤ 100000) (hb : (tabR l).2 = 0) :
    Tells Tryd.prog 8 [trows l, recs rs] (.tup [cts (countsL (gather l rs).1), int 0]) := by
  have ht := tabright_spec l hl hn
  rw [hb] at ht
  have hg := gather_spec l rs hl hr hrn
  obtain ⟨hgl, hgm⟩ := gather_le l rs
  generalize gather l rs = S at hg hgl hgm
  obtain ⟨G, x⟩ := S
  dsimp only at hg hgl hgm ⊢
  have hzs : (gatR G).map (·.1) = (G.map fun g => g.name.data.toList).map encStr := by unfold gatR; rw [List.map_map, List.map_map]; rfl
  have hsort := sorted_str (gatR G) (G.map fun g => g.name.data.toList) hzs (by unfold gatR; rw [List.length_map]; omega)
  have hNl : (keysG G).length ≤ 100000 := by unfold keysG; rw [sortBy_length, List.length_map]; omega
  have hNm : ∀ z, z ∈ keysG G → ∃ g ∈ G, g.name.data.toList = z := fun z hz => by
    unfold keysG at hz
    rw [sortBy_mem] at hz
    obtain ⟨g, hg, h⟩ := List.mem_map.1 hz
    exact ⟨g, hg, h⟩
  unfold countsL
  have hk : sortBy Go.Sort.ltStr (G.map fun g => g.name.data.toList) = keysG G := rfl
  rw [hk] at hsort
  generalize keysG G = N at hsort hNl hNm ⊢
  clear hk
  refine tells_of_aw Tryd.func8 rfl rfl fun nx => ?_
  (repeat((conv=>whnf);first|apply ω0|apply ω1|apply ω2|refine τ3 rfl ?_|refine τ4 rfl ?_|refine ⟨rfl,?_⟩|apply τa|refine τb rfl ?_|refine ⟨⟨by kernel_rfl,by kernel_rfl⟩,?_⟩|refine ⟨by decide,?_⟩|apply τt|apply τf))
  refine aop_tells rfl rfl ht ⟨AVle.refl _, trivial⟩ fun nx2 => ?_
  (repeat((conv=>whnf);first|apply ω0|apply ω1|apply ω2|refine τ3 rfl ?_|refine τ4 rfl ?_|refine ⟨rfl,?_⟩|apply τa|refine τb rfl ?_|refine ⟨⟨by kernel_rfl,by kernel_rfl⟩,?_⟩|refine ⟨by decide,?_⟩|apply τt|apply τf))
  refine aop_tells rfl rfl hg ⟨AVle.refl _, AVle.refl _, trivial⟩ fun nx3 => ?_
  (repeat((conv=>whnf);first|apply ω0|apply ω1|apply ω2|refine τ3 rfl ?_|refine τ4 rfl ?_|refine ⟨rfl,?_⟩|apply τa|refine τb rfl ?_|refine ⟨⟨by kernel_rfl,by kernel_rfl⟩,?_⟩|refine ⟨by decide,?_⟩|apply τt|apply τf))
  intro c hc
  subst hc
  (repeat((conv=>whnf);first|apply ω0|apply ω1|apply ω2|refine τ3 rfl ?_|refine τ4 rfl ?_|refine ⟨rfl,?_⟩|apply τa|refine τb rfl ?_|refine ⟨⟨by kernel_rfl,by kernel_rfl⟩,?_⟩|refine ⟨by decide,?_⟩|apply τt|apply τf))
  refine aop_tells rfl rfl (mapsKeys_str (gatR G)) ⟨AVle.refl _, trivial⟩ fun nx4 => ?_
  (repeat((conv=>whnf);first|apply ω0|apply ω1|apply ω2|refine τ3 rfl ?_|refine τ4 rfl ?_|refine ⟨rfl,?_⟩|apply τa|refine τb rfl ?_|refine ⟨⟨by kernel_rfl,by kernel_rfl⟩,?_⟩|refine ⟨by decide,?_⟩|apply τt|apply τf))
  refine aop_tells rfl rfl hsort ⟨AVle.refl _, trivial⟩ fun nx5 => ?_
  (repeat((conv=>whnf);first|apply ω0|apply ω1|apply ω2|refine τ3 rfl ?_|refine τ4 rfl ?_|refine ⟨rfl,?_⟩|apply τa|refine τb rfl ?_|refine ⟨⟨by kernel_rfl,by kernel_rfl⟩,?_⟩|refine ⟨by decide,?_⟩|apply τt|apply τf))
  refine aw_loop (fun y : Nat × Option Nat × Nat => mk 47 [(8, .fm (gatR G)), (10, .os 2 (countsK G (N.take y.1)).length (ctF (countsK G (N.take y.1))) (nmd y.2.1)), (28, slOf 1 eA_str [] N), (29, int N.length), (30, int y.1)] ⟨[], pmOf (nmd y.2.1) ((countsK G (N.take y.1)).length * 2), y.2.2, 1⟩)
    (fun y => y.1 ≤ N.length ∧ (y.2.1 = none → y.1 = 0)) (fun y => N.length - y.1) ?_ ?_
  · skip
    exact ⟨(0, none, nx5), ⟨Nat.zero_le _, fun _ => rfl⟩, ele_tell (pm := []) _ [] rfl rfl (List.Sublist.refl _) (List.Sublist.refl _) trivial trivial ⟨AVle.refl _, AVle.os_nil, AVle.refl _, AVle.refl _, AVle.refl _, trivial⟩⟩
  · rintro ⟨j, oi, nx6⟩ ⟨k1, k2⟩
    dsimp only at k1 k2
    (repeat((conv=>whnf);first|apply ω0|apply ω1|apply ω2|refine τ3 rfl ?_|refine τ4 rfl ?_|refine ⟨rfl,?_⟩|apply τa|refine τb rfl ?_|refine ⟨⟨by kernel_rfl,by kernel_rfl⟩,?_⟩|refine ⟨by decide,?_⟩|apply τt|apply τf))
    intro c gg; cases c
    · have gg := not_of gg
      try dsimp only at gg
      have hj : j = N.length := by omega
      subst hj
      rw [List.take_length]
      cases oi with
      | none =>
        (repeat((conv=>whnf);first|apply ω0|apply ω1|apply ω2|refine τ3 rfl ?_|refine τ4 rfl ?_|refine ⟨rfl,?_⟩|apply τa|refine τb rfl ?_|refine ⟨⟨by kernel_rfl,by kernel_rfl⟩,?_⟩|refine ⟨by decide,?_⟩|apply τt|apply τf))
        exact ret_tells rfl (AVle.tups (cs := [_, _]) ⟨AVle.os_sl, AVle.refl _, trivial⟩)
      | some o1 =>
        (repeat((conv=>whnf);first|apply ω0|apply ω1|apply ω2|refine τ3 rfl ?_|refine τ4 rfl ?_|refine ⟨rfl,?_⟩|apply τa|refine τb rfl ?_|refine ⟨⟨by kernel_rfl,by kernel_rfl⟩,?_⟩|refine ⟨by decide,?_⟩|apply τt|apply τf))
        exact ret_tells rfl (AVle.tups (cs := [_, _]) ⟨AVle.os_sl, AVle.refl _, trivial⟩)
    · have gg := yes_of gg
      try dsimp only at gg
      have hj : j < N.length := by omega
      have hNj : N.getD j [] ∈ N := by simp [List.getD, hj]
      have hnext := countsK_next (G := G) hj
      have hlenj := countsK_len (G := G) (Nat.le_of_lt hj)
      obtain ⟨g0, hg0, hge⟩ := hNm _ hNj
      rcases nm_cases Gat.name ⟨(N.getD j []).toArray⟩ G with hno | ⟨G1, g, G2, hG, hgn, hno⟩
      · exfalso
        have := hno g0 hg0
        rw [Bool.eq_false_iff] at this
        exact this (kS_eq.2 (by rw [← hge]))
      have hlk : alook (.string ⟨(N.getD j []).toArray⟩) (gatR G) = some (.rp (seenC g.m g.a g.b)) := by rw [hG]; exact look_at (val := fun g : Gat => .rp (seenC g.m g.a g.b)) hgn hno
      have hgat : gatOf G ⟨(N.getD j []).toArray⟩ = g := by rw [hG]; exact gatOf_at hgn hno
      rw [hgat] at hnext
      have hmb : g.m ≤ rs.length := hgm g (by rw [hG]; simp)
      have hlen : (countsK G (N.take (j + 1))).length = (countsK G (N.take j)).length + 1 := by rw [hnext]; simp
      have hget : ∀ k, k < (countsK G (N.take j)).length → ctF (countsK G (N.take j)) k = ctF (countsK G (N.take (j + 1))) k := fun k hk => by unfold ctF; rw [hnext, sn_get hk]
      have hlast : ctA ⟨⟨(N.getD j []).toArray⟩, g.m⟩ = ctF (countsK G (N.take (j + 1))) (countsK G (N.take j)).length := by unfold ctF; rw [hnext, sn_last]
      (repeat((conv=>whnf);first|apply ω0|apply ω1|apply ω2|refine τ3 rfl ?_|refine τ4 rfl ?_|refine ⟨rfl,?_⟩|apply τa|refine τb rfl ?_|refine ⟨⟨by kernel_rfl,by kernel_rfl⟩,?_⟩|refine ⟨by decide,?_⟩|apply τt|apply τf))
      refine ⟨⟨by first | omega | (dsimp only; omega), by first | omega | (dsimp only; omega)⟩, ?_⟩
      (repeat((conv=>whnf);first|apply ω0|apply ω1|apply ω2|refine τ3 rfl ?_|refine τ4 rfl ?_|refine ⟨rfl,?_⟩|apply τa|refine τb rfl ?_|refine ⟨by decide,?_⟩|apply τt|apply τf))
      refine ⟨nm_fit (val := fun g : Gat => .rp (seenC g.m g.a g.b)) G, splitO_eq (b := .rp (seenC g.m g.a g.b)) (congrArg (fun o : Option AV => o.getD (.v (.pointer none))) hlk) ?_⟩
      cases oi with
      | none =>
        (repeat((conv=>whnf);first|apply ω0|apply ω1|apply ω2|refine τ3 rfl ?_|refine τ4 rfl ?_|refine ⟨rfl,?_⟩|apply τa|refine τb rfl ?_|refine ⟨by decide,?_⟩|apply τt|apply τf))
        refine ⟨oneRow_one rfl, by show ((countsK G (N.take j)).length + 1) * 24 ≤ _; omega, by dsimp only; omega, ?_⟩
        (repeat((conv=>whnf);first|apply ω0|apply ω1|apply ω2|refine τ3 rfl ?_|refine τ4 rfl ?_|refine ⟨rfl,?_⟩|apply τa|refine τb rfl ?_|refine ⟨by decide,?_⟩|apply τt|apply τf))
        exact back (j + 1, some nx6, nx6 + 1) ⟨hj, fun h => by cases h⟩ (by dsimp only; omega) (ele_tell (pm := [((0, nx6), (countsK G (N.take (j + 1))).length * 2)]) _ _ rfl rfl (List.Sublist.refl _) (List.Sublist.refl _) trivial (by rw [hlen]; exact ⟨rfl, rfl, trivial⟩) ⟨AVle.refl _, by dsimp only; rw [hlen]; exact (AVle.os_fun (appF_one hget hlast)).trans (AVle.os_nm rfl), AVle.refl _, AVle.refl _, le_int (wrap_succ (by first | omega | (dsimp only; omega))), trivial⟩)
      | some o1 =>
        (repeat((conv=>whnf);first|apply ω0|apply ω1|apply ω2|refine τ3 rfl ?_|refine τ4 rfl ?_|refine ⟨rfl,?_⟩|apply τa|refine τb rfl ?_|refine ⟨by decide,?_⟩|apply τt|apply τf))
        refine ⟨oneRow_one rfl, by show ((countsK G (N.take j)).length + 1) * 24 ≤ _; omega, by dsimp only; omega, ?_⟩
        (repeat((conv=>whnf);first|apply ω0|apply ω1|apply ω2|refine τ3 rfl ?_|refine τ4 rfl ?_|refine ⟨rfl,?_⟩|apply τa|refine τb rfl ?_|refine ⟨by decide,?_⟩|apply τt|apply τf))
        exact back (j + 1, some nx6, nx6 + 1) ⟨hj, fun h => by cases h⟩ (by dsimp only; omega) (ele_tell (pm := [((0, nx6), (countsK G (N.take (j + 1))).length * 2)]) _ _ rfl rfl (List.Sublist.refl _) (List.Sublist.refl _) trivial (by rw [hlen]; exact ⟨rfl, rfl, trivial⟩) ⟨AVle.refl _, by dsimp only; rw [hlen]; exact (AVle.os_fun (appF_one hget hlast)).trans (AVle.os_nm rfl), AVle.refl _, AVle.refl _, le_int (wrap_succ (by first | omega | (dsimp only; omega))), trivial⟩)
end Go.Proofs.W

namespace Go.Proofs.W
open Go.Vl
set_option maxRecDepth 100000

def ruleL (l : List TRow) (near : Bool) (G : List Gat) (s : ByteArray) : Rul := ⟨s, (8, 0), if near && !decide ((rowOf l s).mux > 0) then condsL (gatOf G s).a (gatOf G s).b 6 else []⟩
def rulesK (l : List TRow) (near : Bool) (G : List Gat) (N : List (List UInt8)) : List Rul := N.map fun z => ruleL l near G ⟨z.toArray⟩
def learnP (l : List TRow) (a : A2) (near : Bool) (S : List Gat × Bool) : Pol := ⟨a, S.2, rulesK l near S.1 (keysG S.1)⟩
def lpol0 : Pol := ⟨(0, 0), false, []⟩
def polC2 (p : Pol) : List AV := [int p.dflt.1, int p.dflt.2, boolA p.x32, ruls p.rules]
def rulF2 (l : List Rul) (k : Nat) : AV := rulA (l.getD k rul0)
theorem rulesK_next {l : List TRow} {near : Bool} {G : List Gat} {N : List (List UInt8)} {j : Nat} (h : j < N.length) : rulesK l near G (N.take (j + 1)) = rulesK l near G (N.take j) ++ [ruleL l near G ⟨(N.getD j []).toArray⟩] := by
  unfold rulesK
  rw [take_getD [] h, List.map_append]; rfl
theorem rulesK_len {l : List TRow} {near : Bool} {G : List Gat} {N : List (List UInt8)} {j : Nat} (h : j ≤ N.length) : (rulesK l near G (N.take j)).length = j := by
  unfold rulesK; rw [List.length_map, List.length_take, Nat.min_eq_left h]
theorem policy_bad1 (l : List TRow) (rs : List Rec) (k n : Int) (near : Bool) (hl : l.length ≤ 1000000) (hn : ∀ r ∈ l, r.name.size ≤ maxLen) (hb : (tabR l).2 ≠ 0) : Tells Tryd.prog 5 [trows l, recs rs, act k n, boolA near] (.tup [polA lpol0, int 18]) := by
  have ht := tabright_spec l hl hn
  generalize tabR l = e at ht hb
  refine tells_of_aw Tryd.func5 rfl rfl fun nx => ?_
  (repeat((conv=>whnf);first|apply ω0|apply ω1|apply ω2|refine τ3 rfl ?_|refine τ4 rfl ?_|refine ⟨rfl,?_⟩|apply τa|refine τb rfl ?_|refine ⟨⟨by kernel_rfl,by kernel_rfl⟩,?_⟩|refine ⟨by decide,?_⟩|apply τt|apply τf))
  refine aop_tells rfl rfl ht ⟨AVle.refl _, trivial⟩ fun nx2 => ?_
  (repeat((conv=>whnf);first|apply ω0|apply ω1|apply ω2|refine τ3 rfl ?_|refine τ4 rfl ?_|refine ⟨rfl,?_⟩|apply τa|refine τb rfl ?_|refine ⟨⟨by kernel_rfl,by kernel_rfl⟩,?_⟩|refine ⟨by decide,?_⟩|apply τt|apply τf))
  intro c hc
  obtain rfl : c = true := hc.trans (by simp [hb])
  (repeat((conv=>whnf);first|apply ω0|apply ω1|apply ω2|refine τ3 rfl ?_|refine τ4 rfl ?_|refine ⟨rfl,?_⟩|apply τa|refine τb rfl ?_|refine ⟨⟨by kernel_rfl,by kernel_rfl⟩,?_⟩|refine ⟨by decide,?_⟩|apply τt|apply τf))
  exact ret_tells_all rfl ⟨rfl, trivial⟩ (AVle.tups (cs := [_, _]) ⟨AVle.ags (cs := [_, _, _, _]) ⟨AVle.refl _, AVle.refl _, AVle.refl _, AVle.os_sl0, trivial⟩, AVle.refl _, trivial⟩)
theorem policy_bad2 (l : List TRow) (rs : List Rec) (k n : Int) (near : Bool) (hl : l.length ≤ 1000000) (hn : ∀ r ∈ l, r.name.size ≤ maxLen) (hb : (tabR l).2 = 0) (ha : right9 k n = false) : Tells Tryd.prog 5 [trows l, recs rs, act k n, boolA near] (.tup [polA lpol0, int 16]) := by
  have ht := tabright_spec l hl hn
  rw [hb] at ht
  have har := f22_spec k n
  rw [ha] at har
  refine tells_of_aw Tryd.func5 rfl rfl fun nx => ?_
  (repeat((conv=>whnf);first|apply ω0|apply ω1|apply ω2|refine τ3 rfl ?_|refine τ4 rfl ?_|refine ⟨rfl,?_⟩|apply τa|refine τb rfl ?_|refine ⟨⟨by kernel_rfl,by kernel_rfl⟩,?_⟩|refine ⟨by decide,?_⟩|apply τt|apply τf))
  refine aop_tells rfl rfl ht ⟨AVle.refl _, trivial⟩ fun nx2 => ?_
  (repeat((conv=>whnf);first|apply ω0|apply ω1|apply ω2|refine τ3 rfl ?_|refine τ4 rfl ?_|refine ⟨rfl,?_⟩|apply τa|refine τb rfl ?_|refine ⟨⟨by kernel_rfl,by kernel_rfl⟩,?_⟩|refine ⟨by decide,?_⟩|apply τt|apply τf))
  refine splitO_eq (b := act k n) rfl ?_
  (repeat((conv=>whnf);first|apply ω0|apply ω1|apply ω2|refine τ3 rfl ?_|refine τ4 rfl ?_|refine ⟨rfl,?_⟩|apply τa|refine τb rfl ?_|refine ⟨⟨by kernel_rfl,by kernel_rfl⟩,?_⟩|refine ⟨by decide,?_⟩|apply τt|apply τf))
  refine aop_tells rfl rfl har ⟨AVle.refl _, trivial⟩ fun nx3 => ?_
  (repeat((conv=>whnf);first|apply ω0|apply ω1|apply ω2|refine τ3 rfl ?_|refine τ4 rfl ?_|refine ⟨rfl,?_⟩|apply τa|refine τb rfl ?_|refine ⟨⟨by kernel_rfl,by kernel_rfl⟩,?_⟩|refine ⟨by decide,?_⟩|apply τt|apply τf))
  exact ret_tells_all rfl ⟨rfl, trivial⟩ (AVle.tups (cs := [_, _]) ⟨AVle.ags (cs := [_, _, _, _]) ⟨AVle.refl _, AVle.refl _, AVle.refl _, AVle.os_sl0, trivial⟩, AVle.refl _, trivial⟩)
set_option maxHeartbeats 8000000 in
theorem policy_ok (l : List TRow) (rs : List Rec) (k n : Int) (near : Bool) (hl : l.length ≤ 1000000) (hn : ∀ r ∈ l, r.name.size ≤ maxLen) (hr : ∀ r ∈ rs, r.ok) (hrn : rs.length ≤ 100000) (hb : (tabR l).2 = 0) (hso : sortedT l) (ha : right9 k n = true) :
    Tells Tryd.prog 5 [trows l, recs rs, act k n, boolA near] (.tup [polA (learnP l (k, n) near (gather l rs)), int 0]) := by
  have ht := tabright_spec l hl hn
  rw [hb] at ht
  have har := f22_spec k n
  rw [ha] at har
  have hg := gather_spec l rs hl hr hrn
  obtain ⟨hgl, hgm⟩ := gather_le l rs
  generalize gather l rs = S at hg hgl hgm
  obtain ⟨G, x⟩ := S
  dsimp only at hg hgl hgm ⊢
  have hzs : (gatR G).map (·.1) = (G.map fun g => g.name.data.toList).map encStr := by unfold gatR; rw [List.map_map, List.map_map]; rfl
  have hsort := sorted_str (gatR G) (G.map fun g => g.name.data.toList) hzs (by unfold gatR; rw [List.length_map]; omega)
  have hNl : (keysG G).length ≤ 100000 := by unfold keysG; rw [sortBy_length, List.length_map]; omega
  have hNm : ∀ z, z ∈ keysG G → ∃ g ∈ G, g.name.data.toList = z := fun z hz => by
    unfold keysG at hz
    rw [sortBy_mem] at hz
    obtain ⟨g, hg, h⟩ := List.mem_map.1 hz
    exact ⟨g, hg, h⟩
  unfold learnP
  dsimp only
  have hk : sortBy Go.Sort.ltStr (G.map fun g => g.name.data.toList) = keysG G := rfl
  rw [hk] at hsort
  generalize keysG G = N at hsort hNl hNm ⊢
  clear hk
  refine tells_of_aw Tryd.func5 rfl rfl fun nx => ?_
  (repeat((conv=>whnf);first|apply ω0|apply ω1|apply ω2|refine τ3 rfl ?_|refine τ4 rfl ?_|refine ⟨rfl,?_⟩|apply τa|refine τb rfl ?_|refine ⟨⟨by kernel_rfl,by kernel_rfl⟩,?_⟩|refine ⟨by decide,?_⟩|apply τt|apply τf))
  refine aop_tells rfl rfl ht ⟨AVle.refl _, trivial⟩ fun nx2 => ?_
  (repeat((conv=>whnf);first|apply ω0|apply ω1|apply ω2|refine τ3 rfl ?_|refine τ4 rfl ?_|refine ⟨rfl,?_⟩|apply τa|refine τb rfl ?_|refine ⟨⟨by kernel_rfl,by kernel_rfl⟩,?_⟩|refine ⟨by decide,?_⟩|apply τt|apply τf))
  refine splitO_eq (b := act k n) rfl ?_
  (repeat((conv=>whnf);first|apply ω0|apply ω1|apply ω2|refine τ3 rfl ?_|refine τ4 rfl ?_|refine ⟨rfl,?_⟩|apply τa|refine τb rfl ?_|refine ⟨⟨by kernel_rfl,by kernel_rfl⟩,?_⟩|refine ⟨by decide,?_⟩|apply τt|apply τf))
  refine aop_tells rfl rfl har ⟨AVle.refl _, trivial⟩ fun nx3 => ?_
  (repeat((conv=>whnf);first|apply ω0|apply ω1|apply ω2|refine τ3 rfl ?_|refine τ4 rfl ?_|refine ⟨rfl,?_⟩|apply τa|refine τb rfl ?_|refine ⟨⟨by kernel_rfl,by kernel_rfl⟩,?_⟩|refine ⟨by decide,?_⟩|apply τt|apply τf))
  refine aop_tells rfl rfl hg ⟨AVle.refl _, AVle.refl _, trivial⟩ fun nx4 => ?_
  (repeat((conv=>whnf);first|apply ω0|apply ω1|apply ω2|refine τ3 rfl ?_|refine τ4 rfl ?_|refine ⟨rfl,?_⟩|apply τa|refine τb rfl ?_|refine ⟨⟨by kernel_rfl,by kernel_rfl⟩,?_⟩|refine ⟨by decide,?_⟩|apply τt|apply τf))
  intro c hc
  subst hc
  (repeat((conv=>whnf);first|apply ω0|apply ω1|apply ω2|refine τ3 rfl ?_|refine τ4 rfl ?_|refine ⟨rfl,?_⟩|apply τa|refine τb rfl ?_|refine ⟨⟨by kernel_rfl,by kernel_rfl⟩,?_⟩|refine ⟨by decide,?_⟩|apply τt|apply τf))
  refine aop_tells rfl rfl (mapsKeys_str (gatR G)) ⟨AVle.refl _, trivial⟩ fun nx5 => ?_
  (repeat((conv=>whnf);first|apply ω0|apply ω1|apply ω2|refine τ3 rfl ?_|refine τ4 rfl ?_|refine ⟨rfl,?_⟩|apply τa|refine τb rfl ?_|refine ⟨⟨by kernel_rfl,by kernel_rfl⟩,?_⟩|refine ⟨by decide,?_⟩|apply τt|apply τf))
  refine aop_tells rfl rfl hsort ⟨AVle.refl _, trivial⟩ fun nx6 => ?_
  (repeat((conv=>whnf);first|apply ω0|apply ω1|apply ω2|refine τ3 rfl ?_|refine τ4 rfl ?_|refine ⟨rfl,?_⟩|apply τa|refine τb rfl ?_|refine ⟨⟨by kernel_rfl,by kernel_rfl⟩,?_⟩|refine ⟨by decide,?_⟩|apply τt|apply τf))
  refine aw_loop (fun y : Nat × Option Nat × Nat => mk 76 [(0, trows l), (3, boolA near), (6, .bp (0, nx) 0), (8, .bp (1, nx + 1) 0), (12, .fm (gatR G)), (14, .bp (2, nx4) 0), (43, slOf 1 eA_str [] N), (44, int N.length), (45, int y.1)] ⟨[((2, nx4), .c [int k, int n, boolA c, .os 4 (rulesK l near G (N.take y.1)).length (rulF2 (rulesK l near G (N.take y.1))) (nmd y.2.1)]), ((1, nx + 1), .c (polC2 lpol0)), ((0, nx), .c [int k, int n])], pmOf (nmd y.2.1) ((rulesK l near G (N.take y.1)).length * 4), y.2.2, 3⟩)
    (fun y => y.1 ≤ N.length ∧ (y.2.1 = none → y.1 = 0)) (fun y => N.length - y.1) ?_ ?_
  · exact ⟨(0, none, nx6), ⟨Nat.zero_le _, fun _ => rfl⟩, ele_tell (pm := []) (bx := [((2, nx4), .c [int k, int n, boolA c, .os 4 0 (rulF2 []) none]), ((1, nx + 1), .c (polC2 lpol0)), ((0, nx), .c [int k, int n])]) _ _ rfl rfl (List.Sublist.refl _) (List.Sublist.refl _) ⟨rfl, ⟨AVle.refl _, AVle.refl _, AVle.refl _, AVle.os_nil, trivial⟩, rfl, ⟨AVle.refl _, AVle.refl _, AVle.refl _, AVle.os_sl0, trivial⟩, BxLe.refl _⟩ trivial ⟨AVle.refl _, AVle.refl _, AVle.refl _, AVle.refl _, AVle.refl _, AVle.refl _, AVle.refl _, AVle.refl _, AVle.refl _, trivial⟩⟩
  · rintro ⟨j, oi, nx7⟩ ⟨k1, k2⟩
    dsimp only at k1 k2
    (repeat((conv=>whnf);first|apply ω0|apply ω1|apply ω2|refine τ3 rfl ?_|refine τ4 rfl ?_|refine ⟨rfl,?_⟩|apply τa|refine τb rfl ?_|refine ⟨⟨by kernel_rfl,by kernel_rfl⟩,?_⟩|refine ⟨by decide,?_⟩|apply τt|apply τf))
    intro c gg; cases c
    · have gg := not_of gg
      try dsimp only at gg
      have hj : j = N.length := by omega
      subst hj
      rw [List.take_length]
      cases oi with
      | none =>
        (repeat((conv=>whnf);first|apply ω0|apply ω1|apply ω2|refine τ3 rfl ?_|refine τ4 rfl ?_|refine ⟨rfl,?_⟩|apply τa|refine τb rfl ?_|refine ⟨⟨by kernel_rfl,by kernel_rfl⟩,?_⟩|refine ⟨by decide,?_⟩|apply τt|apply τf))
        exact ret_tells_all rfl ⟨rfl, trivial⟩ (AVle.tups (cs := [_, _]) ⟨AVle.ags (cs := [_, _, _, _]) ⟨AVle.refl _, AVle.refl _, AVle.refl _, AVle.os_sl, trivial⟩, AVle.refl _, trivial⟩)
      | some o1 =>
        (repeat((conv=>whnf);first|apply ω0|apply ω1|apply ω2|refine τ3 rfl ?_|refine τ4 rfl ?_|refine ⟨rfl,?_⟩|apply τa|refine τb rfl ?_|refine ⟨⟨by kernel_rfl,by kernel_rfl⟩,?_⟩|refine ⟨by decide,?_⟩|apply τt|apply τf))
        exact ret_tells_all rfl ⟨rfl, trivial⟩ (AVle.tups (cs := [_, _]) ⟨AVle.ags (cs := [_, _, _, _]) ⟨AVle.refl _, AVle.refl _, AVle.refl _, AVle.os_sl, trivial⟩, AVle.refl _, trivial⟩)
    · have gg := yes_of gg
      try dsimp only at gg
      have hj : j < N.length := by omega
      have hNj : N.getD j [] ∈ N := by simp [List.getD, hj]
      have hnext := rulesK_next (l := l) (near := near) (G := G) hj
      have hlenj := rulesK_len (l := l) (near := near) (G := G) (Nat.le_of_lt hj)
      obtain ⟨g0, hg0, hge⟩ := hNm _ hNj
      rcases nm_cases Gat.name ⟨(N.getD j []).toArray⟩ G with hno | ⟨G1, g, G2, hG, hgn, hno⟩
      · exfalso
        have := hno g0 hg0
        rw [Bool.eq_false_iff] at this
        exact this (kS_eq.2 (by rw [← hge]))
      have hlk : alook (.string ⟨(N.getD j []).toArray⟩) (gatR G) = some (.rp (seenC g.m g.a g.b)) := by rw [hG]; exact look_at (val := fun g : Gat => .rp (seenC g.m g.a g.b)) hgn hno
      have hgat : gatOf G ⟨(N.getD j []).toArray⟩ = g := by rw [hG]; exact gatOf_at hgn hno
      have hways := ways_spec l ⟨(N.getD j []).toArray⟩ hl (sorted_mono hso _)
      unfold ruleL at hnext
      rw [hgat] at hnext
      generalize (foundB l ⟨(N.getD j []).toArray⟩ && decide ((rowOf l ⟨(N.getD j []).toArray⟩).a2 ≥ 0)) = w1 at hways
      generalize decide ((rowOf l ⟨(N.getD j []).toArray⟩).mux > 0) = w2 at hways hnext
      have hcs := sconds_spec g.m g.a g.b
      have hlen : (rulesK l near G (N.take (j + 1))).length = (rulesK l near G (N.take j)).length + 1 := by rw [hnext]; simp
      have hget : ∀ k, k < (rulesK l near G (N.take j)).length → rulF2 (rulesK l near G (N.take j)) k = rulF2 (rulesK l near G (N.take (j + 1))) k := fun k hk => by unfold rulF2; rw [hnext, sn_get hk]
      have hlast : rulA ⟨⟨(N.getD j []).toArray⟩, (8, 0), if (near && !w2) = true then condsL g.a g.b 6 else []⟩ = rulF2 (rulesK l near G (N.take (j + 1))) (rulesK l near G (N.take j)).length := by unfold rulF2; rw [hnext, sn_last]
      (repeat((conv=>whnf);first|apply ω0|apply ω1|apply ω2|refine τ3 rfl ?_|refine τ4 rfl ?_|refine ⟨rfl,?_⟩|apply τa|refine τb rfl ?_|refine ⟨⟨by kernel_rfl,by kernel_rfl⟩,?_⟩|refine ⟨by decide,?_⟩|apply τt|apply τf))
      refine ⟨⟨by first | omega | (dsimp only; omega), by first | omega | (dsimp only; omega)⟩, ?_⟩
      (repeat((conv=>whnf);first|apply ω0|apply ω1|apply ω2|refine τ3 rfl ?_|refine τ4 rfl ?_|refine ⟨rfl,?_⟩|apply τa|refine τb rfl ?_|refine ⟨⟨by kernel_rfl,by kernel_rfl⟩,?_⟩|refine ⟨by decide,?_⟩|apply τt|apply τf))
      refine aop_tells rfl rfl hways ⟨AVle.refl _, AVle.refl _, trivial⟩ fun nx8 => ?_
      (repeat((conv=>whnf);first|apply ω0|apply ω1|apply ω2|refine τ3 rfl ?_|refine τ4 rfl ?_|refine ⟨rfl,?_⟩|apply τa|refine τb rfl ?_|refine ⟨⟨by kernel_rfl,by kernel_rfl⟩,?_⟩|refine ⟨by decide,?_⟩|apply τt|apply τf))
      intro b1 hb1
      clear hb1
      intro b2 hb2
      subst hb2
      (repeat((conv=>whnf);first|apply ω0|apply ω2|refine τ3 rfl ?_|refine τ4 rfl ?_|refine ⟨rfl,?_⟩|apply τa|refine τb rfl ?_|refine ⟨⟨by kernel_rfl,by kernel_rfl⟩,?_⟩|refine ⟨by decide,?_⟩|apply τt|apply τf))
      refine aw_mid2 (fun y : Nat => mk 76 [(0, trows l), (3, boolA near), (6, .bp (0, nx) 0), (8, .bp (1, nx + 1) 0), (12, .fm (gatR G)), (14, .bp (2, nx4) 0), (17, .bp (3, nx7) 0), (43, slOf 1 eA_str [] N), (44, int N.length), (45, int j)] ⟨[((3, nx7), .c [strA ⟨(N.getD j []).toArray⟩, int 8, int 0, cnds (if (near && !b2) = true then condsL g.a g.b 6 else [])]), ((2, nx4), .c [int k, int n, boolA c, .os 4 (rulesK l near G (N.take j)).length (rulF2 (rulesK l near G (N.take j))) (nmd oi)]), ((1, nx + 1), .c (polC2 lpol0)), ((0, nx), .c [int k, int n])], pmOf (nmd oi) ((rulesK l near G (N.take j)).length * 4), y, 4⟩)
        (fun _ => True) ?_ ?_
      · refine aw_region ?_
        cases near
        · (repeat((conv=>whnf);first|apply ω0|apply ω1|apply ω2|refine τ3 rfl ?_|refine τ4 rfl ?_|refine ⟨rfl,?_⟩|apply τa|refine τb rfl ?_|refine ⟨⟨by kernel_rfl,by kernel_rfl⟩,?_⟩|refine ⟨by decide,?_⟩|apply τt|apply τf))
          exact ⟨nx8, trivial, ele_tell (pm := pmOf (nmd oi) ((rulesK l false G (N.take j)).length * 4)) (bx := [((3, nx7), .c [strA ⟨(N.getD j []).toArray⟩, int 8, int 0, cnds []]), ((2, nx4), .c [int k, int n, boolA c, .os 4 (rulesK l false G (N.take j)).length (rulF2 (rulesK l false G (N.take j))) (nmd oi)]), ((1, nx + 1), .c (polC2 lpol0)), ((0, nx), .c [int k, int n])]) _ _ rfl rfl (List.Sublist.refl _) (List.Sublist.refl _) ⟨rfl, ⟨AVle.refl _, AVle.refl _, AVle.refl _, AVle.os_sl0, trivial⟩, BxLe.refl _⟩ (PmEq_refl3 _) ⟨AVle.refl _, AVle.refl _, AVle.refl _, AVle.refl _, AVle.refl _, AVle.refl _, AVle.refl _, AVle.refl _, AVle.refl _, AVle.refl _, trivial⟩⟩
        · cases b2
          · (repeat((conv=>whnf);first|apply ω0|apply ω1|apply ω2|refine τ3 rfl ?_|refine τ4 rfl ?_|refine ⟨rfl,?_⟩|apply τa|refine τb rfl ?_|refine ⟨by decide,?_⟩|apply τt|apply τf))
            refine ⟨nm_fit (val := fun g : Gat => .rp (seenC g.m g.a g.b)) G, splitO_eq (b := .rp (seenC g.m g.a g.b)) (congrArg (fun o : Option AV => o.getD (.v (.pointer none))) hlk) ?_⟩
            (repeat((conv=>whnf);first|apply ω0|apply ω1|apply ω2|refine τ3 rfl ?_|refine τ4 rfl ?_|refine ⟨rfl,?_⟩|apply τa|refine τb rfl ?_|refine ⟨by decide,?_⟩|apply τt|apply τf))
            refine aop_tells rfl rfl hcs ⟨AVle.refl _, trivial⟩ fun nx9 => ?_
            (repeat((conv=>whnf);first|apply ω0|apply ω1|apply ω2|refine τ3 rfl ?_|refine τ4 rfl ?_|refine ⟨rfl,?_⟩|apply τa|refine τb rfl ?_|refine ⟨by decide,?_⟩|apply τt|apply τf))
            exact ⟨nx9, trivial, ele_tell (pm := pmOf (nmd oi) ((rulesK l true G (N.take j)).length * 4)) (bx := [((3, nx7), .c [strA ⟨(N.getD j []).toArray⟩, int 8, int 0, cnds (condsL g.a g.b 6)]), ((2, nx4), .c [int k, int n, boolA c, .os 4 (rulesK l true G (N.take j)).length (rulF2 (rulesK l true G (N.take j))) (nmd oi)]), ((1, nx + 1), .c (polC2 lpol0)), ((0, nx), .c [int k, int n])]) _ _ rfl rfl (List.Sublist.refl _) (List.Sublist.refl _) (BxLe.refl _) (PmEq_refl3 _) ⟨AVle.refl _, AVle.refl _, AVle.refl _, AVle.refl _, AVle.refl _, AVle.refl _, AVle.refl _, AVle.refl _, AVle.refl _, AVle.refl _, trivial⟩⟩
          · (repeat((conv=>whnf);first|apply ω0|apply ω1|apply ω2|refine τ3 rfl ?_|refine τ4 rfl ?_|refine ⟨rfl,?_⟩|apply τa|refine τb rfl ?_|refine ⟨⟨by kernel_rfl,by kernel_rfl⟩,?_⟩|refine ⟨by decide,?_⟩|apply τt|apply τf))
            exact ⟨nx8, trivial, ele_tell (pm := pmOf (nmd oi) ((rulesK l true G (N.take j)).length * 4)) (bx := [((3, nx7), .c [strA ⟨(N.getD j []).toArray⟩, int 8, int 0, cnds []]), ((2, nx4), .c [int k, int n, boolA c, .os 4 (rulesK l true G (N.take j)).length (rulF2 (rulesK l true G (N.take j))) (nmd oi)]), ((1, nx + 1), .c (polC2 lpol0)), ((0, nx), .c [int k, int n])]) _ _ rfl rfl (List.Sublist.refl _) (List.Sublist.refl _) ⟨rfl, ⟨AVle.refl _, AVle.refl _, AVle.refl _, AVle.os_sl0, trivial⟩, BxLe.refl _⟩ (PmEq_refl3 _) ⟨AVle.refl _, AVle.refl _, AVle.refl _, AVle.refl _, AVle.refl _, AVle.refl _, AVle.refl _, AVle.refl _, AVle.refl _, AVle.refl _, trivial⟩⟩
      · rintro nx9 -
        (repeat((conv=>whnf);first|apply ω0|apply ω1|apply ω2|refine τ3 rfl ?_|refine τ4 rfl ?_|refine ⟨rfl,?_⟩|apply τa|refine τb rfl ?_|refine ⟨⟨by kernel_rfl,by kernel_rfl⟩,?_⟩|refine ⟨by decide,?_⟩|apply τt|apply τf))
        refine splitO_eq (b := rulA ⟨⟨(N.getD j []).toArray⟩, (8, 0), if (near && !b2) = true then condsL g.a g.b 6 else []⟩) rfl ?_
        cases oi with
        | none =>
          (repeat((conv=>whnf);first|apply ω0|apply ω1|apply ω2|refine τ3 rfl ?_|refine τ4 rfl ?_|refine ⟨rfl,?_⟩|apply τa|refine τb rfl ?_|refine ⟨⟨by kernel_rfl,by kernel_rfl⟩,?_⟩|refine ⟨by decide,?_⟩|apply τt|apply τf))
          refine ⟨oneRow_one rfl, by show ((rulesK l near G (N.take j)).length + 1) * 56 ≤ _; omega, by omega, ?_⟩
          (repeat((conv=>whnf);first|apply ω0|apply ω1|apply ω2|refine τ3 rfl ?_|refine τ4 rfl ?_|refine ⟨rfl,?_⟩|apply τa|refine τb rfl ?_|refine ⟨⟨by kernel_rfl,by kernel_rfl⟩,?_⟩|refine ⟨by decide,?_⟩|apply τt|apply τf))
          exact back (j + 1, some nx9, nx9 + 1) ⟨hj, fun h => by cases h⟩ (by dsimp only; omega) (ele_tell (pm := [((0, nx9), (rulesK l near G (N.take (j + 1))).length * 4)]) (bx := [((2, nx4), .c [int k, int n, boolA c, .os 4 (rulesK l near G (N.take (j + 1))).length (rulF2 (rulesK l near G (N.take (j + 1)))) (some (0, nx9))]), ((1, nx + 1), .c (polC2 lpol0)), ((0, nx), .c [int k, int n])]) _ _ rfl rfl (.cons _ (List.Sublist.refl _)) (List.Sublist.refl _) ⟨rfl, ⟨AVle.refl _, AVle.refl _, AVle.refl _, by dsimp only; rw [hlen]; exact (AVle.os_fun (appF_one hget hlast)).trans (AVle.os_nm rfl), trivial⟩, BxLe.refl _⟩ (by rw [hlen]; exact ⟨rfl, rfl, trivial⟩) ⟨AVle.refl _, AVle.refl _, AVle.refl _, AVle.refl _, AVle.refl _, AVle.refl _, AVle.refl _, AVle.refl _, le_int (wrap_succ (by first | omega | (dsimp only; omega))), trivial⟩)
        | some o1 =>
          (repeat((conv=>whnf);first|apply ω0|apply ω1|apply ω2|refine τ3 rfl ?_|refine τ4 rfl ?_|refine ⟨rfl,?_⟩|apply τa|refine τb rfl ?_|refine ⟨⟨by kernel_rfl,by kernel_rfl⟩,?_⟩|refine ⟨by decide,?_⟩|apply τt|apply τf))
          refine ⟨oneRow_one rfl, by show ((rulesK l near G (N.take j)).length + 1) * 56 ≤ _; omega, by omega, ?_⟩
          (repeat((conv=>whnf);first|apply ω0|apply ω1|apply ω2|refine τ3 rfl ?_|refine τ4 rfl ?_|refine ⟨rfl,?_⟩|apply τa|refine τb rfl ?_|refine ⟨⟨by kernel_rfl,by kernel_rfl⟩,?_⟩|refine ⟨by decide,?_⟩|apply τt|apply τf))
          exact back (j + 1, some nx9, nx9 + 1) ⟨hj, fun h => by cases h⟩ (by dsimp only; omega) (ele_tell (pm := [((0, nx9), (rulesK l near G (N.take (j + 1))).length * 4)]) (bx := [((2, nx4), .c [int k, int n, boolA c, .os 4 (rulesK l near G (N.take (j + 1))).length (rulF2 (rulesK l near G (N.take (j + 1)))) (some (0, nx9))]), ((1, nx + 1), .c (polC2 lpol0)), ((0, nx), .c [int k, int n])]) _ _ rfl rfl (.cons _ (List.Sublist.refl _)) (List.Sublist.refl _) ⟨rfl, ⟨AVle.refl _, AVle.refl _, AVle.refl _, by dsimp only; rw [hlen]; exact (AVle.os_fun (appF_one hget hlast)).trans (AVle.os_nm rfl), trivial⟩, BxLe.refl _⟩ (by rw [hlen]; exact ⟨rfl, rfl, trivial⟩) ⟨AVle.refl _, AVle.refl _, AVle.refl _, AVle.refl _, AVle.refl _, AVle.refl _, AVle.refl _, AVle.refl _, le_int (wrap_succ (by first | omega | (dsimp only; omega))), trivial⟩)
end Go.Proofs.W

namespace Go.Proofs.W
open Go.Vl
set_option maxRecDepth 100000

theorem bytes_rows : Tryd.prog.bytesOf 72 = 72 := by kernel_rfl
set_option maxHeartbeats 2000000 in
theorem l26rows_spec (l : List TRow) (hl : l.length ≤ 1000000) : Tells Tryd.prog 6 [trows l] (trows l) := by
  refine tells_of_aw Tryd.func6 rfl rfl fun nx => ?_
  (repeat((conv=>whnf);first|apply ω0|apply ω1|apply ω2|refine τ3 rfl ?_|refine τ4 rfl ?_|refine ⟨rfl,?_⟩|apply τa|refine τb rfl ?_|refine ⟨⟨by kernel_rfl,by kernel_rfl⟩,?_⟩|refine ⟨by decide,?_⟩|apply τt|apply τf))
  refine aw_loop (fun s : Nat × Option Nat × Nat => mk 36 [(0, trows l), (3, .os 8 s.1 (fun j => trowA (l.getD j trow0)) (nmd s.2.1)), (4, int s.1)] ⟨[], pmOf (nmd s.2.1) (s.1 * 8), s.2.2, 1⟩) (fun s => s.1 ≤ l.length ∧ (s.2.1 = none → s.1 = 0)) (fun s => l.length - s.1) ?_ ?_
  · exact ⟨(0, none, nx), ⟨Nat.zero_le _, fun _ => rfl⟩, ele_tell (pm := []) _ [] rfl rfl (List.Sublist.refl _) (List.Sublist.refl _) trivial trivial ⟨AVle.refl _, AVle.os_nil, AVle.refl _, trivial⟩⟩
  · rintro ⟨i, oi, nx2⟩ ⟨h3, h4⟩
    dsimp only at h3 h4
    (repeat((conv=>whnf);first|apply ω0|apply ω1|apply ω2|refine τ3 rfl ?_|refine τ4 rfl ?_|refine ⟨rfl,?_⟩|apply τa|refine τb rfl ?_|refine ⟨⟨by kernel_rfl,by kernel_rfl⟩,?_⟩|refine ⟨by decide,?_⟩|apply τt|apply τf))
    intro c h5; cases c
    · have h6 := not_of h5
      dsimp only at h6
      obtain rfl : i = l.length := by omega
      rcases oi with _ | id
      all_goals
        (repeat((conv=>whnf);first|apply ω0|apply ω1|apply ω2|refine τ3 rfl ?_|refine τ4 rfl ?_|refine ⟨rfl,?_⟩|apply τa|refine τb rfl ?_|refine ⟨⟨by kernel_rfl,by kernel_rfl⟩,?_⟩|refine ⟨by decide,?_⟩|apply τt|apply τf))
        exact ret_tells rfl AVle.os_sl
    · have h6 := yes_of h5
      dsimp only at h6
      have hi : i < l.length := by omega
      (repeat((conv=>whnf);first|apply ω0|apply ω1|apply ω2|refine τ3 rfl ?_|refine τ4 rfl ?_|refine ⟨rfl,?_⟩|apply τa|refine τb rfl ?_|refine ⟨⟨by kernel_rfl,by kernel_rfl⟩,?_⟩|refine ⟨by decide,?_⟩|apply τt|apply τf))
      refine aw_mixN 25 _ (fun i => match i with | 23 => true | _ => false) (fun i => match i with | 10 => true | _ => false) [0, 1, 2, 3, 4, 5, 6, 7, 8, 9, 10, 11, 12, 13, 14, 15, 16, 17, 18, 19, 20, 21, 22, 23, 24] (by kernel_rfl) (by kernel_rfl) (HB.refl _) ?_
      (repeat((conv=>whnf);first|apply ω0|apply ω1|apply ω2|refine τ3 rfl ?_|refine τ4 rfl ?_|refine ⟨rfl,?_⟩|apply τa|refine τb rfl ?_|refine ⟨⟨by kernel_rfl,by kernel_rfl⟩,?_⟩|refine ⟨by decide,?_⟩|apply τt|apply τf))
      refine ⟨⟨by dsimp only; omega, by dsimp only; omega⟩, ?_⟩
      (repeat((conv=>whnf);first|apply ω0|apply ω1|apply ω2|refine τ3 rfl ?_|refine τ4 rfl ?_|refine ⟨rfl,?_⟩|apply τa|refine τb rfl ?_|refine ⟨⟨by kernel_rfl,by kernel_rfl⟩,?_⟩|refine ⟨by decide,?_⟩|apply τt|apply τf))
      refine ⟨⟨by dsimp only; omega, by dsimp only; omega⟩, ?_⟩
      (repeat((conv=>whnf);first|apply ω0|apply ω1|apply ω2|refine τ3 rfl ?_|refine τ4 rfl ?_|refine ⟨rfl,?_⟩|apply τa|refine τb rfl ?_|refine ⟨⟨by kernel_rfl,by kernel_rfl⟩,?_⟩|refine ⟨by decide,?_⟩|apply τt|apply τf))
      refine ⟨arr5 (l.getD i trow0), pure_apure rfl rfl (by first | trivial | exact ⟨rfl, Nat.le_of_ble_eq_true rfl⟩), ?_⟩
      (repeat((conv=>whnf);first|apply ω0|apply ω1|apply ω2|refine τ3 rfl ?_|refine τ4 rfl ?_|refine ⟨rfl,?_⟩|apply τa|refine τb rfl ?_|refine ⟨⟨by kernel_rfl,by kernel_rfl⟩,?_⟩|refine ⟨by decide,?_⟩|apply τt|apply τf))
      refine ⟨⟨by dsimp only; omega, by dsimp only; omega⟩, ?_⟩
      (repeat((conv=>whnf);first|apply ω0|apply ω1|apply ω2|refine τ3 rfl ?_|refine τ4 rfl ?_|refine ⟨rfl,?_⟩|apply τa|refine τb rfl ?_|refine ⟨⟨by kernel_rfl,by kernel_rfl⟩,?_⟩|refine ⟨by decide,?_⟩|apply τt|apply τf))
      refine ⟨⟨by dsimp only; omega, by dsimp only; omega⟩, ?_⟩
      (repeat((conv=>whnf);first|apply ω0|apply ω1|apply ω2|refine τ3 rfl ?_|refine τ4 rfl ?_|refine ⟨rfl,?_⟩|apply τa|refine τb rfl ?_|refine ⟨⟨by kernel_rfl,by kernel_rfl⟩,?_⟩|refine ⟨by decide,?_⟩|apply τt|apply τf))
      rcases oi with _ | id
      · obtain rfl := h4 rfl
        refine ⟨_, eff_append1 (e := 72) (c := 8) (pm := []) (n := 0) (oi := none) (sz := 8) (f := fun j => trowA (l.getD j trow0)) (HB.refl _) rfl rfl rfl (.inr ⟨_, rfl⟩) (by kernel_rfl) (by kernel_rfl) (by kernel_rfl) (.inr rfl) (by kernel_rfl) (List.append_nil _).symm (oneRow_one rfl) (by rw [bytes_rows]; omega) (by omega), fun r h' hr => ?_⟩
        obtain ⟨rfl, rfl⟩ := hr
        (repeat((conv=>whnf);first|apply ω0|apply ω1|apply ω2|refine τ3 rfl ?_|refine τ4 rfl ?_|refine ⟨rfl,?_⟩|apply τa|refine τb rfl ?_|refine ⟨⟨by kernel_rfl,by kernel_rfl⟩,?_⟩|refine ⟨by decide,?_⟩|apply τt|apply τf))
        refine back (0 + 1, some nx2, nx2 + 1) ⟨by dsimp only; omega, (fun h => by cases h)⟩ (by dsimp only; omega) (ele_tell (pm := [((0, nx2), (0 + 1) * 8)]) _ _ rfl rfl (List.Sublist.refl _) (List.Sublist.refl _) trivial ⟨rfl, rfl, trivial⟩ ⟨AVle.refl _, (AVle.os_fun (appF_one (fun k hk => absurd hk (Nat.not_lt_zero k)) ?_)).trans (AVle.os_nm rfl), le_int (wrap_succ (by dsimp only; omega)), trivial⟩)
        rfl
      · refine ⟨_, eff_append1 (e := 72) (c := 8) (pm := []) (n := i) (oi := some (0, id)) (sz := 8) (f := fun j => trowA (l.getD j trow0)) (HB.refl _) rfl rfl rfl (.inr ⟨_, rfl⟩) (by kernel_rfl) (by kernel_rfl) (by kernel_rfl) (.inr rfl) (by kernel_rfl) (List.append_nil _).symm (oneRow_one rfl) (by rw [bytes_rows]; omega) (by omega), fun r h' hr => ?_⟩
        obtain ⟨rfl, rfl⟩ := hr
        (repeat((conv=>whnf);first|apply ω0|apply ω1|apply ω2|refine τ3 rfl ?_|refine τ4 rfl ?_|refine ⟨rfl,?_⟩|apply τa|refine τb rfl ?_|refine ⟨⟨by kernel_rfl,by kernel_rfl⟩,?_⟩|refine ⟨by decide,?_⟩|apply τt|apply τf))
        refine back (i + 1, some nx2, nx2 + 1) ⟨by dsimp only; omega, (fun h => by cases h)⟩ (by dsimp only; omega) (ele_tell (pm := [((0, nx2), (i + 1) * 8)]) _ _ rfl rfl (List.Sublist.refl _) (List.Sublist.refl _) trivial ⟨rfl, rfl, trivial⟩ ⟨AVle.refl _, (AVle.os_fun (appF_one (fun k hk => rfl) ?_)).trans (AVle.os_nm rfl), le_int (wrap_succ (by dsimp only; omega)), trivial⟩)
        rfl
theorem bytes_records : Tryd.prog.bytesOf 73 = 64 := by kernel_rfl
set_option maxHeartbeats 2000000 in
theorem l26records_spec (l : List Rec) (hl : l.length ≤ 1000000) : Tells Tryd.prog 7 [recs l] (recs l) := by
  refine tells_of_aw Tryd.func7 rfl rfl fun nx => ?_
  (repeat((conv=>whnf);first|apply ω0|apply ω1|apply ω2|refine τ3 rfl ?_|refine τ4 rfl ?_|refine ⟨rfl,?_⟩|apply τa|refine τb rfl ?_|refine ⟨⟨by kernel_rfl,by kernel_rfl⟩,?_⟩|refine ⟨by decide,?_⟩|apply τt|apply τf))
  refine aw_loop (fun s : Nat × Option Nat × Nat => mk 36 [(0, recs l), (3, .os 9 s.1 (fun j => recA (l.getD j rec0)) (nmd s.2.1)), (4, int s.1)] ⟨[], pmOf (nmd s.2.1) (s.1 * 9), s.2.2, 1⟩) (fun s => s.1 ≤ l.length ∧ (s.2.1 = none → s.1 = 0)) (fun s => l.length - s.1) ?_ ?_
  · exact ⟨(0, none, nx), ⟨Nat.zero_le _, fun _ => rfl⟩, ele_tell (pm := []) _ [] rfl rfl (List.Sublist.refl _) (List.Sublist.refl _) trivial trivial ⟨AVle.refl _, AVle.os_nil, AVle.refl _, trivial⟩⟩
  · rintro ⟨i, oi, nx2⟩ ⟨h3, h4⟩
    dsimp only at h3 h4
    (repeat((conv=>whnf);first|apply ω0|apply ω1|apply ω2|refine τ3 rfl ?_|refine τ4 rfl ?_|refine ⟨rfl,?_⟩|apply τa|refine τb rfl ?_|refine ⟨⟨by kernel_rfl,by kernel_rfl⟩,?_⟩|refine ⟨by decide,?_⟩|apply τt|apply τf))
    intro c h5; cases c
    · have h6 := not_of h5
      dsimp only at h6
      obtain rfl : i = l.length := by omega
      rcases oi with _ | id
      all_goals
        (repeat((conv=>whnf);first|apply ω0|apply ω1|apply ω2|refine τ3 rfl ?_|refine τ4 rfl ?_|refine ⟨rfl,?_⟩|apply τa|refine τb rfl ?_|refine ⟨⟨by kernel_rfl,by kernel_rfl⟩,?_⟩|refine ⟨by decide,?_⟩|apply τt|apply τf))
        exact ret_tells rfl AVle.os_sl
    · have h6 := yes_of h5
      dsimp only at h6
      have hi : i < l.length := by omega
      (repeat((conv=>whnf);first|apply ω0|apply ω1|apply ω2|refine τ3 rfl ?_|refine τ4 rfl ?_|refine ⟨rfl,?_⟩|apply τa|refine τb rfl ?_|refine ⟨⟨by kernel_rfl,by kernel_rfl⟩,?_⟩|refine ⟨by decide,?_⟩|apply τt|apply τf))
      refine aw_mixN 25 _ (fun i => match i with | 23 => true | _ => false) (fun i => match i with | 20 => true | _ => false) [0, 1, 2, 3, 4, 5, 6, 7, 8, 9, 10, 11, 12, 13, 14, 15, 16, 17, 18, 19, 20, 21, 22, 23, 24] (by kernel_rfl) (by kernel_rfl) (HB.refl _) ?_
      (repeat((conv=>whnf);first|apply ω0|apply ω1|apply ω2|refine τ3 rfl ?_|refine τ4 rfl ?_|refine ⟨rfl,?_⟩|apply τa|refine τb rfl ?_|refine ⟨⟨by kernel_rfl,by kernel_rfl⟩,?_⟩|refine ⟨by decide,?_⟩|apply τt|apply τf))
      refine ⟨⟨by dsimp only; omega, by dsimp only; omega⟩, ?_⟩
      (repeat((conv=>whnf);first|apply ω0|apply ω1|apply ω2|refine τ3 rfl ?_|refine τ4 rfl ?_|refine ⟨rfl,?_⟩|apply τa|refine τb rfl ?_|refine ⟨⟨by kernel_rfl,by kernel_rfl⟩,?_⟩|refine ⟨by decide,?_⟩|apply τt|apply τf))
      refine ⟨⟨by dsimp only; omega, by dsimp only; omega⟩, ?_⟩
      (repeat((conv=>whnf);first|apply ω0|apply ω1|apply ω2|refine τ3 rfl ?_|refine τ4 rfl ?_|refine ⟨rfl,?_⟩|apply τa|refine τb rfl ?_|refine ⟨⟨by kernel_rfl,by kernel_rfl⟩,?_⟩|refine ⟨by decide,?_⟩|apply τt|apply τf))
      refine ⟨⟨by dsimp only; omega, by dsimp only; omega⟩, ?_⟩
      (repeat((conv=>whnf);first|apply ω0|apply ω1|apply ω2|refine τ3 rfl ?_|refine τ4 rfl ?_|refine ⟨rfl,?_⟩|apply τa|refine τb rfl ?_|refine ⟨⟨by kernel_rfl,by kernel_rfl⟩,?_⟩|refine ⟨by decide,?_⟩|apply τt|apply τf))
      refine ⟨⟨by dsimp only; omega, by dsimp only; omega⟩, ?_⟩
      (repeat((conv=>whnf);first|apply ω0|apply ω1|apply ω2|refine τ3 rfl ?_|refine τ4 rfl ?_|refine ⟨rfl,?_⟩|apply τa|refine τb rfl ?_|refine ⟨⟨by kernel_rfl,by kernel_rfl⟩,?_⟩|refine ⟨by decide,?_⟩|apply τt|apply τf))
      refine ⟨arrA (l.getD i rec0).arg, pure_apure rfl rfl (by first | trivial | exact ⟨rfl, Nat.le_of_ble_eq_true rfl⟩), ?_⟩
      (repeat((conv=>whnf);first|apply ω0|apply ω1|apply ω2|refine τ3 rfl ?_|refine τ4 rfl ?_|refine ⟨rfl,?_⟩|apply τa|refine τb rfl ?_|refine ⟨⟨by kernel_rfl,by kernel_rfl⟩,?_⟩|refine ⟨by decide,?_⟩|apply τt|apply τf))
      rcases oi with _ | id
      · obtain rfl := h4 rfl
        refine ⟨_, eff_append1 (e := 73) (c := 9) (pm := []) (n := 0) (oi := none) (sz := 9) (f := fun j => recA (l.getD j rec0)) (HB.refl _) rfl rfl rfl (.inr ⟨_, rfl⟩) (by kernel_rfl) (by kernel_rfl) (by kernel_rfl) (.inr rfl) (by kernel_rfl) (List.append_nil _).symm (oneRow_one rfl) (by rw [bytes_records]; omega) (by omega), fun r h' hr => ?_⟩
        obtain ⟨rfl, rfl⟩ := hr
        (repeat((conv=>whnf);first|apply ω0|apply ω1|apply ω2|refine τ3 rfl ?_|refine τ4 rfl ?_|refine ⟨rfl,?_⟩|apply τa|refine τb rfl ?_|refine ⟨⟨by kernel_rfl,by kernel_rfl⟩,?_⟩|refine ⟨by decide,?_⟩|apply τt|apply τf))
        refine back (0 + 1, some nx2, nx2 + 1) ⟨by dsimp only; omega, (fun h => by cases h)⟩ (by dsimp only; omega) (ele_tell (pm := [((0, nx2), (0 + 1) * 9)]) _ _ rfl rfl (List.Sublist.refl _) (List.Sublist.refl _) trivial ⟨rfl, rfl, trivial⟩ ⟨AVle.refl _, (AVle.os_fun (appF_one (fun k hk => absurd hk (Nat.not_lt_zero k)) ?_)).trans (AVle.os_nm rfl), le_int (wrap_succ (by dsimp only; omega)), trivial⟩)
        rfl
      · refine ⟨_, eff_append1 (e := 73) (c := 9) (pm := []) (n := i) (oi := some (0, id)) (sz := 9) (f := fun j => recA (l.getD j rec0)) (HB.refl _) rfl rfl rfl (.inr ⟨_, rfl⟩) (by kernel_rfl) (by kernel_rfl) (by kernel_rfl) (.inr rfl) (by kernel_rfl) (List.append_nil _).symm (oneRow_one rfl) (by rw [bytes_records]; omega) (by omega), fun r h' hr => ?_⟩
        obtain ⟨rfl, rfl⟩ := hr
        (repeat((conv=>whnf);first|apply ω0|apply ω1|apply ω2|refine τ3 rfl ?_|refine τ4 rfl ?_|refine ⟨rfl,?_⟩|apply τa|refine τb rfl ?_|refine ⟨⟨by kernel_rfl,by kernel_rfl⟩,?_⟩|refine ⟨by decide,?_⟩|apply τt|apply τf))
        refine back (i + 1, some nx2, nx2 + 1) ⟨by dsimp only; omega, (fun h => by cases h)⟩ (by dsimp only; omega) (ele_tell (pm := [((0, nx2), (i + 1) * 9)]) _ _ rfl rfl (List.Sublist.refl _) (List.Sublist.refl _) trivial ⟨rfl, rfl, trivial⟩ ⟨AVle.refl _, (AVle.os_fun (appF_one (fun k hk => rfl) ?_)).trans (AVle.os_nm rfl), le_int (wrap_succ (by dsimp only; omega)), trivial⟩)
        rfl
def fewB (l : List TRow) : Bool := decide (l.length ≤ 40) && !l.any fun r => decide (60 < r.name.size)
theorem few_spec (l : List TRow) (hl : l.length ≤ maxLen) (hn : ∀ r ∈ l, r.name.size ≤ maxLen) : Tells Tryd.prog 4 [trows l] (boolA (fewB l)) := by
  refine tells_of_aw Tryd.func4 rfl rfl fun nx => ?_
  (repeat((conv=>whnf);first|apply ω0|apply ω1|apply ω2|refine τ3 rfl ?_|refine τ4 rfl ?_|refine ⟨rfl,?_⟩|apply τa|refine τb rfl ?_|refine ⟨⟨by kernel_rfl,by kernel_rfl⟩,?_⟩|refine ⟨by decide,?_⟩|apply τt|apply τf))
  by_cases hf : l.length ≤ 40
  rotate_left
  · (repeat((conv=>whnf);first|apply ω0|apply ω1|apply ω2|refine τ3 rfl ?_|refine τ4 rfl ?_|refine ⟨rfl,?_⟩|apply τa|refine τb rfl ?_|refine ⟨⟨by kernel_rfl,by kernel_rfl⟩,?_⟩|refine ⟨by decide,?_⟩|apply τt|apply τf))
    intro c h1; cases c
    · exact absurd (not_of h1) (by first | omega | (dsimp only; omega))
    (repeat((conv=>whnf);first|apply ω0|apply ω1|apply ω2|refine τ3 rfl ?_|refine τ4 rfl ?_|refine ⟨rfl,?_⟩|apply τa|refine τb rfl ?_|refine ⟨⟨by kernel_rfl,by kernel_rfl⟩,?_⟩|refine ⟨by decide,?_⟩|apply τt|apply τf))
    exact ret_tells rfl (le_bool (by unfold fewB; rw [decide_eq_false hf]; rfl))
  · (repeat((conv=>whnf);first|apply ω0|apply ω1|apply ω2|refine τ3 rfl ?_|refine τ4 rfl ?_|refine ⟨rfl,?_⟩|apply τa|refine τb rfl ?_|refine ⟨⟨by kernel_rfl,by kernel_rfl⟩,?_⟩|refine ⟨by decide,?_⟩|apply τt|apply τf))
    intro c h1; cases c
    rotate_left
    · exact absurd (yes_of h1) (by first | omega | (dsimp only; omega))
    (repeat((conv=>whnf);first|apply ω0|apply ω1|apply ω2|refine τ3 rfl ?_|refine τ4 rfl ?_|refine ⟨rfl,?_⟩|apply τa|refine τb rfl ?_|refine ⟨⟨by kernel_rfl,by kernel_rfl⟩,?_⟩|refine ⟨by decide,?_⟩|apply τt|apply τf))
    refine aw_loop (fun s : Nat × Nat => mk 20 [(0, trows l), (3, int s.1)] ⟨[], [], s.2, 0⟩) (fun s => s.1 ≤ l.length ∧ ∀ j, j < s.1 → (l.getD j trow0).name.size ≤ 60) (fun s => l.length - s.1) ?_ ?_
    · exact ⟨(0, nx), ⟨Nat.zero_le _, fun j hj => absurd hj (Nat.not_lt_zero j)⟩, ele_mk rfl rfl ⟨AVle.refl _, AVle.refl _, trivial⟩⟩
    · rintro ⟨i, nx2⟩ ⟨h3, h4⟩
      dsimp only at h3 h4
      (repeat((conv=>whnf);first|apply ω0|apply ω1|apply ω2|refine τ3 rfl ?_|refine τ4 rfl ?_|refine ⟨rfl,?_⟩|apply τa|refine τb rfl ?_|refine ⟨⟨by kernel_rfl,by kernel_rfl⟩,?_⟩|refine ⟨by decide,?_⟩|apply τt|apply τf))
      intro c h5; cases c
      · have h6 := not_of h5
        dsimp only at h6
        obtain rfl : i = l.length := by omega
        (repeat((conv=>whnf);first|apply ω0|apply ω1|apply ω2|refine τ3 rfl ?_|refine τ4 rfl ?_|refine ⟨rfl,?_⟩|apply τa|refine τb rfl ?_|refine ⟨⟨by kernel_rfl,by kernel_rfl⟩,?_⟩|refine ⟨by decide,?_⟩|apply τt|apply τf))
        refine ret_tells rfl (le_bool ?_)
        unfold fewB
        rw [decide_eq_true hf]
        symm
        simp only [Bool.true_and, Bool.not_eq_true', List.any_eq_false, decide_eq_true_eq]
        intro r hr
        obtain ⟨j, hj, rfl⟩ := List.mem_iff_getElem.1 hr
        have := h4 j hj
        simp [List.getD, hj] at this
        omega
      · have h6 := yes_of h5
        dsimp only at h6
        have hi : i < l.length := by omega
        have hnm := hn (l.getD i trow0) (by simp [List.getD, hi])
        (repeat((conv=>whnf);first|apply ω0|apply ω1|apply ω2|refine τ3 rfl ?_|refine τ4 rfl ?_|refine ⟨rfl,?_⟩|apply τa|refine τb rfl ?_|refine ⟨⟨by kernel_rfl,by kernel_rfl⟩,?_⟩|refine ⟨by decide,?_⟩|apply τt|apply τf))
        refine ⟨⟨by dsimp only; omega, by dsimp only; omega⟩, ?_⟩
        (repeat((conv=>whnf);first|apply ω0|apply ω1|apply ω2|refine τ3 rfl ?_|refine τ4 rfl ?_|refine ⟨rfl,?_⟩|apply τa|refine τb rfl ?_|refine ⟨⟨by kernel_rfl,by kernel_rfl⟩,?_⟩|refine ⟨by decide,?_⟩|apply τt|apply τf))
        intro c h7; cases c
        · have h7 := not_of h7
          dsimp only at h7
          rw [Int.toNat_natCast] at h7
          (repeat((conv=>whnf);first|apply ω0|apply ω1|apply ω2|refine τ3 rfl ?_|refine τ4 rfl ?_|refine ⟨rfl,?_⟩|apply τa|refine τb rfl ?_|refine ⟨⟨by kernel_rfl,by kernel_rfl⟩,?_⟩|refine ⟨by decide,?_⟩|apply τt|apply τf))
          exact back (i + 1, nx2) ⟨hi, fun j hj => by dsimp only at hj; rcases Nat.lt_or_ge j i with q | q; exact h4 j q; rw [show j = i by omega]; omega⟩ (by dsimp only; omega) (ele_mk rfl rfl ⟨AVle.refl _, le_int (wrap_succ (by dsimp only; omega)), trivial⟩)
        · have h7 := yes_of h7
          dsimp only at h7
          rw [Int.toNat_natCast] at h7
          (repeat((conv=>whnf);first|apply ω0|apply ω1|apply ω2|refine τ3 rfl ?_|refine τ4 rfl ?_|refine ⟨rfl,?_⟩|apply τa|refine τb rfl ?_|refine ⟨⟨by kernel_rfl,by kernel_rfl⟩,?_⟩|refine ⟨by decide,?_⟩|apply τt|apply τf))
          refine ret_tells rfl (le_bool ?_)
          unfold fewB
          symm
          rw [Bool.and_eq_false_iff]
          right
          simp only [Bool.not_eq_false', List.any_eq_true, decide_eq_true_eq]
          exact ⟨l.getD i trow0, by simp [List.getD, hi], by omega⟩
end Go.Proofs.W

namespace Go.Proofs.W
open Go.Vl
set_option maxRecDepth 100000

theorem noid_rul (r : Rul) : NoId (.ag [strA r.name, int r.act.1, int r.act.2, cnds r.conds]) := NoId.ag (by
  intro y hy
  simp only [List.mem_cons, List.not_mem_nil, or_false] at hy
  rcases hy with rfl | rfl | rfl | rfl
  · exact NoId.v _
  · exact NoId.v _
  · exact NoId.v _
  · refine NoId.sl fun i hi c hc => ?_
    simp only [cndA, AV.cells, List.mem_cons, List.not_mem_nil, or_false] at hc
    rcases hc with rfl | rfl | rfl | rfl <;> exact NoId.v _)
theorem bytes_cnd_l26 : Tryd.prog.bytesOf 49 = 32 := by kernel_rfl
theorem bytes_rul_l26 : Tryd.prog.bytesOf 47 = 56 := by kernel_rfl
end Go.Proofs.W

namespace Go.Proofs.W
open Go.Vl
set_option maxRecDepth 100000

/-- Sizes that any machine has. -/
def Rul.ok (r : Rul) : Prop := r.name.size ≤ maxLen ∧ r.conds.length ≤ maxLen ∧ ∀ c ∈ r.conds, c.ok
def rightR (r : Rul) : Bool := nameB r.name.data.toList && (right9 r.act.1 r.act.2 && (decide (r.conds.length ≤ 6) && !(r.conds.any fun c => !rightC c)))
def rightP (p : Pol) : Bool := right9 p.dflt.1 p.dflt.2 && (decide (p.rules.length ≤ 500) && !(p.rules.any fun r => !rightR r))
def Pol.ok (p : Pol) : Prop := p.rules.length ≤ maxLen ∧ ∀ r ∈ p.rules, r.ok
def lightR (r : Rul) : Bool := decide (r.name.size ≤ 60) && decide (r.conds.length ≤ 12)
def lightP (p : Pol) : Bool := decide (p.rules.length ≤ 40) && p.rules.all lightR
end Go.Proofs.W

namespace Go.Proofs.W
open Go.Vl
set_option maxRecDepth 100000

theorem cnd_eqb {c d : Cnd} : (c.arg == d.arg && (c.op == d.op && ((c.mask : Int) == (d.mask : Int) && ((c.value : Int) == (d.value : Int) && true)))) = decide (c = d) := by
  rw [Bool.eq_iff_iff]
  simp only [Bool.and_eq_true, beq_iff_eq, decide_eq_true_eq, and_true]
  obtain ⟨a1, a2, a3, a4⟩ := c
  obtain ⟨b1, b2, b3, b4⟩ := d
  simp
  omega
theorem eq_of_get {α : Type} {a b : List α} {d : α} (hl : a.length = b.length) (h : ∀ j, j < a.length → a.getD j d = b.getD j d) : a = b := by
  refine List.ext_getElem hl fun j h1 h2 => ?_
  have := h j h1
  simpa [List.getD, h1, h2] using this
def sameR (a b : Rul) : Bool := (a.name.data.toList == b.name.data.toList) && (decide (a.act = b.act) && decide (a.conds = b.conds))
theorem act_eqb {a b : A2} : (a.1 == b.1 && (a.2 == b.2 && true)) = decide (a = b) := by
  rw [Bool.eq_iff_iff]
  simp only [Bool.and_eq_true, beq_iff_eq, decide_eq_true_eq, and_true]
  exact (Prod.ext_iff).symm
def sameL (a b : List Rul) : Bool := decide (a.length = b.length) && (List.range a.length).all fun j => sameR (a.getD j rul0) (b.getD j rul0)
def sameP (a b : Pol) : Bool := decide (a.dflt = b.dflt) && (decide (a.x32 = b.x32) && sameL a.rules b.rules)
end Go.Proofs.W

namespace Go.Proofs.W
open Go.Vl
set_option maxRecDepth 100000

def okN (n : Nat) : Bool := (decide (97 ≤ n) && decide (n ≤ 122)) || (decide (48 ≤ n) && decide (n ≤ 57)) || decide (n = 95)
theorem signs_all : ∀ n, n < 256 → signsB.data.toList.contains (UInt8.ofNat n) = okN n := by decide +kernel
theorem letters_all : ∀ n, n < 256 → lettersB.data.toList.contains (UInt8.ofNat n) = (decide (97 ≤ n) && decide (n ≤ 122)) := by decide +kernel
theorem signs_ok (b : UInt8) : signsB.data.toList.contains b = okN b.toNat := by
  have := signs_all b.toNat b.toNat_lt
  rwa [UInt8.ofNat_toNat] at this
theorem letters_ok (b : UInt8) : lettersB.data.toList.contains b = (decide (97 ≤ b.toNat) && decide (b.toNat ≤ 122)) := by
  have := letters_all b.toNat b.toNat_lt
  rwa [UInt8.ofNat_toNat] at this
/-- As the reference asks. -/
theorem nameB_ref (l : List UInt8) : nameB l = true ↔ l.length ≠ 0 ∧ l.length ≤ 30 ∧ 97 ≤ (l.headD 0).toNat ∧ (l.headD 0).toNat ≤ 122 ∧ l ≠ defaultL ∧ l ≠ x32L ∧ ∀ j, j < l.length → okN (l.getD j 0).toNat = true := by
  unfold nameB
  simp only [Bool.and_eq_true, Bool.not_eq_true', beq_eq_false_iff_ne, decide_eq_true_eq, letters_ok, List.all_eq_true, signs_ok]
  constructor
  · rintro ⟨h1, h2, h3, h4, h5, h6, h7⟩
    refine ⟨fun h => h1 (List.length_eq_zero_iff.1 h), h4, h6, h7, h2, h3, fun j hj => ?_⟩
    exact h5 _ (by simp [List.getD, hj])
  · rintro ⟨h1, h2, h3, h4, h5, h6, h7⟩
    refine ⟨fun h => h1 (by rw [h]; rfl), h5, h6, h2, fun x hx => ?_, h3, h4⟩
    obtain ⟨j, hj, rfl⟩ := List.getElem_of_mem hx
    have := h7 j hj
    simpa [List.getD, hj] using this
theorem nameB_false {l : List UInt8} (h : ¬ (l.length ≠ 0 ∧ l.length ≤ 30 ∧ 97 ≤ (l.headD 0).toNat ∧ (l.headD 0).toNat ≤ 122 ∧ l ≠ defaultL ∧ l ≠ x32L ∧ ∀ j, j < l.length → okN (l.getD j 0).toNat = true)) : nameB l = false := by
  rw [← nameB_ref] at h
  simpa using h
theorem okN_in {n : Nat} (h : (97 ≤ n ∧ n ≤ 122) ∨ (48 ≤ n ∧ n ≤ 57) ∨ n = 95) : okN n = true := by
  unfold okN
  simp only [Bool.or_eq_true, Bool.and_eq_true, decide_eq_true_eq]
  omega
theorem okN_out {n : Nat} (h : ¬ ((97 ≤ n ∧ n ≤ 122) ∨ (48 ≤ n ∧ n ≤ 57) ∨ n = 95)) : okN n = false := by
  unfold okN
  simp only [Bool.or_eq_false_iff, Bool.and_eq_false_iff, decide_eq_false_iff_not]
  omega
theorem ba_get (s : ByteArray) (i : Nat) : s.data.getD i 0 = s.data.toList.getD i 0 := by
  simp [Array.getD_eq_getD_getElem?, List.getD]
theorem head_getD (l : List UInt8) : l.headD 0 = l.getD 0 0 := by cases l <;> rfl
end Go.Proofs.W

namespace Go.Proofs.W
open Go.Vl
set_option maxRecDepth 100000

theorem any_first {l : List Rul} {i : Nat} (hi : i < l.length) (h : rightR (l.getD i rul0) = false) : (l.any fun r => !rightR r) = true := by
  rw [List.any_eq_true]
  exact ⟨l.getD i rul0, by simp [List.getD, hi], by rw [h]; rfl⟩
theorem any_none {l : List Rul} (h : ∀ j, j < l.length → rightR (l.getD j rul0) = true) : (l.any fun r => !rightR r) = false := by
  rw [List.any_eq_false]
  intro r hr
  obtain ⟨j, hj, rfl⟩ := List.getElem_of_mem hr
  have := h j hj
  rw [List.getD_eq_getElem?_getD, List.getElem?_eq_getElem hj] at this
  simp at this
  simp [this]
theorem anyC_first {l : List Cnd} {i : Nat} (hi : i < l.length) (h : rightC (l.getD i cnd0) = false) : (l.any fun c => !rightC c) = true := by
  rw [List.any_eq_true]
  exact ⟨l.getD i cnd0, by simp [List.getD, hi], by rw [h]; rfl⟩
theorem anyC_none {l : List Cnd} (h : ∀ j, j < l.length → rightC (l.getD j cnd0) = true) : (l.any fun c => !rightC c) = false := by
  rw [List.any_eq_false]
  intro r hr
  obtain ⟨j, hj, rfl⟩ := List.getElem_of_mem hr
  have := h j hj
  rw [List.getD_eq_getElem?_getD, List.getElem?_eq_getElem hj] at this
  simp at this
  simp [this]
end Go.Proofs.W

namespace Go.Proofs.W
open Go.Vl
set_option maxRecDepth 100000

end Go.Proofs.W

namespace Go.Proofs.W
open Go.Vl
set_option maxRecDepth 100000

theorem bit30 (n : Nat) : decide (n &&& 1073741824 ≠ 0) = decide (n / 1073741824 % 2 = 1) := by
  have hlo : n % 1073741824 < 2 ^ 30 := Nat.mod_lt _ (by decide)
  have e1 : n = 2 ^ 30 * (n / 1073741824) + n % 1073741824 := by have := Nat.div_add_mod n 1073741824; show n = 1073741824 * _ + _; omega
  have hs := and_split (c := n / 1073741824) (lo := n % 1073741824) (d := 1) (m := 0) (i := 30) hlo (by decide)
  rw [← e1, Nat.and_one_is_mod, Nat.and_zero, show (2 ^ 30 * 1 + 0 : Nat) = 1073741824 by decide] at hs
  rw [hs]
  have : n / 1073741824 % 2 = 0 ∨ n / 1073741824 % 2 = 1 := by omega
  rcases this with q | q <;> rw [q] <;> decide
theorem withB_eq (n : Nat) : withB n = (decide (n ≠ 4294967295) && decide (n / 1073741824 % 2 = 1)) := by
  unfold withB; rw [bit30, Bool.and_comm]
theorem quo30 {n : Nat} (h : n < 4294967296) : (IntKind.u32.wrap ((n : Int).tdiv 1073741824)).tmod 2 = ((n / 1073741824 % 2 : Nat) : Int) := by
  have e : (n : Int).tdiv 1073741824 = ((n / 1073741824 : Nat) : Int) := (Int.ofNat_tdiv n 1073741824).symm
  rw [e]
  have e2 : IntKind.u32.wrap ((n / 1073741824 : Nat) : Int) = ((n / 1073741824 : Nat) : Int) := by
    have : n / 1073741824 < 4 := by omega
    simp [IntKind.wrap, IntKind.signed, IntKind.bits]; omega
  rw [e2]
  exact (Int.ofNat_tmod (n / 1073741824) 2).symm
def selI (arch num : Nat) : Int := match selO arch num with
  | some a => a
  | none => -1
theorem sel_2 (num : Nat) : selI 1073741827 num = 2 := by unfold selI selO; cases withB num <;> rfl
theorem sel_3 (num : Nat) : selI 3221225655 num = 3 := by unfold selI selO; cases withB num <;> rfl
theorem sel_4 (num : Nat) : selI 3221225715 num = 4 := by unfold selI selO; cases withB num <;> rfl
theorem sel_01 (num : Nat) : selI 3221225534 num = if withB num then 1 else 0 := by unfold selI selO; cases withB num <;> rfl
theorem sel_x {arch num : Nat} (h2 : arch ≠ 1073741827) (h3 : arch ≠ 3221225655) (h4 : arch ≠ 3221225715) (h0 : arch ≠ 3221225534) : selI arch num = -1 := by
  unfold selI selO
  have : infN.find? (selB arch (withB num)) = none := by
    refine List.find?_eq_none.2 fun x hx => ?_
    unfold infN at hx
    simp only [List.mem_cons, List.not_mem_nil, or_false] at hx
    rw [Bool.not_eq_true]
    unfold selB
    rw [Bool.and_eq_false_iff]
    left
    rw [decide_eq_false_iff_not]
    rcases hx with rfl | rfl | rfl | rfl | rfl <;> (intro e; exact absurd e.symm (by assumption))
  rw [this]; rfl
end Go.Proofs.W

namespace Go.Proofs.W
open Go.Vl
set_option maxRecDepth 100000

theorem c_intT : Tryd.prog.cellsOf 3 = 1 := by kernel_rfl
def numR (r : TRow) (a i : Nat) : Int := if 0 ≤ r.num a then r.num a else -1 - (i : Int)
end Go.Proofs.W

namespace Go.Proofs.W
open Go.Vl
set_option maxRecDepth 100000

theorem numR_eq {r : TRow} {a i : Nat} {n : Int} (hn : 0 ≤ n) : (numR r a i == n) = nameB5 a n r := by
  unfold numR nameB5
  rw [Bool.eq_iff_iff]
  simp only [beq_iff_eq, decide_eq_true_eq]
  split
  · exact Iff.rfl
  · constructor
    · intro h; omega
    · intro h; omega
theorem subR_eq {r : TRow} {m s : Int} (hm : m = 1 ∨ m = 2) : subB m s r = (decide (r.mux = m) && decide (r.sub = s)) := by
  unfold subB
  rw [decide_eq_true (by omega : m ≠ 0), Bool.and_true]
end Go.Proofs.W

namespace Go.Proofs.W
open Go.Vl
set_option maxRecDepth 100000

/-- The row that a record calls. -/
def atO (l : List TRow) (r : Rec) : Option Nat := match selO r.arch r.num with
  | none => none
  | some a => if 0 < kindO a r.num then l.findIdx? (subB (kindO a r.num) ((r.a0 % 4294967296 : Nat) : Int)) else l.findIdx? (nameB5 a ((ownI a r.num : Nat) : Int))
def muxB (r : Rec) : Bool := match selO r.arch r.num with
  | none => false
  | some a => decide (0 < kindO a r.num)
def of12A (l : List TRow) (r : Rec) : AV := .ag [int (selI r.arch r.num), int (optI (atO l r)), boolA (muxB r)]
theorem low_i {x : Nat} (h : x < 18446744073709551616) : IntKind.i64.wrap ((x : Int).tmod 4294967296) = ((x % 4294967296 : Nat) : Int) := by
  have e : (x : Int).tmod 4294967296 = ((x % 4294967296 : Nat) : Int) := (Int.ofNat_tmod x 4294967296).symm
  rw [e]
  exact wrap_id (by omega) (by omega)
end Go.Proofs.W

namespace Go.Proofs.W
open Go.Vl
set_option maxRecDepth 100000

def argR (r : Rec) (k : Nat) : Nat := if selI r.arch r.num = 2 then r.arg k % 4294967296 else r.arg k
def ofR (l : List TRow) (at_ : Nat) (rs : List Rec) : List Rec := rs.filter fun r => decide (atO l r = some at_)
theorem ofR_next {l : List TRow} {a : Nat} {rs : List Rec} {i : Nat} (h : i < rs.length) : ofR l a (rs.take (i + 1)) = if atO l (rs.getD i rec0) = some a then ofR l a (rs.take i) ++ [rs.getD i rec0] else ofR l a (rs.take i) := by
  unfold ofR
  rw [take_getD rec0 h, List.filter_append]
  by_cases q : atO l (rs.getD i rec0) = some a
  · rw [if_pos q, List.filter_cons, if_pos (decide_eq_true q)]; rfl
  · rw [if_neg q, List.filter_cons, if_neg (by rw [decide_eq_false q]; decide)]; simp
theorem ofR_le {l : List TRow} {a : Nat} {rs : List Rec} : (ofR l a rs).length ≤ rs.length := List.length_filter_le _ _
theorem arg_lt {r : Rec} (h : r.ok) (k : Nat) : r.arg k < 18446744073709551616 := by
  obtain ⟨_, _, _, h0, h1, h2, h3, h4, h5⟩ := h
  unfold Rec.arg; split <;> assumption
theorem optI_eq {o : Option Nat} {a : Nat} : (optI o == (a : Int)) = decide (o = some a) := by
  cases o with
  | none => simp [optI]
  | some i => rw [Bool.eq_iff_iff]; simp [optI]; omega
theorem bytes_rec5 : Tryd.prog.bytesOf 29 = 64 := by kernel_rfl
theorem noid_u64 (n : Int) : NoId (u64 n) := NoId.v _
end Go.Proofs.W

namespace Go.Proofs.W
open Go.Vl
set_option maxRecDepth 100000

def muxBad (r : TRow) : Bool := decide (r.mux < 0) || (decide (2 < r.mux) || ((decide (r.mux = 0) && decide (r.sub ≠ 0)) || (decide (0 < r.mux) && (decide (r.sub < 1) || decide (255 < r.sub)))))
theorem ranged_eq (r : TRow) : rangedR r = (!badR r && !muxBad r) := by
  unfold rangedR
  congr 1
  unfold muxBad
  by_cases h : r.mux = 0
  · rw [if_pos h, h]; simp
  · rw [if_neg h, Bool.eq_iff_iff]; simp; omega
def clashN (r s : TRow) : Bool := [0, 1, 2, 3, 4].any fun a => decide (0 ≤ r.num a) && decide (s.num a = r.num a)
def clashM (r s : TRow) : Bool := decide (0 < r.mux) && (decide (s.mux = r.mux) && decide (s.sub = r.sub))
def clashB (l : List TRow) (i : Nat) : Bool := (l.take i).any fun s => clashN (l.getD i trow0) s || clashM (l.getD i trow0) s
def a2Bad (r : TRow) : Bool := decide (r.a2 = 102) || decide (r.a2 = 117)
def rowI (l : List TRow) (i : Nat) : Int := if nameB (l.getD i trow0).name.data.toList = false then 13 else if ordB l i then 15 else if badR (l.getD i trow0) then 16 else if muxBad (l.getD i trow0) then 16 else if a2Bad (l.getD i trow0) then 17 else if clashB l i then 15 else 0
theorem geq_leB (s t : ByteArray) : (!Op.bytesLess t.toList s.toList) = leB s t := by
  cases h : leB s t with
  | false =>
    have := leB_no h
    rw [Go.Proofs.bytesLess_eq, Lib.toList_data, Lib.toList_data]
    unfold Go.Sort.ltStr at this
    rw [this]; rfl
  | true =>
    unfold leB at h
    rw [Go.Proofs.bytesLess_eq, Lib.toList_data, Lib.toList_data] at h ⊢
    rw [Bool.or_eq_true, decide_eq_true_iff] at h
    rw [Bool.not_eq_true', decide_eq_false_iff_not]
    rcases h with h | h
    · exact fun k => absurd (List.lt_trans h k) (List.lt_irrefl _)
    · rw [beq_iff_eq] at h; rw [h]; exact List.lt_irrefl _
theorem rowI_13 {l : List TRow} {i : Nat} (h : nameB (l.getD i trow0).name.data.toList = false) : rowI l i = 13 := if_pos h
theorem rowI_ord {l : List TRow} {i : Nat} (h : nameB (l.getD i trow0).name.data.toList = true) : rowI l i = if ordB l i then 15 else if badR (l.getD i trow0) then 16 else if muxBad (l.getD i trow0) then 16 else if a2Bad (l.getD i trow0) then 17 else if clashB l i then 15 else 0 := if_neg (by rw [h]; decide)
theorem mux_tests (r : TRow) : muxBad r = (decide (r.mux < 0) || (decide (r.mux > 2) || (((r.mux == 0) && (r.sub != 0)) || (decide (r.mux > 0) && (decide (r.sub < 1) || decide (r.sub > 255)))))) := by
  unfold muxBad
  rw [show (r.mux == 0) = decide (r.mux = 0) by rw [Bool.eq_iff_iff]; simp, show (r.sub != 0) = decide (r.sub ≠ 0) by rw [Bool.eq_iff_iff]; simp]
theorem a2_tests (r : TRow) : a2Bad r = ((r.a2 == 102) || (r.a2 == 117)) := by
  unfold a2Bad
  rw [show (r.a2 == 102) = decide (r.a2 = 102) by rw [Bool.eq_iff_iff]; simp, show (r.a2 == 117) = decide (r.a2 = 117) by rw [Bool.eq_iff_iff]; simp]
theorem clash_true {l : List TRow} {i k : Nat} {r : TRow} (hr : l.getD i trow0 = r) (hk : k < i) (hi : i < l.length) (h : (clashN r (l.getD k trow0) || clashM r (l.getD k trow0)) = true) : clashB l i = true := by
  unfold clashB
  rw [hr, List.any_eq_true]
  refine ⟨l.getD k trow0, ?_, h⟩
  rw [List.mem_iff_getElem]
  exact ⟨k, by rw [List.length_take]; omega, by rw [List.getElem_take]; simp [List.getD, show k < l.length by omega]⟩
theorem clash_false {l : List TRow} {i : Nat} {r : TRow} (hr : l.getD i trow0 = r) (hi : i ≤ l.length) (h : ∀ k, k < i → (clashN r (l.getD k trow0) || clashM r (l.getD k trow0)) = false) : clashB l i = false := by
  unfold clashB
  rw [hr, List.any_eq_false]
  intro s hs
  obtain ⟨k, hk, rfl⟩ := List.mem_iff_getElem.1 hs
  rw [List.length_take] at hk
  have := h k (by omega)
  rw [List.getElem_take]
  simp [List.getD, show k < l.length by omega] at this ⊢
  exact this
def cN (r s : TRow) (a : Nat) : Bool := decide (r.num a ≥ 0) && decide (s.num a = r.num a)
theorem clashN_true {r s : TRow} {a : Nat} (ha : a < 5) (h : cN r s a = true) : clashN r s = true := by
  unfold clashN
  rw [List.any_eq_true]
  exact ⟨a, by simp; omega, h⟩
theorem clashN_false {r s : TRow} (h : ∀ a, a < 5 → cN r s a = false) : clashN r s = false := by
  unfold clashN
  rw [List.any_eq_false]
  intro a ha
  rw [show (decide (0 ≤ r.num a) && decide (s.num a = r.num a)) = cN r s a from rfl, h a (by simp at ha; omega)]
  decide
theorem clashM_tests (r s : TRow) : clashM r s = (decide (r.mux > 0) && ((s.mux == r.mux) && (s.sub == r.sub))) := by
  unfold clashM
  rw [show (s.mux == r.mux) = decide (s.mux = r.mux) by rw [Bool.eq_iff_iff]; simp, show (s.sub == r.sub) = decide (s.sub = r.sub) by rw [Bool.eq_iff_iff]; simp]
theorem bad_some {r : TRow} {k : Nat} (hk : k < 5) (h : true = badN (r.num k)) : badR r = true := by
  rcases (by omega : k = 0 ∨ k = 1 ∨ k = 2 ∨ k = 3 ∨ k = 4) with rfl | rfl | rfl | rfl | rfl
  all_goals
    have h' : badN (r.num _) = true := h.symm
    simp only [TRow.num] at h'
    simp [badR, h']
theorem bad_none {r : TRow} (h : ∀ j, j < 5 → badN (r.num j) = false) : badR r = false := by
  have h0 := h 0 (by decide)
  have h1 := h 1 (by decide)
  have h2 := h 2 (by decide)
  have h3 := h 3 (by decide)
  have h4 := h 4 (by decide)
  simp only [TRow.num] at h0 h1 h2 h3 h4
  simp [badR, h0, h1, h2, h3, h4]
end Go.Proofs.W

namespace Go.Proofs.W
open Go.Vl
set_option maxRecDepth 100000

def right11 (l : List TRow) : Int × Int := if 400 < l.length then (0, 3) else match (List.range l.length).find? (fun i => decide (rowI l i ≠ 0)) with
  | some i => ((i : Int), rowI l i)
  | none => (0, 0)
theorem find_range {n : Nat} {p : Nat → Bool} {i : Nat} (hi : i < n) (h : ∀ j, j < i → p j = false) (hp : p i = true) : (List.range n).find? p = some i := by
  rw [List.find?_range_eq_some]
  exact ⟨hp, List.mem_range.2 hi, fun j hj => by rw [h j hj]; rfl⟩
theorem find_range0 {n : Nat} {p : Nat → Bool} (h : ∀ j, j < n → p j = false) : (List.range n).find? p = none := by
  rw [List.find?_eq_none]
  intro x hx
  rw [h x (List.mem_range.1 hx)]; decide
end Go.Proofs.W

namespace Go.Proofs.W
open Go.Vl
set_option maxRecDepth 100000

/-- What was seen of the rows so far. -/
def SeenOf (l : List TRow) (k : Nat) (S : Seen) : Prop := (∀ (a : Nat) (n : Int), a < 5 → (((a : Int), n) ∈ S ↔ n ≠ -1 ∧ ∃ j, j < k ∧ (l.getD j trow0).num a = n)) ∧ (∀ m s : Int, m = 1 ∨ m = 2 → ((5 + m, s) ∈ S ↔ ∃ j, j < k ∧ (l.getD j trow0).mux = m ∧ (l.getD j trow0).sub = s))
theorem numsR_none {r : TRow} {S : Seen} : ∀ {k : Nat}, numsR r S k = none → ∃ a, a < k ∧ r.num a ≠ -1 ∧ ((a : Int), r.num a) ∈ S
  | 0, h => by unfold numsR at h; cases h
  | k + 1, h => by
    unfold numsR at h
    cases hk : numsR r S k with
    | none => obtain ⟨a, h1, h2⟩ := numsR_none hk; exact ⟨a, by omega, h2⟩
    | some S' =>
      rw [hk] at h
      dsimp only at h
      split at h
      · cases h
      · rename_i hn
        split at h
        · rename_i hm
          refine ⟨k, Nat.lt_succ_self _, hn, ?_⟩
          have : ∀ {m : Nat} {S' : Seen}, numsR r S m = some S' → ∀ x ∈ S', x ∈ S ∨ ∃ a, a < m ∧ x = ((a : Int), r.num a) := by
            intro m
            induction m with
            | zero => intro S' h x hx; unfold numsR at h; cases h; exact .inl hx
            | succ m ih =>
              intro S' h x hx
              unfold numsR at h
              cases hm : numsR r S m with
              | none => rw [hm] at h; cases h
              | some S1 =>
                rw [hm] at h
                dsimp only at h
                split at h
                · cases h
                  rcases ih hm x hx with q | ⟨a, q1, q2⟩
                  · exact .inl q
                  · exact .inr ⟨a, by omega, q2⟩
                · split at h
                  · cases h
                  · cases h
                    rcases List.mem_append.1 hx with hx | hx
                    · rcases ih hm x hx with q | ⟨a, q1, q2⟩
                      · exact .inl q
                      · exact .inr ⟨a, by omega, q2⟩
                    · exact .inr ⟨m, Nat.lt_succ_self _, List.mem_singleton.1 hx⟩
          rcases this hk _ hm with q | ⟨a, q1, q2⟩
          · exact q
          · have := congrArg Prod.fst q2
            dsimp only at this
            omega
        · cases h
theorem numsR_some {r : TRow} {S : Seen} : ∀ {k : Nat} {S' : Seen}, numsR r S k = some S' → (∀ x, x ∈ S' ↔ x ∈ S ∨ ∃ a, a < k ∧ r.num a ≠ -1 ∧ x = ((a : Int), r.num a)) ∧ ∀ a, a < k → r.num a ≠ -1 → ¬ ((a : Int), r.num a) ∈ S
  | 0, S', h => by
    unfold numsR at h; cases h
    exact ⟨fun x => ⟨.inl, fun q => by rcases q with q | ⟨a, q, _⟩; exact q; omega⟩, fun a ha => by omega⟩
  | k + 1, S', h => by
    unfold numsR at h
    cases hk : numsR r S k with
    | none => rw [hk] at h; cases h
    | some S1 =>
      rw [hk] at h
      dsimp only at h
      obtain ⟨i1, i2⟩ := numsR_some hk
      split at h
      · rename_i hn
        cases h
        refine ⟨fun x => (i1 x).trans ⟨fun q => ?_, fun q => ?_⟩, fun a ha hna => ?_⟩
        · rcases q with q | ⟨a, q1, q2⟩
          · exact .inl q
          · exact .inr ⟨a, by omega, q2⟩
        · rcases q with q | ⟨a, q1, q2⟩
          · exact .inl q
          · rcases Nat.lt_or_ge a k with w | w
            · exact .inr ⟨a, w, q2⟩
            · rw [show a = k by omega] at q2; exact absurd hn q2.1
        · rcases Nat.lt_or_ge a k with w | w
          · exact i2 a w hna
          · rw [show a = k by omega] at hna; exact absurd hn hna
      · rename_i hn
        split at h
        · cases h
        · rename_i hm
          cases h
          refine ⟨fun x => ?_, fun a ha hna => ?_⟩
          · rw [List.mem_append, i1, List.mem_singleton]
            constructor
            · rintro ((q | ⟨a, q1, q2⟩) | q)
              · exact .inl q
              · exact .inr ⟨a, by omega, q2⟩
              · exact .inr ⟨k, Nat.lt_succ_self _, hn, q⟩
            · rintro (q | ⟨a, q1, q2, q3⟩)
              · exact .inl (.inl q)
              · rcases Nat.lt_or_ge a k with w | w
                · exact .inl (.inr ⟨a, w, q2, q3⟩)
                · rw [show a = k by omega] at q3; exact .inr q3
          · rcases Nat.lt_or_ge a k with w | w
            · exact i2 a w hna
            · rw [show a = k by omega]
              exact fun q => hm ((i1 _).2 (.inl q))
theorem clash_iff {l : List TRow} {i : Nat} (hi : i < l.length) : clashB l i = true ↔ ∃ j, j < i ∧ ((∃ a, a < 5 ∧ 0 ≤ (l.getD i trow0).num a ∧ (l.getD j trow0).num a = (l.getD i trow0).num a) ∨ (0 < (l.getD i trow0).mux ∧ (l.getD j trow0).mux = (l.getD i trow0).mux ∧ (l.getD j trow0).sub = (l.getD i trow0).sub)) := by
  constructor
  · intro h
    unfold clashB at h
    rw [List.any_eq_true] at h
    obtain ⟨s, hs, h⟩ := h
    obtain ⟨j, hj, rfl⟩ := List.mem_iff_getElem.1 hs
    rw [List.length_take] at hj
    rw [List.getElem_take] at h
    have hg : l.getD j trow0 = l[j] := by simp [List.getD, show j < l.length by omega]
    refine ⟨j, by omega, ?_⟩
    rw [hg]
    rw [Bool.or_eq_true] at h
    rcases h with h | h
    · left
      unfold clashN at h
      rw [List.any_eq_true] at h
      obtain ⟨a, ha, h⟩ := h
      rw [Bool.and_eq_true, decide_eq_true_iff, decide_eq_true_iff] at h
      exact ⟨a, by simp at ha; omega, h⟩
    · right
      unfold clashM at h
      rw [Bool.and_eq_true, Bool.and_eq_true, decide_eq_true_iff, decide_eq_true_iff, decide_eq_true_iff] at h
      exact h
  · rintro ⟨j, hj, h⟩
    refine clash_true rfl hj hi ?_
    rw [Bool.or_eq_true]
    rcases h with ⟨a, ha, h1, h2⟩ | ⟨h1, h2, h3⟩
    · exact .inl (clashN_true ha (by unfold cN; rw [decide_eq_true h1, decide_eq_true h2]; rfl))
    · exact .inr (by unfold clashM; rw [decide_eq_true h1, decide_eq_true h2, decide_eq_true h3]; rfl)
theorem bad_num {r : TRow} (h : badR r = false) {a : Nat} (ha : a < 5) : -1 ≤ r.num a := by
  have : badN (r.num a) = false := by
    cases hq : badN (r.num a) with
    | false => rfl
    | true => rw [bad_some ha hq.symm] at h; cases h
  unfold badN at this
  rw [Bool.or_eq_false_iff, decide_eq_false_iff_not] at this
  omega
theorem row_iff {l : List TRow} {i : Nat} {S : Seen} (hi : i < l.length) (hS : SeenOf l i S) : (rowI l i = 0 → ∃ S', rowE l i S = .ok S' ∧ SeenOf l (i + 1) S') ∧ (rowI l i ≠ 0 → ∃ e, rowE l i S = .error e ∧ e ≠ 0) := by
  obtain ⟨s1, s2⟩ := hS
  cases hn : nameB (l.getD i trow0).name.data.toList with
  | false => rw [rowI_13 hn]; exact ⟨(fun h => by cases h), fun _ => ⟨13, rowE_13 hn, by decide⟩⟩
  | true =>
    rw [rowI_ord hn]
    cases ho : ordB l i with
    | true => rw [if_pos rfl]; exact ⟨(fun h => by cases h), fun _ => ⟨15, rowE_15 hn ho, by decide⟩⟩
    | false =>
      rw [if_neg (by decide)]
      cases hb : badR (l.getD i trow0) with
      | true =>
        rw [if_pos rfl]
        exact ⟨(fun h => by cases h), fun _ => ⟨16, rowE_16 hn ho (by rw [ranged_eq, hb]; rfl), by decide⟩⟩
      | false =>
        rw [if_neg (by decide)]
        cases hm : muxBad (l.getD i trow0) with
        | true =>
          rw [if_pos rfl]
          exact ⟨(fun h => by cases h), fun _ => ⟨16, rowE_16 hn ho (by rw [ranged_eq, hb, hm]; rfl), by decide⟩⟩
        | false =>
          rw [if_neg (by decide)]
          have hrg : rangedR (l.getD i trow0) = true := by rw [ranged_eq, hb, hm]; rfl
          cases ha : a2Bad (l.getD i trow0) with
          | true =>
            rw [if_pos rfl]
            have ha' : (l.getD i trow0).a2 = 102 ∨ (l.getD i trow0).a2 = 117 := by unfold a2Bad at ha; simpa using ha
            exact ⟨(fun h => by cases h), fun _ => ⟨17, rowE_17 hn ho hrg ha', by decide⟩⟩
          | false =>
            rw [if_neg (by decide)]
            have ha' : ¬ ((l.getD i trow0).a2 = 102 ∨ (l.getD i trow0).a2 = 117) := fun q => by
              unfold a2Bad at ha
              rcases q with q | q
              · rw [decide_eq_true q] at ha; cases ha
              · rw [decide_eq_true q, Bool.or_true] at ha; cases ha
            rw [rowE_rest hn ho hrg ha']
            cases hns : numsR (l.getD i trow0) S 5 with
            | none =>
              obtain ⟨a, h1, h2, h3⟩ := numsR_none hns
              obtain ⟨_, j, hj, h4⟩ := (s1 a _ h1).1 h3
              have hc : clashB l i = true := (clash_iff hi).2 ⟨j, hj, .inl ⟨a, h1, by have := bad_num hb h1; omega, h4⟩⟩
              rw [hc, if_pos rfl]
              exact ⟨(fun h => by cases h), fun _ => ⟨15, rfl, by decide⟩⟩
            | some S1 =>
              obtain ⟨i1, i2⟩ := numsR_some hns
              dsimp only
              have hnoN : ∀ j, j < i → ∀ a, a < 5 → 0 ≤ (l.getD i trow0).num a → (l.getD j trow0).num a ≠ (l.getD i trow0).num a := fun j hj a h1 h2 h3 => i2 a h1 (by omega) ((s1 a _ h1).2 ⟨by omega, j, hj, h3⟩)
              have hS1 : ∀ (a : Nat) (n : Int), a < 5 → (((a : Int), n) ∈ S1 ↔ n ≠ -1 ∧ ∃ j, j < i + 1 ∧ (l.getD j trow0).num a = n) := fun a n h5 => by
                rw [i1, s1 a n h5]
                constructor
                · rintro (⟨q1, j, q2, q3⟩ | ⟨b, q1, q2, q3⟩)
                  · exact ⟨q1, j, by omega, q3⟩
                  · have e1 : a = b := by have := congrArg Prod.fst q3; dsimp only at this; omega
                    have e2 : n = (l.getD i trow0).num b := congrArg Prod.snd q3
                    subst e1
                    exact ⟨by rw [e2]; exact q2, i, Nat.lt_succ_self _, e2.symm⟩
                · rintro ⟨q1, j, q2, q3⟩
                  rcases Nat.lt_or_ge j i with w | w
                  · exact .inl ⟨q1, j, w, q3⟩
                  · have e : j = i := by omega
                    subst e
                    exact .inr ⟨a, h5, by rw [q3]; exact q1, by rw [q3]⟩
              unfold muxR
              by_cases hm0 : (l.getD i trow0).mux = 0
              · rw [if_pos hm0]
                have hc : clashB l i = false := by
                  rw [Bool.eq_false_iff, Ne, clash_iff hi]
                  rintro ⟨j, hj, ⟨a, h1, h2, h3⟩ | ⟨h1, _⟩⟩
                  · exact hnoN j hj a h1 h2 h3
                  · omega
                rw [hc, if_neg (by decide)]
                refine ⟨fun _ => ⟨S1, rfl, hS1, fun m s hms => ?_⟩, fun h => absurd rfl h⟩
                rw [i1, s2 m s hms]
                constructor
                · rintro (⟨j, q2, q3⟩ | ⟨b, q1, q2, q3⟩)
                  · exact ⟨j, by omega, q3⟩
                  · have := congrArg Prod.fst q3; dsimp only at this; omega
                · rintro ⟨j, q2, q3, q4⟩
                  rcases Nat.lt_or_ge j i with w | w
                  · exact .inl ⟨j, w, q3, q4⟩
                  · have e : j = i := by omega
                    subst e; omega
              · rw [if_neg hm0]
                have hm12 := ranged_mux hrg hm0
                by_cases hin : (5 + (l.getD i trow0).mux, (l.getD i trow0).sub) ∈ S1
                · rw [if_pos hin]
                  have hinS : (5 + (l.getD i trow0).mux, (l.getD i trow0).sub) ∈ S := by
                    rcases (i1 _).1 hin with q | ⟨b, q1, q2, q3⟩
                    · exact q
                    · have := congrArg Prod.fst q3; dsimp only at this; omega
                  obtain ⟨j, hj, q1, q2⟩ := (s2 _ _ hm12).1 hinS
                  have hc : clashB l i = true := (clash_iff hi).2 ⟨j, hj, .inr ⟨by omega, q1, q2⟩⟩
                  rw [hc, if_pos rfl]
                  exact ⟨(fun h => by cases h), fun _ => ⟨15, rfl, by decide⟩⟩
                · rw [if_neg hin]
                  have hc : clashB l i = false := by
                    rw [Bool.eq_false_iff, Ne, clash_iff hi]
                    rintro ⟨j, hj, ⟨a, h1, h2, h3⟩ | ⟨h1, h2, h3⟩⟩
                    · exact hnoN j hj a h1 h2 h3
                    · exact hin ((i1 _).2 (.inl ((s2 _ _ hm12).2 ⟨j, hj, h2, h3⟩)))
                  rw [hc, if_neg (by decide)]
                  refine ⟨fun _ => ⟨_, rfl, fun a n h5 => ?_, fun m s hms => ?_⟩, fun h => absurd rfl h⟩
                  · rw [List.mem_append, hS1 a n h5, List.mem_singleton]
                    constructor
                    · rintro (q | q)
                      · exact q
                      · have := congrArg Prod.fst q; dsimp only at this; omega
                    · exact .inl
                  · rw [List.mem_append, i1, s2 m s hms, List.mem_singleton]
                    constructor
                    · rintro ((⟨j, q2, q3⟩ | ⟨b, q1, q2, q3⟩) | q)
                      · exact ⟨j, by omega, q3⟩
                      · have := congrArg Prod.fst q3; dsimp only at this; omega
                      · have e1 := congrArg Prod.fst q
                        have e2 := congrArg Prod.snd q
                        dsimp only at e1 e2
                        exact ⟨i, Nat.lt_succ_self _, by omega, e2.symm⟩
                    · rintro ⟨j, q2, q3, q4⟩
                      rcases Nat.lt_or_ge j i with w | w
                      · exact .inl (.inl ⟨j, w, q3, q4⟩)
                      · have e : j = i := by omega
                        subst e
                        exact .inr (by rw [q3, q4])
theorem rowsS_ok {l : List TRow} : ∀ {k : Nat}, k ≤ l.length → (∀ j, j < k → rowI l j = 0) → ∃ S, rowsS l k = .ok S ∧ SeenOf l k S
  | 0, _, _ => ⟨[], rfl, fun a n _ => by simp, fun m s _ => by simp⟩
  | k + 1, hk, h => by
    obtain ⟨S, h1, h2⟩ := rowsS_ok (k := k) (by omega) fun j hj => h j (by omega)
    obtain ⟨S', h3, h4⟩ := (row_iff (by omega) h2).1 (h k (by omega))
    exact ⟨S', rows_next h1 h3, h4⟩
theorem first_bad {l : List TRow} : (∀ j, j < l.length → rowI l j = 0) ∨ ∃ i, i < l.length ∧ rowI l i ≠ 0 ∧ ∀ j, j < i → rowI l j = 0 := by
  have : ∀ n, n ≤ l.length → (∀ j, j < n → rowI l j = 0) ∨ ∃ i, i < l.length ∧ rowI l i ≠ 0 ∧ ∀ j, j < i → rowI l j = 0 := by
    intro n
    induction n with
    | zero => exact fun _ => .inl fun j hj => absurd hj (Nat.not_lt_zero j)
    | succ n ih =>
      intro hn
      rcases ih (by omega) with h | h
      · by_cases q : rowI l n = 0
        · exact .inl fun j hj => by rcases Nat.lt_or_ge j n with w | w; exact h j w; rw [show j = n by omega]; exact q
        · exact .inr ⟨n, by omega, q, h⟩
      · exact .inr h
  exact this _ (Nat.le_refl _)
theorem tab_right (l : List TRow) : (tabR l).2 = 0 ↔ (right11 l).2 = 0 := by
  by_cases h4 : 400 < l.length
  · unfold tabR right11
    rw [if_pos h4, if_pos h4]
  · rcases first_bad (l := l) with h | ⟨i, hi, h1, h2⟩
    · obtain ⟨S, hS, -⟩ := rowsS_ok (Nat.le_refl _) h
      rw [tab_ok h4 hS]
      unfold right11
      rw [if_neg h4, find_range0 (fun j hj => decide_eq_false (fun q => q (h j hj)))]
    · obtain ⟨S, hS, hs⟩ := rowsS_ok (k := i) (by omega) h2
      obtain ⟨e, he, hne⟩ := (row_iff hi hs).2 h1
      rw [tab_err h4 hi hS he]
      unfold right11
      rw [if_neg h4, find_range (p := fun i => decide (rowI l i ≠ 0)) hi (fun j hj => decide_eq_false (fun q => q (h2 j hj))) (decide_eq_true h1)]
      exact ⟨fun q => absurd q hne, fun q => absurd q h1⟩
theorem right_rows {l : List TRow} (h : (tabR l).2 = 0) : l.length ≤ 400 ∧ ∀ j, j < l.length → rowI l j = 0 := by
  rw [tab_right] at h
  unfold right11 at h
  by_cases h4 : 400 < l.length
  · rw [if_pos h4] at h; cases h
  · rcases first_bad (l := l) with q | ⟨i, hi, h1, h2⟩
    · exact ⟨by omega, q⟩
    · rw [if_neg h4, find_range (p := fun i => decide (rowI l i ≠ 0)) hi (fun j hj => decide_eq_false (fun q => q (h2 j hj))) (decide_eq_true h1)] at h
      exact absurd h h1
theorem row_good {l : List TRow} {i : Nat} (h : rowI l i = 0) : nameB (l.getD i trow0).name.data.toList = true ∧ ordB l i = false ∧ badR (l.getD i trow0) = false ∧ muxBad (l.getD i trow0) = false ∧ a2Bad (l.getD i trow0) = false ∧ clashB l i = false := by
  cases hn : nameB (l.getD i trow0).name.data.toList with
  | false => rw [rowI_13 hn] at h; cases h
  | true =>
    rw [rowI_ord hn] at h
    split at h
    · cases h
    split at h
    · cases h
    split at h
    · cases h
    split at h
    · cases h
    split at h
    · cases h
    simp_all
theorem tab_sorted {l : List TRow} (h : (tabR l).2 = 0) : sortedT l := by
  obtain ⟨_, hr⟩ := right_rows h
  have step : ∀ i, i + 1 < l.length → Go.Sort.ltStr (l.getD i trow0).name.data.toList (l.getD (i + 1) trow0).name.data.toList = true := fun i hi => by
    have := (row_good (hr (i + 1) hi)).2.1
    unfold ordB at this
    rw [decide_eq_true (Nat.succ_pos i), Bool.true_and] at this
    exact leB_no this
  intro i j hij hj
  have : ∀ n, i + 1 + n < l.length → Go.Sort.ltStr (l.getD i trow0).name.data.toList (l.getD (i + 1 + n) trow0).name.data.toList = true := by
    intro n
    induction n with
    | zero => exact step i
    | succ n ih => exact fun hn => Go.Sort.swo_ltStr.trans _ _ _ (ih (by omega)) (step (i + 1 + n) (by omega))
  have := this (j - i - 1) (by omega)
  rwa [show i + 1 + (j - i - 1) = j by omega] at this
theorem tab_name {l : List TRow} (h : (tabR l).2 = 0) {i : Nat} (hi : i < l.length) : (l.getD i trow0).name.size ≠ 0 := by
  have := (row_good ((right_rows h).2 i hi)).1
  have := ((nameB_ref _).1 this).1
  exact this
end Go.Proofs.W

namespace Go.Proofs.W
open Go.Vl
set_option maxRecDepth 100000

def nameR (l : List TRow) (r : Rec) : ByteArray := (ofI l r).name
def ownN (l : List TRow) (s : ByteArray) (rs : List Rec) : List Rec := rs.filter fun r => kS s (nameR l r)
def xarg (l : List TRow) (r : Rec) (k : Nat) : Nat := argI (ofI l r).abi.toNat r k
theorem addG_no {s : ByteArray} {x : Nat → Nat} : ∀ {G : List Gat}, (∀ g ∈ G, kS s g.name = false) → addG s x G = G ++ [noteG ⟨s, 0, fun _ => 0, fun _ => false⟩ x]
  | [], _ => rfl
  | g :: G, h => by
    show (if kS s g.name = true then _ else g :: addG s x G) = _
    rw [if_neg (by rw [h g (.head _)]; decide), addG_no fun z hz => h z (.tail _ hz)]; rfl
theorem addG_in {s : ByteArray} {x : Nat → Nat} {g : Gat} (hg : g.name = s) {G2 : List Gat} : ∀ {G1 : List Gat}, (∀ z ∈ G1, kS s z.name = false) → addG s x (G1 ++ g :: G2) = G1 ++ noteG g x :: G2
  | [], _ => by
    show (if kS s g.name = true then noteG g x :: _ else _) = noteG g x :: _
    rw [if_pos (kS_eq.2 hg.symm)]
  | z :: G, h => by
    show (if kS s z.name = true then _ else z :: addG s x (G ++ g :: G2)) = _
    rw [if_neg (by rw [h z (.head _)]; decide), addG_in hg fun y hy => h y (.tail _ hy)]; rfl
def OwnOk (l : List TRow) (rs : List Rec) (g : Gat) : Prop := ∃ r0 rest, ownN l g.name rs = r0 :: rest ∧ g.m = rest.length + 1 ∧ (∀ k, g.a k = xarg l r0 k) ∧ ∀ k, g.b k = rest.all fun r => decide (xarg l r0 k = xarg l r k)
structure GInv (l : List TRow) (rs : List Rec) (S : List Gat × Bool) : Prop where
  nd : (S.1.map Gat.name).Nodup
  nz : ∀ g ∈ S.1, g.name.size ≠ 0
  own : ∀ g ∈ S.1, OwnOk l rs g
  all : ∀ r ∈ rs, (nameR l r).size ≠ 0 → ∃ g ∈ S.1, g.name = nameR l r
  x : S.2 = rs.any fun r => decide ((nameR l r).size ≠ 0) && decide ((ofI l r).abi = 1)
theorem ownN_snoc {l : List TRow} {s : ByteArray} {rs : List Rec} {r : Rec} : ownN l s (rs ++ [r]) = if kS s (nameR l r) then ownN l s rs ++ [r] else ownN l s rs := by
  unfold ownN
  rw [List.filter_append, List.filter_cons]
  split <;> simp
theorem own_keep {l : List TRow} {rs : List Rec} {r : Rec} {g : Gat} (h : OwnOk l rs g) (hk : kS g.name (nameR l r) = false) : OwnOk l (rs ++ [r]) g := by
  obtain ⟨r0, rest, h1, h2⟩ := h
  exact ⟨r0, rest, by rw [ownN_snoc, if_neg (by rw [hk]; decide)]; exact h1, h2⟩
theorem own_note {l : List TRow} {rs : List Rec} {r : Rec} {g : Gat} (h : OwnOk l rs g) (hk : g.name = nameR l r) : OwnOk l (rs ++ [r]) (noteG g (xarg l r)) := by
  obtain ⟨r0, rest, h1, h2, h3, h4⟩ := h
  have hm : ¬ g.m = 0 := by omega
  unfold noteG
  rw [if_neg hm]
  refine ⟨r0, rest ++ [r], ?_, by dsimp only; rw [h2]; simp, h3, fun k => ?_⟩
  · dsimp only
    rw [ownN_snoc, if_pos (kS_eq.2 hk), h1]; rfl
  · dsimp only
    rw [h4, h3, List.all_append]; simp
theorem kS_ne {s t : ByteArray} (h : s ≠ t) : kS s t = false := by
  cases hk : kS s t with
  | false => rfl
  | true => exact absurd (kS_eq.1 hk) h
theorem kS_no {s t : ByteArray} (h : kS s t = false) : s ≠ t := fun e => by rw [kS_eq.2 e] at h; cases h
theorem ginv_nil (l : List TRow) : GInv l [] ([], false) := ⟨List.nodup_nil, by simp, by simp, by simp, rfl⟩
theorem ginv_snoc {l : List TRow} {rs : List Rec} {S : List Gat × Bool} {r : Rec} (h : GInv l rs S) : GInv l (rs ++ [r]) (gatStep l S r) := by
  obtain ⟨G, x⟩ := S
  obtain ⟨nd, nz, own, all, hx⟩ := h
  dsimp only at nd nz own all hx
  have hxs : (rs ++ [r]).any (fun r => decide ((nameR l r).size ≠ 0) && decide ((ofI l r).abi = 1)) = (x || (decide ((nameR l r).size ≠ 0) && decide ((ofI l r).abi = 1))) := by rw [List.any_append, ← hx]; simp
  unfold gatStep
  by_cases hz : (ofI l r).name.size = 0
  · rw [if_pos hz]
    refine ⟨nd, nz, fun g hg => own_keep (own g hg) (kS_ne fun e => nz g hg (by rw [e]; exact hz)), fun r' hr' hs => ?_, ?_⟩
    · rcases List.mem_append.1 hr' with q | q
      · exact all r' q hs
      · rw [List.mem_singleton.1 q] at hs; exact absurd hz hs
    · rw [hxs, decide_eq_false (fun q => q hz)]; simp
  · rw [if_neg hz]
    have hx2 : (x || decide ((ofI l r).abi = 1)) = (rs ++ [r]).any (fun r => decide ((nameR l r).size ≠ 0) && decide ((ofI l r).abi = 1)) := by
      rw [hxs, show decide ((nameR l r).size ≠ 0) = true from decide_eq_true hz, Bool.true_and]
    have hxr : argI (ofI l r).abi.toNat r = xarg l r := rfl
    rcases nm_cases Gat.name (ofI l r).name G with hno | ⟨G1, g, G2, rfl, hgn, hno⟩
    · have hnew : OwnOk l (rs ++ [r]) (noteG ⟨(ofI l r).name, 0, fun _ => 0, fun _ => false⟩ (xarg l r)) := by
        have hown : ownN l (ofI l r).name rs = [] := by
          unfold ownN
          rw [List.filter_eq_nil_iff]
          intro r' hr' hk
          have e := kS_eq.1 hk
          obtain ⟨g, hg, hge⟩ := all r' hr' (by rw [← e]; exact hz)
          exact kS_no (hno g hg) (by rw [hge, e])
        refine ⟨r, [], ?_, rfl, fun k => rfl, fun k => rfl⟩
        show ownN l (ofI l r).name (rs ++ [r]) = _
        rw [ownN_snoc, if_pos (show kS (ofI l r).name (nameR l r) = true from kS_refl _), hown]; rfl
      refine ⟨?_, fun g hg => ?_, fun g hg => ?_, fun r' hr' hs => ?_, hx2⟩
      · dsimp only
        rw [addG_no hno, List.map_append, List.nodup_append]
        refine ⟨nd, by simp, fun a ha b hb => ?_⟩
        obtain ⟨g, hg, rfl⟩ := List.mem_map.1 ha
        simp only [List.map_cons, List.map_nil, List.mem_singleton] at hb
        rw [hb, noteG_name]
        exact fun e => kS_no (hno g hg) e.symm
      · dsimp only at hg
        rw [addG_no hno] at hg
        rcases List.mem_append.1 hg with q | q
        · exact nz g q
        · rw [List.mem_singleton.1 q, noteG_name]; exact hz
      · dsimp only at hg
        rw [addG_no hno] at hg
        rcases List.mem_append.1 hg with q | q
        · exact own_keep (own g q) (kS_ne fun e => kS_no (hno g q) e.symm)
        · rw [List.mem_singleton.1 q]; exact hnew
      · dsimp only
        rw [addG_no hno]
        rcases List.mem_append.1 hr' with q | q
        · obtain ⟨g, hg, e⟩ := all r' q hs; exact ⟨g, List.mem_append_left _ hg, e⟩
        · rw [List.mem_singleton.1 q]
          exact ⟨_, List.mem_append_right _ (.head _), noteG_name _ _⟩
    · rw [List.map_append, List.map_cons] at nd
      have hdis : ∀ z, z ∈ G1 ∨ z ∈ G2 → z.name ≠ g.name := fun z hz => by
        rw [List.nodup_append] at nd
        obtain ⟨n1, n2, n3⟩ := nd
        rcases hz with q | q
        · exact n3 _ (List.mem_map_of_mem q) _ (.head _)
        · rw [List.nodup_cons] at n2
          exact fun e => n2.1 (by rw [← e]; exact List.mem_map_of_mem q)
      refine ⟨?_, fun z hz => ?_, fun z hz' => ?_, fun r' hr' hs => ?_, hx2⟩
      · dsimp only
        rw [addG_in hgn hno, List.map_append, List.map_cons, noteG_name]; exact nd
      · dsimp only at hz
        rw [addG_in hgn hno] at hz
        rcases List.mem_append.1 hz with q | q
        · exact nz z (List.mem_append_left _ q)
        · rcases List.mem_cons.1 q with rfl | q
          · rw [noteG_name]; exact nz g (by simp)
          · exact nz z (by simp [q])
      · dsimp only at hz'
        rw [addG_in hgn hno] at hz'
        rcases List.mem_append.1 hz' with q | q
        · exact own_keep (own z (List.mem_append_left _ q)) (kS_ne fun e => hdis z (.inl q) (by rw [e, hgn]; rfl))
        · rcases List.mem_cons.1 q with rfl | q
          · exact own_note (own g (by simp)) hgn
          · exact own_keep (own z (by simp [q])) (kS_ne fun e => hdis z (.inr q) (by rw [e, hgn]; rfl))
      · dsimp only
        rw [addG_in hgn hno]
        rcases List.mem_append.1 hr' with q | q
        · obtain ⟨z, hz, e⟩ := all r' q hs
          rcases List.mem_append.1 hz with q | q
          · exact ⟨z, List.mem_append_left _ q, e⟩
          · rcases List.mem_cons.1 q with rfl | q
            · exact ⟨noteG z (argI (ofI l r).abi.toNat r), by simp, by rw [noteG_name]; exact e⟩
            · exact ⟨z, by simp [q], e⟩
        · rw [List.mem_singleton.1 q]
          exact ⟨noteG g (argI (ofI l r).abi.toNat r), by simp, by rw [noteG_name]; exact hgn⟩
theorem ginv_fold {l : List TRow} : ∀ (rs2 rs1 : List Rec) (S : List Gat × Bool), GInv l rs1 S → GInv l (rs1 ++ rs2) (rs2.foldl (gatStep l) S)
  | [], rs1, S, h => by rw [List.append_nil]; exact h
  | r :: rs2, rs1, S, h => by
    have := ginv_fold rs2 (rs1 ++ [r]) _ (ginv_snoc (r := r) h)
    rw [List.append_assoc] at this
    exact this
theorem gather_inv (l : List TRow) (rs : List Rec) : GInv l rs (gather l rs) := ginv_fold rs [] _ (ginv_nil l)
/-- The names that are called. -/
theorem keys_mem {l : List TRow} {rs : List Rec} {z : List UInt8} : z ∈ keysG (gather l rs).1 ↔ ∃ r ∈ rs, (nameR l r).size ≠ 0 ∧ (nameR l r).data.toList = z := by
  have hi := gather_inv l rs
  unfold keysG
  rw [sortBy_mem, List.mem_map]
  constructor
  · rintro ⟨g, hg, rfl⟩
    obtain ⟨r0, rest, h1, _⟩ := hi.own g hg
    have hm : r0 ∈ ownN l g.name rs := by rw [h1]; exact .head _
    unfold ownN at hm
    rw [List.mem_filter] at hm
    have e := kS_eq.1 hm.2
    exact ⟨r0, hm.1, by rw [← e]; exact hi.nz g hg, by rw [← e]⟩
  · rintro ⟨r, hr, h1, rfl⟩
    obtain ⟨g, hg, e⟩ := hi.all r hr h1
    exact ⟨g, hg, by rw [e]⟩
def RSb (a b : List UInt8) : Prop := Go.Sort.ltStr a b = true
theorem RSb_irr (x : List UInt8) : ¬ RSb x x := by unfold RSb; rw [Go.Sort.swo_ltStr.irrefl]; decide
theorem RSb_tr (x y z : List UInt8) (h : RSb x y) (k : RSb y z) : RSb x z := Go.Sort.swo_ltStr.trans x y z h k
theorem keys_strict' (l : List TRow) (rs : List Rec) : (keysG (gather l rs).1).Pairwise RSb := by
  have hi := gather_inv l rs
  have hn := hi.nd
  generalize (gather l rs).1 = G at hn
  have h1 := sortBy_pair Go.Sort.swo_ltStr (G.map fun g => g.name.data.toList)
  have h2 : (keysG G).Nodup := by
    refine (List.mergeSort_perm _ _).nodup_iff.2 ?_
    have : (G.map fun g => g.name.data.toList) = (G.map Gat.name).map (fun s : ByteArray => s.data.toList) := by rw [List.map_map]; rfl
    rw [this]
    rw [List.nodup_iff_pairwise_ne] at hn ⊢
    rw [List.pairwise_map]
    exact hn.imp fun h e => h (data_inj' e)
  rw [List.nodup_iff_pairwise_ne] at h2
  have h3 := h1.and h2
  refine h3.imp fun {a b} h => ?_
  unfold RSb
  cases hl : Go.Sort.ltStr a b with
  | true => rfl
  | false => exact absurd (ltStr_tot' _ _ hl h.1) h.2
theorem strict_ext : ∀ {a b : List (List UInt8)}, a.Pairwise RSb → b.Pairwise RSb → (∀ z, z ∈ a ↔ z ∈ b) → a = b
  | [], [], _, _, _ => rfl
  | [], y :: b, _, _, h => by have := (h y).2 (.head _); cases this
  | x :: a, [], _, _, h => by have := (h x).1 (.head _); cases this
  | x :: a, y :: b, ha, hb, h => by
    rw [List.pairwise_cons] at ha hb
    have hxy : x = y := by
      rcases List.mem_cons.1 ((h x).1 (.head _)) with e | hx
      · exact e
      · rcases List.mem_cons.1 ((h y).2 (.head _)) with e | hy
        · exact e.symm
        · exact absurd (RSb_tr _ _ _ (ha.1 y hy) (hb.1 x hx)) (RSb_irr x)
    subst hxy
    rw [strict_ext ha.2 hb.2 fun z => ⟨fun hz => ?_, fun hz => ?_⟩]
    · rcases List.mem_cons.1 ((h z).1 (.tail _ hz)) with e | q
      · subst e; exact absurd (ha.1 _ hz) (RSb_irr _)
      · exact q
    · rcases List.mem_cons.1 ((h z).2 (.tail _ hz)) with e | q
      · subst e; exact absurd (hb.1 _ hz) (RSb_irr _)
      · exact q
/-- What is gathered of a name. -/
theorem gat_own {l : List TRow} {rs : List Rec} {z : List UInt8} (h : z ∈ keysG (gather l rs).1) : (gatOf (gather l rs).1 ⟨z.toArray⟩).name = ⟨z.toArray⟩ ∧ OwnOk l rs (gatOf (gather l rs).1 ⟨z.toArray⟩) := by
  have hi := gather_inv l rs
  unfold keysG at h
  rw [sortBy_mem, List.mem_map] at h
  obtain ⟨g0, hg0, he⟩ := h
  rcases nm_cases Gat.name ⟨z.toArray⟩ (gather l rs).1 with hno | ⟨G1, g, G2, hG, hgn, hno⟩
  · exact absurd (by rw [← he] : (⟨z.toArray⟩ : ByteArray) = g0.name) (kS_no (hno g0 hg0))
  · have hm : g ∈ (gather l rs).1 := by rw [hG]; simp
    have e : gatOf (gather l rs).1 ⟨z.toArray⟩ = g := by rw [hG]; exact gatOf_at hgn hno
    rw [e]
    exact ⟨hgn, hi.own g hm⟩
end Go.Proofs.W

namespace Go.Proofs.W
open Go.Vl
set_option maxRecDepth 100000

theorem sorted_inj {l : List TRow} (h : sortedT l) {i j : Nat} (hi : i < l.length) (hj : j < l.length) (e : (l.getD i trow0).name = (l.getD j trow0).name) : i = j := by
  rcases Nat.lt_trichotomy i j with q | q | q
  · have := h i j q hj; rw [e] at this; exact absurd this (RSb_irr _)
  · exact q
  · have := h j i q hi; rw [e] at this; exact absurd this (RSb_irr _)
theorem nameR_eq (l : List TRow) (r : Rec) : nameR l r = nameO l (atO l r) := by
  unfold nameR ofI atO
  cases selO r.arch r.num with
  | none => rfl
  | some a => dsimp only; split <;> rfl
theorem atO_lt {l : List TRow} {r : Rec} {i : Nat} (h : atO l r = some i) : i < l.length := by
  unfold atO at h
  cases hs : selO r.arch r.num with
  | none => rw [hs] at h; cases h
  | some a =>
    rw [hs] at h
    dsimp only at h
    split at h <;> exact idx_lt h
theorem at_name {l : List TRow} (hok : (tabR l).2 = 0) {r : Rec} {a : Nat} (ha : a < l.length) : kS (l.getD a trow0).name (nameR l r) = decide (atO l r = some a) := by
  rw [nameR_eq, Bool.eq_iff_iff, kS_eq, decide_eq_true_iff]
  cases hat : atO l r with
  | none =>
    constructor
    · intro e
      have := tab_name hok ha
      rw [e] at this
      exact absurd rfl this
    · intro e; cases e
  | some i =>
    constructor
    · intro e; rw [sorted_inj (tab_sorted hok) ha (atO_lt hat) e]
    · intro e; cases e; rfl
theorem own_of {l : List TRow} (hok : (tabR l).2 = 0) (rs : List Rec) {a : Nat} (ha : a < l.length) : ownN l (l.getD a trow0).name rs = ofR l a rs := by
  unfold ownN ofR
  exact List.filter_congr fun r _ => at_name hok ha
def idxs (l : List TRow) (rs : List Rec) (n : Nat) : List Nat := (List.range n).filter fun a => !(ofR l a rs).isEmpty
theorem idxs_next {l : List TRow} {rs : List Rec} {n : Nat} : idxs l rs (n + 1) = if (ofR l n rs).length = 0 then idxs l rs n else idxs l rs n ++ [n] := by
  unfold idxs
  rw [List.range_succ, List.filter_append, List.filter_cons]
  cases h : ofR l n rs with
  | nil => simp
  | cons x xs => simp
theorem keys_idx {l : List TRow} (hok : (tabR l).2 = 0) (rs : List Rec) : keysG (gather l rs).1 = (idxs l rs l.length).map fun a => (l.getD a trow0).name.data.toList := by
  refine strict_ext (keys_strict' l rs) ?_ fun z => ?_
  · rw [List.pairwise_map]
    unfold idxs
    have h1 : (List.range l.length).Pairwise (· < ·) := List.pairwise_lt_range
    have h2 : ((List.range l.length).filter fun a => !(ofR l a rs).isEmpty).Pairwise fun a b => a < b ∧ b < l.length := by
      refine List.Pairwise.filter _ ?_
      have h3 : ∀ b ∈ List.range l.length, b < l.length := fun b hb => List.mem_range.1 hb
      refine List.Pairwise.imp_of_mem ?_ h1
      exact fun {a b} ha hb h => ⟨h, h3 b hb⟩
    exact h2.imp fun {a b} h => tab_sorted hok a b h.1 h.2
  · rw [keys_mem, List.mem_map]
    constructor
    · rintro ⟨r, hr, h1, h2⟩
      rw [nameR_eq] at h1 h2
      cases hat : atO l r with
      | none => rw [hat] at h1; exact absurd rfl h1
      | some a =>
        rw [hat] at h2
        refine ⟨a, ?_, h2⟩
        unfold idxs
        rw [List.mem_filter]
        refine ⟨List.mem_range.2 (atO_lt hat), ?_⟩
        have : r ∈ ofR l a rs := by unfold ofR; rw [List.mem_filter]; exact ⟨hr, decide_eq_true hat⟩
        cases hq : ofR l a rs with
        | nil => rw [hq] at this; cases this
        | cons => rfl
    · rintro ⟨a, ha, h2⟩
      unfold idxs at ha
      rw [List.mem_filter, List.mem_range] at ha
      obtain ⟨ha, hb⟩ := ha
      cases hq : ofR l a rs with
      | nil => rw [hq] at hb; cases hb
      | cons r rest =>
        have hm : r ∈ ofR l a rs := by rw [hq]; exact .head _
        unfold ofR at hm
        rw [List.mem_filter, decide_eq_true_iff] at hm
        have e : nameR l r = (l.getD a trow0).name := by rw [nameR_eq, hm.2]; rfl
        exact ⟨r, hm.1, by rw [e]; exact tab_name hok ha, by rw [e]; exact h2⟩
def refKt (l : List TRow) (rs : List Rec) (n : Nat) : List Ct := (idxs l rs n).map fun a => ⟨(l.getD a trow0).name, (ofR l a rs).length⟩
theorem toA (s : ByteArray) : (⟨s.data.toList.toArray⟩ : ByteArray) = s := rfl
theorem counts_ref {l : List TRow} (hok : (tabR l).2 = 0) (rs : List Rec) : countsL (gather l rs).1 = refKt l rs l.length := by
  have hk := keys_idx hok rs
  unfold countsL countsK refKt
  have hg := fun z => gat_own (l := l) (rs := rs) (z := z)
  rw [hk] at hg ⊢
  rw [List.map_map]
  refine List.map_congr_left fun a ha => ?_
  have haz := hg _ (List.mem_map_of_mem ha)
  have hlt : a < l.length := by unfold idxs at ha; rw [List.mem_filter, List.mem_range] at ha; exact ha.1
  rw [toA] at haz
  show (⟨(l.getD a trow0).name, (gatOf (gather l rs).1 (l.getD a trow0).name).m⟩ : Ct) = _
  obtain ⟨h1, r0, rest, h2, h3, _⟩ := haz
  rw [h1, own_of hok rs hlt] at h2
  rw [h3, h2]; rfl
theorem refKt_next {l : List TRow} {rs : List Rec} {n : Nat} : refKt l rs (n + 1) = if (ofR l n rs).length = 0 then refKt l rs n else refKt l rs n ++ [⟨(l.getD n trow0).name, (ofR l n rs).length⟩] := by
  unfold refKt
  rw [idxs_next]
  split
  · rfl
  · rw [List.map_append]; rfl
theorem refKt_pre {l : List TRow} {rs : List Rec} {n : Nat} : ∀ {m : Nat}, n ≤ m → ∃ t, refKt l rs m = refKt l rs n ++ t
  | 0, h => by obtain rfl : n = 0 := by omega
               exact ⟨[], by simp⟩
  | m + 1, h => by
    rcases Nat.lt_or_ge m n with q | q
    · obtain rfl : n = m + 1 := by omega
      exact ⟨[], by simp⟩
    · obtain ⟨t, ht⟩ := refKt_pre (n := n) q
      rw [refKt_next]
      split
      · exact ⟨t, ht⟩
      · exact ⟨t ++ [_], by rw [ht, List.append_assoc]⟩
theorem refKt_at {l : List TRow} {rs : List Rec} {n m : Nat} (hn : n < m) (h : (ofR l n rs).length ≠ 0) : (refKt l rs n).length < (refKt l rs m).length ∧ (refKt l rs m).getD (refKt l rs n).length ct0 = ⟨(l.getD n trow0).name, (ofR l n rs).length⟩ := by
  obtain ⟨t, ht⟩ := refKt_pre (l := l) (rs := rs) (n := n + 1) (m := m) hn
  rw [refKt_next, if_neg h] at ht
  rw [ht]
  constructor
  · simp
  · simp [List.getD]
theorem refKt_le {l : List TRow} {rs : List Rec} {n : Nat} : (refKt l rs n).length ≤ n := by
  unfold refKt idxs
  rw [List.length_map]
  exact Nat.le_trans (List.length_filter_le _ _) (by simp)
end Go.Proofs.W

namespace Go.Proofs.W
open Go.Vl
set_option maxRecDepth 100000

theorem ownEq_trow {a b : Own} (h : a = b) : OwnLe a b := h ▸ OwnLe.refl a
theorem gr_trow : growOk Tryd.prog 72 = true := by kernel_rfl
theorem gc_trow : Tryd.prog.cellsOf 72 = 8 := by kernel_rfl
theorem gb_trow : Tryd.prog.bytesOf 72 = 72 := by kernel_rfl
theorem gl_trow (x : TRow) : (trowA x).cells.length = 8 := rfl
theorem g1_trow (x : TRow) : (trowA x).cells.all isOne = true := rfl
/-- slices.Grow of nil: a box with room. -/
theorem grow_trow (n : Nat) (h0 : 0 < n) (hn : n ≤ 100000) (nx : Nat) :
    ECall Tryd.prog 52 [.os 0 0 (fun _ => .any) none, int n] ⟨[], [], nx, 0⟩ (fun r h' => ∃ s cap nx' nn', n ≤ cap ∧ r = .hs (0, s) 0 0 cap ∧ h' = ⟨[((0, s), .c (List.replicate (cap * 8) .any))], [], nx', nn'⟩) := by
  refine ECall.wk (ecall_of_aw Tryd.func52 rfl rfl ?_)
  (repeat((conv=>whnf);first|apply ω0|apply ω1|apply ω2|refine τ3 rfl ?_|refine τ4 rfl ?_|refine ⟨rfl,?_⟩|apply τa|refine τb rfl ?_|refine ⟨⟨by kernel_rfl,by kernel_rfl⟩,?_⟩|refine ⟨by decide,?_⟩|apply τt|apply τf))
  refine aop_cap0 rfl rfl Tryd.underlying38 ?_
  (repeat((conv=>whnf);first|apply ω0|apply ω1|apply ω2|refine τ3 rfl ?_|refine τ4 rfl ?_|refine ⟨rfl,?_⟩|apply τa|refine τb rfl ?_|refine ⟨⟨by kernel_rfl,by kernel_rfl⟩,?_⟩|refine ⟨by decide,?_⟩|apply τt|apply τf))
  intro c hc
  replace hc : c = decide (IntKind.i64.wrap ((n : Int) - 0) > 0) := hc
  rw [wrap_id (by omega) (by omega), decide_eq_true (by omega)] at hc
  subst hc
  (repeat((conv=>whnf);first|apply ω0|apply ω2|refine τ3 rfl ?_|refine τ4 rfl ?_|refine ⟨rfl,?_⟩|apply τa|refine τb rfl ?_|refine ⟨⟨by kernel_rfl,by kernel_rfl⟩,?_⟩|refine ⟨by decide,?_⟩|apply τt|apply τf))
  refine aw_regionY (fun i => match i with | 7 => true | 6 => true | 4 => true | 1 => true | _ => false) 10 ?_
  (repeat((conv=>whnf);first|apply ω0|apply ω1|apply ω2|refine τ3 rfl ?_|refine τ4 rfl ?_|refine ⟨rfl,?_⟩|apply τa|refine τb rfl ?_|refine ⟨⟨by kernel_rfl,by kernel_rfl⟩,?_⟩|refine ⟨by decide,?_⟩|apply τt|apply τf))
  refine aop_cap0 rfl rfl Tryd.underlying38 ?_
  (repeat((conv=>whnf);first|apply ω0|apply ω1|apply ω2|refine τ3 rfl ?_|refine τ4 rfl ?_|refine ⟨rfl,?_⟩|apply τa|refine τb rfl ?_|refine ⟨⟨by kernel_rfl,by kernel_rfl⟩,?_⟩|refine ⟨by decide,?_⟩|apply τt|apply τf))
  refine aop_cut0 rfl rfl rfl Tryd.underlying38 Tryd.underlying72 ?_
  (repeat((conv=>whnf);first|apply ω0|apply ω1|apply ω2|refine τ3 rfl ?_|refine τ4 rfl ?_|refine ⟨rfl,?_⟩|apply τa|refine τb rfl ?_|refine ⟨⟨by kernel_rfl,by kernel_rfl⟩,?_⟩|refine ⟨by decide,?_⟩|apply τt|apply τf))
  have hw : IntKind.i64.wrap ((n : Int) - 0) = n := by rw [wrap_id (by omega) (by omega)]; omega
  refine aop_appendZB0 (m := n) (kq := .i64) (kn := .i64) (e := 72) rfl rfl (congrArg (fun z => AV.v (.int .i64 z)) hw) (by omega) Tryd.underlying3 Tryd.underlying38 gr_trow (by rw [gb_trow]; omega) (by omega) fun cap hcap => ?_
  (repeat((conv=>whnf);first|apply ω0|apply ω1|apply ω2|refine τ3 rfl ?_|refine τ4 rfl ?_|refine ⟨rfl,?_⟩|apply τa|refine τb rfl ?_|refine ⟨⟨by kernel_rfl,by kernel_rfl⟩,?_⟩|refine ⟨by decide,?_⟩|apply τt|apply τf))
  refine aop_cutB (l := 0) (k' := .i64) rfl rfl rfl Tryd.underlying38 Tryd.underlying72 (Nat.zero_le _) (by omega) ?_
  (repeat((conv=>whnf);first|apply ω0|apply ω1|apply ω2|refine τ3 rfl ?_|refine τ4 rfl ?_|refine ⟨rfl,?_⟩|apply τa|refine τb rfl ?_|refine ⟨⟨by kernel_rfl,by kernel_rfl⟩,?_⟩|refine ⟨by decide,?_⟩|apply τt|apply τf))
  exact ret_is rfl ⟨_, _, AVle.refl _, HLe.refl _, nx, cap, _, _, hcap, rfl, by rw [gc_trow]; rfl⟩
theorem grow0_trow : Tells Tryd.prog 52 [.os 0 0 (fun _ => .any) none, int (0 : Nat)] (.os 0 0 (fun _ => .any) none) := by
  refine tells_of_aw Tryd.func52 rfl rfl fun nx => ?_
  (repeat((conv=>whnf);first|apply ω0|apply ω1|apply ω2|refine τ3 rfl ?_|refine τ4 rfl ?_|refine ⟨rfl,?_⟩|apply τa|refine τb rfl ?_|refine ⟨⟨by kernel_rfl,by kernel_rfl⟩,?_⟩|refine ⟨by decide,?_⟩|apply τt|apply τf))
  refine aop_cap0 rfl rfl Tryd.underlying38 ?_
  (repeat((conv=>whnf);first|apply ω0|apply ω1|apply ω2|refine τ3 rfl ?_|refine τ4 rfl ?_|refine ⟨rfl,?_⟩|apply τa|refine τb rfl ?_|refine ⟨⟨by kernel_rfl,by kernel_rfl⟩,?_⟩|refine ⟨by decide,?_⟩|apply τt|apply τf))
  exact ret_tells rfl (AVle.refl _)
/-- Rows, one behind the other. -/
def rows2_trow (L : List (List TRow)) (oi : Option Vl.Id) : AV := .os 1 L.length (fun k => slOf 8 trowA trow0 (L.getD k [])) oi
theorem flat_trow (l : List TRow) : rowCells l.length (fun k => trowA (l.getD k trow0)) = l.flatMap fun x => (trowA x).cells := by
  have key : ∀ m, m ≤ l.length → rowCells m (fun k => trowA (l.getD k trow0)) = (l.take m).flatMap fun x => (trowA x).cells := by
    intro m
    induction m with
    | zero => intro _; rfl
    | succ m ih =>
      intro hm
      have hm' : m < l.length := by omega
      have e : rowCells (m + 1) (fun k => trowA (l.getD k trow0)) = rowCells m (fun k => trowA (l.getD k trow0)) ++ (trowA (l.getD m trow0)).cells := by unfold rowCells; rw [List.range_succ, List.flatMap_append]; simp
      rw [e, ih (by omega), List.take_add_one, List.flatMap_append]
      simp [List.getD, hm']
  rw [key _ (Nat.le_refl _), List.take_of_length_le (Nat.le_refl _)]
theorem flen_trow (l : List TRow) : (l.flatMap fun x => (trowA x).cells).length = l.length * 8 := by
  induction l with
  | nil => rfl
  | cons x l ih => rw [List.flatMap_cons, List.length_append, ih, gl_trow, List.length_cons]; omega
theorem fget_trow (l : List TRow) (k j : Nat) (hk : k < l.length) (hj : j < 8) : (l.flatMap fun x => (trowA x).cells)[k * 8 + j]? = (trowA (l.getD k trow0)).cells[j]? := by
  rw [← flat_trow]
  exact (rowCells_get (sz := 8) (fun i hi => gl_trow _)).2 k j hk hj
set_option maxHeartbeats 1000000 in
theorem concat_trow (L : List (List TRow)) (hL : L.length ≤ 1000) (hn : L.flatten.length ≤ 100000) (oi : Option Vl.Id) : Tells Tryd.prog 30 [rows2_trow L none] (slOf 8 trowA trow0 L.flatten) := by
  have hpre : ∀ i, i < L.length → (L.take (i + 1)).flatten.length = (L.take i).flatten.length + (L.getD i []).length := fun i hi => by
    rw [take_getD [] hi, List.flatten_append, List.length_append]; simp
  have hle : ∀ i, (L.take i).flatten.length ≤ L.flatten.length := fun i => by
    conv => rhs; rw [← List.take_append_drop i L, List.flatten_append, List.length_append]
    omega
  refine tells_of_aw Tryd.func30 rfl rfl fun nx => ?_
  (repeat((conv=>whnf);first|apply ω0|apply ω1|apply ω2|refine τ3 rfl ?_|refine τ4 rfl ?_|refine ⟨rfl,?_⟩|apply τa|refine τb rfl ?_|refine ⟨⟨by kernel_rfl,by kernel_rfl⟩,?_⟩|refine ⟨by decide,?_⟩|apply τt|apply τf))
  refine aw_midB (fun y : Nat => mk 36 [(0, rows2_trow L none), (3, int (L.flatten.length : Nat))] ⟨[], [], y, 0⟩) (fun _ => True) ?_ ?_
  · refine aw_loop (fun y : Nat × Nat => mk 36 [(0, rows2_trow L none), (3, int ((L.take y.1).flatten.length : Nat)), (9, rows2_trow L none), (10, int L.length), (11, int y.1)] ⟨[], [], y.2, 0⟩) (fun y => y.1 ≤ L.length) (fun y => L.length - y.1) ?_ ?_
    · exact ⟨(0, nx), Nat.zero_le _, ele_keep rfl rfl (List.Sublist.refl _) (List.Sublist.refl _) ⟨AVle.refl _, AVle.refl _, AVle.refl _, AVle.refl _, AVle.refl _, trivial⟩⟩
    · rintro ⟨i, nx1⟩ h1
      dsimp only at h1
      (repeat((conv=>whnf);first|apply ω0|apply ω1|apply ω2|refine τ3 rfl ?_|refine τ4 rfl ?_|refine ⟨rfl,?_⟩|apply τa|refine τb rfl ?_|refine ⟨⟨by kernel_rfl,by kernel_rfl⟩,?_⟩|refine ⟨by decide,?_⟩|apply τt|apply τf))
      intro c g; cases c
      · have g := not_of g
        try dsimp only at g
        obtain rfl : i = L.length := by omega
        (repeat((conv=>whnf);first|apply ω0|apply ω1|apply ω2|refine τ3 rfl ?_|refine τ4 rfl ?_|refine ⟨rfl,?_⟩|apply τa|refine τb rfl ?_|refine ⟨⟨by kernel_rfl,by kernel_rfl⟩,?_⟩|refine ⟨by decide,?_⟩|apply τt|apply τf))
        refine ⟨nx1, trivial, ele_keep rfl rfl (List.Sublist.refl _) (List.Sublist.refl _) ⟨AVle.refl _, ?_, trivial⟩⟩
        exact AVle.of_eq (congrArg (fun z : List (List TRow) => int (z.flatten.length : Nat)) List.take_length)
      · have g := yes_of g
        try dsimp only at g
        have hi : i < L.length := by omega
        have e1 := hpre i hi
        have e2 := hle (i + 1)
        (repeat((conv=>whnf);first|apply ω0|apply ω1|apply ω2|refine τ3 rfl ?_|refine τ4 rfl ?_|refine ⟨rfl,?_⟩|apply τa|refine τb rfl ?_|refine ⟨⟨by kernel_rfl,by kernel_rfl⟩,?_⟩|refine ⟨by decide,?_⟩|apply τt|apply τf))
        refine ⟨⟨by first | omega | (dsimp only; omega), by first | omega | (dsimp only; omega)⟩, ?_⟩
        have hw : IntKind.i64.wrap ((((L.take i).flatten.length : Nat) : Int) + ((L.getD i []).length : Int)) = (((L.take (i + 1)).flatten.length : Nat) : Int) := by rw [wrap_id (by omega) (by omega)]; omega
        (repeat((conv=>whnf);first|apply ω0|apply ω1|apply ω2|refine τ3 rfl ?_|refine τ4 rfl ?_|refine ⟨rfl,?_⟩|apply τa|refine τb rfl ?_|refine ⟨⟨by kernel_rfl,by kernel_rfl⟩,?_⟩|refine ⟨by decide,?_⟩|apply τt|apply τf))
        intro c hc
        replace hc : c = decide (IntKind.i64.wrap ((((L.take i).flatten.length : Nat) : Int) + ((L.getD i []).length : Int)) < 0) := hc
        rw [hw, decide_eq_false (by omega)] at hc
        subst hc
        (repeat((conv=>whnf);first|apply ω0|apply ω1|apply ω2|refine τ3 rfl ?_|refine τ4 rfl ?_|refine ⟨rfl,?_⟩|apply τa|refine τb rfl ?_|refine ⟨⟨by kernel_rfl,by kernel_rfl⟩,?_⟩|refine ⟨by decide,?_⟩|apply τt|apply τf))
        exact back (i + 1, nx1) hi (by dsimp only; omega) (ele_keep rfl rfl (List.Sublist.refl _) (List.Sublist.refl _) ⟨AVle.refl _, le_int hw, AVle.refl _, AVle.refl _, le_int (wrap_succ (by first | omega | (dsimp only; omega))), trivial⟩)
  · intro nx1 _
    rcases Nat.eq_zero_or_pos L.flatten.length with h0 | h0
    · have hemp : ∀ i, i < L.length → (L.getD i []).length = 0 := fun i hi => by
        have := hpre i hi; have := hle (i + 1); omega
      have hnil : L.flatten = [] := List.eq_nil_of_length_eq_zero h0
      rw [hnil]
      (repeat((conv=>whnf);first|apply ω0|apply ω1|apply ω2|refine τ3 rfl ?_|refine τ4 rfl ?_|refine ⟨rfl,?_⟩|apply τa|refine τb rfl ?_|refine ⟨⟨by kernel_rfl,by kernel_rfl⟩,?_⟩|refine ⟨by decide,?_⟩|apply τt|apply τf))
      refine aop_tells rfl rfl grow0_trow ⟨AVle.refl _, AVle.refl _, trivial⟩ fun nx2 => ?_
      (repeat((conv=>whnf);first|apply ω0|apply ω1|apply ω2|refine τ3 rfl ?_|refine τ4 rfl ?_|refine ⟨rfl,?_⟩|apply τa|refine τb rfl ?_|refine ⟨⟨by kernel_rfl,by kernel_rfl⟩,?_⟩|refine ⟨by decide,?_⟩|apply τt|apply τf))
      refine aw_loop (fun y : Nat × Nat => mk 36 [(6, .os 0 0 (fun _ => .any) none), (25, rows2_trow L none), (26, int L.length), (27, int y.1)] ⟨[], [], y.2, 0⟩) (fun y => y.1 ≤ L.length) (fun y => L.length - y.1) ?_ ?_
      · exact ⟨(0, nx2), Nat.zero_le _, ele_keep rfl rfl (List.Sublist.refl _) (List.Sublist.refl _) ⟨AVle.refl _, AVle.refl _, AVle.refl _, AVle.refl _, trivial⟩⟩
      · rintro ⟨i, nx3⟩ h1
        dsimp only at h1
        (repeat((conv=>whnf);first|apply ω0|apply ω1|apply ω2|refine τ3 rfl ?_|refine τ4 rfl ?_|refine ⟨rfl,?_⟩|apply τa|refine τb rfl ?_|refine ⟨⟨by kernel_rfl,by kernel_rfl⟩,?_⟩|refine ⟨by decide,?_⟩|apply τt|apply τf))
        intro c g; cases c
        · (repeat((conv=>whnf);first|apply ω0|apply ω1|apply ω2|refine τ3 rfl ?_|refine τ4 rfl ?_|refine ⟨rfl,?_⟩|apply τa|refine τb rfl ?_|refine ⟨⟨by kernel_rfl,by kernel_rfl⟩,?_⟩|refine ⟨by decide,?_⟩|apply τt|apply τf))
          exact ret_tells rfl AVle.os_sl0
        · have g := yes_of g
          try dsimp only at g
          have hi : i < L.length := by omega
          have e1 := hemp i hi
          have e2 : L.getD i [] = [] := List.eq_nil_of_length_eq_zero e1
          (repeat((conv=>whnf);first|apply ω0|apply ω1|apply ω2|refine τ3 rfl ?_|refine τ4 rfl ?_|refine ⟨rfl,?_⟩|apply τa|refine τb rfl ?_|refine ⟨⟨by kernel_rfl,by kernel_rfl⟩,?_⟩|refine ⟨by decide,?_⟩|apply τt|apply τf))
          refine ⟨⟨by first | omega | (dsimp only; omega), by first | omega | (dsimp only; omega)⟩, ?_⟩
          (repeat((conv=>whnf);first|apply ω0|apply ω1|apply ω2|refine τ3 rfl ?_|refine τ4 rfl ?_|refine ⟨rfl,?_⟩|apply τa|refine τb rfl ?_|refine ⟨⟨by kernel_rfl,by kernel_rfl⟩,?_⟩|refine ⟨by decide,?_⟩|apply τt|apply τf))
          refine appK_intro (fun _ => ?_) (fun h => absurd e1 h)
          (repeat((conv=>whnf);first|apply ω0|apply ω1|apply ω2|refine τ3 rfl ?_|refine τ4 rfl ?_|refine ⟨rfl,?_⟩|apply τa|refine τb rfl ?_|refine ⟨⟨by kernel_rfl,by kernel_rfl⟩,?_⟩|refine ⟨by decide,?_⟩|apply τt|apply τf))
          exact back (i + 1, nx3) hi (by dsimp only; omega) (ele_keep rfl rfl (List.Sublist.refl _) (List.Sublist.refl _) ⟨AVle.refl _, AVle.refl _, AVle.refl _, le_int (wrap_succ (by first | omega | (dsimp only; omega))), trivial⟩)
    · (repeat((conv=>whnf);first|apply ω0|apply ω1|apply ω2|refine τ3 rfl ?_|refine τ4 rfl ?_|refine ⟨rfl,?_⟩|apply τa|refine τb rfl ?_|refine ⟨⟨by kernel_rfl,by kernel_rfl⟩,?_⟩|refine ⟨by decide,?_⟩|apply τt|apply τf))
      refine aop_callF (xs := [.os 0 0 (fun _ => .any) none, int (L.flatten.length : Nat)]) [] [] 1 rfl rfl rfl rfl ⟨AVle.refl _, AVle.refl _, trivial⟩ (grow_trow L.flatten.length h0 hn nx1) (BxLe.refl _) (PmEq.refl _) rfl fun r h' hq => ?_
      obtain ⟨s, cap, nx2, nn2, hcap, rfl, rfl⟩ := hq
      (repeat((conv=>whnf);first|apply ω0|apply ω1|apply ω2|refine τ3 rfl ?_|refine τ4 rfl ?_|refine ⟨rfl,?_⟩|apply τa|refine τb rfl ?_|refine ⟨⟨by kernel_rfl,by kernel_rfl⟩,?_⟩|refine ⟨by decide,?_⟩|apply τt|apply τf))
      refine aw_loop (fun y : Nat × List AV × Nat => mk 36 [(6, .hs (0, s) 0 ((L.take y.1).flatten.length) cap), (25, rows2_trow L none), (26, int L.length), (27, int y.1)] ⟨[((0, s), .c y.2.1)], [], y.2.2, 1⟩) (fun y => y.1 ≤ L.length ∧ y.2.1.length = cap * 8 ∧ y.2.1.take ((L.take y.1).flatten.length * 8) = (L.take y.1).flatten.flatMap fun x => (trowA x).cells) (fun y => L.length - y.1) ?_ ?_
      · exact ⟨(0, List.replicate (cap * 8) .any, nx2), ⟨Nat.zero_le _, by simp, by simp⟩, ele_tell _ _ rfl rfl (List.Sublist.refl _) .slnil (BxLe.refl _) trivial ⟨AVle.refl _, AVle.refl _, AVle.refl _, AVle.refl _, trivial⟩⟩
      · rintro ⟨i, cs, nx3⟩ ⟨h1, h2, h3⟩
        dsimp only at h1 h2 h3
        (repeat((conv=>whnf);first|apply ω0|apply ω1|apply ω2|refine τ3 rfl ?_|refine τ4 rfl ?_|refine ⟨rfl,?_⟩|apply τa|refine τb rfl ?_|refine ⟨⟨by kernel_rfl,by kernel_rfl⟩,?_⟩|refine ⟨by decide,?_⟩|apply τt|apply τf))
        intro c g; cases c
        · have g := not_of g
          try dsimp only at g
          obtain rfl : i = L.length := by omega
          rw [List.take_length] at h3
          have hcl : L.flatten.length * 8 ≤ cap * 8 := Nat.mul_le_mul_right _ hcap
          (repeat((conv=>whnf);first|apply ω0|apply ω2|refine τ3 rfl ?_|refine τ4 rfl ?_|refine ⟨rfl,?_⟩|apply τa|refine τb rfl ?_|refine ⟨⟨by kernel_rfl,by kernel_rfl⟩,?_⟩|refine ⟨by decide,?_⟩|apply τt|apply τf))
          refine AW.le (ele_freeze (L := [(6, slOf 8 trowA trow0 L.flatten)]) (bx := []) (pm := []) (nn := 1) [((0, s), .c cs)] rfl rfl (List.Sublist.refl _) .slnil ⟨?_, trivial⟩) ?_
          · refine (Frz.of_le (AVle.of_eq (b := .hs (0, s) 0 L.flatten.length cap) ?_)).trans (Frz.hs (cs := cs) (.head _) hcap (.inr (by omega)) (fun k hk => gl_trow _) (fun k hk j c hj => ?_) (by omega))
            · show AV.hs (0, s) 0 ((L.take L.length).flatten.length) cap = _
              rw [List.take_length]
            · have hjl : j < 8 := by have := (List.getElem?_eq_some_iff.1 hj).1; rw [gl_trow] at this; exact this
              refine ⟨c, ?_, AVle.refl _⟩
              have hkk : k * 8 + j < L.flatten.length * 8 := by
                have : (k + 1) * 8 ≤ L.flatten.length * 8 := Nat.mul_le_mul_right _ hk
                omega
              have h4 := fget_trow L.flatten k j hk hjl
              rw [← h3, List.getElem?_take, if_pos hkk, hj] at h4
              rw [Nat.zero_add]; exact h4
          · (repeat((conv=>whnf);first|apply ω0|apply ω1|apply ω2|refine τ3 rfl ?_|refine τ4 rfl ?_|refine ⟨rfl,?_⟩|apply τa|refine τb rfl ?_|refine ⟨⟨by kernel_rfl,by kernel_rfl⟩,?_⟩|refine ⟨by decide,?_⟩|apply τt|apply τf))
            exact ret_tells rfl (AVle.refl _)
        · have g := yes_of g
          try dsimp only at g
          have hi : i < L.length := by omega
          have e1 := hpre i hi
          have e2 := hle (i + 1)
          have hfl : (L.take (i + 1)).flatten = (L.take i).flatten ++ L.getD i [] := by rw [take_getD [] hi, List.flatten_append]; simp
          have hcl : ((L.take i).flatten.length + (L.getD i []).length) * 8 ≤ cap * 8 := Nat.mul_le_mul_right _ (by omega)
          (repeat((conv=>whnf);first|apply ω0|apply ω1|apply ω2|refine τ3 rfl ?_|refine τ4 rfl ?_|refine ⟨rfl,?_⟩|apply τa|refine τb rfl ?_|refine ⟨⟨by kernel_rfl,by kernel_rfl⟩,?_⟩|refine ⟨by decide,?_⟩|apply τt|apply τf))
          refine ⟨⟨by first | omega | (dsimp only; omega), by first | omega | (dsimp only; omega)⟩, ?_⟩
          (repeat((conv=>whnf);first|apply ω0|apply ω2|refine τ3 rfl ?_|refine τ4 rfl ?_|refine ⟨rfl,?_⟩|apply τa|refine τb rfl ?_|refine ⟨⟨by kernel_rfl,by kernel_rfl⟩,?_⟩|refine ⟨by decide,?_⟩|apply τt|apply τf))
          refine aw_regionY (fun i => match i with | 1 => true | _ => false) 4 ?_
          (repeat((conv=>whnf);first|apply ω0|apply ω1|apply ω2|refine τ3 rfl ?_|refine τ4 rfl ?_|refine ⟨rfl,?_⟩|apply τa|refine τb rfl ?_|refine ⟨⟨by kernel_rfl,by kernel_rfl⟩,?_⟩|refine ⟨by decide,?_⟩|apply τt|apply τf))
          refine aop_appendB (m := (L.getD i []).length) (f' := fun k => trowA ((L.getD i []).getD k trow0)) (szx := 8) (n := (L.take i).flatten.length) (cap := cap) (cs := cs) (i := (0, s)) rfl rfl (.inl rfl) Tryd.underlying38 gr_trow (.inr gc_trow.symm) (by rfl) (by omega) (by rw [gc_trow]; omega) (fun k hk => g1_trow _) (fun _ => by rw [gb_trow]; omega) (fun _ => by omega) (fun hm => ?_) (fun hm hfit => ?_) (fun hm hnf => absurd (by omega) hnf)
          · have e3 : L.getD i [] = [] := List.eq_nil_of_length_eq_zero hm
            rw [e3, List.append_nil] at hfl
            (repeat((conv=>whnf);first|apply ω0|apply ω1|apply ω2|refine τ3 rfl ?_|refine τ4 rfl ?_|refine ⟨rfl,?_⟩|apply τa|refine τb rfl ?_|refine ⟨⟨by kernel_rfl,by kernel_rfl⟩,?_⟩|refine ⟨by decide,?_⟩|apply τt|apply τf))
            exact back (i + 1, cs, nx3) ⟨hi, h2, by dsimp only; rw [hfl]; exact h3⟩ (by dsimp only; omega) (ele_tell _ _ rfl rfl (List.Sublist.refl _) .slnil (BxLe.refl _) trivial ⟨AVle.of_eq (congrArg (fun z => AV.hs (0, s) 0 z cap) (by rw [hfl] : (L.take i).flatten.length = (L.take (i + 1)).flatten.length)), AVle.refl _, AVle.refl _, le_int (wrap_succ (by first | omega | (dsimp only; omega))), trivial⟩)
          · (repeat((conv=>whnf);first|apply ω0|apply ω1|apply ω2|refine τ3 rfl ?_|refine τ4 rfl ?_|refine ⟨rfl,?_⟩|apply τa|refine τb rfl ?_|refine ⟨⟨by kernel_rfl,by kernel_rfl⟩,?_⟩|refine ⟨by decide,?_⟩|apply τt|apply τf))
            refine back (i + 1, splice cs ((L.take i).flatten.length * 8) ((L.getD i []).flatMap fun x => (trowA x).cells), nx3) ⟨hi, ?_, ?_⟩ (by dsimp only; omega) (ele_tell _ _ rfl rfl (List.Sublist.refl _) .slnil ⟨rfl, ownEq_trow (congrArg Own.c ?_), trivial⟩ trivial ⟨AVle.of_eq (congrArg (fun z => AV.hs (0, s) 0 z cap) e1.symm), AVle.refl _, AVle.refl _, le_int (wrap_succ (by first | omega | (dsimp only; omega))), trivial⟩)
            · have hf := flen_trow (L.getD i [])
              simp only [splice_def, List.length_append, List.length_take, List.length_drop, hf]
              omega
            · have hf := flen_trow (L.getD i [])
              dsimp only
              rw [hfl, List.flatMap_append, splice_def, List.length_append, ← List.append_assoc, h3]
              have hpl : (List.flatMap (fun x => (trowA x).cells) (L.take i).flatten ++ List.flatMap (fun x => (trowA x).cells) (L.getD i [])).length = ((L.take i).flatten.length + (L.getD i []).length) * 8 := by
                rw [List.length_append, hf, flen_trow]; omega
              rw [← hpl, List.take_left]
            · rw [gc_trow, flat_trow]
end Go.Proofs.W


namespace Go.Proofs.W
open Go.Vl
set_option maxRecDepth 100000
def earlyL : List TRow := [
  ⟨⟨#[97, 99, 99, 101, 112, 116]⟩, 43, 43, -1, 202, 202, 1, 5⟩,
  ⟨⟨#[97, 99, 99, 101, 112, 116, 52]⟩, 288, 288, 364, 242, 242, 1, 18⟩,
  ⟨⟨#[98, 105, 110, 100]⟩, 49, 49, 361, 200, 200, 1, 2⟩,
  ⟨⟨#[98, 114, 107]⟩, 12, 12, 45, 214, 214, 0, 0⟩,
  ⟨⟨#[99, 108, 111, 110, 101]⟩, 56, 56, 120, 220, 220, 0, 0⟩,
  ⟨⟨#[99, 108, 111, 115, 101]⟩, 3, 3, 6, 57, 57, 0, 0⟩,
  ⟨⟨#[99, 111, 110, 110, 101, 99, 116]⟩, 42, 42, 362, 203, 203, 1, 3⟩,
  ⟨⟨#[100, 117, 112]⟩, 32, 32, 41, 23, 23, 0, 0⟩,
  ⟨⟨#[100, 117, 112, 50]⟩, 33, 33, 63, -1, -1, 0, 0⟩,
  ⟨⟨#[101, 112, 111, 108, 108, 95, 99, 114, 101, 97, 116, 101, 49]⟩, 291, 291, 329, 20, 20, 0, 0⟩,
  ⟨⟨#[101, 112, 111, 108, 108, 95, 99, 116, 108]⟩, 233, 233, 255, 21, 21, 0, 0⟩,
  ⟨⟨#[101, 112, 111, 108, 108, 95, 119, 97, 105, 116]⟩, 232, 232, 256, -1, -1, 0, 0⟩,
  ⟨⟨#[101, 120, 101, 99, 118, 101]⟩, 59, 520, 11, 221, 221, 0, 0⟩,
  ⟨⟨#[101, 120, 105, 116]⟩, 60, 60, 1, 93, 93, 0, 0⟩,
  ⟨⟨#[101, 120, 105, 116, 95, 103, 114, 111, 117, 112]⟩, 231, 231, 252, 94, 94, 0, 0⟩,
  ⟨⟨#[102, 99, 104, 100, 105, 114]⟩, 81, 81, 133, 50, 50, 0, 0⟩,
  ⟨⟨#[102, 99, 110, 116, 108]⟩, 72, 72, 55, 25, 25, 0, 0⟩,
  ⟨⟨#[102, 111, 114, 107]⟩, 57, 57, 2, -1, -1, 0, 0⟩,
  ⟨⟨#[102, 115, 116, 97, 116]⟩, 5, 5, 108, 80, 80, 0, 0⟩,
  ⟨⟨#[102, 117, 116, 101, 120]⟩, 202, 202, 240, 98, 98, 0, 0⟩,
  ⟨⟨#[103, 101, 116, 99, 119, 100]⟩, 79, 79, 183, 17, 17, 0, 0⟩,
  ⟨⟨#[103, 101, 116, 112, 101, 101, 114, 110, 97, 109, 101]⟩, 52, 52, 368, 205, 205, 1, 7⟩,
  ⟨⟨#[103, 101, 116, 112, 105, 100]⟩, 39, 39, 20, 172, 172, 0, 0⟩,
  ⟨⟨#[103, 101, 116, 114, 97, 110, 100, 111, 109]⟩, 318, 318, 355, 278, 278, 0, 0⟩,
  ⟨⟨#[103, 101, 116, 115, 111, 99, 107, 110, 97, 109, 101]⟩, 51, 51, 367, 204, 204, 1, 6⟩,
  ⟨⟨#[103, 101, 116, 115, 111, 99, 107, 111, 112, 116]⟩, 55, 542, 365, 209, 209, 1, 15⟩,
  ⟨⟨#[103, 101, 116, 117, 105, 100]⟩, 102, 102, 24, 174, 174, 0, 0⟩,
  ⟨⟨#[105, 111, 99, 116, 108]⟩, 16, 514, 54, 29, 29, 0, 0⟩,
  ⟨⟨#[107, 105, 108, 108]⟩, 62, 62, 37, 129, 129, 0, 0⟩,
  ⟨⟨#[108, 105, 115, 116, 101, 110]⟩, 50, 50, 363, 201, 201, 1, 4⟩]
theorem build_early : abuildCells Tryd.prog 38 30 [(0, trowA ⟨⟨#[97, 99, 99, 101, 112, 116]⟩, 43, 43, -1, 202, 202, 1, 5⟩), (1, trowA ⟨⟨#[97, 99, 99, 101, 112, 116, 52]⟩, 288, 288, 364, 242, 242, 1, 18⟩), (2, trowA ⟨⟨#[98, 105, 110, 100]⟩, 49, 49, 361, 200, 200, 1, 2⟩), (3, trowA ⟨⟨#[98, 114, 107]⟩, 12, 12, 45, 214, 214, 0, 0⟩), (4, trowA ⟨⟨#[99, 108, 111, 110, 101]⟩, 56, 56, 120, 220, 220, 0, 0⟩), (5, trowA ⟨⟨#[99, 108, 111, 115, 101]⟩, 3, 3, 6, 57, 57, 0, 0⟩), (6, trowA ⟨⟨#[99, 111, 110, 110, 101, 99, 116]⟩, 42, 42, 362, 203, 203, 1, 3⟩), (7, trowA ⟨⟨#[100, 117, 112]⟩, 32, 32, 41, 23, 23, 0, 0⟩), (8, trowA ⟨⟨#[100, 117, 112, 50]⟩, 33, 33, 63, -1, -1, 0, 0⟩), (9, trowA ⟨⟨#[101, 112, 111, 108, 108, 95, 99, 114, 101, 97, 116, 101, 49]⟩, 291, 291, 329, 20, 20, 0, 0⟩), (10, trowA ⟨⟨#[101, 112, 111, 108, 108, 95, 99, 116, 108]⟩, 233, 233, 255, 21, 21, 0, 0⟩), (11, trowA ⟨⟨#[101, 112, 111, 108, 108, 95, 119, 97, 105, 116]⟩, 232, 232, 256, -1, -1, 0, 0⟩), (12, trowA ⟨⟨#[101, 120, 101, 99, 118, 101]⟩, 59, 520, 11, 221, 221, 0, 0⟩), (13, trowA ⟨⟨#[101, 120, 105, 116]⟩, 60, 60, 1, 93, 93, 0, 0⟩), (14, trowA ⟨⟨#[101, 120, 105, 116, 95, 103, 114, 111, 117, 112]⟩, 231, 231, 252, 94, 94, 0, 0⟩), (15, trowA ⟨⟨#[102, 99, 104, 100, 105, 114]⟩, 81, 81, 133, 50, 50, 0, 0⟩), (16, trowA ⟨⟨#[102, 99, 110, 116, 108]⟩, 72, 72, 55, 25, 25, 0, 0⟩), (17, trowA ⟨⟨#[102, 111, 114, 107]⟩, 57, 57, 2, -1, -1, 0, 0⟩), (18, trowA ⟨⟨#[102, 115, 116, 97, 116]⟩, 5, 5, 108, 80, 80, 0, 0⟩), (19, trowA ⟨⟨#[102, 117, 116, 101, 120]⟩, 202, 202, 240, 98, 98, 0, 0⟩), (20, trowA ⟨⟨#[103, 101, 116, 99, 119, 100]⟩, 79, 79, 183, 17, 17, 0, 0⟩), (21, trowA ⟨⟨#[103, 101, 116, 112, 101, 101, 114, 110, 97, 109, 101]⟩, 52, 52, 368, 205, 205, 1, 7⟩), (22, trowA ⟨⟨#[103, 101, 116, 112, 105, 100]⟩, 39, 39, 20, 172, 172, 0, 0⟩), (23, trowA ⟨⟨#[103, 101, 116, 114, 97, 110, 100, 111, 109]⟩, 318, 318, 355, 278, 278, 0, 0⟩), (24, trowA ⟨⟨#[103, 101, 116, 115, 111, 99, 107, 110, 97, 109, 101]⟩, 51, 51, 367, 204, 204, 1, 6⟩), (25, trowA ⟨⟨#[103, 101, 116, 115, 111, 99, 107, 111, 112, 116]⟩, 55, 542, 365, 209, 209, 1, 15⟩), (26, trowA ⟨⟨#[103, 101, 116, 117, 105, 100]⟩, 102, 102, 24, 174, 174, 0, 0⟩), (27, trowA ⟨⟨#[105, 111, 99, 116, 108]⟩, 16, 514, 54, 29, 29, 0, 0⟩), (28, trowA ⟨⟨#[107, 105, 108, 108]⟩, 62, 62, 37, 129, 129, 0, 0⟩), (29, trowA ⟨⟨#[108, 105, 115, 116, 101, 110]⟩, 50, 50, 363, 201, 201, 1, 4⟩)] = some (72, [strA ⟨#[97, 99, 99, 101, 112, 116]⟩, int (43), int (43), int (-1), int (202), int (202), int 1, int 5, strA ⟨#[97, 99, 99, 101, 112, 116, 52]⟩, int (288), int (288), int (364), int (242), int (242), int 1, int 18, strA ⟨#[98, 105, 110, 100]⟩, int (49), int (49), int (361), int (200), int (200), int 1, int 2, strA ⟨#[98, 114, 107]⟩, int (12), int (12), int (45), int (214), int (214), int 0, int 0, strA ⟨#[99, 108, 111, 110, 101]⟩, int (56), int (56), int (120), int (220), int (220), int 0, int 0, strA ⟨#[99, 108, 111, 115, 101]⟩, int (3), int (3), int (6), int (57), int (57), int 0, int 0, strA ⟨#[99, 111, 110, 110, 101, 99, 116]⟩, int (42), int (42), int (362), int (203), int (203), int 1, int 3, strA ⟨#[100, 117, 112]⟩, int (32), int (32), int (41), int (23), int (23), int 0, int 0, strA ⟨#[100, 117, 112, 50]⟩, int (33), int (33), int (63), int (-1), int (-1), int 0, int 0, strA ⟨#[101, 112, 111, 108, 108, 95, 99, 114, 101, 97, 116, 101, 49]⟩, int (291), int (291), int (329), int (20), int (20), int 0, int 0, strA ⟨#[101, 112, 111, 108, 108, 95, 99, 116, 108]⟩, int (233), int (233), int (255), int (21), int (21), int 0, int 0, strA ⟨#[101, 112, 111, 108, 108, 95, 119, 97, 105, 116]⟩, int (232), int (232), int (256), int (-1), int (-1), int 0, int 0, strA ⟨#[101, 120, 101, 99, 118, 101]⟩, int (59), int (520), int (11), int (221), int (221), int 0, int 0, strA ⟨#[101, 120, 105, 116]⟩, int (60), int (60), int (1), int (93), int (93), int 0, int 0, strA ⟨#[101, 120, 105, 116, 95, 103, 114, 111, 117, 112]⟩, int (231), int (231), int (252), int (94), int (94), int 0, int 0, strA ⟨#[102, 99, 104, 100, 105, 114]⟩, int (81), int (81), int (133), int (50), int (50), int 0, int 0, strA ⟨#[102, 99, 110, 116, 108]⟩, int (72), int (72), int (55), int (25), int (25), int 0, int 0, strA ⟨#[102, 111, 114, 107]⟩, int (57), int (57), int (2), int (-1), int (-1), int 0, int 0, strA ⟨#[102, 115, 116, 97, 116]⟩, int (5), int (5), int (108), int (80), int (80), int 0, int 0, strA ⟨#[102, 117, 116, 101, 120]⟩, int (202), int (202), int (240), int (98), int (98), int 0, int 0, strA ⟨#[103, 101, 116, 99, 119, 100]⟩, int (79), int (79), int (183), int (17), int (17), int 0, int 0, strA ⟨#[103, 101, 116, 112, 101, 101, 114, 110, 97, 109, 101]⟩, int (52), int (52), int (368), int (205), int (205), int 1, int 7, strA ⟨#[103, 101, 116, 112, 105, 100]⟩, int (39), int (39), int (20), int (172), int (172), int 0, int 0, strA ⟨#[103, 101, 116, 114, 97, 110, 100, 111, 109]⟩, int (318), int (318), int (355), int (278), int (278), int 0, int 0, strA ⟨#[103, 101, 116, 115, 111, 99, 107, 110, 97, 109, 101]⟩, int (51), int (51), int (367), int (204), int (204), int 1, int 6, strA ⟨#[103, 101, 116, 115, 111, 99, 107, 111, 112, 116]⟩, int (55), int (542), int (365), int (209), int (209), int 1, int 15, strA ⟨#[103, 101, 116, 117, 105, 100]⟩, int (102), int (102), int (24), int (174), int (174), int 0, int 0, strA ⟨#[105, 111, 99, 116, 108]⟩, int (16), int (514), int (54), int (29), int (29), int 0, int 0, strA ⟨#[107, 105, 108, 108]⟩, int (62), int (62), int (37), int (129), int (129), int 0, int 0, strA ⟨#[108, 105, 115, 116, 101, 110]⟩, int (50), int (50), int (363), int (201), int (201), int 1, int 4]) := by kernel_rfl
set_option maxHeartbeats 4000000 in
theorem early_spec : Tells Tryd.prog 31 [] (trows earlyL) := by
  refine tells_of_aw Tryd.func31 rfl rfl fun nx => ?_
  ((repeat((conv=>whnf);first|apply ω0|apply ω2|refine τ3 rfl ?_|refine τ4 rfl ?_|refine ⟨rfl,?_⟩|apply τa|refine τb rfl ?_|refine ⟨⟨by kernel_rfl,by kernel_rfl⟩,?_⟩|refine ⟨by decide,?_⟩|apply τt|apply τf)); refine aw_region ?_; (repeat((conv=>whnf);first|apply ω0|apply ω2|refine τ3 rfl ?_|refine τ4 rfl ?_|refine ⟨rfl,?_⟩|apply τa|refine τb rfl ?_|refine ⟨⟨by kernel_rfl,by kernel_rfl⟩,?_⟩|refine ⟨by decide,?_⟩|apply τt|apply τf)))
  refine aw_regionY (fun n => match n with | 0 => true | _ => false) 61 ?_
  (repeat((conv=>whnf);first|apply ω0|apply ω1|apply ω2|refine τ3 rfl ?_|refine τ4 rfl ?_|refine ⟨rfl,?_⟩|apply τa|refine τb rfl ?_|refine ⟨⟨by kernel_rfl,by kernel_rfl⟩,?_⟩|refine ⟨by decide,?_⟩|apply τt|apply τf))
  refine aop_build rfl build_early ?_
  (repeat((conv=>whnf);first|apply ω0|apply ω1|apply ω2|refine τ3 rfl ?_|refine τ4 rfl ?_|refine ⟨rfl,?_⟩|apply τa|refine τb rfl ?_|refine ⟨⟨by kernel_rfl,by kernel_rfl⟩,?_⟩|refine ⟨by decide,?_⟩|apply τt|apply τf))
  refine ret_tells rfl (AVle.os_sl.trans (AVle.sl_fun fun k hk => ?_))
  match k, hk with
  | 0, _ => rfl
  | 1, _ => rfl
  | 2, _ => rfl
  | 3, _ => rfl
  | 4, _ => rfl
  | 5, _ => rfl
  | 6, _ => rfl
  | 7, _ => rfl
  | 8, _ => rfl
  | 9, _ => rfl
  | 10, _ => rfl
  | 11, _ => rfl
  | 12, _ => rfl
  | 13, _ => rfl
  | 14, _ => rfl
  | 15, _ => rfl
  | 16, _ => rfl
  | 17, _ => rfl
  | 18, _ => rfl
  | 19, _ => rfl
  | 20, _ => rfl
  | 21, _ => rfl
  | 22, _ => rfl
  | 23, _ => rfl
  | 24, _ => rfl
  | 25, _ => rfl
  | 26, _ => rfl
  | 27, _ => rfl
  | 28, _ => rfl
  | 29, _ => rfl
  | k + 30, hk => exact absurd hk (by omega)
def lateL : List TRow := [
  ⟨⟨#[108, 115, 101, 101, 107]⟩, 8, 8, 19, 62, 62, 0, 0⟩,
  ⟨⟨#[109, 107, 100, 105, 114]⟩, 83, 83, 39, -1, -1, 0, 0⟩,
  ⟨⟨#[109, 109, 97, 112]⟩, 9, 9, -1, 222, 222, 0, 0⟩,
  ⟨⟨#[109, 109, 97, 112, 50]⟩, -1, -1, 192, -1, -1, 0, 0⟩,
  ⟨⟨#[109, 112, 114, 111, 116, 101, 99, 116]⟩, 10, 10, 125, 226, 226, 0, 0⟩,
  ⟨⟨#[109, 115, 103, 99, 116, 108]⟩, 71, 71, 402, 187, 187, 2, 14⟩,
  ⟨⟨#[109, 115, 103, 103, 101, 116]⟩, 68, 68, 399, 186, 186, 2, 13⟩,
  ⟨⟨#[109, 115, 103, 114, 99, 118]⟩, 70, 70, 401, 188, 188, 2, 12⟩,
  ⟨⟨#[109, 115, 103, 115, 110, 100]⟩, 69, 69, 400, 189, 189, 2, 11⟩,
  ⟨⟨#[109, 117, 110, 109, 97, 112]⟩, 11, 11, 91, 215, 215, 0, 0⟩,
  ⟨⟨#[110, 97, 110, 111, 115, 108, 101, 101, 112]⟩, 35, 35, 162, 101, 101, 0, 0⟩,
  ⟨⟨#[111, 112, 101, 110]⟩, 2, 2, 5, -1, -1, 0, 0⟩,
  ⟨⟨#[111, 112, 101, 110, 97, 116]⟩, 257, 257, 295, 56, 56, 0, 0⟩,
  ⟨⟨#[112, 105, 112, 101]⟩, 22, 22, 42, -1, -1, 0, 0⟩,
  ⟨⟨#[112, 105, 112, 101, 50]⟩, 293, 293, 331, 59, 59, 0, 0⟩,
  ⟨⟨#[112, 111, 108, 108]⟩, 7, 7, 168, -1, -1, 0, 0⟩,
  ⟨⟨#[112, 114, 101, 97, 100, 54, 52]⟩, 17, 17, 180, 67, 67, 0, 0⟩,
  ⟨⟨#[112, 114, 108, 105, 109, 105, 116, 54, 52]⟩, 302, 302, 340, 261, 261, 0, 0⟩,
  ⟨⟨#[112, 116, 114, 97, 99, 101]⟩, 101, 521, 26, 117, 117, 0, 0⟩,
  ⟨⟨#[112, 119, 114, 105, 116, 101, 54, 52]⟩, 18, 18, 181, 68, 68, 0, 0⟩,
  ⟨⟨#[114, 101, 97, 100]⟩, 0, 0, 3, 63, 63, 0, 0⟩,
  ⟨⟨#[114, 101, 97, 100, 118]⟩, 19, 515, 145, 65, 65, 0, 0⟩,
  ⟨⟨#[114, 101, 99, 118]⟩, -1, -1, -1, -1, -1, 1, 10⟩,
  ⟨⟨#[114, 101, 99, 118, 102, 114, 111, 109]⟩, 45, 517, 371, 207, 207, 1, 12⟩,
  ⟨⟨#[114, 101, 99, 118, 109, 115, 103]⟩, 47, 519, 372, 212, 212, 1, 17⟩,
  ⟨⟨#[114, 101, 110, 97, 109, 101]⟩, 82, 82, 38, -1, -1, 0, 0⟩,
  ⟨⟨#[114, 105, 115, 99, 118, 95, 102, 108, 117, 115, 104, 95, 105, 99, 97, 99, 104, 101]⟩, -1, -1, -1, -1, 259, 0, 0⟩,
  ⟨⟨#[114, 116, 95, 115, 105, 103, 97, 99, 116, 105, 111, 110]⟩, 13, 512, 174, 134, 134, 0, 0⟩,
  ⟨⟨#[114, 116, 95, 115, 105, 103, 114, 101, 116, 117, 114, 110]⟩, 15, 513, 173, 139, 139, 0, 0⟩,
  ⟨⟨#[115, 101, 99, 99, 111, 109, 112]⟩, 317, 317, 354, 277, 277, 0, 0⟩,
  ⟨⟨#[115, 101, 108, 101, 99, 116]⟩, 23, 23, 82, -1, -1, 0, 0⟩,
  ⟨⟨#[115, 101, 109, 99, 116, 108]⟩, 66, 66, 394, 191, 191, 2, 3⟩,
  ⟨⟨#[115, 101, 109, 103, 101, 116]⟩, 64, 64, 393, 190, 190, 2, 2⟩,
  ⟨⟨#[115, 101, 109, 111, 112]⟩, 65, 65, -1, 193, 193, 2, 1⟩,
  ⟨⟨#[115, 101, 110, 100]⟩, -1, -1, -1, -1, -1, 1, 9⟩,
  ⟨⟨#[115, 101, 110, 100, 109, 115, 103]⟩, 46, 518, 370, 211, 211, 1, 16⟩,
  ⟨⟨#[115, 101, 110, 100, 116, 111]⟩, 44, 44, 369, 206, 206, 1, 11⟩,
  ⟨⟨#[115, 101, 116, 115, 111, 99, 107, 111, 112, 116]⟩, 54, 541, 366, 208, 208, 1, 14⟩,
  ⟨⟨#[115, 104, 109, 97, 116]⟩, 30, 30, 397, 196, 196, 2, 21⟩,
  ⟨⟨#[115, 104, 109, 99, 116, 108]⟩, 31, 31, 396, 195, 195, 2, 24⟩,
  ⟨⟨#[115, 104, 109, 100, 116]⟩, 67, 67, 398, 197, 197, 2, 22⟩,
  ⟨⟨#[115, 104, 109, 103, 101, 116]⟩, 29, 29, 395, 194, 194, 2, 23⟩,
  ⟨⟨#[115, 104, 117, 116, 100, 111, 119, 110]⟩, 48, 48, 373, 210, 210, 1, 13⟩,
  ⟨⟨#[115, 111, 99, 107, 101, 116]⟩, 41, 41, 359, 198, 198, 1, 1⟩,
  ⟨⟨#[115, 111, 99, 107, 101, 116, 112, 97, 105, 114]⟩, 53, 53, 360, 199, 199, 1, 8⟩,
  ⟨⟨#[115, 116, 97, 116]⟩, 4, 4, 106, -1, -1, 0, 0⟩,
  ⟨⟨#[116, 105, 109, 101]⟩, 201, 201, 13, -1, -1, 0, 0⟩,
  ⟨⟨#[117, 110, 97, 109, 101]⟩, 63, 63, 122, 160, 160, 0, 0⟩,
  ⟨⟨#[117, 110, 108, 105, 110, 107]⟩, 87, 87, 10, -1, -1, 0, 0⟩,
  ⟨⟨#[118, 102, 111, 114, 107]⟩, 58, 58, 190, -1, -1, 0, 0⟩,
  ⟨⟨#[119, 97, 105, 116, 112, 105, 100]⟩, -1, -1, 7, -1, -1, 0, 0⟩,
  ⟨⟨#[119, 114, 105, 116, 101]⟩, 1, 1, 4, 64, 64, 0, 0⟩,
  ⟨⟨#[119, 114, 105, 116, 101, 118]⟩, 20, 516, 146, 66, 66, 0, 0⟩]
theorem build_late : abuildCells Tryd.prog 38 53 [(0, trowA ⟨⟨#[108, 115, 101, 101, 107]⟩, 8, 8, 19, 62, 62, 0, 0⟩), (1, trowA ⟨⟨#[109, 107, 100, 105, 114]⟩, 83, 83, 39, -1, -1, 0, 0⟩), (2, trowA ⟨⟨#[109, 109, 97, 112]⟩, 9, 9, -1, 222, 222, 0, 0⟩), (3, trowA ⟨⟨#[109, 109, 97, 112, 50]⟩, -1, -1, 192, -1, -1, 0, 0⟩), (4, trowA ⟨⟨#[109, 112, 114, 111, 116, 101, 99, 116]⟩, 10, 10, 125, 226, 226, 0, 0⟩), (5, trowA ⟨⟨#[109, 115, 103, 99, 116, 108]⟩, 71, 71, 402, 187, 187, 2, 14⟩), (6, trowA ⟨⟨#[109, 115, 103, 103, 101, 116]⟩, 68, 68, 399, 186, 186, 2, 13⟩), (7, trowA ⟨⟨#[109, 115, 103, 114, 99, 118]⟩, 70, 70, 401, 188, 188, 2, 12⟩), (8, trowA ⟨⟨#[109, 115, 103, 115, 110, 100]⟩, 69, 69, 400, 189, 189, 2, 11⟩), (9, trowA ⟨⟨#[109, 117, 110, 109, 97, 112]⟩, 11, 11, 91, 215, 215, 0, 0⟩), (10, trowA ⟨⟨#[110, 97, 110, 111, 115, 108, 101, 101, 112]⟩, 35, 35, 162, 101, 101, 0, 0⟩), (11, trowA ⟨⟨#[111, 112, 101, 110]⟩, 2, 2, 5, -1, -1, 0, 0⟩), (12, trowA ⟨⟨#[111, 112, 101, 110, 97, 116]⟩, 257, 257, 295, 56, 56, 0, 0⟩), (13, trowA ⟨⟨#[112, 105, 112, 101]⟩, 22, 22, 42, -1, -1, 0, 0⟩), (14, trowA ⟨⟨#[112, 105, 112, 101, 50]⟩, 293, 293, 331, 59, 59, 0, 0⟩), (15, trowA ⟨⟨#[112, 111, 108, 108]⟩, 7, 7, 168, -1, -1, 0, 0⟩), (16, trowA ⟨⟨#[112, 114, 101, 97, 100, 54, 52]⟩, 17, 17, 180, 67, 67, 0, 0⟩), (17, trowA ⟨⟨#[112, 114, 108, 105, 109, 105, 116, 54, 52]⟩, 302, 302, 340, 261, 261, 0, 0⟩), (18, trowA ⟨⟨#[112, 116, 114, 97, 99, 101]⟩, 101, 521, 26, 117, 117, 0, 0⟩), (19, trowA ⟨⟨#[112, 119, 114, 105, 116, 101, 54, 52]⟩, 18, 18, 181, 68, 68, 0, 0⟩), (20, trowA ⟨⟨#[114, 101, 97, 100]⟩, 0, 0, 3, 63, 63, 0, 0⟩), (21, trowA ⟨⟨#[114, 101, 97, 100, 118]⟩, 19, 515, 145, 65, 65, 0, 0⟩), (22, trowA ⟨⟨#[114, 101, 99, 118]⟩, -1, -1, -1, -1, -1, 1, 10⟩), (23, trowA ⟨⟨#[114, 101, 99, 118, 102, 114, 111, 109]⟩, 45, 517, 371, 207, 207, 1, 12⟩), (24, trowA ⟨⟨#[114, 101, 99, 118, 109, 115, 103]⟩, 47, 519, 372, 212, 212, 1, 17⟩), (25, trowA ⟨⟨#[114, 101, 110, 97, 109, 101]⟩, 82, 82, 38, -1, -1, 0, 0⟩), (26, trowA ⟨⟨#[114, 105, 115, 99, 118, 95, 102, 108, 117, 115, 104, 95, 105, 99, 97, 99, 104, 101]⟩, -1, -1, -1, -1, 259, 0, 0⟩), (27, trowA ⟨⟨#[114, 116, 95, 115, 105, 103, 97, 99, 116, 105, 111, 110]⟩, 13, 512, 174, 134, 134, 0, 0⟩), (28, trowA ⟨⟨#[114, 116, 95, 115, 105, 103, 114, 101, 116, 117, 114, 110]⟩, 15, 513, 173, 139, 139, 0, 0⟩), (29, trowA ⟨⟨#[115, 101, 99, 99, 111, 109, 112]⟩, 317, 317, 354, 277, 277, 0, 0⟩), (30, trowA ⟨⟨#[115, 101, 108, 101, 99, 116]⟩, 23, 23, 82, -1, -1, 0, 0⟩), (31, trowA ⟨⟨#[115, 101, 109, 99, 116, 108]⟩, 66, 66, 394, 191, 191, 2, 3⟩), (32, trowA ⟨⟨#[115, 101, 109, 103, 101, 116]⟩, 64, 64, 393, 190, 190, 2, 2⟩), (33, trowA ⟨⟨#[115, 101, 109, 111, 112]⟩, 65, 65, -1, 193, 193, 2, 1⟩), (34, trowA ⟨⟨#[115, 101, 110, 100]⟩, -1, -1, -1, -1, -1, 1, 9⟩), (35, trowA ⟨⟨#[115, 101, 110, 100, 109, 115, 103]⟩, 46, 518, 370, 211, 211, 1, 16⟩), (36, trowA ⟨⟨#[115, 101, 110, 100, 116, 111]⟩, 44, 44, 369, 206, 206, 1, 11⟩), (37, trowA ⟨⟨#[115, 101, 116, 115, 111, 99, 107, 111, 112, 116]⟩, 54, 541, 366, 208, 208, 1, 14⟩), (38, trowA ⟨⟨#[115, 104, 109, 97, 116]⟩, 30, 30, 397, 196, 196, 2, 21⟩), (39, trowA ⟨⟨#[115, 104, 109, 99, 116, 108]⟩, 31, 31, 396, 195, 195, 2, 24⟩), (40, trowA ⟨⟨#[115, 104, 109, 100, 116]⟩, 67, 67, 398, 197, 197, 2, 22⟩), (41, trowA ⟨⟨#[115, 104, 109, 103, 101, 116]⟩, 29, 29, 395, 194, 194, 2, 23⟩), (42, trowA ⟨⟨#[115, 104, 117, 116, 100, 111, 119, 110]⟩, 48, 48, 373, 210, 210, 1, 13⟩), (43, trowA ⟨⟨#[115, 111, 99, 107, 101, 116]⟩, 41, 41, 359, 198, 198, 1, 1⟩), (44, trowA ⟨⟨#[115, 111, 99, 107, 101, 116, 112, 97, 105, 114]⟩, 53, 53, 360, 199, 199, 1, 8⟩), (45, trowA ⟨⟨#[115, 116, 97, 116]⟩, 4, 4, 106, -1, -1, 0, 0⟩), (46, trowA ⟨⟨#[116, 105, 109, 101]⟩, 201, 201, 13, -1, -1, 0, 0⟩), (47, trowA ⟨⟨#[117, 110, 97, 109, 101]⟩, 63, 63, 122, 160, 160, 0, 0⟩), (48, trowA ⟨⟨#[117, 110, 108, 105, 110, 107]⟩, 87, 87, 10, -1, -1, 0, 0⟩), (49, trowA ⟨⟨#[118, 102, 111, 114, 107]⟩, 58, 58, 190, -1, -1, 0, 0⟩), (50, trowA ⟨⟨#[119, 97, 105, 116, 112, 105, 100]⟩, -1, -1, 7, -1, -1, 0, 0⟩), (51, trowA ⟨⟨#[119, 114, 105, 116, 101]⟩, 1, 1, 4, 64, 64, 0, 0⟩), (52, trowA ⟨⟨#[119, 114, 105, 116, 101, 118]⟩, 20, 516, 146, 66, 66, 0, 0⟩)] = some (72, [strA ⟨#[108, 115, 101, 101, 107]⟩, int (8), int (8), int (19), int (62), int (62), int 0, int 0, strA ⟨#[109, 107, 100, 105, 114]⟩, int (83), int (83), int (39), int (-1), int (-1), int 0, int 0, strA ⟨#[109, 109, 97, 112]⟩, int (9), int (9), int (-1), int (222), int (222), int 0, int 0, strA ⟨#[109, 109, 97, 112, 50]⟩, int (-1), int (-1), int (192), int (-1), int (-1), int 0, int 0, strA ⟨#[109, 112, 114, 111, 116, 101, 99, 116]⟩, int (10), int (10), int (125), int (226), int (226), int 0, int 0, strA ⟨#[109, 115, 103, 99, 116, 108]⟩, int (71), int (71), int (402), int (187), int (187), int 2, int 14, strA ⟨#[109, 115, 103, 103, 101, 116]⟩, int (68), int (68), int (399), int (186), int (186), int 2, int 13, strA ⟨#[109, 115, 103, 114, 99, 118]⟩, int (70), int (70), int (401), int (188), int (188), int 2, int 12, strA ⟨#[109, 115, 103, 115, 110, 100]⟩, int (69), int (69), int (400), int (189), int (189), int 2, int 11, strA ⟨#[109, 117, 110, 109, 97, 112]⟩, int (11), int (11), int (91), int (215), int (215), int 0, int 0, strA ⟨#[110, 97, 110, 111, 115, 108, 101, 101, 112]⟩, int (35), int (35), int (162), int (101), int (101), int 0, int 0, strA ⟨#[111, 112, 101, 110]⟩, int (2), int (2), int (5), int (-1), int (-1), int 0, int 0, strA ⟨#[111, 112, 101, 110, 97, 116]⟩, int (257), int (257), int (295), int (56), int (56), int 0, int 0, strA ⟨#[112, 105, 112, 101]⟩, int (22), int (22), int (42), int (-1), int (-1), int 0, int 0, strA ⟨#[112, 105, 112, 101, 50]⟩, int (293), int (293), int (331), int (59), int (59), int 0, int 0, strA ⟨#[112, 111, 108, 108]⟩, int (7), int (7), int (168), int (-1), int (-1), int 0, int 0, strA ⟨#[112, 114, 101, 97, 100, 54, 52]⟩, int (17), int (17), int (180), int (67), int (67), int 0, int 0, strA ⟨#[112, 114, 108, 105, 109, 105, 116, 54, 52]⟩, int (302), int (302), int (340), int (261), int (261), int 0, int 0, strA ⟨#[112, 116, 114, 97, 99, 101]⟩, int (101), int (521), int (26), int (117), int (117), int 0, int 0, strA ⟨#[112, 119, 114, 105, 116, 101, 54, 52]⟩, int (18), int (18), int (181), int (68), int (68), int 0, int 0, strA ⟨#[114, 101, 97, 100]⟩, int (0), int (0), int (3), int (63), int (63), int 0, int 0, strA ⟨#[114, 101, 97, 100, 118]⟩, int (19), int (515), int (145), int (65), int (65), int 0, int 0, strA ⟨#[114, 101, 99, 118]⟩, int (-1), int (-1), int (-1), int (-1), int (-1), int 1, int 10, strA ⟨#[114, 101, 99, 118, 102, 114, 111, 109]⟩, int (45), int (517), int (371), int (207), int (207), int 1, int 12, strA ⟨#[114, 101, 99, 118, 109, 115, 103]⟩, int (47), int (519), int (372), int (212), int (212), int 1, int 17, strA ⟨#[114, 101, 110, 97, 109, 101]⟩, int (82), int (82), int (38), int (-1), int (-1), int 0, int 0, strA ⟨#[114, 105, 115, 99, 118, 95, 102, 108, 117, 115, 104, 95, 105, 99, 97, 99, 104, 101]⟩, int (-1), int (-1), int (-1), int (-1), int (259), int 0, int 0, strA ⟨#[114, 116, 95, 115, 105, 103, 97, 99, 116, 105, 111, 110]⟩, int (13), int (512), int (174), int (134), int (134), int 0, int 0, strA ⟨#[114, 116, 95, 115, 105, 103, 114, 101, 116, 117, 114, 110]⟩, int (15), int (513), int (173), int (139), int (139), int 0, int 0, strA ⟨#[115, 101, 99, 99, 111, 109, 112]⟩, int (317), int (317), int (354), int (277), int (277), int 0, int 0, strA ⟨#[115, 101, 108, 101, 99, 116]⟩, int (23), int (23), int (82), int (-1), int (-1), int 0, int 0, strA ⟨#[115, 101, 109, 99, 116, 108]⟩, int (66), int (66), int (394), int (191), int (191), int 2, int 3, strA ⟨#[115, 101, 109, 103, 101, 116]⟩, int (64), int (64), int (393), int (190), int (190), int 2, int 2, strA ⟨#[115, 101, 109, 111, 112]⟩, int (65), int (65), int (-1), int (193), int (193), int 2, int 1, strA ⟨#[115, 101, 110, 100]⟩, int (-1), int (-1), int (-1), int (-1), int (-1), int 1, int 9, strA ⟨#[115, 101, 110, 100, 109, 115, 103]⟩, int (46), int (518), int (370), int (211), int (211), int 1, int 16, strA ⟨#[115, 101, 110, 100, 116, 111]⟩, int (44), int (44), int (369), int (206), int (206), int 1, int 11, strA ⟨#[115, 101, 116, 115, 111, 99, 107, 111, 112, 116]⟩, int (54), int (541), int (366), int (208), int (208), int 1, int 14, strA ⟨#[115, 104, 109, 97, 116]⟩, int (30), int (30), int (397), int (196), int (196), int 2, int 21, strA ⟨#[115, 104, 109, 99, 116, 108]⟩, int (31), int (31), int (396), int (195), int (195), int 2, int 24, strA ⟨#[115, 104, 109, 100, 116]⟩, int (67), int (67), int (398), int (197), int (197), int 2, int 22, strA ⟨#[115, 104, 109, 103, 101, 116]⟩, int (29), int (29), int (395), int (194), int (194), int 2, int 23, strA ⟨#[115, 104, 117, 116, 100, 111, 119, 110]⟩, int (48), int (48), int (373), int (210), int (210), int 1, int 13, strA ⟨#[115, 111, 99, 107, 101, 116]⟩, int (41), int (41), int (359), int (198), int (198), int 1, int 1, strA ⟨#[115, 111, 99, 107, 101, 116, 112, 97, 105, 114]⟩, int (53), int (53), int (360), int (199), int (199), int 1, int 8, strA ⟨#[115, 116, 97, 116]⟩, int (4), int (4), int (106), int (-1), int (-1), int 0, int 0, strA ⟨#[116, 105, 109, 101]⟩, int (201), int (201), int (13), int (-1), int (-1), int 0, int 0, strA ⟨#[117, 110, 97, 109, 101]⟩, int (63), int (63), int (122), int (160), int (160), int 0, int 0, strA ⟨#[117, 110, 108, 105, 110, 107]⟩, int (87), int (87), int (10), int (-1), int (-1), int 0, int 0, strA ⟨#[118, 102, 111, 114, 107]⟩, int (58), int (58), int (190), int (-1), int (-1), int 0, int 0, strA ⟨#[119, 97, 105, 116, 112, 105, 100]⟩, int (-1), int (-1), int (7), int (-1), int (-1), int 0, int 0, strA ⟨#[119, 114, 105, 116, 101]⟩, int (1), int (1), int (4), int (64), int (64), int 0, int 0, strA ⟨#[119, 114, 105, 116, 101, 118]⟩, int (20), int (516), int (146), int (66), int (66), int 0, int 0]) := by kernel_rfl
set_option maxHeartbeats 4000000 in
theorem late_spec : Tells Tryd.prog 32 [] (trows lateL) := by
  refine tells_of_aw Tryd.func32 rfl rfl fun nx => ?_
  ((repeat((conv=>whnf);first|apply ω0|apply ω2|refine τ3 rfl ?_|refine τ4 rfl ?_|refine ⟨rfl,?_⟩|apply τa|refine τb rfl ?_|refine ⟨⟨by kernel_rfl,by kernel_rfl⟩,?_⟩|refine ⟨by decide,?_⟩|apply τt|apply τf)); refine aw_region ?_; (repeat((conv=>whnf);first|apply ω0|apply ω2|refine τ3 rfl ?_|refine τ4 rfl ?_|refine ⟨rfl,?_⟩|apply τa|refine τb rfl ?_|refine ⟨⟨by kernel_rfl,by kernel_rfl⟩,?_⟩|refine ⟨by decide,?_⟩|apply τt|apply τf)))
  refine aw_regionY (fun n => match n with | 0 => true | _ => false) 107 ?_
  (repeat((conv=>whnf);first|apply ω0|apply ω1|apply ω2|refine τ3 rfl ?_|refine τ4 rfl ?_|refine ⟨rfl,?_⟩|apply τa|refine τb rfl ?_|refine ⟨⟨by kernel_rfl,by kernel_rfl⟩,?_⟩|refine ⟨by decide,?_⟩|apply τt|apply τf))
  refine aop_build rfl build_late ?_
  (repeat((conv=>whnf);first|apply ω0|apply ω1|apply ω2|refine τ3 rfl ?_|refine τ4 rfl ?_|refine ⟨rfl,?_⟩|apply τa|refine τb rfl ?_|refine ⟨⟨by kernel_rfl,by kernel_rfl⟩,?_⟩|refine ⟨by decide,?_⟩|apply τt|apply τf))
  refine ret_tells rfl (AVle.os_sl.trans (AVle.sl_fun fun k hk => ?_))
  match k, hk with
  | 0, _ => rfl
  | 1, _ => rfl
  | 2, _ => rfl
  | 3, _ => rfl
  | 4, _ => rfl
  | 5, _ => rfl
  | 6, _ => rfl
  | 7, _ => rfl
  | 8, _ => rfl
  | 9, _ => rfl
  | 10, _ => rfl
  | 11, _ => rfl
  | 12, _ => rfl
  | 13, _ => rfl
  | 14, _ => rfl
  | 15, _ => rfl
  | 16, _ => rfl
  | 17, _ => rfl
  | 18, _ => rfl
  | 19, _ => rfl
  | 20, _ => rfl
  | 21, _ => rfl
  | 22, _ => rfl
  | 23, _ => rfl
  | 24, _ => rfl
  | 25, _ => rfl
  | 26, _ => rfl
  | 27, _ => rfl
  | 28, _ => rfl
  | 29, _ => rfl
  | 30, _ => rfl
  | 31, _ => rfl
  | 32, _ => rfl
  | 33, _ => rfl
  | 34, _ => rfl
  | 35, _ => rfl
  | 36, _ => rfl
  | 37, _ => rfl
  | 38, _ => rfl
  | 39, _ => rfl
  | 40, _ => rfl
  | 41, _ => rfl
  | 42, _ => rfl
  | 43, _ => rfl
  | 44, _ => rfl
  | 45, _ => rfl
  | 46, _ => rfl
  | 47, _ => rfl
  | 48, _ => rfl
  | 49, _ => rfl
  | 50, _ => rfl
  | 51, _ => rfl
  | 52, _ => rfl
  | k + 53, hk => exact absurd hk (by omega)
end Go.Proofs.W

namespace Go.Proofs.W
open Go.Vl
set_option maxRecDepth 100000

def builtL : List TRow := earlyL ++ lateL
theorem noid_trows (l : List TRow) : NoId (trows l) := NoId.sl fun i _ c hc => by
  have hc : c ∈ trowC (l.getD i trow0) := hc
  unfold trowC at hc
  simp only [List.mem_cons, List.not_mem_nil, or_false] at hc
  rcases hc with rfl | rfl | rfl | rfl | rfl | rfl | rfl | rfl <;> exact NoId.v _
theorem builtin_spec : Tells Tryd.prog 17 [] (trows builtL) := by
  have hc := concat_trow [earlyL, lateL] (by decide) (by decide) none
  have e : [earlyL, lateL].flatten = builtL := by unfold builtL; simp
  rw [e] at hc
  have he := early_spec
  have hl := late_spec
  generalize earlyL = A at he hc
  generalize lateL = B at hl hc
  generalize builtL = C at hc
  refine tells_of_aw Tryd.func17 rfl rfl fun nx => ?_
  (repeat((conv=>whnf);first|apply ω0|apply ω1|apply ω2|refine τ3 rfl ?_|refine τ4 rfl ?_|refine ⟨rfl,?_⟩|apply τa|refine τb rfl ?_|refine ⟨⟨by kernel_rfl,by kernel_rfl⟩,?_⟩|refine ⟨by decide,?_⟩|apply τt|apply τf))
  refine aop_tells rfl rfl he trivial fun nx2 => ?_
  (repeat((conv=>whnf);first|apply ω0|apply ω1|apply ω2|refine τ3 rfl ?_|refine τ4 rfl ?_|refine ⟨rfl,?_⟩|apply τa|refine τb rfl ?_|refine ⟨⟨by kernel_rfl,by kernel_rfl⟩,?_⟩|refine ⟨by decide,?_⟩|apply τt|apply τf))
  refine aop_tells rfl rfl hl trivial fun nx3 => ?_
  (repeat((conv=>whnf);first|apply ω0|apply ω1|apply ω2|refine τ3 rfl ?_|refine τ4 rfl ?_|refine ⟨rfl,?_⟩|apply τa|refine τb rfl ?_|refine ⟨⟨by kernel_rfl,by kernel_rfl⟩,?_⟩|refine ⟨by decide,?_⟩|apply τt|apply τf))
  refine aop_tells rfl rfl hc ⟨AVle.os_fun fun k hk => ?_, trivial⟩ fun nx4 => ?_
  · match k, hk with
    | 0, _ => rfl
    | 1, _ => rfl
  (repeat((conv=>whnf);first|apply ω0|apply ω1|apply ω2|refine τ3 rfl ?_|refine τ4 rfl ?_|refine ⟨rfl,?_⟩|apply τa|refine τb rfl ?_|refine ⟨⟨by kernel_rfl,by kernel_rfl⟩,?_⟩|refine ⟨by decide,?_⟩|apply τt|apply τf))
  exact ret_tells rfl (AVle.refl _)
end Go.Proofs.W

namespace Go.Proofs.W
open Go.Vl
set_option maxRecDepth 100000

def rAwk : Rec := ⟨0, 3221225534, 0, 0, 0, 0, 0, 0, 0⟩
def readS : ByteArray := ⟨#[114, 101, 97, 100]⟩
set_option maxHeartbeats 4000000 in
theorem built_ok : (tabR builtL).2 = 0 := by kernel_rfl
theorem awkP0 : learnP builtL (1, 0) false (gather builtL [rAwk]) = ⟨(1, 0), false, [⟨readS, (8, 0), []⟩]⟩ := by kernel_rfl
theorem awkP1 : learnP builtL (1, 0) true (gather builtL [rAwk]) = ⟨(1, 0), false, [⟨readS, (8, 0), [⟨0, 1, 0, 0⟩, ⟨1, 1, 0, 0⟩, ⟨2, 1, 0, 0⟩, ⟨3, 1, 0, 0⟩, ⟨4, 1, 0, 0⟩, ⟨5, 1, 0, 0⟩]⟩]⟩ := by kernel_rfl
theorem built_len : builtL.length ≤ 1000000 := Nat.le_of_ble_eq_true (by kernel_rfl)
theorem built_names : ∀ r ∈ builtL, r.name.size ≤ maxLen := fun r hr => by
  have : (builtL.all fun r => decide (r.name.size ≤ maxLen)) = true := by kernel_rfl
  exact of_decide_eq_true (List.all_eq_true.1 this r hr)
theorem awk_call (near : Bool) : Tells Tryd.prog 5 [trows builtL, recs [rAwk], act 1 0, boolA near] (.tup [polA (learnP builtL (1, 0) near (gather builtL [rAwk])), int 0]) :=
  policy_ok builtL [rAwk] 1 0 near built_len built_names (fun r hr => by rw [List.mem_singleton.1 hr]; unfold rAwk Rec.ok; decide) (by decide) built_ok (tab_sorted built_ok) (by decide)
set_option maxHeartbeats 4000000 in
theorem awake26_spec : Tells Tryd.prog 9 [] (boolA true) := by
  have hb := builtin_spec
  have h0 := awk_call false
  have h1 := awk_call true
  rw [awkP0] at h0
  rw [awkP1] at h1
  generalize builtL = B at hb h0 h1
  refine tells_of_aw Tryd.func9 rfl rfl fun nx => ?_
  (repeat((conv=>whnf);first|apply ω0|apply ω1|apply ω2|refine τ3 rfl ?_|refine τ4 rfl ?_|refine ⟨rfl,?_⟩|apply τa|refine τb rfl ?_|refine ⟨⟨by kernel_rfl,by kernel_rfl⟩,?_⟩|refine ⟨by decide,?_⟩|apply τt|apply τf))
  refine aop_tells rfl rfl hb trivial fun nx2 => ?_
  (repeat((conv=>whnf);first|apply ω0|apply ω1|apply ω2|refine τ3 rfl ?_|refine τ4 rfl ?_|refine ⟨rfl,?_⟩|apply τa|refine τb rfl ?_|refine ⟨⟨by kernel_rfl,by kernel_rfl⟩,?_⟩|refine ⟨by decide,?_⟩|apply τt|apply τf))
  refine aop_tells rfl rfl h0 ⟨AVle.refl _, AVle.os_sl.trans (AVle.sl_fun fun k hk => ?_), AVle.refl _, AVle.refl _, trivial⟩ fun nx3 => ?_
  · match k, hk with
    | 0, _ => rfl
  (repeat((conv=>whnf);first|apply ω0|apply ω1|apply ω2|refine τ3 rfl ?_|refine τ4 rfl ?_|refine ⟨rfl,?_⟩|apply τa|refine τb rfl ?_|refine ⟨⟨by kernel_rfl,by kernel_rfl⟩,?_⟩|refine ⟨by decide,?_⟩|apply τt|apply τf))
  refine aop_tells rfl rfl hb trivial fun nx4 => ?_
  (repeat((conv=>whnf);first|apply ω0|apply ω1|apply ω2|refine τ3 rfl ?_|refine τ4 rfl ?_|refine ⟨rfl,?_⟩|apply τa|refine τb rfl ?_|refine ⟨⟨by kernel_rfl,by kernel_rfl⟩,?_⟩|refine ⟨by decide,?_⟩|apply τt|apply τf))
  refine aop_tells rfl rfl h1 ⟨AVle.refl _, AVle.os_sl.trans (AVle.sl_fun fun k hk => ?_), AVle.refl _, AVle.refl _, trivial⟩ fun nx5 => ?_
  · match k, hk with
    | 0, _ => rfl
  (repeat((conv=>whnf);first|apply ω0|apply ω1|apply ω2|refine τ3 rfl ?_|refine τ4 rfl ?_|refine ⟨rfl,?_⟩|apply τa|refine τb rfl ?_|refine ⟨⟨by kernel_rfl,by kernel_rfl⟩,?_⟩|refine ⟨by decide,?_⟩|apply τt|apply τf))
  refine splitO_eq (b := .rp [strA readS, int 8, int 0, cnds []]) rfl ?_
  (repeat((conv=>whnf);first|apply ω0|apply ω1|apply ω2|refine τ3 rfl ?_|refine τ4 rfl ?_|refine ⟨rfl,?_⟩|apply τa|refine τb rfl ?_|refine ⟨⟨by kernel_rfl,by kernel_rfl⟩,?_⟩|refine ⟨by decide,?_⟩|apply τt|apply τf))
  intro c hc
  obtain rfl : c = true := hc.trans (beq_self_eq_true readS.toList)
  (repeat((conv=>whnf);first|apply ω0|apply ω1|apply ω2|refine τ3 rfl ?_|refine τ4 rfl ?_|refine ⟨rfl,?_⟩|apply τa|refine τb rfl ?_|refine ⟨⟨by kernel_rfl,by kernel_rfl⟩,?_⟩|refine ⟨by decide,?_⟩|apply τt|apply τf))
  exact ret_tells rfl (AVle.refl _)
end Go.Proofs.W

namespace Go.Proofs.W
open Go.Vl
set_option maxRecDepth 100000

/-- What is learnt, by definition. -/
def sel1 (r : Rec) : Bool := decide (selI r.arch r.num = 1)
def refB (near : Bool) (row : TRow) (own : List Rec) (k : Nat) : Bool := (near && decide (row.mux = 0)) && own.all fun r => decide (argR r k = argR (own.getD 0 rec0) k)
def refRule (l : List TRow) (rs : List Rec) (near : Bool) (a : Nat) : Rul := ⟨(l.getD a trow0).name, (8, 0), condsL (argR ((ofR l a rs).getD 0 rec0)) (refB near (l.getD a trow0) (ofR l a rs)) 6⟩
def refRules (l : List TRow) (rs : List Rec) (near : Bool) (n : Nat) : List Rul := (idxs l rs n).map (refRule l rs near)
def refX (l : List TRow) (rs : List Rec) (n : Nat) : Bool := (List.range n).any fun a => (ofR l a rs).any sel1
def refPol (l : List TRow) (rs : List Rec) (a : A2) (near : Bool) : Pol := ⟨a, refX l rs l.length, refRules l rs near l.length⟩
theorem refRules_next {l : List TRow} {rs : List Rec} {near : Bool} {n : Nat} : refRules l rs near (n + 1) = if (ofR l n rs).length = 0 then refRules l rs near n else refRules l rs near n ++ [refRule l rs near n] := by
  unfold refRules
  rw [idxs_next]
  split
  · rfl
  · rw [List.map_append]; rfl
theorem refRules_le {l : List TRow} {rs : List Rec} {near : Bool} {n : Nat} : (refRules l rs near n).length ≤ n := by
  unfold refRules idxs
  rw [List.length_map]
  exact Nat.le_trans (List.length_filter_le _ _) (by simp)
theorem refX_next {l : List TRow} {rs : List Rec} {n : Nat} : refX l rs (n + 1) = (refX l rs n || (ofR l n rs).any sel1) := by
  unfold refX
  rw [List.range_succ, List.any_append]; simp
theorem any_take {p : Rec → Bool} {L : List Rec} {i : Nat} (h : i < L.length) : (L.take (i + 1)).any p = ((L.take i).any p || p (L.getD i rec0)) := by
  rw [take_getD rec0 h, List.any_append]; simp
theorem all_take {p : Rec → Bool} {L : List Rec} {i : Nat} (h : i < L.length) : (L.take (i + 1)).all p = ((L.take i).all p && p (L.getD i rec0)) := by
  rw [take_getD rec0 h, List.all_append]; simp
theorem row_self {l : List TRow} (hok : (tabR l).2 = 0) {a : Nat} (ha : a < l.length) : rowOf l (l.getD a trow0).name = l.getD a trow0 := by
  have hs := tab_sorted hok
  have hm := sorted_mono hs (l.getD a trow0).name
  have h1 : ¬ lowB l (l.getD a trow0).name < a := fun q => by
    have := lowB_at (l := l) (s := (l.getD a trow0).name) (by omega)
    exact this (cmpS_lt.2 (hs _ _ q ha))
  have h2 : ¬ a < lowB l (l.getD a trow0).name := fun q => by
    have := lowB_lt q
    rw [cmpS_lt] at this
    exact RSb_irr _ this
  have e : lowB l (l.getD a trow0).name = a := by omega
  unfold rowOf foundB
  rw [e, decide_eq_true ha, decide_eq_true (cmpS_eq.2 rfl)]
  rfl
theorem row_mux {l : List TRow} (hok : (tabR l).2 = 0) {a : Nat} (ha : a < l.length) : (!decide ((l.getD a trow0).mux > 0)) = decide ((l.getD a trow0).mux = 0) := by
  have hm := (row_good ((right_rows hok).2 a ha)).2.2.2.1
  unfold muxBad at hm
  simp only [Bool.or_eq_false_iff, decide_eq_false_iff_not] at hm
  have := hm.1
  rw [Bool.eq_iff_iff, Bool.not_eq_true', decide_eq_false_iff_not, decide_eq_true_iff]
  omega
theorem of_abi {l : List TRow} {r : Rec} {a : Nat} (h : atO l r = some a) : (ofI l r).abi = selI r.arch r.num ∧ 0 ≤ selI r.arch r.num := by
  unfold atO at h
  unfold ofI selI
  cases hs : selO r.arch r.num with
  | none => rw [hs] at h; cases h
  | some b => dsimp only; split <;> exact ⟨rfl, Int.natCast_nonneg _⟩
theorem xarg_eq {l : List TRow} {r : Rec} {a : Nat} (h : atO l r = some a) (k : Nat) : xarg l r k = argR r k := by
  obtain ⟨h1, h2⟩ := of_abi h
  unfold xarg argI argR
  rw [h1]
  by_cases q : selI r.arch r.num = 2
  · rw [if_pos q, if_pos (by rw [q]; rfl)]
  · rw [if_neg q, if_neg (by omega)]
theorem of_at {l : List TRow} {rs : List Rec} {a : Nat} {r : Rec} (h : r ∈ ofR l a rs) : atO l r = some a := by
  unfold ofR at h
  rw [List.mem_filter, decide_eq_true_iff] at h
  exact h.2
theorem x_eq {l : List TRow} (hok : (tabR l).2 = 0) (rs : List Rec) : (gather l rs).2 = refX l rs l.length := by
  rw [(gather_inv l rs).x, Bool.eq_iff_iff]
  unfold refX sel1
  simp only [List.any_eq_true, Bool.and_eq_true, decide_eq_true_eq, List.mem_range]
  constructor
  · rintro ⟨r, hr, h1, h2⟩
    rw [nameR_eq] at h1
    cases hat : atO l r with
    | none => rw [hat] at h1; exact absurd rfl h1
    | some a =>
      refine ⟨a, atO_lt hat, r, ?_, by rw [← (of_abi hat).1]; exact h2⟩
      unfold ofR
      rw [List.mem_filter]
      exact ⟨hr, decide_eq_true hat⟩
  · rintro ⟨a, ha, r, hr, h⟩
    have hat := of_at hr
    unfold ofR at hr
    rw [List.mem_filter] at hr
    refine ⟨r, hr.1, ?_, by rw [(of_abi hat).1]; exact h⟩
    rw [nameR_eq, hat]
    exact tab_name hok ha
theorem conds_cong {a a' : Nat → Nat} {b b' : Nat → Bool} {n : Nat} (ha : ∀ k, a k = a' k) (hb : ∀ k, b k = b' k) : condsL a b n = condsL a' b' n := by
  have e1 : a = a' := funext ha
  have e2 : b = b' := funext hb
  rw [e1, e2]
theorem conds_no {a : Nat → Nat} {b : Nat → Bool} {n : Nat} (hb : ∀ k, b k = false) : condsL a b n = [] := by
  unfold condsL
  rw [List.filter_eq_nil_iff.2 (fun k _ => by rw [hb k]; decide)]; rfl
theorem learn_rule {l : List TRow} (hok : (tabR l).2 = 0) (rs : List Rec) (near : Bool) {a : Nat} (ha : a ∈ idxs l rs l.length) : ruleL l near (gather l rs).1 (l.getD a trow0).name = refRule l rs near a := by
  have hlt : a < l.length := by unfold idxs at ha; rw [List.mem_filter, List.mem_range] at ha; exact ha.1
  have hk := keys_idx hok rs
  have hg := gat_own (l := l) (rs := rs) (z := (l.getD a trow0).name.data.toList) (by rw [hk]; exact List.mem_map_of_mem ha)
  rw [toA] at hg
  obtain ⟨h1, r0, rest, h2, h3, h4, h5⟩ := hg
  rw [h1, own_of hok rs hlt] at h2
  unfold ruleL refRule
  rw [row_self hok hlt, row_mux hok hlt]
  congr 1
  have hr0 : atO l r0 = some a := of_at (rs := rs) (by rw [h2]; exact .head _)
  have hrest : ∀ r ∈ rest, atO l r = some a := fun r hr => of_at (rs := rs) (by rw [h2]; exact .tail _ hr)
  cases hc : (near && decide ((l.getD a trow0).mux = 0)) with
  | false =>
    rw [if_neg (by decide)]
    refine (conds_no fun k => ?_).symm
    unfold refB
    rw [hc]; rfl
  | true =>
    rw [if_pos rfl]
    rw [h2]
    refine conds_cong (fun k => by rw [h4, xarg_eq hr0]; rfl) fun k => ?_
    unfold refB
    rw [hc, h5, Bool.true_and]
    show _ = (decide (argR r0 k = argR r0 k) && rest.all fun r => decide (argR r k = argR r0 k))
    rw [decide_eq_true rfl, Bool.true_and, Bool.eq_iff_iff, List.all_eq_true, List.all_eq_true]
    constructor
    · intro h r hr
      have := h r hr
      rw [xarg_eq hr0, xarg_eq (hrest r hr)] at this
      exact decide_eq_true (of_decide_eq_true this).symm
    · intro h r hr
      have := h r hr
      rw [xarg_eq hr0, xarg_eq (hrest r hr)]
      exact decide_eq_true (of_decide_eq_true this).symm
/-- What is learnt is what is defined. -/
theorem learn_ref {l : List TRow} (hok : (tabR l).2 = 0) (rs : List Rec) (near : Bool) (a : A2) : learnP l a near (gather l rs) = refPol l rs a near := by
  unfold learnP refPol rulesK refRules
  rw [x_eq hok, keys_idx hok rs, List.map_map]
  congr 1
  refine List.map_congr_left fun i hi => ?_
  show ruleL l near (gather l rs).1 ⟨(l.getD i trow0).name.data.toList.toArray⟩ = _
  rw [toA, learn_rule hok rs near hi]
theorem ref_light {l : List TRow} {rs : List Rec} {a : A2} {near : Bool} (hl : l.length ≤ 40) (hn : ∀ r ∈ l, r.name.size ≤ 60) : lightP (refPol l rs a near) = true := by
  unfold lightP refPol
  dsimp only
  have h1 := refRules_le (l := l) (rs := rs) (near := near) (n := l.length)
  rw [decide_eq_true (by omega), Bool.true_and, List.all_eq_true]
  intro r hr
  unfold refRules at hr
  obtain ⟨i, hi, rfl⟩ := List.mem_map.1 hr
  have hlt : i < l.length := by unfold idxs at hi; rw [List.mem_filter, List.mem_range] at hi; exact hi.1
  have hm : l.getD i trow0 ∈ l := by simp [List.getD, hlt]
  have hle := condsL_le (a := argR ((ofR l i rs).getD 0 rec0)) (b := refB near (l.getD i trow0) (ofR l i rs)) (n := 6)
  unfold lightR refRule
  dsimp only
  rw [decide_eq_true (hn _ hm), decide_eq_true (by omega)]; rfl
end Go.Proofs.W

namespace Go.Proofs.W
open Go.Vl
set_option maxRecDepth 100000

def nmr : Option Nat → Option Vl.Id
  | none => none
  | some k => some (1, k)
def polB (nx : Nat) (k n : Int) (x : Bool) (R : List Rul) (oi : Option Nat) : List (Vl.Id × Own) := [((2, nx + 2), .c [int k, int n, boolA x, .os 4 R.length (rulF2 R) (nmd oi)]), ((1, nx + 1), .c (polC2 lpol0)), ((0, nx), .c [int k, int n])]
def cndF2 (l : List Cnd) (k : Nat) : AV := cndA (l.getD k cnd0)
theorem getD_recs {rs : List Rec} {i : Nat} (h : i < rs.length) : rs.getD i rec0 ∈ rs := by simp [List.getD, h]
theorem noid_cnd26 (c : Cnd) : NoId (cndA c) := by unfold cndA; exact NoId.ag (by intro y hy; simp at hy; rcases hy with rfl | rfl | rfl | rfl <;> exact NoId.v _)
theorem box_le {i j : Vl.Id} {a b c d : AV} {a' b' c' d' : AV} {L : List (Vl.Id × Own)} (h : i.2 = j.2) (h1 : AVle a a') (h2 : AVle b b') (h3 : AVle c c') (h4 : AVle d d') : BxLe ((i, .c [a, b, c, d]) :: L) ((j, .c [a', b', c', d']) :: L) := ⟨h, ⟨h1, h2, h3, h4, trivial⟩, BxLe.refl _⟩
end Go.Proofs.W

namespace Go.Proofs.W
open Go.Vl
set_option maxRecDepth 100000

theorem few_le {l : List TRow} (h : fewB l = true) : l.length ≤ 40 ∧ ∀ r ∈ l, r.name.size ≤ 60 := by
  unfold fewB at h
  simp only [Bool.and_eq_true, decide_eq_true_eq, Bool.not_eq_true', List.any_eq_false] at h
  exact ⟨h.1, fun r hr => by have := h.2 r hr; omega⟩
end Go.Proofs.W

namespace Go.Proofs.W
open Go.Vl
set_option maxRecDepth 100000

theorem z_pol26 : zcells Tryd.prog 34 = some [int 0, int 0, boolA false, .os 0 0 (fun _ => .any) none] := by kernel_rfl
theorem noid_cnds26 (l : List Cnd) : NoId (cnds l) := NoId.sl fun i _ c hc => by
  have hc : c ∈ (cndA (l.getD i cnd0)).cells := hc
  unfold cndA AV.cells at hc
  simp only [List.mem_cons, List.not_mem_nil, or_false] at hc
  rcases hc with rfl | rfl | rfl | rfl <;> exact NoId.v _
theorem noid_ruls26 (L : List Rul) : NoId (ruls L) := NoId.sl fun i _ c hc => by
  have hc : c ∈ (rulA (L.getD i rul0)).cells := hc
  unfold rulA AV.cells at hc
  simp only [List.mem_cons, List.not_mem_nil, or_false] at hc
  rcases hc with rfl | rfl | rfl | rfl
  · exact NoId.v _
  · exact NoId.v _
  · exact NoId.v _
  · exact noid_cnds26 _
theorem noid_pol26 (p : Pol) : NoId (polA p) := NoId.ag (by
  intro y hy
  simp only [List.mem_cons, List.not_mem_nil, or_false] at hy
  rcases hy with rfl | rfl | rfl | rfl
  · exact NoId.v _
  · exact NoId.v _
  · exact NoId.v _
  · exact noid_ruls26 _)
theorem noid_tup26 (p : Pol) (e : Int) : NoId (.tup [polA p, int e]) := NoId.tup (by
  intro y hy
  simp only [List.mem_cons, List.not_mem_nil, or_false] at hy
  rcases hy with rfl | rfl
  · exact noid_pol26 _
  · exact NoId.v _)
theorem noid_recs26 (l : List Rec) : NoId (recs l) := NoId.sl fun i _ c hc => by
  have hc : c ∈ recC (l.getD i rec0) := hc
  unfold recC at hc
  simp only [List.mem_cons, List.not_mem_nil, or_false] at hc
  rcases hc with rfl | rfl | rfl | rfl | rfl | rfl | rfl | rfl | rfl <;> exact NoId.v _
def caseC (l : List TRow) (rs : List Rec) (k n : Int) (near : Bool) : List AV := [trows l, recs rs, int k, int n, boolA near]
def caseA (l : List TRow) (rs : List Rec) (k n : Int) (near : Bool) : AV := .ag [trows l, recs rs, int k, int n, boolA near]
theorem same_self26 (a : Pol) : sameP a a = true := by
  unfold sameP
  rw [decide_eq_true rfl, decide_eq_true rfl]
  have : ∀ l : List Rul, sameL l l = true := by
    intro l
    induction l with
    | nil => simp [sameL]
    | cons r l ih => simp_all [sameL, sameR]
  rw [this]; rfl
theorem learn_cases (l : List TRow) (rs : List Rec) (k n : Int) (near : Bool) (hl : l.length ≤ 1000000) (hn : ∀ r ∈ l, r.name.size ≤ maxLen) (hr : ∀ r ∈ rs, r.ok) (hrn : rs.length ≤ 100000) :
    ∃ (m : Pol) (e : Int), Tells Tryd.prog 5 [trows l, recs rs, act k n, boolA near] (.tup [polA m, int e]) ∧
      (((tabR l).2 ≠ 0 ∧ m = lpol0 ∧ e = 18) ∨ ((tabR l).2 = 0 ∧ right9 k n = false ∧ m = lpol0 ∧ e = 16) ∨ ((tabR l).2 = 0 ∧ right9 k n = true ∧ m = refPol l rs (k, n) near ∧ e = 0)) := by
  by_cases hb : (tabR l).2 = 0
  · cases ha : right9 k n with
    | false => exact ⟨_, _, policy_bad2 l rs k n near hl hn hb ha, .inr (.inl ⟨hb, rfl, rfl, rfl⟩)⟩
    | true =>
      have h := policy_ok l rs k n near hl hn hr hrn hb (tab_sorted hb) ha
      rw [learn_ref hb] at h
      exact ⟨_, _, h, .inr (.inr ⟨hb, rfl, rfl, rfl⟩)⟩
  · exact ⟨_, _, policy_bad1 l rs k n near hl hn hb, .inl ⟨hb, rfl, rfl⟩⟩
theorem le_pol0 : AVle (.ag [int 0, int 0, boolA false, .os 0 0 (fun _ => .any) none]) (polA lpol0) := AVle.ags (cs := [_, _, _, _]) ⟨AVle.refl _, AVle.refl _, AVle.refl _, AVle.os_sl0, trivial⟩
end Go.Proofs.W

namespace Go.Proofs.W
open Go.Vl
set_option maxRecDepth 100000

/-- Records in the other order, each twice. -/
def dbl (r : Rec) : List Rec := [r, r]
def backL (rs : List Rec) : List Rec := rs.reverse.flatMap dbl
theorem filter_dbl {p : Rec → Bool} : ∀ L : List Rec, (L.flatMap dbl).filter p = (L.filter p).flatMap dbl
  | [] => rfl
  | r :: L => by
    rw [List.flatMap_cons, List.filter_append, filter_dbl L, List.filter_cons]
    unfold dbl
    cases h : p r <;> simp [h]
theorem of_back {l : List TRow} {a : Nat} {rs : List Rec} : ofR l a (backL rs) = backL (ofR l a rs) := by
  unfold ofR backL
  rw [filter_dbl, List.filter_reverse]
theorem len_dbl : ∀ L : List Rec, (L.flatMap dbl).length = 2 * L.length
  | [] => rfl
  | r :: L => by rw [List.flatMap_cons, List.length_append, len_dbl L, List.length_cons]; show 2 + _ = _; omega
theorem len_back {rs : List Rec} : (backL rs).length = 2 * rs.length := by unfold backL; rw [len_dbl, List.length_reverse]
theorem mem_dbl {r : Rec} : ∀ {L : List Rec}, r ∈ L.flatMap dbl ↔ r ∈ L := by
  intro L
  rw [List.mem_flatMap]
  constructor
  · rintro ⟨x, hx, h⟩
    unfold dbl at h
    simp at h
    rw [h]; exact hx
  · exact fun h => ⟨r, h, by unfold dbl; simp⟩
theorem mem_back {r : Rec} {rs : List Rec} : r ∈ backL rs ↔ r ∈ rs := by unfold backL; rw [mem_dbl, List.mem_reverse]
theorem empty_back {rs : List Rec} : (backL rs).isEmpty = rs.isEmpty := by
  rw [Bool.eq_iff_iff, List.isEmpty_iff, List.isEmpty_iff, ← List.length_eq_zero_iff, ← List.length_eq_zero_iff, len_back]
  omega
theorem idxs_back {l : List TRow} {rs : List Rec} {n : Nat} : idxs l (backL rs) n = idxs l rs n := by
  unfold idxs
  exact List.filter_congr fun a _ => by rw [of_back, empty_back]
theorem any_back {p : Rec → Bool} {rs : List Rec} : (backL rs).any p = rs.any p := by
  rw [Bool.eq_iff_iff, List.any_eq_true, List.any_eq_true]
  exact ⟨fun ⟨x, h, k⟩ => ⟨x, mem_back.1 h, k⟩, fun ⟨x, h, k⟩ => ⟨x, mem_back.2 h, k⟩⟩
theorem all_back {p : Rec → Bool} {rs : List Rec} : (backL rs).all p = rs.all p := by
  rw [Bool.eq_iff_iff, List.all_eq_true, List.all_eq_true]
  exact ⟨fun h x k => h x (mem_back.2 k), fun h x k => h x (mem_back.1 k)⟩
theorem head_mem {L : List Rec} (h : L ≠ []) : L.getD 0 rec0 ∈ L := by
  cases L with
  | nil => exact absurd rfl h
  | cons x L => exact .head _
theorem refB_back {near : Bool} {row : TRow} {own : List Rec} (h : own ≠ []) (k : Nat) : refB near row (backL own) k = refB near row own k := by
  unfold refB
  congr 1
  rw [all_back]
  have h1 := head_mem h
  have h2 : (backL own).getD 0 rec0 ∈ own := mem_back.1 (head_mem fun e => h (by have := empty_back (rs := own); rw [e] at this; exact List.isEmpty_iff.1 this.symm))
  generalize (backL own).getD 0 rec0 = y at h2
  generalize own.getD 0 rec0 = x at h1
  rw [Bool.eq_iff_iff, List.all_eq_true, List.all_eq_true]
  simp only [decide_eq_true_eq]
  exact ⟨fun q r hr => (q r hr).trans (q x h1).symm, fun q r hr => (q r hr).trans (q y h2).symm⟩
theorem conds_if {a a' : Nat → Nat} {b : Nat → Bool} {n : Nat} (h : ∀ k, b k = true → a k = a' k) : condsL a b n = condsL a' b n := by
  unfold condsL
  refine List.map_congr_left fun k hk => ?_
  rw [List.mem_filter] at hk
  unfold condK
  rw [h k hk.2]
theorem rule_back {l : List TRow} {rs : List Rec} {near : Bool} {a : Nat} (h : ofR l a rs ≠ []) : refRule l (backL rs) near a = refRule l rs near a := by
  unfold refRule
  rw [of_back]
  generalize ofR l a rs = own at h
  congr 1
  rw [show refB near (l.getD a trow0) (backL own) = refB near (l.getD a trow0) own from funext (refB_back h)]
  refine conds_if fun k hk => ?_
  unfold refB at hk
  rw [Bool.and_eq_true, List.all_eq_true] at hk
  exact of_decide_eq_true (hk.2 _ (mem_back.1 (head_mem fun e => h (by have := empty_back (rs := own); rw [e] at this; exact List.isEmpty_iff.1 this.symm))))
theorem pol_back {l : List TRow} {rs : List Rec} {near : Bool} {a : A2} : refPol l (backL rs) a near = refPol l rs a near := by
  unfold refPol refX refRules
  rw [idxs_back]
  congr 1
  · congr 1
    funext i
    rw [of_back, any_back]
  · refine List.map_congr_left fun i hi => rule_back fun e => ?_
    unfold idxs at hi
    rw [List.mem_filter, e] at hi
    exact absurd hi.2 (by decide)
theorem kt_back {l : List TRow} {rs : List Rec} {n : Nat} : refKt l (backL rs) n = (refKt l rs n).map fun c => ⟨c.name, 2 * c.many⟩ := by
  unfold refKt
  rw [idxs_back, List.map_map]
  refine List.map_congr_left fun i hi => ?_
  show (⟨_, (ofR l i (backL rs)).length⟩ : Ct) = ⟨_, 2 * (ofR l i rs).length⟩
  rw [of_back, len_back]
end Go.Proofs.W

namespace Go.Proofs.W
open Go.Vl
set_option maxRecDepth 100000

def backJ (rs : List Rec) (j : Nat) : List Rec := (rs.reverse.take j).flatMap dbl
theorem backJ_all {rs : List Rec} : backJ rs rs.length = backL rs := by
  unfold backJ backL
  rw [show rs.length = rs.reverse.length by simp, List.take_length]
theorem backJ_next {rs : List Rec} {j : Nat} (h : j < rs.length) : backJ rs (j + 1) = backJ rs j ++ dbl (rs.getD (rs.length - 1 - j) rec0) := by
  unfold backJ
  rw [take_getD rec0 (show j < rs.reverse.length by simpa using h), List.flatMap_append]
  congr 1
  rw [show rs.reverse.getD j rec0 = rs.getD (rs.length - 1 - j) rec0 by simp [List.getD, h]; rw [List.getElem?_eq_getElem (by omega)]; rfl]
  simp [List.flatMap]
theorem backJ_len {rs : List Rec} {j : Nat} (h : j ≤ rs.length) : (backJ rs j).length = 2 * j := by
  unfold backJ
  rw [len_dbl, List.length_take, List.length_reverse, Nat.min_eq_left h]
def recF (l : List Rec) (k : Nat) : AV := recA (l.getD k rec0)
theorem appF_two {n : Nat} {f f' g : Nat → AV} (h : ∀ k, k < n → f k = g k) (h0 : f' 0 = g n) (h1 : f' 1 = g (n + 1)) : ∀ k, k < n + 2 → appF n f f' k = g k := fun k hk => by
  unfold appF
  cases hb : Nat.blt k n with
  | true => simp only [cond_true]; exact h k (blt_true hb)
  | false =>
    have : k = n ∨ k = n + 1 := by
      rcases Nat.lt_or_ge k n with h' | h'
      · rw [blt_iff.2 h'] at hb; cases hb
      · omega
    simp only [cond_false]
    rcases this with rfl | rfl
    · rw [Nat.sub_self]; exact h0
    · rw [show n + 1 - n = 1 by omega]; exact h1
theorem cells_rec5 : Tryd.prog.cellsOf 29 = 9 := by kernel_rfl
theorem bytes_rec5' : Tryd.prog.bytesOf 29 = 64 := by kernel_rfl
theorem z_rul26 : zcells Tryd.prog 47 = some [strA ⟨#[]⟩, int 0, int 0, .os 0 0 (fun _ => .any) none] := by kernel_rfl
def dblC (c : Ct) : Ct := ⟨c.name, 2 * c.many⟩
theorem order_pol (l : List TRow) (rs : List Rec) (near : Bool) (hl : l.length ≤ 1000000) (hn : ∀ r ∈ l, r.name.size ≤ maxLen) (hr : ∀ r ∈ rs, r.ok) (hrn : rs.length ≤ 1000) :
    ∃ (m : Pol) (e : Int), Tells Tryd.prog 5 [trows l, recs rs, act 3 0, boolA near] (.tup [polA m, int e]) ∧ Tells Tryd.prog 5 [trows l, recs (backL rs), act 3 0, boolA near] (.tup [polA m, int e]) ∧ m.rules.length ≤ 1000000 ∧ ∀ r ∈ m.rules, r.conds.length ≤ 1000000 := by
  obtain ⟨m, e, h1, c1⟩ := learn_cases l rs 3 0 near hl hn hr (by omega)
  obtain ⟨m2, e2, h2, c2⟩ := learn_cases l (backL rs) 3 0 near hl hn (fun r h => hr r (mem_back.1 h)) (by rw [len_back]; omega)
  have hk : right9 3 0 = true := by decide
  rw [pol_back] at c2
  have hgood : ∀ n : Nat, (refPol l rs (3, 0) near).rules.length ≤ l.length ∧ ∀ r ∈ (refPol l rs (3, 0) near).rules, r.conds.length ≤ 6 := fun _ => by
    refine ⟨refRules_le, fun r h => ?_⟩
    have h : r ∈ refRules l rs near l.length := h
    unfold refRules at h
    obtain ⟨i, _, rfl⟩ := List.mem_map.1 h
    exact condsL_le
  rcases c1 with ⟨a1, rfl, rfl⟩ | ⟨a1, b1, -⟩ | ⟨a1, b1, rfl, rfl⟩
  · rcases c2 with ⟨a2, rfl, rfl⟩ | ⟨a2, b2, -⟩ | ⟨a2, b2, rfl, rfl⟩
    · exact ⟨_, _, h1, h2, Nat.zero_le _, fun r h => by cases h⟩
    · rw [hk] at b2; cases b2
    · exact absurd a2 a1
  · rw [hk] at b1; cases b1
  · rcases c2 with ⟨a2, rfl, rfl⟩ | ⟨a2, b2, -⟩ | ⟨a2, b2, rfl, rfl⟩
    · exact absurd a1 a2
    · rw [hk] at b2; cases b2
    · exact ⟨_, _, h1, h2, Nat.le_trans (hgood 0).1 hl, fun r h => Nat.le_trans ((hgood 0).2 r h) (by decide)⟩
theorem order_cnt (l : List TRow) (rs : List Rec) (hl : l.length ≤ 1000000) (hn : ∀ r ∈ l, r.name.size ≤ maxLen) (hr : ∀ r ∈ rs, r.ok) (hrn : rs.length ≤ 1000) :
    ∃ (C : List Ct) (e : Int), Tells Tryd.prog 8 [trows l, recs rs] (.tup [cts C, int e]) ∧ Tells Tryd.prog 8 [trows l, recs (backL rs)] (.tup [cts (C.map dblC), int e]) ∧ C.length ≤ 1000000 ∧ ∀ c ∈ C, c.many ≤ 1000 := by
  by_cases hb : (tabR l).2 = 0
  · have h1 := counts_ok l rs (by omega) hn hr (by omega) hb
    have h2 := counts_ok l (backL rs) (by omega) hn (fun r h => hr r (mem_back.1 h)) (by rw [len_back]; omega) hb
    rw [counts_ref hb] at h1 h2
    rw [kt_back] at h2
    refine ⟨_, _, h1, h2, Nat.le_trans refKt_le hl, fun c h => ?_⟩
    unfold refKt at h
    obtain ⟨i, _, rfl⟩ := List.mem_map.1 h
    exact Nat.le_trans ofR_le hrn
  · exact ⟨[], 18, counts_bad l rs (by omega) hn hb, counts_bad l (backL rs) (by omega) hn hb, Nat.zero_le _, fun c h => by cases h⟩
def rulC26 (r : Rul) : List AV := [strA r.name, int r.act.1, int r.act.2, cnds r.conds]
set_option maxHeartbeats 16000000 in
theorem learnorder_law (l : List TRow) (rs : List Rec) (near : Bool) (hl : l.length ≤ maxLen) (hn : ∀ r ∈ l, r.name.size ≤ maxLen) (hr : ∀ r ∈ rs, r.ok) : Tells Tryd.prog 3 [trows l, recs rs, boolA near] (boolA true) := by
  have hfew := few_spec l hl hn
  cases hf : fewB l with
  | false =>
    rw [hf] at hfew
    refine tells_of_aw Tryd.func3 rfl rfl fun nx => ?_
    (repeat((conv=>whnf);first|apply ω0|apply ω1|apply ω2|refine τ3 rfl ?_|refine τ4 rfl ?_|refine ⟨rfl,?_⟩|apply τa|refine τb rfl ?_|refine ⟨⟨by kernel_rfl,by kernel_rfl⟩,?_⟩|refine ⟨by decide,?_⟩|apply τt|apply τf))
    refine aop_tells rfl rfl hfew ⟨AVle.refl _, trivial⟩ fun nx3 => ?_
    (repeat((conv=>whnf);first|apply ω0|apply ω1|apply ω2|refine τ3 rfl ?_|refine τ4 rfl ?_|refine ⟨rfl,?_⟩|apply τa|refine τb rfl ?_|refine ⟨⟨by kernel_rfl,by kernel_rfl⟩,?_⟩|refine ⟨by decide,?_⟩|apply τt|apply τf))
    exact ret_tells rfl (AVle.refl _)
  | true =>
    rw [hf] at hfew
    obtain ⟨hl40, hn60⟩ := few_le hf
    by_cases h40 : 20 < rs.length
    · refine tells_of_aw Tryd.func3 rfl rfl fun nx => ?_
      (repeat((conv=>whnf);first|apply ω0|apply ω1|apply ω2|refine τ3 rfl ?_|refine τ4 rfl ?_|refine ⟨rfl,?_⟩|apply τa|refine τb rfl ?_|refine ⟨⟨by kernel_rfl,by kernel_rfl⟩,?_⟩|refine ⟨by decide,?_⟩|apply τt|apply τf))
      refine aop_tells rfl rfl hfew ⟨AVle.refl _, trivial⟩ fun nx3 => ?_
      (repeat((conv=>whnf);first|apply ω0|apply ω1|apply ω2|refine τ3 rfl ?_|refine τ4 rfl ?_|refine ⟨rfl,?_⟩|apply τa|refine τb rfl ?_|refine ⟨⟨by kernel_rfl,by kernel_rfl⟩,?_⟩|refine ⟨by decide,?_⟩|apply τt|apply τf))
      intro c hc
      obtain rfl : c = true := hc.trans (decide_eq_true (by omega))
      (repeat((conv=>whnf);first|apply ω0|apply ω1|apply ω2|refine τ3 rfl ?_|refine τ4 rfl ?_|refine ⟨rfl,?_⟩|apply τa|refine τb rfl ?_|refine ⟨⟨by kernel_rfl,by kernel_rfl⟩,?_⟩|refine ⟨by decide,?_⟩|apply τt|apply τf))
      exact ret_tells rfl (AVle.refl _)
    have hrows := l26rows_spec l (by omega)
    have hrecs := l26records_spec rs (by omega)
    have hrecs2 := l26records_spec (backL rs) (by rw [len_back]; omega)
    have hawk := awake26_spec
    obtain ⟨m, e, hp1, hp2, hm1, hm2⟩ := order_pol l rs near (by omega) hn hr (by omega)
    obtain ⟨C, e', hc1, hc2, hC1, hC2⟩ := order_cnt l rs (by omega) hn hr (by omega)
    rw [← backJ_all] at hrecs2 hp2 hc2
    have hdC : ∀ i, i < C.length → (C.map dblC).getD i ct0 = dblC (C.getD i ct0) := fun i hi => by simp [List.getD, hi]
    have hdL : (C.map dblC).length = C.length := List.length_map _
    generalize C.map dblC = D at hc2 hdC hdL
    obtain ⟨⟨d1, d2⟩, xx, R⟩ := m
    dsimp only at hm1 hm2
    refine tells_of_aw Tryd.func3 rfl rfl fun nx => ?_
    (repeat((conv=>whnf);first|apply ω0|apply ω1|apply ω2|refine τ3 rfl ?_|refine τ4 rfl ?_|refine ⟨rfl,?_⟩|apply τa|refine τb rfl ?_|refine ⟨⟨by kernel_rfl,by kernel_rfl⟩,?_⟩|refine ⟨by decide,?_⟩|apply τt|apply τf))
    refine aop_tells rfl rfl hfew ⟨AVle.refl _, trivial⟩ fun nx2 => ?_
    (repeat((conv=>whnf);first|apply ω0|apply ω1|apply ω2|refine τ3 rfl ?_|refine τ4 rfl ?_|refine ⟨rfl,?_⟩|apply τa|refine τb rfl ?_|refine ⟨⟨by kernel_rfl,by kernel_rfl⟩,?_⟩|refine ⟨by decide,?_⟩|apply τt|apply τf))
    intro c hc
    obtain rfl : c = false := hc.trans (decide_eq_false (by omega))
    (repeat((conv=>whnf);first|apply ω0|apply ω1|apply ω2|refine τ3 rfl ?_|refine τ4 rfl ?_|refine ⟨rfl,?_⟩|apply τa|refine τb rfl ?_|refine ⟨⟨by kernel_rfl,by kernel_rfl⟩,?_⟩|refine ⟨by decide,?_⟩|apply τt|apply τf))
    refine aw_loop (fun y : Nat × Option Nat × Nat => mk 196 [(0, trows l), (1, recs rs), (2, boolA near), (6, boolA false), (7, .os 9 (backJ rs y.1).length (recF (backJ rs y.1)) (nmd y.2.1)), (8, int ((rs.length : Int) - 1 - (y.1 : Int)))] ⟨[], pmOf (nmd y.2.1) ((backJ rs y.1).length * 9), y.2.2, 0⟩)
      (fun y => y.1 ≤ rs.length ∧ (y.2.1 = none → y.1 = 0)) (fun y => rs.length - y.1) ?_ ?_
    · exact ⟨(0, none, nx2), ⟨Nat.zero_le _, fun _ => rfl⟩, ele_tell (pm := []) (bx := []) _ _ rfl rfl (List.Sublist.refl _) (List.Sublist.refl _) trivial trivial ⟨AVle.refl _, AVle.refl _, AVle.refl _, AVle.refl _, AVle.os_nil, le_int ((wrap_id (by omega) (by omega)).trans (by omega)), trivial⟩⟩
    · rintro ⟨j, oi, nx3⟩ ⟨k1, k2⟩
      dsimp only at k1 k2
      (repeat((conv=>whnf);first|apply ω0|apply ω1|apply ω2|refine τ3 rfl ?_|refine τ4 rfl ?_|refine ⟨rfl,?_⟩|apply τa|refine τb rfl ?_|refine ⟨⟨by kernel_rfl,by kernel_rfl⟩,?_⟩|refine ⟨by decide,?_⟩|apply τt|apply τf))
      intro c gg; cases c
      · have gg := not_of gg
        try dsimp only at gg
        have hj : j = rs.length := by omega
        subst hj
        (repeat((conv=>whnf);first|apply ω0|apply ω2|refine τ3 rfl ?_|refine τ4 rfl ?_|refine ⟨rfl,?_⟩|apply τa|refine τb rfl ?_|refine ⟨⟨by kernel_rfl,by kernel_rfl⟩,?_⟩|refine ⟨by decide,?_⟩|apply τt|apply τf))
        refine AW.le (E' := mk 196 [(0, trows l), (1, recs rs), (2, boolA near), (6, boolA false), (7, recs (backJ rs rs.length))] ⟨[], [], nx3, 0⟩) ?_ ?_
        · cases oi with
          | none => exact ele_tell (pm := []) (bx := []) _ _ rfl rfl (List.Sublist.refl _) (List.Sublist.refl _) trivial trivial ⟨AVle.refl _, AVle.refl _, AVle.refl _, AVle.refl _, AVle.os_sl, trivial⟩
          | some o1 => exact ele_tell (pm := []) (bx := []) _ _ rfl rfl (List.Sublist.refl _) (.cons _ (List.Sublist.refl _)) trivial trivial ⟨AVle.refl _, AVle.refl _, AVle.refl _, AVle.refl _, AVle.os_sl, trivial⟩
        clear gg
        generalize backJ rs rs.length = bk at hrecs2 hp2 hc2 ⊢
        (repeat((conv=>whnf);first|apply ω0|apply ω1|apply ω2|refine τ3 rfl ?_|refine τ4 rfl ?_|refine ⟨rfl,?_⟩|apply τa|refine τb rfl ?_|refine ⟨⟨by kernel_rfl,by kernel_rfl⟩,?_⟩|refine ⟨by decide,?_⟩|apply τt|apply τf))
        refine aop_tells rfl rfl hrows ⟨AVle.refl _, trivial⟩ fun nx4 => ?_
        (repeat((conv=>whnf);first|apply ω0|apply ω1|apply ω2|refine τ3 rfl ?_|refine τ4 rfl ?_|refine ⟨rfl,?_⟩|apply τa|refine τb rfl ?_|refine ⟨⟨by kernel_rfl,by kernel_rfl⟩,?_⟩|refine ⟨by decide,?_⟩|apply τt|apply τf))
        refine aop_tells rfl rfl hrecs ⟨AVle.refl _, trivial⟩ fun nx5 => ?_
        (repeat((conv=>whnf);first|apply ω0|apply ω1|apply ω2|refine τ3 rfl ?_|refine τ4 rfl ?_|refine ⟨rfl,?_⟩|apply τa|refine τb rfl ?_|refine ⟨⟨by kernel_rfl,by kernel_rfl⟩,?_⟩|refine ⟨by decide,?_⟩|apply τt|apply τf))
        refine aop_tells rfl rfl hp1 ⟨AVle.refl _, AVle.refl _, AVle.refl _, AVle.refl _, trivial⟩ fun nx6 => ?_
        (repeat((conv=>whnf);first|apply ω0|apply ω2|refine τ3 rfl ?_|refine τ4 rfl ?_|refine ⟨rfl,?_⟩|apply τa|refine τb rfl ?_|refine ⟨⟨by kernel_rfl,by kernel_rfl⟩,?_⟩|refine ⟨by decide,?_⟩|apply τt|apply τf))
        refine AW.le (E' := mk 196 [(0, trows l), (1, recs rs), (2, boolA near), (6, boolA false), (7, recs bk), (9, .bp (0, nx6) 0), (10, int e)] ⟨[((0, nx6), .c (polC2 ⟨(d1, d2), xx, R⟩))], [], nx6 + 1, 1⟩) (ele_tell (pm := []) (bx := [((0, nx6), .c (polC2 ⟨(d1, d2), xx, R⟩))]) _ _ rfl rfl (List.Sublist.refl _) (List.Sublist.refl _) (BxLe.refl _) trivial ⟨AVle.refl _, AVle.refl _, AVle.refl _, AVle.refl _, AVle.refl _, AVle.refl _, AVle.refl _, trivial⟩) ?_
        (repeat((conv=>whnf);first|apply ω0|apply ω1|apply ω2|refine τ3 rfl ?_|refine τ4 rfl ?_|refine ⟨rfl,?_⟩|apply τa|refine τb rfl ?_|refine ⟨⟨by kernel_rfl,by kernel_rfl⟩,?_⟩|refine ⟨by decide,?_⟩|apply τt|apply τf))
        refine aop_tells rfl rfl hrows ⟨AVle.refl _, trivial⟩ fun nx7 => ?_
        (repeat((conv=>whnf);first|apply ω0|apply ω1|apply ω2|refine τ3 rfl ?_|refine τ4 rfl ?_|refine ⟨rfl,?_⟩|apply τa|refine τb rfl ?_|refine ⟨⟨by kernel_rfl,by kernel_rfl⟩,?_⟩|refine ⟨by decide,?_⟩|apply τt|apply τf))
        refine aop_tells rfl rfl hrecs2 ⟨AVle.refl _, trivial⟩ fun nx8 => ?_
        (repeat((conv=>whnf);first|apply ω0|apply ω1|apply ω2|refine τ3 rfl ?_|refine τ4 rfl ?_|refine ⟨rfl,?_⟩|apply τa|refine τb rfl ?_|refine ⟨⟨by kernel_rfl,by kernel_rfl⟩,?_⟩|refine ⟨by decide,?_⟩|apply τt|apply τf))
        refine aop_tells rfl rfl hp2 ⟨AVle.refl _, AVle.refl _, AVle.refl _, AVle.refl _, trivial⟩ fun nx9 => ?_
        (repeat((conv=>whnf);first|apply ω0|apply ω2|refine τ3 rfl ?_|refine τ4 rfl ?_|refine ⟨rfl,?_⟩|apply τa|refine τb rfl ?_|refine ⟨⟨by kernel_rfl,by kernel_rfl⟩,?_⟩|refine ⟨by decide,?_⟩|apply τt|apply τf))
        refine AW.le (E' := mk 196 [(0, trows l), (1, recs rs), (2, boolA near), (6, boolA false), (7, recs bk), (9, .bp (0, nx6) 0), (10, int e), (11, .bp (1, nx9) 0), (12, int e)] ⟨[((1, nx9), .c (polC2 ⟨(d1, d2), xx, R⟩)), ((0, nx6), .c (polC2 ⟨(d1, d2), xx, R⟩))], [], nx9 + 1, 2⟩) (ele_tell (pm := []) (bx := [((1, nx9), .c (polC2 ⟨(d1, d2), xx, R⟩)), ((0, nx6), .c (polC2 ⟨(d1, d2), xx, R⟩))]) _ _ rfl rfl (List.Sublist.refl _) (List.Sublist.refl _) (BxLe.refl _) trivial ⟨AVle.refl _, AVle.refl _, AVle.refl _, AVle.refl _, AVle.refl _, AVle.refl _, AVle.refl _, AVle.refl _, AVle.refl _, trivial⟩) ?_
        (repeat((conv=>whnf);first|apply ω0|apply ω1|apply ω2|refine τ3 rfl ?_|refine τ4 rfl ?_|refine ⟨rfl,?_⟩|apply τa|refine τb rfl ?_|refine ⟨⟨by kernel_rfl,by kernel_rfl⟩,?_⟩|refine ⟨by decide,?_⟩|apply τt|apply τf))
        refine aop_tells rfl rfl hrows ⟨AVle.refl _, trivial⟩ fun nx10 => ?_
        (repeat((conv=>whnf);first|apply ω0|apply ω1|apply ω2|refine τ3 rfl ?_|refine τ4 rfl ?_|refine ⟨rfl,?_⟩|apply τa|refine τb rfl ?_|refine ⟨⟨by kernel_rfl,by kernel_rfl⟩,?_⟩|refine ⟨by decide,?_⟩|apply τt|apply τf))
        refine aop_tells rfl rfl hrecs ⟨AVle.refl _, trivial⟩ fun nx11 => ?_
        (repeat((conv=>whnf);first|apply ω0|apply ω1|apply ω2|refine τ3 rfl ?_|refine τ4 rfl ?_|refine ⟨rfl,?_⟩|apply τa|refine τb rfl ?_|refine ⟨⟨by kernel_rfl,by kernel_rfl⟩,?_⟩|refine ⟨by decide,?_⟩|apply τt|apply τf))
        refine aop_tells rfl rfl hc1 ⟨AVle.refl _, AVle.refl _, trivial⟩ fun nx12 => ?_
        (repeat((conv=>whnf);first|apply ω0|apply ω1|apply ω2|refine τ3 rfl ?_|refine τ4 rfl ?_|refine ⟨rfl,?_⟩|apply τa|refine τb rfl ?_|refine ⟨⟨by kernel_rfl,by kernel_rfl⟩,?_⟩|refine ⟨by decide,?_⟩|apply τt|apply τf))
        refine aop_tells rfl rfl hrows ⟨AVle.refl _, trivial⟩ fun nx13 => ?_
        (repeat((conv=>whnf);first|apply ω0|apply ω1|apply ω2|refine τ3 rfl ?_|refine τ4 rfl ?_|refine ⟨rfl,?_⟩|apply τa|refine τb rfl ?_|refine ⟨⟨by kernel_rfl,by kernel_rfl⟩,?_⟩|refine ⟨by decide,?_⟩|apply τt|apply τf))
        refine aop_tells rfl rfl hrecs2 ⟨AVle.refl _, trivial⟩ fun nx14 => ?_
        (repeat((conv=>whnf);first|apply ω0|apply ω1|apply ω2|refine τ3 rfl ?_|refine τ4 rfl ?_|refine ⟨rfl,?_⟩|apply τa|refine τb rfl ?_|refine ⟨⟨by kernel_rfl,by kernel_rfl⟩,?_⟩|refine ⟨by decide,?_⟩|apply τt|apply τf))
        refine aop_tells rfl rfl hc2 ⟨AVle.refl _, AVle.refl _, trivial⟩ fun nx15 => ?_
        (repeat((conv=>whnf);first|apply ω0|apply ω2|refine τ3 rfl ?_|refine τ4 rfl ?_|refine ⟨rfl,?_⟩|apply τa|refine τb rfl ?_|refine ⟨⟨by kernel_rfl,by kernel_rfl⟩,?_⟩|refine ⟨by decide,?_⟩|apply τt|apply τf))
        refine AW.le (E' := mk 196 [(6, boolA false), (9, .bp (0, nx6) 0), (10, int e), (11, .bp (1, nx9) 0), (12, int e), (13, cts C), (14, int e'), (15, cts D), (16, int e')] ⟨[((1, nx9), .c (polC2 ⟨(d1, d2), xx, R⟩)), ((0, nx6), .c (polC2 ⟨(d1, d2), xx, R⟩))], [], nx15, 2⟩) (ele_tell (pm := []) (bx := [((1, nx9), .c (polC2 ⟨(d1, d2), xx, R⟩)), ((0, nx6), .c (polC2 ⟨(d1, d2), xx, R⟩))]) _ _ rfl rfl (List.Sublist.refl _) (List.Sublist.refl _) (BxLe.refl _) trivial ⟨AVle.refl _, AVle.refl _, AVle.refl _, AVle.refl _, AVle.refl _, AVle.refl _, AVle.refl _, AVle.refl _, AVle.refl _, trivial⟩) ?_
        (repeat((conv=>whnf);first|apply ω0|apply ω1|apply ω2|refine τ3 rfl ?_|refine τ4 rfl ?_|refine ⟨rfl,?_⟩|apply τa|refine τb rfl ?_|refine ⟨⟨by kernel_rfl,by kernel_rfl⟩,?_⟩|refine ⟨by decide,?_⟩|apply τt|apply τf))
        (intro c hc; (first | (rw [bne_self_eq_false] at hc; subst hc) | (obtain rfl : c = false := hc.trans (bne_self_eq_false _))); (repeat((conv=>whnf);first|apply ω0|apply ω1|apply ω2|refine τ3 rfl ?_|refine τ4 rfl ?_|refine ⟨rfl,?_⟩|apply τa|refine τb rfl ?_|refine ⟨⟨by kernel_rfl,by kernel_rfl⟩,?_⟩|refine ⟨by decide,?_⟩|apply τt|apply τf)))
        (intro c hc; (first | (rw [bne_self_eq_false] at hc; subst hc) | (obtain rfl : c = false := hc.trans (bne_self_eq_false _))); (repeat((conv=>whnf);first|apply ω0|apply ω1|apply ω2|refine τ3 rfl ?_|refine τ4 rfl ?_|refine ⟨rfl,?_⟩|apply τa|refine τb rfl ?_|refine ⟨⟨by kernel_rfl,by kernel_rfl⟩,?_⟩|refine ⟨by decide,?_⟩|apply τt|apply τf)))
        (intro c hc; (first | (rw [bne_self_eq_false] at hc; subst hc) | (obtain rfl : c = false := hc.trans (bne_self_eq_false _))); (repeat((conv=>whnf);first|apply ω0|apply ω1|apply ω2|refine τ3 rfl ?_|refine τ4 rfl ?_|refine ⟨rfl,?_⟩|apply τa|refine τb rfl ?_|refine ⟨⟨by kernel_rfl,by kernel_rfl⟩,?_⟩|refine ⟨by decide,?_⟩|apply τt|apply τf)))
        cases xx with
        | false =>
          (repeat((conv=>whnf);first|apply ω0|apply ω1|apply ω2|refine τ3 rfl ?_|refine τ4 rfl ?_|refine ⟨rfl,?_⟩|apply τa|refine τb rfl ?_|refine ⟨⟨by kernel_rfl,by kernel_rfl⟩,?_⟩|refine ⟨by decide,?_⟩|apply τt|apply τf))
          intro c hc
          obtain rfl : c = false := hc.trans (by rw [hdL, bne_self_eq_false])
          (repeat((conv=>whnf);first|apply ω0|apply ω1|apply ω2|refine τ3 rfl ?_|refine τ4 rfl ?_|refine ⟨rfl,?_⟩|apply τa|refine τb rfl ?_|refine ⟨⟨by kernel_rfl,by kernel_rfl⟩,?_⟩|refine ⟨by decide,?_⟩|apply τt|apply τf))
          refine aw_loop (fun y : Nat × Nat => mk 196 [(6, boolA false), (9, .bp (0, nx6) 0), (11, .bp (1, nx9) 0), (13, cts C), (15, cts D), (17, int y.1)] ⟨[((1, nx9), .c [int d1, int d2, boolA false, ruls R]), ((0, nx6), .c [int d1, int d2, boolA false, ruls R])], [], y.2, 2⟩) (fun y => y.1 ≤ R.length) (fun y => R.length - y.1) ?_ ?_
          · exact ⟨(0, nx15), Nat.zero_le _, ele_tell (pm := []) (bx := [((1, nx9), .c [int d1, int d2, boolA false, ruls R]), ((0, nx6), .c [int d1, int d2, boolA false, ruls R])]) _ _ rfl rfl (List.Sublist.refl _) (List.Sublist.refl _) (BxLe.refl _) trivial ⟨AVle.refl _, AVle.refl _, AVle.refl _, AVle.refl _, AVle.refl _, AVle.refl _, trivial⟩⟩
          · rintro ⟨i, nx16⟩ h1
            dsimp only at h1
            (repeat((conv=>whnf);first|apply ω0|apply ω1|apply ω2|refine τ3 rfl ?_|refine τ4 rfl ?_|refine ⟨rfl,?_⟩|apply τa|refine τb rfl ?_|refine ⟨⟨by kernel_rfl,by kernel_rfl⟩,?_⟩|refine ⟨by decide,?_⟩|apply τt|apply τf))
            intro c g1; cases c
            · have g1 := not_of g1
              try dsimp only at g1
              (repeat((conv=>whnf);first|apply ω0|apply ω2|refine τ3 rfl ?_|refine τ4 rfl ?_|refine ⟨rfl,?_⟩|apply τa|refine τb rfl ?_|refine ⟨⟨by kernel_rfl,by kernel_rfl⟩,?_⟩|refine ⟨by decide,?_⟩|apply τt|apply τf))
              refine AW.le (E' := mk 196 [(6, boolA false), (13, cts C), (15, cts D)] ⟨[], [], nx16, 0⟩) (ele_tell (pm := []) (bx := []) _ _ rfl rfl (.cons _ (.cons _ .slnil)) (List.Sublist.refl _) trivial trivial ⟨AVle.refl _, AVle.refl _, AVle.refl _, trivial⟩) ?_
              (repeat((conv=>whnf);first|apply ω0|apply ω1|apply ω2|refine τ3 rfl ?_|refine τ4 rfl ?_|refine ⟨rfl,?_⟩|apply τa|refine τb rfl ?_|refine ⟨⟨by kernel_rfl,by kernel_rfl⟩,?_⟩|refine ⟨by decide,?_⟩|apply τt|apply τf))
              refine aw_loop (fun y : Nat × Nat => mk 196 [(6, boolA false), (13, cts C), (15, cts D), (21, int y.1)] ⟨[], [], y.2, 0⟩) (fun y => y.1 ≤ C.length) (fun y => C.length - y.1) ?_ ?_
              · exact ⟨(0, nx16), Nat.zero_le _, ele_tell (pm := []) (bx := []) _ _ rfl rfl (List.Sublist.refl _) (List.Sublist.refl _) trivial trivial ⟨AVle.refl _, AVle.refl _, AVle.refl _, AVle.refl _, trivial⟩⟩
              · rintro ⟨q, nx17⟩ h2
                dsimp only at h2
                (repeat((conv=>whnf);first|apply ω0|apply ω1|apply ω2|refine τ3 rfl ?_|refine τ4 rfl ?_|refine ⟨rfl,?_⟩|apply τa|refine τb rfl ?_|refine ⟨⟨by kernel_rfl,by kernel_rfl⟩,?_⟩|refine ⟨by decide,?_⟩|apply τt|apply τf))
                intro c g2; cases c
                · have g2 := not_of g2
                  try dsimp only at g2
                  (repeat((conv=>whnf);first|apply ω0|apply ω1|apply ω2|refine τ3 rfl ?_|refine τ4 rfl ?_|refine ⟨rfl,?_⟩|apply τa|refine τb rfl ?_|refine ⟨⟨by kernel_rfl,by kernel_rfl⟩,?_⟩|refine ⟨by decide,?_⟩|apply τt|apply τf))
                  refine aop_tells rfl rfl hawk trivial fun nx18 => ?_
                  (repeat((conv=>whnf);first|apply ω0|apply ω1|apply ω2|refine τ3 rfl ?_|refine τ4 rfl ?_|refine ⟨rfl,?_⟩|apply τa|refine τb rfl ?_|refine ⟨⟨by kernel_rfl,by kernel_rfl⟩,?_⟩|refine ⟨by decide,?_⟩|apply τt|apply τf))
                  exact ret_tells rfl (AVle.refl _)
                · have g2 := yes_of g2
                  try dsimp only at g2
                  have hq : q < C.length := by omega
                  have hqD : q < D.length := by omega
                  have hD := hdC q hq
                  have hm := hC2 (C.getD q ct0) (by simp [List.getD, hq])
                  generalize hct : C.getD q ct0 = ct at hD hm
                  (repeat((conv=>whnf);first|apply ω0|apply ω1|apply ω2|refine τ3 rfl ?_|refine τ4 rfl ?_|refine ⟨rfl,?_⟩|apply τa|refine τb rfl ?_|refine ⟨⟨by kernel_rfl,by kernel_rfl⟩,?_⟩|refine ⟨by decide,?_⟩|apply τt|apply τf))
                  refine aw_mixN 25 [] (fun _ => false) (fun i => match i with | 10 => true | _ => false) [0, 1, 2, 3, 4, 5, 6, 7, 8, 9, 10, 11, 12, 13, 14, 15, 16, 17, 18, 19, 20, 21, 22, 23, 24] (by kernel_rfl) (by kernel_rfl) (HB.refl _) ?_
                  (repeat((conv=>whnf);first|apply ω0|apply ω1|apply ω2|refine τ3 rfl ?_|refine τ4 rfl ?_|refine ⟨rfl,?_⟩|apply τa|refine τb rfl ?_|refine ⟨⟨by kernel_rfl,by kernel_rfl⟩,?_⟩|refine ⟨by decide,?_⟩|apply τt|apply τf))
                  refine ⟨⟨by first | omega | (dsimp only; omega), by first | omega | (dsimp only; omega)⟩, splitV_to (b := .rp [strA ct.name, int ct.many]) (by rw [← hct]; rfl) ?_⟩
                  (repeat((conv=>whnf);first|apply ω0|apply ω1|apply ω2|refine τ3 rfl ?_|refine τ4 rfl ?_|refine ⟨rfl,?_⟩|apply τa|refine τb rfl ?_|refine ⟨⟨by kernel_rfl,by kernel_rfl⟩,?_⟩|refine ⟨by decide,?_⟩|apply τt|apply τf))
                  refine ⟨⟨by first | omega | (dsimp only; omega), by first | omega | (dsimp only; omega)⟩, splitV_to (b := .rp [strA ct.name, int (2 * ct.many : Nat)]) (by show AV.rp (ctA (D.getD q ct0)).cells = _; rw [hD]; rfl) ?_⟩
                  (repeat((conv=>whnf);first|apply ω0|apply ω1|apply ω2|refine τ3 rfl ?_|refine τ4 rfl ?_|refine ⟨rfl,?_⟩|apply τa|refine τb rfl ?_|refine ⟨⟨by kernel_rfl,by kernel_rfl⟩,?_⟩|refine ⟨by decide,?_⟩|apply τt|apply τf))
                  refine ⟨.v (.bool false), pure_bool rfl rfl trivial (bne_self_eq_false _), ?_⟩
                  (repeat((conv=>whnf);first|apply ω0|apply ω1|apply ω2|refine τ3 rfl ?_|refine τ4 rfl ?_|refine ⟨rfl,?_⟩|apply τa|refine τb rfl ?_|refine ⟨⟨by kernel_rfl,by kernel_rfl⟩,?_⟩|refine ⟨by decide,?_⟩|apply τt|apply τf))
                  refine ⟨_, pure_yes rfl rfl rfl rfl trivial, ?_⟩
                  (repeat((conv=>whnf);first|apply ω0|apply ω1|apply ω2|refine τ3 rfl ?_|refine τ4 rfl ?_|refine ⟨rfl,?_⟩|apply τa|refine τb rfl ?_|refine ⟨⟨by kernel_rfl,by kernel_rfl⟩,?_⟩|refine ⟨by decide,?_⟩|apply τt|apply τf))
                  refine ⟨_, pure_yes rfl rfl rfl rfl trivial, ?_⟩
                  (repeat((conv=>whnf);first|apply ω0|apply ω1|apply ω2|refine τ3 rfl ?_|refine τ4 rfl ?_|refine ⟨rfl,?_⟩|apply τa|refine τb rfl ?_|refine ⟨⟨by kernel_rfl,by kernel_rfl⟩,?_⟩|refine ⟨by decide,?_⟩|apply τt|apply τf))
                  refine ⟨_, pure_yes rfl rfl rfl rfl ⟨by first | omega | (dsimp only; omega), by first | omega | (dsimp only; omega)⟩, splitV_to (b := .rp [strA ct.name, int ct.many]) (by rw [← hct]; rfl) ?_⟩
                  (repeat((conv=>whnf);first|apply ω0|apply ω1|apply ω2|refine τ3 rfl ?_|refine τ4 rfl ?_|refine ⟨rfl,?_⟩|apply τa|refine τb rfl ?_|refine ⟨⟨by kernel_rfl,by kernel_rfl⟩,?_⟩|refine ⟨by decide,?_⟩|apply τt|apply τf))
                  refine ⟨_, pure_yes rfl rfl rfl rfl trivial, ?_⟩
                  (repeat((conv=>whnf);first|apply ω0|apply ω1|apply ω2|refine τ3 rfl ?_|refine τ4 rfl ?_|refine ⟨rfl,?_⟩|apply τa|refine τb rfl ?_|refine ⟨⟨by kernel_rfl,by kernel_rfl⟩,?_⟩|refine ⟨by decide,?_⟩|apply τt|apply τf))
                  refine ⟨_, pure_yes rfl rfl rfl rfl trivial, ?_⟩
                  (repeat((conv=>whnf);first|apply ω0|apply ω1|apply ω2|refine τ3 rfl ?_|refine τ4 rfl ?_|refine ⟨rfl,?_⟩|apply τa|refine τb rfl ?_|refine ⟨⟨by kernel_rfl,by kernel_rfl⟩,?_⟩|refine ⟨by decide,?_⟩|apply τt|apply τf))
                  refine ⟨_, pure_yes rfl rfl rfl rfl trivial, ?_⟩
                  (repeat((conv=>whnf);first|apply ω0|apply ω1|apply ω2|refine τ3 rfl ?_|refine τ4 rfl ?_|refine ⟨rfl,?_⟩|apply τa|refine τb rfl ?_|refine ⟨⟨by kernel_rfl,by kernel_rfl⟩,?_⟩|refine ⟨by decide,?_⟩|apply τt|apply τf))
                  refine ⟨_, pure_yes rfl rfl rfl rfl trivial, ?_⟩
                  (repeat((conv=>whnf);first|apply ω0|apply ω1|apply ω2|refine τ3 rfl ?_|refine τ4 rfl ?_|refine ⟨rfl,?_⟩|apply τa|refine τb rfl ?_|refine ⟨⟨by kernel_rfl,by kernel_rfl⟩,?_⟩|refine ⟨by decide,?_⟩|apply τt|apply τf))
                  refine ⟨_, pure_yes rfl rfl rfl rfl trivial, ?_⟩
                  (repeat((conv=>whnf);first|apply ω0|apply ω1|apply ω2|refine τ3 rfl ?_|refine τ4 rfl ?_|refine ⟨rfl,?_⟩|apply τa|refine τb rfl ?_|refine ⟨⟨by kernel_rfl,by kernel_rfl⟩,?_⟩|refine ⟨by decide,?_⟩|apply τt|apply τf))
                  refine ⟨_, pure_yes rfl rfl rfl rfl ⟨by first | omega | (dsimp only; omega), by first | omega | (dsimp only; omega)⟩, splitV_to (b := .rp [strA ct.name, int (2 * ct.many : Nat)]) (by show AV.rp (ctA (D.getD q ct0)).cells = _; rw [hD]; rfl) ?_⟩
                  (repeat((conv=>whnf);first|apply ω0|apply ω1|apply ω2|refine τ3 rfl ?_|refine τ4 rfl ?_|refine ⟨rfl,?_⟩|apply τa|refine τb rfl ?_|refine ⟨⟨by kernel_rfl,by kernel_rfl⟩,?_⟩|refine ⟨by decide,?_⟩|apply τt|apply τf))
                  refine ⟨_, pure_yes rfl rfl rfl rfl trivial, ?_⟩
                  (repeat((conv=>whnf);first|apply ω0|apply ω1|apply ω2|refine τ3 rfl ?_|refine τ4 rfl ?_|refine ⟨rfl,?_⟩|apply τa|refine τb rfl ?_|refine ⟨⟨by kernel_rfl,by kernel_rfl⟩,?_⟩|refine ⟨by decide,?_⟩|apply τt|apply τf))
                  refine ⟨_, pure_yes rfl rfl rfl rfl trivial, ?_⟩
                  (repeat((conv=>whnf);first|apply ω0|apply ω1|apply ω2|refine τ3 rfl ?_|refine τ4 rfl ?_|refine ⟨rfl,?_⟩|apply τa|refine τb rfl ?_|refine ⟨⟨by kernel_rfl,by kernel_rfl⟩,?_⟩|refine ⟨by decide,?_⟩|apply τt|apply τf))
                  refine ⟨.v (.bool false), pure_yesB rfl rfl rfl rfl trivial (by rw [wrap_id (by omega) (by omega)]; exact bne_eq_false_iff_eq.2 (by omega)), ?_⟩
                  (repeat((conv=>whnf);first|apply ω0|apply ω1|apply ω2|refine τ3 rfl ?_|refine τ4 rfl ?_|refine ⟨rfl,?_⟩|apply τa|refine τb rfl ?_|refine ⟨⟨by kernel_rfl,by kernel_rfl⟩,?_⟩|refine ⟨by decide,?_⟩|apply τt|apply τf))
                  exact back (q + 1, nx17) hq (by dsimp only; omega) (ele_tell (pm := []) (bx := []) _ _ rfl rfl (List.Sublist.refl _) (List.Sublist.refl _) trivial trivial ⟨AVle.refl _, AVle.refl _, AVle.refl _, le_int (wrap_succ (by first | omega | (dsimp only; omega))), trivial⟩)
            · have g1 := yes_of g1
              try dsimp only at g1
              have hi : i < R.length := by omega
              generalize hru : R.getD i rul0 = r
              (repeat((conv=>whnf);first|apply ω0|apply ω2|refine τ3 rfl ?_|refine τ4 rfl ?_|refine ⟨rfl,?_⟩|apply τa|refine τb rfl ?_|refine ⟨⟨by kernel_rfl,by kernel_rfl⟩,?_⟩|refine ⟨by decide,?_⟩|apply τt|apply τf))
              refine aw_mid (fun y : Nat × Nat × Nat => mk 196 [(6, boolA false), (9, .bp (0, nx6) 0), (11, .bp (1, nx9) 0), (13, cts C), (15, cts D), (17, int i), (18, .bp (2, y.1) 0), (19, .bp (3, y.2.1) 0)] ⟨[((3, y.2.1), .c (rulC26 r)), ((2, y.1), .c (rulC26 r)), ((1, nx9), .c [int d1, int d2, boolA false, ruls R]), ((0, nx6), .c [int d1, int d2, boolA false, ruls R])], [], y.2.2, 4⟩) (fun y => True) ?_ ?_
              · refine aw_mix4 13 [((1, nx9), .c [int d1, int d2, boolA false, ruls R]), ((0, nx6), .c [int d1, int d2, boolA false, ruls R])] (fun i => match i with | 10 => true | 11 => true | 12 => true | _ => false) (fun _ => false) [0, 1, 2, 3, 4, 5, 6, 7, 8, 9] 10 11 [12] (by kernel_rfl) (by kernel_rfl) (HB.refl _) ?_
                (repeat((conv=>whnf);first|apply ω0|apply ω1|apply ω2|refine τ3 rfl ?_|refine τ4 rfl ?_|refine ⟨rfl,?_⟩|apply τa|refine τb rfl ?_|refine ⟨⟨by kernel_rfl,by kernel_rfl⟩,?_⟩|refine ⟨by decide,?_⟩|apply τt|apply τf))
                refine ⟨⟨by first | omega | (dsimp only; omega), by first | omega | (dsimp only; omega)⟩, splitV_to (b := .rp [strA r.name, int r.act.1, int r.act.2, cnds r.conds]) (by rw [← hru]; rfl) ?_⟩
                (repeat((conv=>whnf);first|apply ω0|apply ω1|apply ω2|refine τ3 rfl ?_|refine τ4 rfl ?_|refine ⟨rfl,?_⟩|apply τa|refine τb rfl ?_|refine ⟨⟨by kernel_rfl,by kernel_rfl⟩,?_⟩|refine ⟨by decide,?_⟩|apply τt|apply τf))
                refine splitV_to (b := ruls R) rfl ?_
                (repeat((conv=>whnf);first|apply ω0|apply ω1|apply ω2|refine τ3 rfl ?_|refine τ4 rfl ?_|refine ⟨rfl,?_⟩|apply τa|refine τb rfl ?_|refine ⟨⟨by kernel_rfl,by kernel_rfl⟩,?_⟩|refine ⟨by decide,?_⟩|apply τt|apply τf))
                refine ⟨⟨by first | omega | (dsimp only; omega), by first | omega | (dsimp only; omega)⟩, splitV_to (b := .rp [strA r.name, int r.act.1, int r.act.2, cnds r.conds]) (by rw [← hru]; rfl) ?_⟩
                (conv => whnf)
                refine ⟨?_, ?_⟩
                · refine ⟨_, eff_alloc rfl rfl z_rul26 (HB.cons rfl (HB.one rfl)), fun r' h' hr => ?_⟩
                  obtain ⟨rfl, rfl⟩ := hr
                  (conv => whnf)
                  refine ⟨_, eff_alloc rfl rfl z_rul26 (HB.cons rfl (HB.one rfl)), fun r' h' hr => ?_⟩
                  obtain ⟨rfl, rfl⟩ := hr
                  (conv => whnf)
                  refine ⟨_, eff_store (i := (2, nx16)) (off := 0) (cs := [strA ⟨#[]⟩, int 0, int 0, .os 0 0 (fun _ => .any) none]) rfl rfl rfl rfl rfl rfl rfl (by kernel_rfl) (by kernel_rfl) (by show 0 + 4 ≤ 4; omega) (HB.cons rfl (HB.one rfl)), fun r' h' hr => ?_⟩
                  obtain rfl := hr
                  (repeat((conv=>whnf);first|apply ω0|apply ω1|apply ω2|refine τ3 rfl ?_|refine τ4 rfl ?_|refine ⟨rfl,?_⟩|apply τa|refine τb rfl ?_|refine ⟨⟨by kernel_rfl,by kernel_rfl⟩,?_⟩|refine ⟨by decide,?_⟩|apply τt|apply τf))
                  exact ⟨(nx16, nx16 + 1, nx16 + 2), trivial, ele_tell (pm := []) (bx := [((3, nx16 + 1), .c (rulC26 r)), ((2, nx16), .c (rulC26 r)), ((1, nx9), .c [int d1, int d2, boolA false, ruls R]), ((0, nx6), .c [int d1, int d2, boolA false, ruls R])]) _ _ rfl rfl (List.Sublist.refl _) (List.Sublist.refl _) (BxLe.refl _) trivial ⟨AVle.refl _, AVle.refl _, AVle.refl _, AVle.refl _, AVle.refl _, AVle.refl _, AVle.refl _, AVle.refl _, trivial⟩⟩
                · refine ⟨_, eff_alloc rfl rfl z_rul26 (HB.cons rfl (HB.one rfl)), fun r' h' hr => ?_⟩
                  obtain ⟨rfl, rfl⟩ := hr
                  (conv => whnf)
                  refine ⟨_, eff_alloc rfl rfl z_rul26 (HB.cons rfl (HB.one rfl)), fun r' h' hr => ?_⟩
                  obtain ⟨rfl, rfl⟩ := hr
                  (conv => whnf)
                  refine ⟨_, eff_store (i := (3, nx16 + 1)) (off := 0) (cs := [strA ⟨#[]⟩, int 0, int 0, .os 0 0 (fun _ => .any) none]) rfl rfl rfl rfl rfl rfl rfl (by kernel_rfl) (by kernel_rfl) (by show 0 + 4 ≤ 4; omega) (HB.cons rfl (HB.one rfl)), fun r' h' hr => ?_⟩
                  obtain rfl := hr
                  (repeat((conv=>whnf);first|apply ω0|apply ω1|apply ω2|refine τ3 rfl ?_|refine τ4 rfl ?_|refine ⟨rfl,?_⟩|apply τa|refine τb rfl ?_|refine ⟨⟨by kernel_rfl,by kernel_rfl⟩,?_⟩|refine ⟨by decide,?_⟩|apply τt|apply τf))
                  exact ⟨(nx16 + 1, nx16, nx16 + 2), trivial, ele_tellP (pm := []) (bx := [((3, nx16), .c (rulC26 r)), ((2, nx16 + 1), .c (rulC26 r)), ((1, nx9), .c [int d1, int d2, boolA false, ruls R]), ((0, nx6), .c [int d1, int d2, boolA false, ruls R])]) [((2, nx16), .c (rulC26 r)), ((3, nx16 + 1), .c (rulC26 r)), ((1, nx9), .c [int d1, int d2, boolA false, ruls R]), ((0, nx6), .c [int d1, int d2, boolA false, ruls R])] _ [] rfl rfl (List.Perm.swap _ _ _) (List.Sublist.refl _) (List.Sublist.refl _) ⟨rfl, OwnLe.refl _, rfl, OwnLe.refl _, BxLe.refl _⟩ trivial ⟨AVle.refl _, AVle.refl _, AVle.refl _, AVle.refl _, AVle.refl _, AVle.refl _, AVle.bp_nm rfl, AVle.bp_nm rfl, trivial⟩⟩
              · rintro ⟨s1, s2, nx18⟩ -
                have hrc := hm2 r (by rw [← hru]; simp [List.getD, hi])
                dsimp only
                (repeat((conv=>whnf);first|apply ω0|apply ω1|apply ω2|refine τ3 rfl ?_|refine τ4 rfl ?_|refine ⟨rfl,?_⟩|apply τa|refine τb rfl ?_|refine ⟨⟨by kernel_rfl,by kernel_rfl⟩,?_⟩|refine ⟨by decide,?_⟩|apply τt|apply τf))
                (intro c hc; (first | (rw [bne_self_eq_false] at hc; subst hc) | (obtain rfl : c = false := hc.trans (bne_self_eq_false _))); (repeat((conv=>whnf);first|apply ω0|apply ω1|apply ω2|refine τ3 rfl ?_|refine τ4 rfl ?_|refine ⟨rfl,?_⟩|apply τa|refine τb rfl ?_|refine ⟨⟨by kernel_rfl,by kernel_rfl⟩,?_⟩|refine ⟨by decide,?_⟩|apply τt|apply τf)))
                (intro c hc; (first | (rw [bne_self_eq_false] at hc; subst hc) | (obtain rfl : c = false := hc.trans (bne_self_eq_false _))); (repeat((conv=>whnf);first|apply ω0|apply ω1|apply ω2|refine τ3 rfl ?_|refine τ4 rfl ?_|refine ⟨rfl,?_⟩|apply τa|refine τb rfl ?_|refine ⟨⟨by kernel_rfl,by kernel_rfl⟩,?_⟩|refine ⟨by decide,?_⟩|apply τt|apply τf)))
                refine aw_loop (fun y : Nat × Nat => mk 196 [(6, boolA false), (9, .bp (0, nx6) 0), (11, .bp (1, nx9) 0), (13, cts C), (15, cts D), (17, int i), (18, .bp (2, s1) 0), (19, .bp (3, s2) 0), (20, int y.1)] ⟨[((3, s2), .c (rulC26 r)), ((2, s1), .c (rulC26 r)), ((1, nx9), .c [int d1, int d2, boolA false, ruls R]), ((0, nx6), .c [int d1, int d2, boolA false, ruls R])], [], y.2, 4⟩) (fun y => y.1 ≤ r.conds.length) (fun y => r.conds.length - y.1) ?_ ?_
                · exact ⟨(0, nx18), Nat.zero_le _, ele_tell (pm := []) (bx := [((3, s2), .c (rulC26 r)), ((2, s1), .c (rulC26 r)), ((1, nx9), .c [int d1, int d2, boolA false, ruls R]), ((0, nx6), .c [int d1, int d2, boolA false, ruls R])]) _ _ rfl rfl (List.Sublist.refl _) (List.Sublist.refl _) (BxLe.refl _) trivial ⟨AVle.refl _, AVle.refl _, AVle.refl _, AVle.refl _, AVle.refl _, AVle.refl _, AVle.refl _, AVle.refl _, AVle.refl _, trivial⟩⟩
                · rintro ⟨k, nx19⟩ h3
                  dsimp only at h3
                  (repeat((conv=>whnf);first|apply ω0|apply ω1|apply ω2|refine τ3 rfl ?_|refine τ4 rfl ?_|refine ⟨rfl,?_⟩|apply τa|refine τb rfl ?_|refine ⟨⟨by kernel_rfl,by kernel_rfl⟩,?_⟩|refine ⟨by decide,?_⟩|apply τt|apply τf))
                  intro c g3; cases c
                  · have g3 := not_of g3
                    try dsimp only at g3
                    (repeat((conv=>whnf);first|apply ω0|apply ω1|apply ω2|refine τ3 rfl ?_|refine τ4 rfl ?_|refine ⟨rfl,?_⟩|apply τa|refine τb rfl ?_|refine ⟨⟨by kernel_rfl,by kernel_rfl⟩,?_⟩|refine ⟨by decide,?_⟩|apply τt|apply τf))
                    exact back (i + 1, nx19) hi (by dsimp only; omega) (ele_tell (pm := []) (bx := [((1, nx9), .c [int d1, int d2, boolA false, ruls R]), ((0, nx6), .c [int d1, int d2, boolA false, ruls R])]) _ _ rfl rfl (.cons _ (.cons _ (List.Sublist.refl _))) (List.Sublist.refl _) (BxLe.refl _) trivial ⟨AVle.refl _, AVle.refl _, AVle.refl _, AVle.refl _, AVle.refl _, le_int (wrap_succ (by first | omega | (dsimp only; omega))), trivial⟩)
                  · have g3 := yes_of g3
                    try dsimp only at g3
                    have hk : k < r.conds.length := by omega
                    generalize hcn : r.conds.getD k cnd0 = cn
                    (repeat((conv=>whnf);first|apply ω0|apply ω1|apply ω2|refine τ3 rfl ?_|refine τ4 rfl ?_|refine ⟨rfl,?_⟩|apply τa|refine τb rfl ?_|refine ⟨⟨by kernel_rfl,by kernel_rfl⟩,?_⟩|refine ⟨by decide,?_⟩|apply τt|apply τf))
                    (refine aw_draw 11 ?_ ?_ ?_ ?_; (· kernel_rfl); (· kernel_rfl); (· kernel_rfl))
                    (repeat((conv=>whnf);first|apply ω0|apply ω1|apply ω2|refine τ3 rfl ?_|refine τ4 rfl ?_|refine ⟨rfl,?_⟩|apply τa|refine τb rfl ?_|refine ⟨⟨by kernel_rfl,by kernel_rfl⟩,?_⟩|refine ⟨by decide,?_⟩|apply τt|apply τf))
                    refine ⟨⟨by first | omega | (dsimp only; omega), by first | omega | (dsimp only; omega)⟩, splitO_eq (b := .rp [int cn.arg, int cn.op, u64 (cn.mask : Nat), u64 (cn.value : Nat)]) (by rw [← hcn]; rfl) ?_⟩
                    (repeat((conv=>whnf);first|apply ω0|apply ω1|apply ω2|refine τ3 rfl ?_|refine τ4 rfl ?_|refine ⟨rfl,?_⟩|apply τa|refine τb rfl ?_|refine ⟨⟨by kernel_rfl,by kernel_rfl⟩,?_⟩|refine ⟨by decide,?_⟩|apply τt|apply τf))
                    refine ⟨⟨by first | omega | (dsimp only; omega), by first | omega | (dsimp only; omega)⟩, splitO_eq (b := .rp [int cn.arg, int cn.op, u64 (cn.mask : Nat), u64 (cn.value : Nat)]) (by rw [← hcn]; rfl) ?_⟩
                    (repeat((conv=>whnf);first|apply ω0|apply ω1|apply ω2|refine τ3 rfl ?_|refine τ4 rfl ?_|refine ⟨rfl,?_⟩|apply τa|refine τb rfl ?_|refine ⟨⟨by kernel_rfl,by kernel_rfl⟩,?_⟩|refine ⟨by decide,?_⟩|apply τt|apply τf))
                    intro c hc
                    obtain rfl : c = false := hc.trans (by simp)
                    (repeat((conv=>whnf);first|apply ω0|apply ω1|apply ω2|refine τ3 rfl ?_|refine τ4 rfl ?_|refine ⟨rfl,?_⟩|apply τa|refine τb rfl ?_|refine ⟨⟨by kernel_rfl,by kernel_rfl⟩,?_⟩|refine ⟨by decide,?_⟩|apply τt|apply τf))
                    exact back (k + 1, nx19) hk (by dsimp only; omega) (ele_tell (pm := []) (bx := [((3, s2), .c (rulC26 r)), ((2, s1), .c (rulC26 r)), ((1, nx9), .c [int d1, int d2, boolA false, ruls R]), ((0, nx6), .c [int d1, int d2, boolA false, ruls R])]) _ _ rfl rfl (List.Sublist.refl _) (List.Sublist.refl _) (BxLe.refl _) trivial ⟨AVle.refl _, AVle.refl _, AVle.refl _, AVle.refl _, AVle.refl _, AVle.refl _, AVle.refl _, AVle.refl _, le_int (wrap_succ (by first | omega | (dsimp only; omega))), trivial⟩)
        | true =>
          (repeat((conv=>whnf);first|apply ω0|apply ω1|apply ω2|refine τ3 rfl ?_|refine τ4 rfl ?_|refine ⟨rfl,?_⟩|apply τa|refine τb rfl ?_|refine ⟨⟨by kernel_rfl,by kernel_rfl⟩,?_⟩|refine ⟨by decide,?_⟩|apply τt|apply τf))
          intro c hc
          obtain rfl : c = false := hc.trans (by rw [hdL, bne_self_eq_false])
          (repeat((conv=>whnf);first|apply ω0|apply ω1|apply ω2|refine τ3 rfl ?_|refine τ4 rfl ?_|refine ⟨rfl,?_⟩|apply τa|refine τb rfl ?_|refine ⟨⟨by kernel_rfl,by kernel_rfl⟩,?_⟩|refine ⟨by decide,?_⟩|apply τt|apply τf))
          refine aw_loop (fun y : Nat × Nat => mk 196 [(6, boolA false), (9, .bp (0, nx6) 0), (11, .bp (1, nx9) 0), (13, cts C), (15, cts D), (17, int y.1)] ⟨[((1, nx9), .c [int d1, int d2, boolA true, ruls R]), ((0, nx6), .c [int d1, int d2, boolA true, ruls R])], [], y.2, 2⟩) (fun y => y.1 ≤ R.length) (fun y => R.length - y.1) ?_ ?_
          · exact ⟨(0, nx15), Nat.zero_le _, ele_tell (pm := []) (bx := [((1, nx9), .c [int d1, int d2, boolA true, ruls R]), ((0, nx6), .c [int d1, int d2, boolA true, ruls R])]) _ _ rfl rfl (List.Sublist.refl _) (List.Sublist.refl _) (BxLe.refl _) trivial ⟨AVle.refl _, AVle.refl _, AVle.refl _, AVle.refl _, AVle.refl _, AVle.refl _, trivial⟩⟩
          · rintro ⟨i, nx16⟩ h1
            dsimp only at h1
            (repeat((conv=>whnf);first|apply ω0|apply ω1|apply ω2|refine τ3 rfl ?_|refine τ4 rfl ?_|refine ⟨rfl,?_⟩|apply τa|refine τb rfl ?_|refine ⟨⟨by kernel_rfl,by kernel_rfl⟩,?_⟩|refine ⟨by decide,?_⟩|apply τt|apply τf))
            intro c g1; cases c
            · have g1 := not_of g1
              try dsimp only at g1
              (repeat((conv=>whnf);first|apply ω0|apply ω2|refine τ3 rfl ?_|refine τ4 rfl ?_|refine ⟨rfl,?_⟩|apply τa|refine τb rfl ?_|refine ⟨⟨by kernel_rfl,by kernel_rfl⟩,?_⟩|refine ⟨by decide,?_⟩|apply τt|apply τf))
              refine AW.le (E' := mk 196 [(6, boolA false), (13, cts C), (15, cts D)] ⟨[], [], nx16, 0⟩) (ele_tell (pm := []) (bx := []) _ _ rfl rfl (.cons _ (.cons _ .slnil)) (List.Sublist.refl _) trivial trivial ⟨AVle.refl _, AVle.refl _, AVle.refl _, trivial⟩) ?_
              (repeat((conv=>whnf);first|apply ω0|apply ω1|apply ω2|refine τ3 rfl ?_|refine τ4 rfl ?_|refine ⟨rfl,?_⟩|apply τa|refine τb rfl ?_|refine ⟨⟨by kernel_rfl,by kernel_rfl⟩,?_⟩|refine ⟨by decide,?_⟩|apply τt|apply τf))
              refine aw_loop (fun y : Nat × Nat => mk 196 [(6, boolA false), (13, cts C), (15, cts D), (21, int y.1)] ⟨[], [], y.2, 0⟩) (fun y => y.1 ≤ C.length) (fun y => C.length - y.1) ?_ ?_
              · exact ⟨(0, nx16), Nat.zero_le _, ele_tell (pm := []) (bx := []) _ _ rfl rfl (List.Sublist.refl _) (List.Sublist.refl _) trivial trivial ⟨AVle.refl _, AVle.refl _, AVle.refl _, AVle.refl _, trivial⟩⟩
              · rintro ⟨q, nx17⟩ h2
                dsimp only at h2
                (repeat((conv=>whnf);first|apply ω0|apply ω1|apply ω2|refine τ3 rfl ?_|refine τ4 rfl ?_|refine ⟨rfl,?_⟩|apply τa|refine τb rfl ?_|refine ⟨⟨by kernel_rfl,by kernel_rfl⟩,?_⟩|refine ⟨by decide,?_⟩|apply τt|apply τf))
                intro c g2; cases c
                · have g2 := not_of g2
                  try dsimp only at g2
                  (repeat((conv=>whnf);first|apply ω0|apply ω1|apply ω2|refine τ3 rfl ?_|refine τ4 rfl ?_|refine ⟨rfl,?_⟩|apply τa|refine τb rfl ?_|refine ⟨⟨by kernel_rfl,by kernel_rfl⟩,?_⟩|refine ⟨by decide,?_⟩|apply τt|apply τf))
                  refine aop_tells rfl rfl hawk trivial fun nx18 => ?_
                  (repeat((conv=>whnf);first|apply ω0|apply ω1|apply ω2|refine τ3 rfl ?_|refine τ4 rfl ?_|refine ⟨rfl,?_⟩|apply τa|refine τb rfl ?_|refine ⟨⟨by kernel_rfl,by kernel_rfl⟩,?_⟩|refine ⟨by decide,?_⟩|apply τt|apply τf))
                  exact ret_tells rfl (AVle.refl _)
                · have g2 := yes_of g2
                  try dsimp only at g2
                  have hq : q < C.length := by omega
                  have hqD : q < D.length := by omega
                  have hD := hdC q hq
                  have hm := hC2 (C.getD q ct0) (by simp [List.getD, hq])
                  generalize hct : C.getD q ct0 = ct at hD hm
                  (repeat((conv=>whnf);first|apply ω0|apply ω1|apply ω2|refine τ3 rfl ?_|refine τ4 rfl ?_|refine ⟨rfl,?_⟩|apply τa|refine τb rfl ?_|refine ⟨⟨by kernel_rfl,by kernel_rfl⟩,?_⟩|refine ⟨by decide,?_⟩|apply τt|apply τf))
                  refine aw_mixN 25 [] (fun _ => false) (fun i => match i with | 10 => true | _ => false) [0, 1, 2, 3, 4, 5, 6, 7, 8, 9, 10, 11, 12, 13, 14, 15, 16, 17, 18, 19, 20, 21, 22, 23, 24] (by kernel_rfl) (by kernel_rfl) (HB.refl _) ?_
                  (repeat((conv=>whnf);first|apply ω0|apply ω1|apply ω2|refine τ3 rfl ?_|refine τ4 rfl ?_|refine ⟨rfl,?_⟩|apply τa|refine τb rfl ?_|refine ⟨⟨by kernel_rfl,by kernel_rfl⟩,?_⟩|refine ⟨by decide,?_⟩|apply τt|apply τf))
                  refine ⟨⟨by first | omega | (dsimp only; omega), by first | omega | (dsimp only; omega)⟩, splitV_to (b := .rp [strA ct.name, int ct.many]) (by rw [← hct]; rfl) ?_⟩
                  (repeat((conv=>whnf);first|apply ω0|apply ω1|apply ω2|refine τ3 rfl ?_|refine τ4 rfl ?_|refine ⟨rfl,?_⟩|apply τa|refine τb rfl ?_|refine ⟨⟨by kernel_rfl,by kernel_rfl⟩,?_⟩|refine ⟨by decide,?_⟩|apply τt|apply τf))
                  refine ⟨⟨by first | omega | (dsimp only; omega), by first | omega | (dsimp only; omega)⟩, splitV_to (b := .rp [strA ct.name, int (2 * ct.many : Nat)]) (by show AV.rp (ctA (D.getD q ct0)).cells = _; rw [hD]; rfl) ?_⟩
                  (repeat((conv=>whnf);first|apply ω0|apply ω1|apply ω2|refine τ3 rfl ?_|refine τ4 rfl ?_|refine ⟨rfl,?_⟩|apply τa|refine τb rfl ?_|refine ⟨⟨by kernel_rfl,by kernel_rfl⟩,?_⟩|refine ⟨by decide,?_⟩|apply τt|apply τf))
                  refine ⟨.v (.bool false), pure_bool rfl rfl trivial (bne_self_eq_false _), ?_⟩
                  (repeat((conv=>whnf);first|apply ω0|apply ω1|apply ω2|refine τ3 rfl ?_|refine τ4 rfl ?_|refine ⟨rfl,?_⟩|apply τa|refine τb rfl ?_|refine ⟨⟨by kernel_rfl,by kernel_rfl⟩,?_⟩|refine ⟨by decide,?_⟩|apply τt|apply τf))
                  refine ⟨_, pure_yes rfl rfl rfl rfl trivial, ?_⟩
                  (repeat((conv=>whnf);first|apply ω0|apply ω1|apply ω2|refine τ3 rfl ?_|refine τ4 rfl ?_|refine ⟨rfl,?_⟩|apply τa|refine τb rfl ?_|refine ⟨⟨by kernel_rfl,by kernel_rfl⟩,?_⟩|refine ⟨by decide,?_⟩|apply τt|apply τf))
                  refine ⟨_, pure_yes rfl rfl rfl rfl trivial, ?_⟩
                  (repeat((conv=>whnf);first|apply ω0|apply ω1|apply ω2|refine τ3 rfl ?_|refine τ4 rfl ?_|refine ⟨rfl,?_⟩|apply τa|refine τb rfl ?_|refine ⟨⟨by kernel_rfl,by kernel_rfl⟩,?_⟩|refine ⟨by decide,?_⟩|apply τt|apply τf))
                  refine ⟨_, pure_yes rfl rfl rfl rfl ⟨by first | omega | (dsimp only; omega), by first | omega | (dsimp only; omega)⟩, splitV_to (b := .rp [strA ct.name, int ct.many]) (by rw [← hct]; rfl) ?_⟩
                  (repeat((conv=>whnf);first|apply ω0|apply ω1|apply ω2|refine τ3 rfl ?_|refine τ4 rfl ?_|refine ⟨rfl,?_⟩|apply τa|refine τb rfl ?_|refine ⟨⟨by kernel_rfl,by kernel_rfl⟩,?_⟩|refine ⟨by decide,?_⟩|apply τt|apply τf))
                  refine ⟨_, pure_yes rfl rfl rfl rfl trivial, ?_⟩
                  (repeat((conv=>whnf);first|apply ω0|apply ω1|apply ω2|refine τ3 rfl ?_|refine τ4 rfl ?_|refine ⟨rfl,?_⟩|apply τa|refine τb rfl ?_|refine ⟨⟨by kernel_rfl,by kernel_rfl⟩,?_⟩|refine ⟨by decide,?_⟩|apply τt|apply τf))
                  refine ⟨_, pure_yes rfl rfl rfl rfl trivial, ?_⟩
                  (repeat((conv=>whnf);first|apply ω0|apply ω1|apply ω2|refine τ3 rfl ?_|refine τ4 rfl ?_|refine ⟨rfl,?_⟩|apply τa|refine τb rfl ?_|refine ⟨⟨by kernel_rfl,by kernel_rfl⟩,?_⟩|refine ⟨by decide,?_⟩|apply τt|apply τf))
                  refine ⟨_, pure_yes rfl rfl rfl rfl trivial, ?_⟩
                  (repeat((conv=>whnf);first|apply ω0|apply ω1|apply ω2|refine τ3 rfl ?_|refine τ4 rfl ?_|refine ⟨rfl,?_⟩|apply τa|refine τb rfl ?_|refine ⟨⟨by kernel_rfl,by kernel_rfl⟩,?_⟩|refine ⟨by decide,?_⟩|apply τt|apply τf))
                  refine ⟨_, pure_yes rfl rfl rfl rfl trivial, ?_⟩
                  (repeat((conv=>whnf);first|apply ω0|apply ω1|apply ω2|refine τ3 rfl ?_|refine τ4 rfl ?_|refine ⟨rfl,?_⟩|apply τa|refine τb rfl ?_|refine ⟨⟨by kernel_rfl,by kernel_rfl⟩,?_⟩|refine ⟨by decide,?_⟩|apply τt|apply τf))
                  refine ⟨_, pure_yes rfl rfl rfl rfl trivial, ?_⟩
                  (repeat((conv=>whnf);first|apply ω0|apply ω1|apply ω2|refine τ3 rfl ?_|refine τ4 rfl ?_|refine ⟨rfl,?_⟩|apply τa|refine τb rfl ?_|refine ⟨⟨by kernel_rfl,by kernel_rfl⟩,?_⟩|refine ⟨by decide,?_⟩|apply τt|apply τf))
                  refine ⟨_, pure_yes rfl rfl rfl rfl ⟨by first | omega | (dsimp only; omega), by first | omega | (dsimp only; omega)⟩, splitV_to (b := .rp [strA ct.name, int (2 * ct.many : Nat)]) (by show AV.rp (ctA (D.getD q ct0)).cells = _; rw [hD]; rfl) ?_⟩
                  (repeat((conv=>whnf);first|apply ω0|apply ω1|apply ω2|refine τ3 rfl ?_|refine τ4 rfl ?_|refine ⟨rfl,?_⟩|apply τa|refine τb rfl ?_|refine ⟨⟨by kernel_rfl,by kernel_rfl⟩,?_⟩|refine ⟨by decide,?_⟩|apply τt|apply τf))
                  refine ⟨_, pure_yes rfl rfl rfl rfl trivial, ?_⟩
                  (repeat((conv=>whnf);first|apply ω0|apply ω1|apply ω2|refine τ3 rfl ?_|refine τ4 rfl ?_|refine ⟨rfl,?_⟩|apply τa|refine τb rfl ?_|refine ⟨⟨by kernel_rfl,by kernel_rfl⟩,?_⟩|refine ⟨by decide,?_⟩|apply τt|apply τf))
                  refine ⟨_, pure_yes rfl rfl rfl rfl trivial, ?_⟩
                  (repeat((conv=>whnf);first|apply ω0|apply ω1|apply ω2|refine τ3 rfl ?_|refine τ4 rfl ?_|refine ⟨rfl,?_⟩|apply τa|refine τb rfl ?_|refine ⟨⟨by kernel_rfl,by kernel_rfl⟩,?_⟩|refine ⟨by decide,?_⟩|apply τt|apply τf))
                  refine ⟨.v (.bool false), pure_yesB rfl rfl rfl rfl trivial (by rw [wrap_id (by omega) (by omega)]; exact bne_eq_false_iff_eq.2 (by omega)), ?_⟩
                  (repeat((conv=>whnf);first|apply ω0|apply ω1|apply ω2|refine τ3 rfl ?_|refine τ4 rfl ?_|refine ⟨rfl,?_⟩|apply τa|refine τb rfl ?_|refine ⟨⟨by kernel_rfl,by kernel_rfl⟩,?_⟩|refine ⟨by decide,?_⟩|apply τt|apply τf))
                  exact back (q + 1, nx17) hq (by dsimp only; omega) (ele_tell (pm := []) (bx := []) _ _ rfl rfl (List.Sublist.refl _) (List.Sublist.refl _) trivial trivial ⟨AVle.refl _, AVle.refl _, AVle.refl _, le_int (wrap_succ (by first | omega | (dsimp only; omega))), trivial⟩)
            · have g1 := yes_of g1
              try dsimp only at g1
              have hi : i < R.length := by omega
              generalize hru : R.getD i rul0 = r
              (repeat((conv=>whnf);first|apply ω0|apply ω2|refine τ3 rfl ?_|refine τ4 rfl ?_|refine ⟨rfl,?_⟩|apply τa|refine τb rfl ?_|refine ⟨⟨by kernel_rfl,by kernel_rfl⟩,?_⟩|refine ⟨by decide,?_⟩|apply τt|apply τf))
              refine aw_mid (fun y : Nat × Nat × Nat => mk 196 [(6, boolA false), (9, .bp (0, nx6) 0), (11, .bp (1, nx9) 0), (13, cts C), (15, cts D), (17, int i), (18, .bp (2, y.1) 0), (19, .bp (3, y.2.1) 0)] ⟨[((3, y.2.1), .c (rulC26 r)), ((2, y.1), .c (rulC26 r)), ((1, nx9), .c [int d1, int d2, boolA true, ruls R]), ((0, nx6), .c [int d1, int d2, boolA true, ruls R])], [], y.2.2, 4⟩) (fun y => True) ?_ ?_
              · refine aw_mix4 13 [((1, nx9), .c [int d1, int d2, boolA true, ruls R]), ((0, nx6), .c [int d1, int d2, boolA true, ruls R])] (fun i => match i with | 10 => true | 11 => true | 12 => true | _ => false) (fun _ => false) [0, 1, 2, 3, 4, 5, 6, 7, 8, 9] 10 11 [12] (by kernel_rfl) (by kernel_rfl) (HB.refl _) ?_
                (repeat((conv=>whnf);first|apply ω0|apply ω1|apply ω2|refine τ3 rfl ?_|refine τ4 rfl ?_|refine ⟨rfl,?_⟩|apply τa|refine τb rfl ?_|refine ⟨⟨by kernel_rfl,by kernel_rfl⟩,?_⟩|refine ⟨by decide,?_⟩|apply τt|apply τf))
                refine ⟨⟨by first | omega | (dsimp only; omega), by first | omega | (dsimp only; omega)⟩, splitV_to (b := .rp [strA r.name, int r.act.1, int r.act.2, cnds r.conds]) (by rw [← hru]; rfl) ?_⟩
                (repeat((conv=>whnf);first|apply ω0|apply ω1|apply ω2|refine τ3 rfl ?_|refine τ4 rfl ?_|refine ⟨rfl,?_⟩|apply τa|refine τb rfl ?_|refine ⟨⟨by kernel_rfl,by kernel_rfl⟩,?_⟩|refine ⟨by decide,?_⟩|apply τt|apply τf))
                refine splitV_to (b := ruls R) rfl ?_
                (repeat((conv=>whnf);first|apply ω0|apply ω1|apply ω2|refine τ3 rfl ?_|refine τ4 rfl ?_|refine ⟨rfl,?_⟩|apply τa|refine τb rfl ?_|refine ⟨⟨by kernel_rfl,by kernel_rfl⟩,?_⟩|refine ⟨by decide,?_⟩|apply τt|apply τf))
                refine ⟨⟨by first | omega | (dsimp only; omega), by first | omega | (dsimp only; omega)⟩, splitV_to (b := .rp [strA r.name, int r.act.1, int r.act.2, cnds r.conds]) (by rw [← hru]; rfl) ?_⟩
                (conv => whnf)
                refine ⟨?_, ?_⟩
                · refine ⟨_, eff_alloc rfl rfl z_rul26 (HB.cons rfl (HB.one rfl)), fun r' h' hr => ?_⟩
                  obtain ⟨rfl, rfl⟩ := hr
                  (conv => whnf)
                  refine ⟨_, eff_alloc rfl rfl z_rul26 (HB.cons rfl (HB.one rfl)), fun r' h' hr => ?_⟩
                  obtain ⟨rfl, rfl⟩ := hr
                  (conv => whnf)
                  refine ⟨_, eff_store (i := (2, nx16)) (off := 0) (cs := [strA ⟨#[]⟩, int 0, int 0, .os 0 0 (fun _ => .any) none]) rfl rfl rfl rfl rfl rfl rfl (by kernel_rfl) (by kernel_rfl) (by show 0 + 4 ≤ 4; omega) (HB.cons rfl (HB.one rfl)), fun r' h' hr => ?_⟩
                  obtain rfl := hr
                  (repeat((conv=>whnf);first|apply ω0|apply ω1|apply ω2|refine τ3 rfl ?_|refine τ4 rfl ?_|refine ⟨rfl,?_⟩|apply τa|refine τb rfl ?_|refine ⟨⟨by kernel_rfl,by kernel_rfl⟩,?_⟩|refine ⟨by decide,?_⟩|apply τt|apply τf))
                  exact ⟨(nx16, nx16 + 1, nx16 + 2), trivial, ele_tell (pm := []) (bx := [((3, nx16 + 1), .c (rulC26 r)), ((2, nx16), .c (rulC26 r)), ((1, nx9), .c [int d1, int d2, boolA true, ruls R]), ((0, nx6), .c [int d1, int d2, boolA true, ruls R])]) _ _ rfl rfl (List.Sublist.refl _) (List.Sublist.refl _) (BxLe.refl _) trivial ⟨AVle.refl _, AVle.refl _, AVle.refl _, AVle.refl _, AVle.refl _, AVle.refl _, AVle.refl _, AVle.refl _, trivial⟩⟩
                · refine ⟨_, eff_alloc rfl rfl z_rul26 (HB.cons rfl (HB.one rfl)), fun r' h' hr => ?_⟩
                  obtain ⟨rfl, rfl⟩ := hr
                  (conv => whnf)
                  refine ⟨_, eff_alloc rfl rfl z_rul26 (HB.cons rfl (HB.one rfl)), fun r' h' hr => ?_⟩
                  obtain ⟨rfl, rfl⟩ := hr
                  (conv => whnf)
                  refine ⟨_, eff_store (i := (3, nx16 + 1)) (off := 0) (cs := [strA ⟨#[]⟩, int 0, int 0, .os 0 0 (fun _ => .any) none]) rfl rfl rfl rfl rfl rfl rfl (by kernel_rfl) (by kernel_rfl) (by show 0 + 4 ≤ 4; omega) (HB.cons rfl (HB.one rfl)), fun r' h' hr => ?_⟩
                  obtain rfl := hr
                  (repeat((conv=>whnf);first|apply ω0|apply ω1|apply ω2|refine τ3 rfl ?_|refine τ4 rfl ?_|refine ⟨rfl,?_⟩|apply τa|refine τb rfl ?_|refine ⟨⟨by kernel_rfl,by kernel_rfl⟩,?_⟩|refine ⟨by decide,?_⟩|apply τt|apply τf))
                  exact ⟨(nx16 + 1, nx16, nx16 + 2), trivial, ele_tellP (pm := []) (bx := [((3, nx16), .c (rulC26 r)), ((2, nx16 + 1), .c (rulC26 r)), ((1, nx9), .c [int d1, int d2, boolA true, ruls R]), ((0, nx6), .c [int d1, int d2, boolA true, ruls R])]) [((2, nx16), .c (rulC26 r)), ((3, nx16 + 1), .c (rulC26 r)), ((1, nx9), .c [int d1, int d2, boolA true, ruls R]), ((0, nx6), .c [int d1, int d2, boolA true, ruls R])] _ [] rfl rfl (List.Perm.swap _ _ _) (List.Sublist.refl _) (List.Sublist.refl _) ⟨rfl, OwnLe.refl _, rfl, OwnLe.refl _, BxLe.refl _⟩ trivial ⟨AVle.refl _, AVle.refl _, AVle.refl _, AVle.refl _, AVle.refl _, AVle.refl _, AVle.bp_nm rfl, AVle.bp_nm rfl, trivial⟩⟩
              · rintro ⟨s1, s2, nx18⟩ -
                have hrc := hm2 r (by rw [← hru]; simp [List.getD, hi])
                dsimp only
                (repeat((conv=>whnf);first|apply ω0|apply ω1|apply ω2|refine τ3 rfl ?_|refine τ4 rfl ?_|refine ⟨rfl,?_⟩|apply τa|refine τb rfl ?_|refine ⟨⟨by kernel_rfl,by kernel_rfl⟩,?_⟩|refine ⟨by decide,?_⟩|apply τt|apply τf))
                (intro c hc; (first | (rw [bne_self_eq_false] at hc; subst hc) | (obtain rfl : c = false := hc.trans (bne_self_eq_false _))); (repeat((conv=>whnf);first|apply ω0|apply ω1|apply ω2|refine τ3 rfl ?_|refine τ4 rfl ?_|refine ⟨rfl,?_⟩|apply τa|refine τb rfl ?_|refine ⟨⟨by kernel_rfl,by kernel_rfl⟩,?_⟩|refine ⟨by decide,?_⟩|apply τt|apply τf)))
                (intro c hc; (first | (rw [bne_self_eq_false] at hc; subst hc) | (obtain rfl : c = false := hc.trans (bne_self_eq_false _))); (repeat((conv=>whnf);first|apply ω0|apply ω1|apply ω2|refine τ3 rfl ?_|refine τ4 rfl ?_|refine ⟨rfl,?_⟩|apply τa|refine τb rfl ?_|refine ⟨⟨by kernel_rfl,by kernel_rfl⟩,?_⟩|refine ⟨by decide,?_⟩|apply τt|apply τf)))
                refine aw_loop (fun y : Nat × Nat => mk 196 [(6, boolA false), (9, .bp (0, nx6) 0), (11, .bp (1, nx9) 0), (13, cts C), (15, cts D), (17, int i), (18, .bp (2, s1) 0), (19, .bp (3, s2) 0), (20, int y.1)] ⟨[((3, s2), .c (rulC26 r)), ((2, s1), .c (rulC26 r)), ((1, nx9), .c [int d1, int d2, boolA true, ruls R]), ((0, nx6), .c [int d1, int d2, boolA true, ruls R])], [], y.2, 4⟩) (fun y => y.1 ≤ r.conds.length) (fun y => r.conds.length - y.1) ?_ ?_
                · exact ⟨(0, nx18), Nat.zero_le _, ele_tell (pm := []) (bx := [((3, s2), .c (rulC26 r)), ((2, s1), .c (rulC26 r)), ((1, nx9), .c [int d1, int d2, boolA true, ruls R]), ((0, nx6), .c [int d1, int d2, boolA true, ruls R])]) _ _ rfl rfl (List.Sublist.refl _) (List.Sublist.refl _) (BxLe.refl _) trivial ⟨AVle.refl _, AVle.refl _, AVle.refl _, AVle.refl _, AVle.refl _, AVle.refl _, AVle.refl _, AVle.refl _, AVle.refl _, trivial⟩⟩
                · rintro ⟨k, nx19⟩ h3
                  dsimp only at h3
                  (repeat((conv=>whnf);first|apply ω0|apply ω1|apply ω2|refine τ3 rfl ?_|refine τ4 rfl ?_|refine ⟨rfl,?_⟩|apply τa|refine τb rfl ?_|refine ⟨⟨by kernel_rfl,by kernel_rfl⟩,?_⟩|refine ⟨by decide,?_⟩|apply τt|apply τf))
                  intro c g3; cases c
                  · have g3 := not_of g3
                    try dsimp only at g3
                    (repeat((conv=>whnf);first|apply ω0|apply ω1|apply ω2|refine τ3 rfl ?_|refine τ4 rfl ?_|refine ⟨rfl,?_⟩|apply τa|refine τb rfl ?_|refine ⟨⟨by kernel_rfl,by kernel_rfl⟩,?_⟩|refine ⟨by decide,?_⟩|apply τt|apply τf))
                    exact back (i + 1, nx19) hi (by dsimp only; omega) (ele_tell (pm := []) (bx := [((1, nx9), .c [int d1, int d2, boolA true, ruls R]), ((0, nx6), .c [int d1, int d2, boolA true, ruls R])]) _ _ rfl rfl (.cons _ (.cons _ (List.Sublist.refl _))) (List.Sublist.refl _) (BxLe.refl _) trivial ⟨AVle.refl _, AVle.refl _, AVle.refl _, AVle.refl _, AVle.refl _, le_int (wrap_succ (by first | omega | (dsimp only; omega))), trivial⟩)
                  · have g3 := yes_of g3
                    try dsimp only at g3
                    have hk : k < r.conds.length := by omega
                    generalize hcn : r.conds.getD k cnd0 = cn
                    (repeat((conv=>whnf);first|apply ω0|apply ω1|apply ω2|refine τ3 rfl ?_|refine τ4 rfl ?_|refine ⟨rfl,?_⟩|apply τa|refine τb rfl ?_|refine ⟨⟨by kernel_rfl,by kernel_rfl⟩,?_⟩|refine ⟨by decide,?_⟩|apply τt|apply τf))
                    (refine aw_draw 11 ?_ ?_ ?_ ?_; (· kernel_rfl); (· kernel_rfl); (· kernel_rfl))
                    (repeat((conv=>whnf);first|apply ω0|apply ω1|apply ω2|refine τ3 rfl ?_|refine τ4 rfl ?_|refine ⟨rfl,?_⟩|apply τa|refine τb rfl ?_|refine ⟨⟨by kernel_rfl,by kernel_rfl⟩,?_⟩|refine ⟨by decide,?_⟩|apply τt|apply τf))
                    refine ⟨⟨by first | omega | (dsimp only; omega), by first | omega | (dsimp only; omega)⟩, splitO_eq (b := .rp [int cn.arg, int cn.op, u64 (cn.mask : Nat), u64 (cn.value : Nat)]) (by rw [← hcn]; rfl) ?_⟩
                    (repeat((conv=>whnf);first|apply ω0|apply ω1|apply ω2|refine τ3 rfl ?_|refine τ4 rfl ?_|refine ⟨rfl,?_⟩|apply τa|refine τb rfl ?_|refine ⟨⟨by kernel_rfl,by kernel_rfl⟩,?_⟩|refine ⟨by decide,?_⟩|apply τt|apply τf))
                    refine ⟨⟨by first | omega | (dsimp only; omega), by first | omega | (dsimp only; omega)⟩, splitO_eq (b := .rp [int cn.arg, int cn.op, u64 (cn.mask : Nat), u64 (cn.value : Nat)]) (by rw [← hcn]; rfl) ?_⟩
                    (repeat((conv=>whnf);first|apply ω0|apply ω1|apply ω2|refine τ3 rfl ?_|refine τ4 rfl ?_|refine ⟨rfl,?_⟩|apply τa|refine τb rfl ?_|refine ⟨⟨by kernel_rfl,by kernel_rfl⟩,?_⟩|refine ⟨by decide,?_⟩|apply τt|apply τf))
                    intro c hc
                    obtain rfl : c = false := hc.trans (by simp)
                    (repeat((conv=>whnf);first|apply ω0|apply ω1|apply ω2|refine τ3 rfl ?_|refine τ4 rfl ?_|refine ⟨rfl,?_⟩|apply τa|refine τb rfl ?_|refine ⟨⟨by kernel_rfl,by kernel_rfl⟩,?_⟩|refine ⟨by decide,?_⟩|apply τt|apply τf))
                    exact back (k + 1, nx19) hk (by dsimp only; omega) (ele_tell (pm := []) (bx := [((3, s2), .c (rulC26 r)), ((2, s1), .c (rulC26 r)), ((1, nx9), .c [int d1, int d2, boolA true, ruls R]), ((0, nx6), .c [int d1, int d2, boolA true, ruls R])]) _ _ rfl rfl (List.Sublist.refl _) (List.Sublist.refl _) (BxLe.refl _) trivial ⟨AVle.refl _, AVle.refl _, AVle.refl _, AVle.refl _, AVle.refl _, AVle.refl _, AVle.refl _, AVle.refl _, le_int (wrap_succ (by first | omega | (dsimp only; omega))), trivial⟩)
      · have gg := yes_of gg
        try dsimp only at gg
        have hj : j < rs.length := by omega
        have hidx : ((rs.length : Int) - 1 - (j : Int)).toNat = rs.length - 1 - j := by omega
        have hnx := backJ_next hj
        have hl1 := backJ_len (rs := rs) (Nat.le_of_lt hj)
        have hlen : (backJ rs (j + 1)).length = (backJ rs j).length + 2 := by rw [hnx, List.length_append]; rfl
        generalize hr0 : rs.getD (rs.length - 1 - j) rec0 = r at hnx
        have hel : rs.getD ((rs.length : Int) - 1 - (j : Int)).toNat rec0 = r := by rw [hidx]; exact hr0
        have hget : ∀ k, k < (backJ rs j).length → recF (backJ rs j) k = recF (backJ rs (j + 1)) k := fun k hk => by unfold recF; rw [hnx]; simp [List.getD, hk, List.getElem?_append_left hk]
        have hlast : recA r = recF (backJ rs (j + 1)) (backJ rs j).length := by unfold recF; rw [hnx]; simp [List.getD, dbl]
        have hlast2 : recA r = recF (backJ rs (j + 1)) ((backJ rs j).length + 1) := by unfold recF; rw [hnx]; simp [List.getD, dbl]
        (repeat((conv=>whnf);first|apply ω0|apply ω1|apply ω2|refine τ3 rfl ?_|refine τ4 rfl ?_|refine ⟨rfl,?_⟩|apply τa|refine τb rfl ?_|refine ⟨⟨by kernel_rfl,by kernel_rfl⟩,?_⟩|refine ⟨by decide,?_⟩|apply τt|apply τf))
        refine aw_mixN 11 [] (fun i => match i with | 10 => true | _ => false) (fun _ => false) [0, 1, 2, 3, 4, 5, 6, 7, 8, 9, 10] (by kernel_rfl) (by kernel_rfl) (HB.refl _) ?_
        (repeat((conv=>whnf);first|apply ω0|apply ω1|apply ω2|refine τ3 rfl ?_|refine τ4 rfl ?_|refine ⟨rfl,?_⟩|apply τa|refine τb rfl ?_|refine ⟨⟨by kernel_rfl,by kernel_rfl⟩,?_⟩|refine ⟨by decide,?_⟩|apply τt|apply τf))
        refine ⟨⟨by first | omega | (dsimp only; omega), by first | omega | (dsimp only; omega)⟩, splitV_to (b := .rp (recC r)) (by rw [← hel]; rfl) ?_⟩
        (repeat((conv=>whnf);first|apply ω0|apply ω1|apply ω2|refine τ3 rfl ?_|refine τ4 rfl ?_|refine ⟨rfl,?_⟩|apply τa|refine τb rfl ?_|refine ⟨⟨by kernel_rfl,by kernel_rfl⟩,?_⟩|refine ⟨by decide,?_⟩|apply τt|apply τf))
        refine ⟨⟨by first | omega | (dsimp only; omega), by first | omega | (dsimp only; omega)⟩, splitV_to (b := .rp (recC r)) (by rw [← hel]; rfl) ?_⟩
        (repeat((conv=>whnf);first|apply ω0|apply ω1|apply ω2|refine τ3 rfl ?_|refine τ4 rfl ?_|refine ⟨rfl,?_⟩|apply τa|refine τb rfl ?_|refine ⟨⟨by kernel_rfl,by kernel_rfl⟩,?_⟩|refine ⟨by decide,?_⟩|apply τt|apply τf))
        cases oi with
        | none =>
          obtain rfl : j = 0 := k2 rfl
          refine ⟨_, eff_append (fun _ _ _ h => by cases h) rfl rfl rfl (.inr ⟨_, rfl⟩) (by kernel_rfl) (by kernel_rfl) (.inl ⟨rfl, rfl⟩) (.inr cells_rec5.symm) (fun _ h => by cases h) (fun k hk => by rcases (by omega : k = 0 ∨ k = 1) with rfl | rfl <;> rfl) (fun _ => by rw [bytes_rec5']; dsimp only; omega) (fun _ => by dsimp only; omega), fun r h' hr => ?_⟩
          obtain ⟨-, rfl, rfl⟩ := hr.resolve_left (fun h => absurd h.1 (by decide))
          (repeat((conv=>whnf);first|apply ω0|apply ω1|apply ω2|refine τ3 rfl ?_|refine τ4 rfl ?_|refine ⟨rfl,?_⟩|apply τa|refine τb rfl ?_|refine ⟨⟨by kernel_rfl,by kernel_rfl⟩,?_⟩|refine ⟨by decide,?_⟩|apply τt|apply τf))
          exact back (0 + 1, some nx3, nx3 + 1) ⟨by dsimp only; omega, fun h => by cases h⟩ (by dsimp only; omega) (ele_tell (pm := [((0, nx3), (backJ rs (0 + 1)).length * 9)]) (bx := []) _ _ rfl rfl (List.Sublist.refl _) (List.Sublist.refl _) trivial ⟨rfl, by show ((backJ rs 0).length + 2) * Tryd.prog.cellsOf 29 = (backJ rs (0 + 1)).length * 9; rw [cells_rec5, hlen], trivial⟩ ⟨AVle.refl _, AVle.refl _, AVle.refl _, AVle.refl _, (AVle.of_eq (by show AV.os _ ((backJ rs 0).length + 2) _ _ = AV.os 9 (backJ rs (0 + 1)).length _ _; rw [cells_rec5, hlen]; rfl)).trans ((AVle.os_fun (by rw [hlen]; exact appF_two hget hlast hlast2)).trans (AVle.os_nm rfl)), le_int ((wrap_id (by dsimp only; omega) (by dsimp only; omega)).trans (by dsimp only; omega)), trivial⟩)
        | some o1 =>
          refine ⟨_, eff_append (fun _ _ _ h => by cases h) rfl rfl rfl (.inr ⟨_, rfl⟩) (by kernel_rfl) (by kernel_rfl) (.inr cells_rec5.symm) (.inr cells_rec5.symm) (fun i hi => by cases hi; show some (o1, (backJ rs j).length * 9) = some (o1, (backJ rs j).length * Tryd.prog.cellsOf 29); rw [cells_rec5]) (fun k hk => by rcases (by omega : k = 0 ∨ k = 1) with rfl | rfl <;> rfl) (fun _ => by rw [bytes_rec5']; dsimp only; omega) (fun _ => by dsimp only; omega), fun r h' hr => ?_⟩
          obtain ⟨-, rfl, rfl⟩ := hr.resolve_left (fun h => absurd h.1 (by decide))
          (repeat((conv=>whnf);first|apply ω0|apply ω1|apply ω2|refine τ3 rfl ?_|refine τ4 rfl ?_|refine ⟨rfl,?_⟩|apply τa|refine τb rfl ?_|refine ⟨⟨by kernel_rfl,by kernel_rfl⟩,?_⟩|refine ⟨by decide,?_⟩|apply τt|apply τf))
          exact back (j + 1, some nx3, nx3 + 1) ⟨by dsimp only; omega, fun h => by cases h⟩ (by dsimp only; omega) (ele_tell (pm := [((0, nx3), (backJ rs (j + 1)).length * 9)]) (bx := []) _ _ rfl rfl (List.Sublist.refl _) (List.Sublist.refl _) trivial ⟨rfl, by show ((backJ rs j).length + 2) * Tryd.prog.cellsOf 29 = (backJ rs (j + 1)).length * 9; rw [cells_rec5, hlen], trivial⟩ ⟨AVle.refl _, AVle.refl _, AVle.refl _, AVle.refl _, (AVle.of_eq (by show AV.os _ ((backJ rs j).length + 2) _ _ = AV.os 9 (backJ rs (j + 1)).length _ _; rw [cells_rec5, hlen]; rfl)).trans ((AVle.os_fun (by rw [hlen]; exact appF_two hget hlast hlast2)).trans (AVle.os_nm rfl)), le_int ((wrap_id (by dsimp only; omega) (by dsimp only; omega)).trans (by dsimp only; omega)), trivial⟩)
end Go.Proofs.W

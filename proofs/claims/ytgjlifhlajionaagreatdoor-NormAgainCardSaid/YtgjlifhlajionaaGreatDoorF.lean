import Derived.Test.YtgjlifhlajionaaGreatDoorD
import Derived.Test.YtgjlifhlajionaaGreatDoorC
import Derived.Test.YtgjlifhlajionaaGreatDoorE
set_option linter.unusedVariables false
set_option linter.unusedSimpArgs false
namespace Go.Proofs.W
open Go.Vl
set_option maxRecDepth 100000

theorem noid_rul (r : Rul) : NoId (.ag [strA r.name, int r.act.1, int r.act.2, cnds r.conds]) := NoId.ag (by
  intro y hy
  simp only [List.mem_cons, List.not_mem_nil, or_false] at hy
  rcases hy with rfl | rfl | rfl | rfl
  · exact NoId.v _
  · exact NoId.v _
  · exact NoId.v _
  · refine NoId.sl fun i hi c hc => ?_
    simp only [cndA, AV.cells, List.mem_cons, List.not_mem_nil, or_false] at hc
    rcases hc with rfl | rfl | rfl | rfl <;> exact NoId.v _)
theorem bytes_cnd_l16 : Tryz.prog.bytesOf 51 = 32 := by kernel_rfl
theorem bytes_rul_l16 : Tryz.prog.bytesOf 47 = 56 := by kernel_rfl
theorem conds_l16 (c : Cnd) : Tells Tryz.prog 54 [cndA c] (cndA c) := by
  refine tells_of_aw Tryz.func54 rfl rfl fun nx => ?_
  (repeat((conv=>whnf);first|apply ω0|apply ω1|apply ω2|refine τ3 rfl ?_|refine τ4 rfl ?_|refine ⟨rfl,?_⟩|apply τa|refine τb rfl ?_|refine ⟨⟨by kernel_rfl,by kernel_rfl⟩,?_⟩|refine ⟨by decide,?_⟩|apply τt|apply τf))
  exact ret_tells_all rfl ⟨rfl, trivial⟩ (AVle.refl _)

set_option maxHeartbeats 1000000 in
theorem rule_l16 (nm : ByteArray) (k n : Int) (cs : List Cnd) (hl : cs.length ≤ 1000000) : Tells Tryz.prog 25 [.ag [strA nm, int k, int n, cnds cs]] (.ag [strA nm, int k, int n, cnds cs]) := by
  refine tells_of_aw Tryz.func25 rfl rfl fun nx => ?_
  (repeat((conv=>whnf);first|apply ω0|apply ω1|apply ω2|refine τ3 rfl ?_|refine τ4 rfl ?_|refine ⟨rfl,?_⟩|apply τa|refine τb rfl ?_|refine ⟨⟨by kernel_rfl,by kernel_rfl⟩,?_⟩|refine ⟨by decide,?_⟩|apply τt|apply τf))
  refine aw_loop (fun s : Nat × Option Nat × Nat => mk 34 [(1, .bp (0, nx) 0), (2, .bp (1, nx + 1) 0), (3, .bp (2, nx + 2) 0), (4, int s.1)] ⟨[((2, nx + 2), .c [strA nm, int k, int n, .os 4 s.1 (fun j => cndA (cs.getD j cnd0)) (nmd s.2.1)]), ((1, nx + 1), .c [strA ⟨#[]⟩, int 0, int 0, .os 0 0 (fun _ => .any) none]), ((0, nx), .c [strA nm, int k, int n, cnds cs])], pmOf (nmd s.2.1) (s.1 * 4), s.2.2, 3⟩) (fun s => s.1 ≤ cs.length ∧ (s.2.1 = none → s.1 = 0)) (fun s => cs.length - s.1) ?_ ?_
  · exact ⟨(0, none, nx + 3), ⟨Nat.zero_le _, fun _ => rfl⟩, ele_tell (pm := []) _ [] rfl rfl (List.Sublist.refl _) (List.Sublist.refl _) ⟨rfl, ⟨AVle.refl _, AVle.refl _, AVle.refl _, AVle.os_nil, trivial⟩, rfl, OwnLe.refl _, rfl, OwnLe.refl _, trivial⟩ trivial ⟨AVle.refl _, AVle.refl _, AVle.refl _, AVle.refl _, trivial⟩⟩
  · rintro ⟨i, oi, nx2⟩ ⟨h3, h4⟩
    dsimp only at h3 h4
    (repeat((conv=>whnf);first|apply ω0|apply ω1|apply ω2|refine τ3 rfl ?_|refine τ4 rfl ?_|refine ⟨rfl,?_⟩|apply τa|refine τb rfl ?_|refine ⟨⟨by kernel_rfl,by kernel_rfl⟩,?_⟩|refine ⟨by decide,?_⟩|apply τt|apply τf))
    intro c h5; cases c
    · have h6 := not_of h5
      dsimp only at h6
      obtain rfl : i = cs.length := by omega
      (repeat((conv=>whnf);first|apply ω0|apply ω1|apply ω2|refine τ3 rfl ?_|refine τ4 rfl ?_|refine ⟨rfl,?_⟩|apply τa|refine τb rfl ?_|refine ⟨⟨by kernel_rfl,by kernel_rfl⟩,?_⟩|refine ⟨by decide,?_⟩|apply τt|apply τf))
      exact ret_tells_all rfl ⟨rfl, trivial⟩ (AVle.ags ⟨AVle.refl _, AVle.refl _, AVle.refl _, AVle.os_sl, trivial⟩)
    · have h6 := yes_of h5
      dsimp only at h6
      have hi : i < cs.length := by omega
      have hcall := conds_l16 (cs.getD i cnd0)
      (repeat((conv=>whnf);first|apply ω0|apply ω1|apply ω2|refine τ3 rfl ?_|refine τ4 rfl ?_|refine ⟨rfl,?_⟩|apply τa|refine τb rfl ?_|refine ⟨⟨by kernel_rfl,by kernel_rfl⟩,?_⟩|refine ⟨by decide,?_⟩|apply τt|apply τf))
      refine aw_mixN 11 [((2, nx + 2), .c [strA nm, int k, int n, .os 4 i (fun j => cndA (cs.getD j cnd0)) (nmd oi)]), ((1, nx + 1), .c [strA ⟨#[]⟩, int 0, int 0, .os 0 0 (fun _ => .any) none]), ((0, nx), .c [strA nm, int k, int n, cnds cs])] (fun i => match i with | 9 => true | _ => false) (fun i => match i with | 7 => true | _ => false) [0, 1, 2, 3, 4, 5, 6, 7, 8, 9, 10] (by kernel_rfl) (by kernel_rfl) (HB.refl _) ?_
      (repeat((conv=>whnf);first|apply ω0|apply ω1|apply ω2|refine τ3 rfl ?_|refine τ4 rfl ?_|refine ⟨rfl,?_⟩|apply τa|refine τb rfl ?_|refine ⟨⟨by kernel_rfl,by kernel_rfl⟩,?_⟩|refine ⟨by decide,?_⟩|apply τt|apply τf))
      refine ⟨⟨by dsimp only; omega, by dsimp only; omega⟩, ?_⟩
      (repeat((conv=>whnf);first|apply ω0|apply ω1|apply ω2|refine τ3 rfl ?_|refine τ4 rfl ?_|refine ⟨rfl,?_⟩|apply τa|refine τb rfl ?_|refine ⟨⟨by kernel_rfl,by kernel_rfl⟩,?_⟩|refine ⟨by decide,?_⟩|apply τt|apply τf))
      refine ⟨_, pure_tells rfl rfl rfl hcall ⟨AVle.refl _, trivial⟩ (noid_cndA _), ?_⟩
      (repeat((conv=>whnf);first|apply ω0|apply ω1|apply ω2|refine τ3 rfl ?_|refine τ4 rfl ?_|refine ⟨rfl,?_⟩|apply τa|refine τb rfl ?_|refine ⟨⟨by kernel_rfl,by kernel_rfl⟩,?_⟩|refine ⟨by decide,?_⟩|apply τt|apply τf))
      rcases oi with _ | id
      · obtain rfl := h4 rfl
        refine ⟨_, eff_append1 (e := 51) (c := 4) (pm := []) (n := 0) (oi := none) (sz := 4) (f := fun j => cndA (cs.getD j cnd0)) (HB.refl _) rfl rfl rfl (.inr ⟨_, rfl⟩) (by kernel_rfl) (by kernel_rfl) (by kernel_rfl) (.inr rfl) (by kernel_rfl) (List.append_nil _).symm (oneRow_one rfl) (by rw [bytes_cnd_l16]; omega) (by omega), fun r h' hr => ?_⟩
        obtain ⟨rfl, rfl⟩ := hr
        (repeat((conv=>whnf);first|apply ω0|apply ω1|apply ω2|refine τ3 rfl ?_|refine τ4 rfl ?_|refine ⟨rfl,?_⟩|apply τa|refine τb rfl ?_|refine ⟨⟨by kernel_rfl,by kernel_rfl⟩,?_⟩|refine ⟨by decide,?_⟩|apply τt|apply τf))
        refine back (0 + 1, some nx2, nx2 + 1) ⟨by dsimp only; omega, (fun h => by cases h)⟩ (by dsimp only; omega) (ele_tell (pm := [((0, nx2), (0 + 1) * 4)]) _ _ rfl rfl (List.Sublist.refl _) (List.Sublist.refl _) ⟨rfl, ⟨AVle.refl _, AVle.refl _, AVle.refl _, (AVle.os_fun (appF_one (fun k h => absurd h (Nat.not_lt_zero k)) ?_)).trans (AVle.os_nm rfl), trivial⟩, rfl, OwnLe.refl _, rfl, OwnLe.refl _, trivial⟩ ⟨rfl, rfl, trivial⟩ ⟨AVle.refl _, AVle.refl _, AVle.refl _, le_int (wrap_succ (by dsimp only; omega)), trivial⟩)
        rfl
      · refine ⟨_, eff_append1 (e := 51) (c := 4) (pm := []) (n := i) (oi := some (0, id)) (sz := 4) (f := fun j => cndA (cs.getD j cnd0)) (HB.refl _) rfl rfl rfl (.inr ⟨_, rfl⟩) (by kernel_rfl) (by kernel_rfl) (by kernel_rfl) (.inr rfl) (by kernel_rfl) (List.append_nil _).symm (oneRow_one rfl) (by rw [bytes_cnd_l16]; omega) (by omega), fun r h' hr => ?_⟩
        obtain ⟨rfl, rfl⟩ := hr
        (repeat((conv=>whnf);first|apply ω0|apply ω1|apply ω2|refine τ3 rfl ?_|refine τ4 rfl ?_|refine ⟨rfl,?_⟩|apply τa|refine τb rfl ?_|refine ⟨⟨by kernel_rfl,by kernel_rfl⟩,?_⟩|refine ⟨by decide,?_⟩|apply τt|apply τf))
        refine back (i + 1, some nx2, nx2 + 1) ⟨by dsimp only; omega, (fun h => by cases h)⟩ (by dsimp only; omega) (ele_tell (pm := [((0, nx2), (i + 1) * 4)]) _ _ rfl rfl (List.Sublist.refl _) (List.Sublist.refl _) ⟨rfl, ⟨AVle.refl _, AVle.refl _, AVle.refl _, (AVle.os_fun (appF_one (fun k hk => rfl) ?_)).trans (AVle.os_nm rfl), trivial⟩, rfl, OwnLe.refl _, rfl, OwnLe.refl _, trivial⟩ ⟨rfl, rfl, trivial⟩ ⟨AVle.refl _, AVle.refl _, AVle.refl _, le_int (wrap_succ (by dsimp only; omega)), trivial⟩)
        rfl

set_option maxHeartbeats 1000000 in
theorem oft_l16 (k n : Int) (rs : List Rul) (hl : rs.length ≤ 1000000) (hc : ∀ r ∈ rs, r.conds.length ≤ 1000000) : Tells Tryz.prog 20 [.ag [int k, int n, boolA true, ruls rs]] (.ag [int k, int n, boolA true, ruls rs]) := by
  refine tells_of_aw Tryz.func20 rfl rfl fun nx => ?_
  (repeat((conv=>whnf);first|apply ω0|apply ω1|apply ω2|refine τ3 rfl ?_|refine τ4 rfl ?_|refine ⟨rfl,?_⟩|apply τa|refine τb rfl ?_|refine ⟨⟨by kernel_rfl,by kernel_rfl⟩,?_⟩|refine ⟨by decide,?_⟩|apply τt|apply τf))
  refine aw_loop (fun s : Nat × Option Nat × Nat => mk 34 [(1, .bp (0, nx) 0), (2, .bp (1, nx + 1) 0), (3, .bp (2, nx + 2) 0), (4, int s.1)] ⟨[((2, nx + 2), .c [int k, int n, boolA true, .os 4 s.1 (fun j => rulA (rs.getD j rul0)) (nmd s.2.1)]), ((1, nx + 1), .c [int 0, int 0, boolA false, .os 0 0 (fun _ => .any) none]), ((0, nx), .c [int k, int n, boolA true, ruls rs])], pmOf (nmd s.2.1) (s.1 * 4), s.2.2, 3⟩) (fun s => s.1 ≤ rs.length ∧ (s.2.1 = none → s.1 = 0)) (fun s => rs.length - s.1) ?_ ?_
  · exact ⟨(0, none, nx + 3), ⟨Nat.zero_le _, fun _ => rfl⟩, ele_tell (pm := []) _ [] rfl rfl (List.Sublist.refl _) (List.Sublist.refl _) ⟨rfl, ⟨AVle.refl _, AVle.refl _, AVle.refl _, AVle.os_nil, trivial⟩, rfl, OwnLe.refl _, rfl, OwnLe.refl _, trivial⟩ trivial ⟨AVle.refl _, AVle.refl _, AVle.refl _, AVle.refl _, trivial⟩⟩
  · rintro ⟨i, oi, nx2⟩ ⟨h3, h4⟩
    dsimp only at h3 h4
    (repeat((conv=>whnf);first|apply ω0|apply ω1|apply ω2|refine τ3 rfl ?_|refine τ4 rfl ?_|refine ⟨rfl,?_⟩|apply τa|refine τb rfl ?_|refine ⟨⟨by kernel_rfl,by kernel_rfl⟩,?_⟩|refine ⟨by decide,?_⟩|apply τt|apply τf))
    intro c h5; cases c
    · have h6 := not_of h5
      dsimp only at h6
      obtain rfl : i = rs.length := by omega
      (repeat((conv=>whnf);first|apply ω0|apply ω1|apply ω2|refine τ3 rfl ?_|refine τ4 rfl ?_|refine ⟨rfl,?_⟩|apply τa|refine τb rfl ?_|refine ⟨⟨by kernel_rfl,by kernel_rfl⟩,?_⟩|refine ⟨by decide,?_⟩|apply τt|apply τf))
      exact ret_tells_all rfl ⟨rfl, trivial⟩ (AVle.ags ⟨AVle.refl _, AVle.refl _, AVle.refl _, AVle.os_sl, trivial⟩)
    · have h6 := yes_of h5
      dsimp only at h6
      have hi : i < rs.length := by omega
      have hcall := rule_l16 (rs.getD i rul0).name (rs.getD i rul0).act.1 (rs.getD i rul0).act.2 (rs.getD i rul0).conds (hc _ (by simp [List.getD, hi]))
      (repeat((conv=>whnf);first|apply ω0|apply ω1|apply ω2|refine τ3 rfl ?_|refine τ4 rfl ?_|refine ⟨rfl,?_⟩|apply τa|refine τb rfl ?_|refine ⟨⟨by kernel_rfl,by kernel_rfl⟩,?_⟩|refine ⟨by decide,?_⟩|apply τt|apply τf))
      refine aw_mixN 11 [((2, nx + 2), .c [int k, int n, boolA true, .os 4 i (fun j => rulA (rs.getD j rul0)) (nmd oi)]), ((1, nx + 1), .c [int 0, int 0, boolA false, .os 0 0 (fun _ => .any) none]), ((0, nx), .c [int k, int n, boolA true, ruls rs])] (fun i => match i with | 9 => true | _ => false) (fun i => match i with | 7 => true | _ => false) [0, 1, 2, 3, 4, 5, 6, 7, 8, 9, 10] (by kernel_rfl) (by kernel_rfl) (HB.refl _) ?_
      (repeat((conv=>whnf);first|apply ω0|apply ω1|apply ω2|refine τ3 rfl ?_|refine τ4 rfl ?_|refine ⟨rfl,?_⟩|apply τa|refine τb rfl ?_|refine ⟨⟨by kernel_rfl,by kernel_rfl⟩,?_⟩|refine ⟨by decide,?_⟩|apply τt|apply τf))
      refine ⟨⟨by dsimp only; omega, by dsimp only; omega⟩, ?_⟩
      (repeat((conv=>whnf);first|apply ω0|apply ω1|apply ω2|refine τ3 rfl ?_|refine τ4 rfl ?_|refine ⟨rfl,?_⟩|apply τa|refine τb rfl ?_|refine ⟨⟨by kernel_rfl,by kernel_rfl⟩,?_⟩|refine ⟨by decide,?_⟩|apply τt|apply τf))
      refine ⟨_, pure_tells rfl rfl rfl hcall ⟨AVle.refl _, trivial⟩ (noid_rul (rs.getD i rul0)), ?_⟩
      (repeat((conv=>whnf);first|apply ω0|apply ω1|apply ω2|refine τ3 rfl ?_|refine τ4 rfl ?_|refine ⟨rfl,?_⟩|apply τa|refine τb rfl ?_|refine ⟨⟨by kernel_rfl,by kernel_rfl⟩,?_⟩|refine ⟨by decide,?_⟩|apply τt|apply τf))
      rcases oi with _ | id
      · obtain rfl := h4 rfl
        refine ⟨_, eff_append1 (e := 47) (c := 4) (pm := []) (n := 0) (oi := none) (sz := 4) (f := fun j => rulA (rs.getD j rul0)) (HB.refl _) rfl rfl rfl (.inr ⟨_, rfl⟩) (by kernel_rfl) (by kernel_rfl) (by kernel_rfl) (.inr rfl) (by kernel_rfl) (List.append_nil _).symm (oneRow_one rfl) (by rw [bytes_rul_l16]; omega) (by omega), fun r h' hr => ?_⟩
        obtain ⟨rfl, rfl⟩ := hr
        (repeat((conv=>whnf);first|apply ω0|apply ω1|apply ω2|refine τ3 rfl ?_|refine τ4 rfl ?_|refine ⟨rfl,?_⟩|apply τa|refine τb rfl ?_|refine ⟨⟨by kernel_rfl,by kernel_rfl⟩,?_⟩|refine ⟨by decide,?_⟩|apply τt|apply τf))
        refine back (0 + 1, some nx2, nx2 + 1) ⟨by dsimp only; omega, (fun h => by cases h)⟩ (by dsimp only; omega) (ele_tell (pm := [((0, nx2), (0 + 1) * 4)]) _ _ rfl rfl (List.Sublist.refl _) (List.Sublist.refl _) ⟨rfl, ⟨AVle.refl _, AVle.refl _, AVle.refl _, (AVle.os_fun (appF_one (fun k h => absurd h (Nat.not_lt_zero k)) ?_)).trans (AVle.os_nm rfl), trivial⟩, rfl, OwnLe.refl _, rfl, OwnLe.refl _, trivial⟩ ⟨rfl, rfl, trivial⟩ ⟨AVle.refl _, AVle.refl _, AVle.refl _, le_int (wrap_succ (by dsimp only; omega)), trivial⟩)
        rfl
      · refine ⟨_, eff_append1 (e := 47) (c := 4) (pm := []) (n := i) (oi := some (0, id)) (sz := 4) (f := fun j => rulA (rs.getD j rul0)) (HB.refl _) rfl rfl rfl (.inr ⟨_, rfl⟩) (by kernel_rfl) (by kernel_rfl) (by kernel_rfl) (.inr rfl) (by kernel_rfl) (List.append_nil _).symm (oneRow_one rfl) (by rw [bytes_rul_l16]; omega) (by omega), fun r h' hr => ?_⟩
        obtain ⟨rfl, rfl⟩ := hr
        (repeat((conv=>whnf);first|apply ω0|apply ω1|apply ω2|refine τ3 rfl ?_|refine τ4 rfl ?_|refine ⟨rfl,?_⟩|apply τa|refine τb rfl ?_|refine ⟨⟨by kernel_rfl,by kernel_rfl⟩,?_⟩|refine ⟨by decide,?_⟩|apply τt|apply τf))
        refine back (i + 1, some nx2, nx2 + 1) ⟨by dsimp only; omega, (fun h => by cases h)⟩ (by dsimp only; omega) (ele_tell (pm := [((0, nx2), (i + 1) * 4)]) _ _ rfl rfl (List.Sublist.refl _) (List.Sublist.refl _) ⟨rfl, ⟨AVle.refl _, AVle.refl _, AVle.refl _, (AVle.os_fun (appF_one (fun k hk => rfl) ?_)).trans (AVle.os_nm rfl), trivial⟩, rfl, OwnLe.refl _, rfl, OwnLe.refl _, trivial⟩ ⟨rfl, rfl, trivial⟩ ⟨AVle.refl _, AVle.refl _, AVle.refl _, le_int (wrap_succ (by dsimp only; omega)), trivial⟩)
        rfl

set_option maxHeartbeats 1000000 in
theorem off_l16 (k n : Int) (rs : List Rul) (hl : rs.length ≤ 1000000) (hc : ∀ r ∈ rs, r.conds.length ≤ 1000000) : Tells Tryz.prog 20 [.ag [int k, int n, boolA false, ruls rs]] (.ag [int k, int n, boolA false, ruls rs]) := by
  refine tells_of_aw Tryz.func20 rfl rfl fun nx => ?_
  (repeat((conv=>whnf);first|apply ω0|apply ω1|apply ω2|refine τ3 rfl ?_|refine τ4 rfl ?_|refine ⟨rfl,?_⟩|apply τa|refine τb rfl ?_|refine ⟨⟨by kernel_rfl,by kernel_rfl⟩,?_⟩|refine ⟨by decide,?_⟩|apply τt|apply τf))
  refine aw_loop (fun s : Nat × Option Nat × Nat => mk 34 [(1, .bp (0, nx) 0), (2, .bp (1, nx + 1) 0), (3, .bp (2, nx + 2) 0), (4, int s.1)] ⟨[((2, nx + 2), .c [int k, int n, boolA false, .os 4 s.1 (fun j => rulA (rs.getD j rul0)) (nmd s.2.1)]), ((1, nx + 1), .c [int 0, int 0, boolA false, .os 0 0 (fun _ => .any) none]), ((0, nx), .c [int k, int n, boolA false, ruls rs])], pmOf (nmd s.2.1) (s.1 * 4), s.2.2, 3⟩) (fun s => s.1 ≤ rs.length ∧ (s.2.1 = none → s.1 = 0)) (fun s => rs.length - s.1) ?_ ?_
  · exact ⟨(0, none, nx + 3), ⟨Nat.zero_le _, fun _ => rfl⟩, ele_tell (pm := []) _ [] rfl rfl (List.Sublist.refl _) (List.Sublist.refl _) ⟨rfl, ⟨AVle.refl _, AVle.refl _, AVle.refl _, AVle.os_nil, trivial⟩, rfl, OwnLe.refl _, rfl, OwnLe.refl _, trivial⟩ trivial ⟨AVle.refl _, AVle.refl _, AVle.refl _, AVle.refl _, trivial⟩⟩
  · rintro ⟨i, oi, nx2⟩ ⟨h3, h4⟩
    dsimp only at h3 h4
    (repeat((conv=>whnf);first|apply ω0|apply ω1|apply ω2|refine τ3 rfl ?_|refine τ4 rfl ?_|refine ⟨rfl,?_⟩|apply τa|refine τb rfl ?_|refine ⟨⟨by kernel_rfl,by kernel_rfl⟩,?_⟩|refine ⟨by decide,?_⟩|apply τt|apply τf))
    intro c h5; cases c
    · have h6 := not_of h5
      dsimp only at h6
      obtain rfl : i = rs.length := by omega
      (repeat((conv=>whnf);first|apply ω0|apply ω1|apply ω2|refine τ3 rfl ?_|refine τ4 rfl ?_|refine ⟨rfl,?_⟩|apply τa|refine τb rfl ?_|refine ⟨⟨by kernel_rfl,by kernel_rfl⟩,?_⟩|refine ⟨by decide,?_⟩|apply τt|apply τf))
      exact ret_tells_all rfl ⟨rfl, trivial⟩ (AVle.ags ⟨AVle.refl _, AVle.refl _, AVle.refl _, AVle.os_sl, trivial⟩)
    · have h6 := yes_of h5
      dsimp only at h6
      have hi : i < rs.length := by omega
      have hcall := rule_l16 (rs.getD i rul0).name (rs.getD i rul0).act.1 (rs.getD i rul0).act.2 (rs.getD i rul0).conds (hc _ (by simp [List.getD, hi]))
      (repeat((conv=>whnf);first|apply ω0|apply ω1|apply ω2|refine τ3 rfl ?_|refine τ4 rfl ?_|refine ⟨rfl,?_⟩|apply τa|refine τb rfl ?_|refine ⟨⟨by kernel_rfl,by kernel_rfl⟩,?_⟩|refine ⟨by decide,?_⟩|apply τt|apply τf))
      refine aw_mixN 11 [((2, nx + 2), .c [int k, int n, boolA false, .os 4 i (fun j => rulA (rs.getD j rul0)) (nmd oi)]), ((1, nx + 1), .c [int 0, int 0, boolA false, .os 0 0 (fun _ => .any) none]), ((0, nx), .c [int k, int n, boolA false, ruls rs])] (fun i => match i with | 9 => true | _ => false) (fun i => match i with | 7 => true | _ => false) [0, 1, 2, 3, 4, 5, 6, 7, 8, 9, 10] (by kernel_rfl) (by kernel_rfl) (HB.refl _) ?_
      (repeat((conv=>whnf);first|apply ω0|apply ω1|apply ω2|refine τ3 rfl ?_|refine τ4 rfl ?_|refine ⟨rfl,?_⟩|apply τa|refine τb rfl ?_|refine ⟨⟨by kernel_rfl,by kernel_rfl⟩,?_⟩|refine ⟨by decide,?_⟩|apply τt|apply τf))
      refine ⟨⟨by dsimp only; omega, by dsimp only; omega⟩, ?_⟩
      (repeat((conv=>whnf);first|apply ω0|apply ω1|apply ω2|refine τ3 rfl ?_|refine τ4 rfl ?_|refine ⟨rfl,?_⟩|apply τa|refine τb rfl ?_|refine ⟨⟨by kernel_rfl,by kernel_rfl⟩,?_⟩|refine ⟨by decide,?_⟩|apply τt|apply τf))
      refine ⟨_, pure_tells rfl rfl rfl hcall ⟨AVle.refl _, trivial⟩ (noid_rul (rs.getD i rul0)), ?_⟩
      (repeat((conv=>whnf);first|apply ω0|apply ω1|apply ω2|refine τ3 rfl ?_|refine τ4 rfl ?_|refine ⟨rfl,?_⟩|apply τa|refine τb rfl ?_|refine ⟨⟨by kernel_rfl,by kernel_rfl⟩,?_⟩|refine ⟨by decide,?_⟩|apply τt|apply τf))
      rcases oi with _ | id
      · obtain rfl := h4 rfl
        refine ⟨_, eff_append1 (e := 47) (c := 4) (pm := []) (n := 0) (oi := none) (sz := 4) (f := fun j => rulA (rs.getD j rul0)) (HB.refl _) rfl rfl rfl (.inr ⟨_, rfl⟩) (by kernel_rfl) (by kernel_rfl) (by kernel_rfl) (.inr rfl) (by kernel_rfl) (List.append_nil _).symm (oneRow_one rfl) (by rw [bytes_rul_l16]; omega) (by omega), fun r h' hr => ?_⟩
        obtain ⟨rfl, rfl⟩ := hr
        (repeat((conv=>whnf);first|apply ω0|apply ω1|apply ω2|refine τ3 rfl ?_|refine τ4 rfl ?_|refine ⟨rfl,?_⟩|apply τa|refine τb rfl ?_|refine ⟨⟨by kernel_rfl,by kernel_rfl⟩,?_⟩|refine ⟨by decide,?_⟩|apply τt|apply τf))
        refine back (0 + 1, some nx2, nx2 + 1) ⟨by dsimp only; omega, (fun h => by cases h)⟩ (by dsimp only; omega) (ele_tell (pm := [((0, nx2), (0 + 1) * 4)]) _ _ rfl rfl (List.Sublist.refl _) (List.Sublist.refl _) ⟨rfl, ⟨AVle.refl _, AVle.refl _, AVle.refl _, (AVle.os_fun (appF_one (fun k h => absurd h (Nat.not_lt_zero k)) ?_)).trans (AVle.os_nm rfl), trivial⟩, rfl, OwnLe.refl _, rfl, OwnLe.refl _, trivial⟩ ⟨rfl, rfl, trivial⟩ ⟨AVle.refl _, AVle.refl _, AVle.refl _, le_int (wrap_succ (by dsimp only; omega)), trivial⟩)
        rfl
      · refine ⟨_, eff_append1 (e := 47) (c := 4) (pm := []) (n := i) (oi := some (0, id)) (sz := 4) (f := fun j => rulA (rs.getD j rul0)) (HB.refl _) rfl rfl rfl (.inr ⟨_, rfl⟩) (by kernel_rfl) (by kernel_rfl) (by kernel_rfl) (.inr rfl) (by kernel_rfl) (List.append_nil _).symm (oneRow_one rfl) (by rw [bytes_rul_l16]; omega) (by omega), fun r h' hr => ?_⟩
        obtain ⟨rfl, rfl⟩ := hr
        (repeat((conv=>whnf);first|apply ω0|apply ω1|apply ω2|refine τ3 rfl ?_|refine τ4 rfl ?_|refine ⟨rfl,?_⟩|apply τa|refine τb rfl ?_|refine ⟨⟨by kernel_rfl,by kernel_rfl⟩,?_⟩|refine ⟨by decide,?_⟩|apply τt|apply τf))
        refine back (i + 1, some nx2, nx2 + 1) ⟨by dsimp only; omega, (fun h => by cases h)⟩ (by dsimp only; omega) (ele_tell (pm := [((0, nx2), (i + 1) * 4)]) _ _ rfl rfl (List.Sublist.refl _) (List.Sublist.refl _) ⟨rfl, ⟨AVle.refl _, AVle.refl _, AVle.refl _, (AVle.os_fun (appF_one (fun k hk => rfl) ?_)).trans (AVle.os_nm rfl), trivial⟩, rfl, OwnLe.refl _, rfl, OwnLe.refl _, trivial⟩ ⟨rfl, rfl, trivial⟩ ⟨AVle.refl _, AVle.refl _, AVle.refl _, le_int (wrap_succ (by dsimp only; omega)), trivial⟩)
        rfl
theorem pol_l16 (p : Pol) (hl : p.rules.length ≤ 1000000) (hc : ∀ r ∈ p.rules, r.conds.length ≤ 1000000) : Tells Tryz.prog 20 [polA p] (polA p) := by
  obtain ⟨⟨k, n⟩, x, rs⟩ := p
  cases x
  · exact off_l16 k n rs hl hc
  · exact oft_l16 k n rs hl hc
end Go.Proofs.W

namespace Go.Proofs.W
open Go.Vl
set_option maxRecDepth 100000

theorem light_l16 (p : Pol) (hl : p.rules.length ≤ maxLen) : Tells Tryz.prog 18 [polA p] (boolA (lightP p)) := by
  obtain ⟨⟨k, n⟩, x, rs⟩ := p
  dsimp only at hl
  refine tells_of_aw Tryz.func18 rfl rfl fun nx => ?_
  (repeat((conv=>whnf);first|apply ω0|apply ω1|apply ω2|refine τ3 rfl ?_|refine τ4 rfl ?_|refine ⟨rfl,?_⟩|apply τa|refine τb rfl ?_|refine ⟨⟨by kernel_rfl,by kernel_rfl⟩,?_⟩|refine ⟨by decide,?_⟩|apply τt|apply τf))
  intro c g1; cases c
  rotate_left
  · (repeat((conv=>whnf);first|apply ω0|apply ω1|apply ω2|refine τ3 rfl ?_|refine τ4 rfl ?_|refine ⟨rfl,?_⟩|apply τa|refine τb rfl ?_|refine ⟨⟨by kernel_rfl,by kernel_rfl⟩,?_⟩|refine ⟨by decide,?_⟩|apply τt|apply τf))
    have g1 : ((rs.length : Nat) : Int) > 40 := yes_of g1
    exact ret_tells rfl (le_bool (by show false = (decide (rs.length ≤ 40) && _); rw [decide_eq_false (by omega)]; rfl))
  have g1 : ¬ ((rs.length : Nat) : Int) > 40 := not_of g1
  have h40 : rs.length ≤ 40 := by omega
  (repeat((conv=>whnf);first|apply ω0|apply ω1|apply ω2|refine τ3 rfl ?_|refine τ4 rfl ?_|refine ⟨rfl,?_⟩|apply τa|refine τb rfl ?_|refine ⟨⟨by kernel_rfl,by kernel_rfl⟩,?_⟩|refine ⟨by decide,?_⟩|apply τt|apply τf))
  refine aw_loop (fun s : Nat × Nat => mk 33 [(1, .bp (0, nx) 0), (3, int s.1)] ⟨[((0, nx), .c [int k, int n, boolA x, ruls rs])], [], s.2, 1⟩) (fun s => s.1 ≤ rs.length ∧ ∀ j, j < s.1 → lightR (rs.getD j rul0) = true) (fun s => rs.length - s.1) ?_ ?_
  · exact ⟨(0, nx + 1), ⟨Nat.zero_le _, fun j h => absurd h (Nat.not_lt_zero _)⟩, ele_tell (pm := []) _ [] rfl rfl (List.Sublist.refl _) (List.Sublist.refl _) ⟨rfl, OwnLe.refl _, trivial⟩ trivial ⟨AVle.refl _, AVle.refl _, trivial⟩⟩
  · rintro ⟨i, nx2⟩ ⟨h3, h4⟩
    dsimp only at h3 h4
    (repeat((conv=>whnf);first|apply ω0|apply ω1|apply ω2|refine τ3 rfl ?_|refine τ4 rfl ?_|refine ⟨rfl,?_⟩|apply τa|refine τb rfl ?_|refine ⟨⟨by kernel_rfl,by kernel_rfl⟩,?_⟩|refine ⟨by decide,?_⟩|apply τt|apply τf))
    intro c h5; cases c
    · have h6 := not_of h5
      dsimp only at h6
      obtain rfl : i = rs.length := by omega
      (repeat((conv=>whnf);first|apply ω0|apply ω1|apply ω2|refine τ3 rfl ?_|refine τ4 rfl ?_|refine ⟨rfl,?_⟩|apply τa|refine τb rfl ?_|refine ⟨⟨by kernel_rfl,by kernel_rfl⟩,?_⟩|refine ⟨by decide,?_⟩|apply τt|apply τf))
      refine ret_tells rfl (le_bool ?_)
      show true = (decide (rs.length ≤ 40) && rs.all lightR)
      rw [decide_eq_true h40, Bool.true_and, eq_comm, List.all_eq_true]
      intro r hr
      obtain ⟨j, hj, rfl⟩ := List.getElem_of_mem hr
      have := h4 j hj
      simpa [List.getD, hj] using this
    · have h6 := yes_of h5
      dsimp only at h6
      have hi : i < rs.length := by omega
      have hbad : ∀ b : Bool, lightR (rs.getD i rul0) = false → false = lightP ⟨(k, n), x, rs⟩ := fun b hb => by
        show false = (decide (rs.length ≤ 40) && rs.all lightR)
        rw [decide_eq_true h40, Bool.true_and, eq_comm, List.all_eq_false]
        exact ⟨rs.getD i rul0, by simp [List.getD, hi], by rw [hb]; decide⟩
      (repeat((conv=>whnf);first|apply ω0|apply ω1|apply ω2|refine τ3 rfl ?_|refine τ4 rfl ?_|refine ⟨rfl,?_⟩|apply τa|refine τb rfl ?_|refine ⟨⟨by kernel_rfl,by kernel_rfl⟩,?_⟩|refine ⟨by decide,?_⟩|apply τt|apply τf))
      refine ⟨⟨by dsimp only; omega, by dsimp only; omega⟩, ?_⟩
      (repeat((conv=>whnf);first|apply ω0|apply ω1|apply ω2|refine τ3 rfl ?_|refine τ4 rfl ?_|refine ⟨rfl,?_⟩|apply τa|refine τb rfl ?_|refine ⟨⟨by kernel_rfl,by kernel_rfl⟩,?_⟩|refine ⟨by decide,?_⟩|apply τt|apply τf))
      intro c t1; cases c
      · have t1 : ¬ (((rs.getD i rul0).name.size : Nat) : Int) > 60 := not_of t1
        (repeat((conv=>whnf);first|apply ω0|apply ω1|apply ω2|refine τ3 rfl ?_|refine τ4 rfl ?_|refine ⟨rfl,?_⟩|apply τa|refine τb rfl ?_|refine ⟨⟨by kernel_rfl,by kernel_rfl⟩,?_⟩|refine ⟨by decide,?_⟩|apply τt|apply τf))
        refine ⟨⟨by dsimp only; omega, by dsimp only; omega⟩, ?_⟩
        (repeat((conv=>whnf);first|apply ω0|apply ω1|apply ω2|refine τ3 rfl ?_|refine τ4 rfl ?_|refine ⟨rfl,?_⟩|apply τa|refine τb rfl ?_|refine ⟨⟨by kernel_rfl,by kernel_rfl⟩,?_⟩|refine ⟨by decide,?_⟩|apply τt|apply τf))
        intro c t2; cases c
        · have t2 : ¬ (((rs.getD i rul0).conds.length : Nat) : Int) > 12 := not_of t2
          (repeat((conv=>whnf);first|apply ω0|apply ω1|apply ω2|refine τ3 rfl ?_|refine τ4 rfl ?_|refine ⟨rfl,?_⟩|apply τa|refine τb rfl ?_|refine ⟨⟨by kernel_rfl,by kernel_rfl⟩,?_⟩|refine ⟨by decide,?_⟩|apply τt|apply τf))
          refine back (i + 1, nx2) ⟨by dsimp only; omega, fun j hj => ?_⟩ (by dsimp only; omega) (ele_tell (pm := []) _ [] rfl rfl (List.Sublist.refl _) (List.Sublist.refl _) ⟨rfl, OwnLe.refl _, trivial⟩ trivial ⟨AVle.refl _, le_int (wrap_succ (by dsimp only; omega)), trivial⟩)
          dsimp only at hj
          rcases Nat.lt_or_ge j i with h | h
          · exact h4 j h
          · obtain rfl : j = i := by omega
            unfold lightR
            rw [decide_eq_true (by omega), decide_eq_true (by omega)]; rfl
        · have t2 : (((rs.getD i rul0).conds.length : Nat) : Int) > 12 := yes_of t2
          (repeat((conv=>whnf);first|apply ω0|apply ω1|apply ω2|refine τ3 rfl ?_|refine τ4 rfl ?_|refine ⟨rfl,?_⟩|apply τa|refine τb rfl ?_|refine ⟨⟨by kernel_rfl,by kernel_rfl⟩,?_⟩|refine ⟨by decide,?_⟩|apply τt|apply τf))
          exact ret_tells rfl (le_bool (hbad true (by unfold lightR; rw [decide_eq_false (p := (rs.getD i rul0).conds.length ≤ 12) (by omega), Bool.and_false])))
      · have t1 : (((rs.getD i rul0).name.size : Nat) : Int) > 60 := yes_of t1
        (repeat((conv=>whnf);first|apply ω0|apply ω1|apply ω2|refine τ3 rfl ?_|refine τ4 rfl ?_|refine ⟨rfl,?_⟩|apply τa|refine τb rfl ?_|refine ⟨⟨by kernel_rfl,by kernel_rfl⟩,?_⟩|refine ⟨by decide,?_⟩|apply τt|apply τf))
        exact ret_tells rfl (le_bool (hbad true (by unfold lightR; rw [decide_eq_false (p := (rs.getD i rul0).name.size ≤ 60) (by omega), Bool.false_and])))
end Go.Proofs.W

namespace Go.Proofs.W
open Go.Vl
set_option maxRecDepth 100000

theorem lightP_lens {p : Pol} (h : lightP p = true) : p.rules.length ≤ 40 ∧ ∀ r ∈ p.rules, r.name.size ≤ 60 ∧ r.conds.length ≤ 12 := by
  unfold lightP lightR at h
  simp only [Bool.and_eq_true, decide_eq_true_eq, List.all_eq_true] at h
  exact h
theorem sameR_self (r : Rul) : sameR r r = true := by unfold sameR; simp
theorem sameP_self (p : Pol) : sameP p p = true := by
  unfold sameP sameL
  rw [decide_eq_true rfl, decide_eq_true rfl, decide_eq_true rfl]
  simp only [Bool.true_and, List.all_eq_true]
  exact fun j _ => sameR_self _
theorem norm_ok {p : Pol} (hp : p.ok) : (normP p).ok := by
  refine ⟨Nat.le_trans (out_len p.dflt p.rules) hp.1, fun n hn => ?_⟩
  obtain ⟨r, hr, hN⟩ := out_mem hn
  obtain ⟨h1, h2, h3⟩ := hp.2 r hr
  obtain ⟨c1, c2, c3⟩ := normR_conds hN
  exact ⟨by rw [c2]; exact h1, Nat.le_trans c1 h2, (normR_again hN).2.2 h3⟩
theorem norm_len {p : Pol} : (normP p).rules.length ≤ p.rules.length := out_len p.dflt p.rules
theorem norm_cl {p : Pol} {k : Nat} (h : ∀ r ∈ p.rules, r.conds.length ≤ k) : ∀ r ∈ (normP p).rules, r.conds.length ≤ k := fun n hn => by
  obtain ⟨r, hr, hN⟩ := out_mem hn
  exact Nat.le_trans (normR_conds hN).1 (h r hr)
set_option maxHeartbeats 4000000 in
theorem normagain_law (p : Pol) (hp : p.ok) : Tells Tryz.prog 8 [polA p] (boolA true) := by
  have hli := light_l16 p hp.1
  refine tells_of_aw Tryz.func8 rfl rfl fun nx => ?_
  cases hb : lightP p with
  | false =>
    rw [hb] at hli
    (repeat((conv=>whnf);first|apply ω0|apply ω1|apply ω2|refine τ3 rfl ?_|refine τ4 rfl ?_|refine ⟨rfl,?_⟩|apply τa|refine τb rfl ?_|refine ⟨⟨by kernel_rfl,by kernel_rfl⟩,?_⟩|refine ⟨by decide,?_⟩|apply τt|apply τf))
    refine splitO_eq (b := polA p) rfl ?_
    (repeat((conv=>whnf);first|apply ω0|apply ω1|apply ω2|refine τ3 rfl ?_|refine τ4 rfl ?_|refine ⟨rfl,?_⟩|apply τa|refine τb rfl ?_|refine ⟨⟨by kernel_rfl,by kernel_rfl⟩,?_⟩|refine ⟨by decide,?_⟩|apply τt|apply τf))
    refine aop_tells rfl rfl hli ⟨AVle.refl _, trivial⟩ fun nx2 => ?_
    (repeat((conv=>whnf);first|apply ω0|apply ω1|apply ω2|refine τ3 rfl ?_|refine τ4 rfl ?_|refine ⟨rfl,?_⟩|apply τa|refine τb rfl ?_|refine ⟨⟨by kernel_rfl,by kernel_rfl⟩,?_⟩|refine ⟨by decide,?_⟩|apply τt|apply τf))
    exact ret_tells rfl (AVle.refl _)
  | true =>
    rw [hb] at hli
    obtain ⟨hl, hc⟩ := lightP_lens hb
    have hof := pol_l16 p (by omega) (fun r hr => by have := (hc r hr).2; omega)
    have h16 := policy16_spec p hp
    have hq := policy16_spec (normP p) (norm_ok hp)
    have hpr := pright_spec (normP p) (norm_ok hp)
    have hnl := norm_len (p := p)
    have hsm := same_spec14 (normP p) (normP p) (by omega) (fun r hr => by have := norm_cl (p := p) (k := 12) (fun r hr => (hc r hr).2) r hr; omega)
    rw [sameP_self] at hsm
    cases hr : rightP p with
    | false =>
      have e : normA p = .tup [polA pol0, int 13] := by unfold normA; rw [hr]; rfl
      rw [e] at h16
      (repeat((conv=>whnf);first|apply ω0|apply ω1|apply ω2|refine τ3 rfl ?_|refine τ4 rfl ?_|refine ⟨rfl,?_⟩|apply τa|refine τb rfl ?_|refine ⟨⟨by kernel_rfl,by kernel_rfl⟩,?_⟩|refine ⟨by decide,?_⟩|apply τt|apply τf))
      refine splitO_eq (b := polA p) rfl ?_
      (repeat((conv=>whnf);first|apply ω0|apply ω1|apply ω2|refine τ3 rfl ?_|refine τ4 rfl ?_|refine ⟨rfl,?_⟩|apply τa|refine τb rfl ?_|refine ⟨⟨by kernel_rfl,by kernel_rfl⟩,?_⟩|refine ⟨by decide,?_⟩|apply τt|apply τf))
      refine aop_tells rfl rfl hli ⟨AVle.refl _, trivial⟩ fun nx2 => ?_
      (repeat((conv=>whnf);first|apply ω0|apply ω1|apply ω2|refine τ3 rfl ?_|refine τ4 rfl ?_|refine ⟨rfl,?_⟩|apply τa|refine τb rfl ?_|refine ⟨⟨by kernel_rfl,by kernel_rfl⟩,?_⟩|refine ⟨by decide,?_⟩|apply τt|apply τf))
      refine splitO_eq (b := polA p) rfl ?_
      (repeat((conv=>whnf);first|apply ω0|apply ω1|apply ω2|refine τ3 rfl ?_|refine τ4 rfl ?_|refine ⟨rfl,?_⟩|apply τa|refine τb rfl ?_|refine ⟨⟨by kernel_rfl,by kernel_rfl⟩,?_⟩|refine ⟨by decide,?_⟩|apply τt|apply τf))
      refine aop_tells rfl rfl hof ⟨AVle.refl _, trivial⟩ fun nx3 => ?_
      (repeat((conv=>whnf);first|apply ω0|apply ω1|apply ω2|refine τ3 rfl ?_|refine τ4 rfl ?_|refine ⟨rfl,?_⟩|apply τa|refine τb rfl ?_|refine ⟨⟨by kernel_rfl,by kernel_rfl⟩,?_⟩|refine ⟨by decide,?_⟩|apply τt|apply τf))
      refine aop_tells rfl rfl h16 ⟨AVle.refl _, trivial⟩ fun nx4 => ?_
      (repeat((conv=>whnf);first|apply ω0|apply ω1|apply ω2|refine τ3 rfl ?_|refine τ4 rfl ?_|refine ⟨rfl,?_⟩|apply τa|refine τb rfl ?_|refine ⟨⟨by kernel_rfl,by kernel_rfl⟩,?_⟩|refine ⟨by decide,?_⟩|apply τt|apply τf))
      refine aop_tells rfl rfl awake16_spec trivial fun nx5 => ?_
      (repeat((conv=>whnf);first|apply ω0|apply ω1|apply ω2|refine τ3 rfl ?_|refine τ4 rfl ?_|refine ⟨rfl,?_⟩|apply τa|refine τb rfl ?_|refine ⟨⟨by kernel_rfl,by kernel_rfl⟩,?_⟩|refine ⟨by decide,?_⟩|apply τt|apply τf))
      exact ret_tells rfl (AVle.refl _)
    | true =>
      have e : normA p = .tup [polA (normP p), int 0] := by unfold normA; rw [hr]; rfl
      have hrn := norm_right hr
      have e2 : normA (normP p) = .tup [polA (normP p), int 0] := by unfold normA; rw [hrn, norm_again]; rfl
      rw [e] at h16
      rw [e2] at hq
      rw [hrn] at hpr
      generalize normP p = n at *
      (repeat((conv=>whnf);first|apply ω0|apply ω1|apply ω2|refine τ3 rfl ?_|refine τ4 rfl ?_|refine ⟨rfl,?_⟩|apply τa|refine τb rfl ?_|refine ⟨⟨by kernel_rfl,by kernel_rfl⟩,?_⟩|refine ⟨by decide,?_⟩|apply τt|apply τf))
      refine splitO_eq (b := polA p) rfl ?_
      (repeat((conv=>whnf);first|apply ω0|apply ω1|apply ω2|refine τ3 rfl ?_|refine τ4 rfl ?_|refine ⟨rfl,?_⟩|apply τa|refine τb rfl ?_|refine ⟨⟨by kernel_rfl,by kernel_rfl⟩,?_⟩|refine ⟨by decide,?_⟩|apply τt|apply τf))
      refine aop_tells rfl rfl hli ⟨AVle.refl _, trivial⟩ fun nx2 => ?_
      (repeat((conv=>whnf);first|apply ω0|apply ω1|apply ω2|refine τ3 rfl ?_|refine τ4 rfl ?_|refine ⟨rfl,?_⟩|apply τa|refine τb rfl ?_|refine ⟨⟨by kernel_rfl,by kernel_rfl⟩,?_⟩|refine ⟨by decide,?_⟩|apply τt|apply τf))
      refine splitO_eq (b := polA p) rfl ?_
      (repeat((conv=>whnf);first|apply ω0|apply ω1|apply ω2|refine τ3 rfl ?_|refine τ4 rfl ?_|refine ⟨rfl,?_⟩|apply τa|refine τb rfl ?_|refine ⟨⟨by kernel_rfl,by kernel_rfl⟩,?_⟩|refine ⟨by decide,?_⟩|apply τt|apply τf))
      refine aop_tells rfl rfl hof ⟨AVle.refl _, trivial⟩ fun nx3 => ?_
      (repeat((conv=>whnf);first|apply ω0|apply ω1|apply ω2|refine τ3 rfl ?_|refine τ4 rfl ?_|refine ⟨rfl,?_⟩|apply τa|refine τb rfl ?_|refine ⟨⟨by kernel_rfl,by kernel_rfl⟩,?_⟩|refine ⟨by decide,?_⟩|apply τt|apply τf))
      refine aop_tells rfl rfl h16 ⟨AVle.refl _, trivial⟩ fun nx4 => ?_
      (repeat((conv=>whnf);first|apply ω0|apply ω1|apply ω2|refine τ3 rfl ?_|refine τ4 rfl ?_|refine ⟨rfl,?_⟩|apply τa|refine τb rfl ?_|refine ⟨⟨by kernel_rfl,by kernel_rfl⟩,?_⟩|refine ⟨by decide,?_⟩|apply τt|apply τf))
      refine splitO_eq (b := polA n) rfl ?_
      (repeat((conv=>whnf);first|apply ω0|apply ω1|apply ω2|refine τ3 rfl ?_|refine τ4 rfl ?_|refine ⟨rfl,?_⟩|apply τa|refine τb rfl ?_|refine ⟨⟨by kernel_rfl,by kernel_rfl⟩,?_⟩|refine ⟨by decide,?_⟩|apply τt|apply τf))
      refine aop_tells rfl rfl hq ⟨AVle.refl _, trivial⟩ fun nx5 => ?_
      (repeat((conv=>whnf);first|apply ω0|apply ω1|apply ω2|refine τ3 rfl ?_|refine τ4 rfl ?_|refine ⟨rfl,?_⟩|apply τa|refine τb rfl ?_|refine ⟨⟨by kernel_rfl,by kernel_rfl⟩,?_⟩|refine ⟨by decide,?_⟩|apply τt|apply τf))
      refine splitO_eq (b := polA n) rfl ?_
      (repeat((conv=>whnf);first|apply ω0|apply ω1|apply ω2|refine τ3 rfl ?_|refine τ4 rfl ?_|refine ⟨rfl,?_⟩|apply τa|refine τb rfl ?_|refine ⟨⟨by kernel_rfl,by kernel_rfl⟩,?_⟩|refine ⟨by decide,?_⟩|apply τt|apply τf))
      refine aop_tells rfl rfl hsm ⟨AVle.refl _, AVle.refl _, trivial⟩ fun nx6 => ?_
      intro c hc
      have hc2 : c = true := hc
      clear hc; subst hc2
      (repeat((conv=>whnf);first|apply ω0|apply ω1|apply ω2|refine τ3 rfl ?_|refine τ4 rfl ?_|refine ⟨rfl,?_⟩|apply τa|refine τb rfl ?_|refine ⟨⟨by kernel_rfl,by kernel_rfl⟩,?_⟩|refine ⟨by decide,?_⟩|apply τt|apply τf))
      refine aop_tells rfl rfl hpr ⟨AVle.refl _, trivial⟩ fun nx7 => ?_
      intro c hc
      have hc2 : c = true := hc
      clear hc; subst hc2
      (repeat((conv=>whnf);first|apply ω0|apply ω1|apply ω2|refine τ3 rfl ?_|refine τ4 rfl ?_|refine ⟨rfl,?_⟩|apply τa|refine τb rfl ?_|refine ⟨⟨by kernel_rfl,by kernel_rfl⟩,?_⟩|refine ⟨by decide,?_⟩|apply τt|apply τf))
      intro c hc
      have hc2 : c = true := hc.trans (decide_eq_true (by omega))
      clear hc; subst hc2
      (repeat((conv=>whnf);first|apply ω0|apply ω1|apply ω2|refine τ3 rfl ?_|refine τ4 rfl ?_|refine ⟨rfl,?_⟩|apply τa|refine τb rfl ?_|refine ⟨⟨by kernel_rfl,by kernel_rfl⟩,?_⟩|refine ⟨by decide,?_⟩|apply τt|apply τf))
      refine aop_tells rfl rfl awake16_spec trivial fun nx8 => ?_
      intro c hc
      have hc2 : c = true := hc
      clear hc; subst hc2
      (repeat((conv=>whnf);first|apply ω0|apply ω1|apply ω2|refine τ3 rfl ?_|refine τ4 rfl ?_|refine ⟨rfl,?_⟩|apply τa|refine τb rfl ?_|refine ⟨⟨by kernel_rfl,by kernel_rfl⟩,?_⟩|refine ⟨by decide,?_⟩|apply τt|apply τf))
      exact ret_tells rfl (AVle.refl _)
end Go.Proofs.W

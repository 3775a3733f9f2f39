import Derived.Test.YtgllcdchhfcoiaaWfNext
import Derived.Test.YtgllcdchhfcoiaaWpBfs
namespace Go.Proofs.W
open Go.Vl
set_option maxRecDepth 100000

def intA (n : Nat) : AV := int n
def reachH (s0 s1 s2 s3 nx nn n : Nat) (s : List Bool × List Nat) : Heap :=
  ⟨[((3, s3), .c [.oc (2, s2)]), ((2, s2), .ch n (s.2.map intA)), ((1, s1), .c [.hs (0, s0) 0 n n]), ((0, s0), .c (s.1.map boolA))], [], nx, nn⟩
theorem u4 : Try.prog.underlying 4 = some .bool := by kernel_rfl
theorem b4 : Try.prog.bytesOf 4 = 1 := by kernel_rfl
theorem c4 : Try.prog.cellsOf 4 = 1 := by kernel_rfl
theorem look_spec (s0 s1 s2 s3 nx nn n : Nat) (s : List Bool × List Nat) (t : Nat) (hn : s.1.length = n) (hb : s.1.getD t false = false → s.2.length < n) (ht : t < n) (hle : n ≤ 1000000000) :
    ECall Try.prog 51 [int t, .bp (1, s1) 0, .bp (3, s3) 0] (reachH s0 s1 s2 s3 nx nn n s) fun _ h' => ∃ k, h' = reachH s0 s1 s2 s3 nx k n (lookB s t) := by
  obtain ⟨o, b⟩ := s
  dsimp only at hn hb
  have hit : (0 + (Int.toNat (t : Int)) * Try.prog.cellsOf 4) = t := by rw [c4]; omega
  refine ecall_of_aw Try.func51 rfl rfl ?_
  (repeat ((conv => whnf); first | refine aw_seq ?_ | refine aw_region ?_ | refine aw_block ?_ | refine aw_skip ?_ | refine aw_true rfl ?_ | refine aw_false rfl ?_ | refine aw_exit ?_ | refine aw_label ?_ | refine aw_ret ?_ | refine And.intro rfl ?_ | refine And.intro trivial ?_ | refine And.intro (And.intro rfl (Nat.le_of_ble_eq_true rfl)) ?_ | refine And.intro (And.intro (by kernel_rfl) (by kernel_rfl)) ?_ | refine And.intro (by decide) ?_ | refine lit_true ?_ | refine lit_false ?_))
  refine ⟨⟨by omega, by omega⟩, splitO_eq (b := .bp (0, s0) t) (congrArg (AV.bp (0, s0)) hit) ?_⟩
  (conv => whnf)
  refine ⟨⟨rfl, by simp; omega⟩, splitO_eq (b := boolA (o.getD t false)) (getD_map (by dsimp only; omega)) ?_⟩
  (repeat ((conv => whnf); first | refine aw_seq ?_ | refine aw_region ?_ | refine aw_block ?_ | refine aw_skip ?_ | refine aw_true rfl ?_ | refine aw_false rfl ?_ | refine aw_exit ?_ | refine aw_label ?_ | refine aw_ret ?_ | refine And.intro rfl ?_ | refine And.intro trivial ?_ | refine And.intro (And.intro rfl (Nat.le_of_ble_eq_true rfl)) ?_ | refine And.intro (And.intro (by kernel_rfl) (by kernel_rfl)) ?_ | refine And.intro (by decide) ?_ | refine lit_true ?_ | refine lit_false ?_))
  intro c h1; cases c
  · (repeat ((conv => whnf); first | refine aw_seq ?_ | refine aw_block ?_ | refine aw_skip ?_ | refine aw_true rfl ?_ | refine aw_false rfl ?_ | refine aw_exit ?_ | refine aw_label ?_ | refine aw_ret ?_ | refine And.intro rfl ?_ | refine And.intro trivial ?_ | refine And.intro (And.intro rfl (Nat.le_of_ble_eq_true rfl)) ?_ | refine And.intro (And.intro (by kernel_rfl) (by kernel_rfl)) ?_ | refine And.intro (by decide) ?_ | refine lit_true ?_ | refine lit_false ?_))
    refine aw_region ?_
    (repeat ((conv => whnf); first | refine aw_seq ?_ | refine aw_block ?_ | refine aw_skip ?_ | refine aw_true rfl ?_ | refine aw_false rfl ?_ | refine aw_exit ?_ | refine aw_label ?_ | refine aw_ret ?_ | refine And.intro rfl ?_ | refine And.intro trivial ?_ | refine And.intro (And.intro rfl (Nat.le_of_ble_eq_true rfl)) ?_ | refine And.intro (And.intro (by kernel_rfl) (by kernel_rfl)) ?_ | refine And.intro (by decide) ?_ | refine lit_true ?_ | refine lit_false ?_))
    refine ⟨⟨by omega, by omega⟩, splitO_eq (b := .bp (0, s0) t) (congrArg (AV.bp (0, s0)) hit) ?_⟩
    have hsp : splice (o.map boolA) t [AV.v (.bool true)] = (setT o t).map boolA := splice_one (f := boolA) (x := true) (by omega)
    (conv => whnf)
    refine ⟨⟨rfl, by simp; omega⟩, ?_⟩
    rw [hsp]
    (repeat ((conv => whnf); first | refine aw_seq ?_ | refine aw_block ?_ | refine aw_skip ?_ | refine aw_true rfl ?_ | refine aw_false rfl ?_ | refine aw_exit ?_ | refine aw_label ?_ | refine aw_ret ?_ | refine And.intro rfl ?_ | refine And.intro trivial ?_ | refine And.intro (And.intro rfl (Nat.le_of_ble_eq_true rfl)) ?_ | refine And.intro (And.intro (by kernel_rfl) (by kernel_rfl)) ?_ | refine And.intro (by decide) ?_ | refine lit_true ?_ | refine lit_false ?_))
    have hb := hb h1.symm
    refine aw_regionC ?_
    (repeat ((conv => whnf); first | refine aw_seq ?_ | refine aw_block ?_ | refine aw_skip ?_ | refine aw_true rfl ?_ | refine aw_false rfl ?_ | refine aw_exit ?_ | refine aw_label ?_ | refine aw_ret ?_ | refine And.intro rfl ?_ | refine And.intro trivial ?_ | refine And.intro (And.intro rfl (Nat.le_of_ble_eq_true rfl)) ?_ | refine And.intro (And.intro (by kernel_rfl) (by kernel_rfl)) ?_ | refine And.intro (by decide) ?_ | refine lit_true ?_ | refine lit_false ?_))
    (conv => whnf)
    refine ⟨⟨rfl, by simp; omega⟩, ?_⟩
    (repeat ((conv => whnf); first | refine aw_seq ?_ | refine aw_region ?_ | refine aw_block ?_ | refine aw_skip ?_ | refine aw_true rfl ?_ | refine aw_false rfl ?_ | refine aw_exit ?_ | refine aw_label ?_ | refine aw_ret ?_ | refine And.intro rfl ?_ | refine And.intro trivial ?_ | refine And.intro (And.intro rfl (Nat.le_of_ble_eq_true rfl)) ?_ | refine And.intro (And.intro (by kernel_rfl) (by kernel_rfl)) ?_ | refine And.intro (by decide) ?_ | refine lit_true ?_ | refine lit_false ?_))
    refine ret_is rfl ⟨nn, ?_⟩
    unfold lookB
    rw [if_neg (by rw [← h1]; simp)]
    unfold reachH
    dsimp only
    rw [List.map_append]
    rfl
  · (repeat ((conv => whnf); first | refine aw_seq ?_ | refine aw_region ?_ | refine aw_block ?_ | refine aw_skip ?_ | refine aw_true rfl ?_ | refine aw_false rfl ?_ | refine aw_exit ?_ | refine aw_label ?_ | refine aw_ret ?_ | refine And.intro rfl ?_ | refine And.intro trivial ?_ | refine And.intro (And.intro rfl (Nat.le_of_ble_eq_true rfl)) ?_ | refine And.intro (And.intro (by kernel_rfl) (by kernel_rfl)) ?_ | refine And.intro (by decide) ?_ | refine lit_true ?_ | refine lit_false ?_))
    refine ret_is rfl ⟨nn, ?_⟩
    unfold lookB
    rw [if_pos h1.symm]
    rfl
set_option maxHeartbeats 4000000 in
theorem reach_spec (l : List Ins) (hok : okL l) (hl : l.length ≤ 1000000000) : Tells Try.prog 20 [inss l] (bools (if (checkI l).2 = 0 then reachI l else [])) := by
  refine tells_of_aw Try.func20 rfl rfl fun nx => ?_
  (repeat ((conv => whnf); first | refine aw_seq ?_ | refine aw_region ?_ | refine aw_block ?_ | refine aw_skip ?_ | refine aw_true rfl ?_ | refine aw_false rfl ?_ | refine aw_exit ?_ | refine aw_label ?_ | refine aw_ret ?_ | refine And.intro rfl ?_ | refine And.intro trivial ?_ | refine And.intro (And.intro rfl (Nat.le_of_ble_eq_true rfl)) ?_ | refine And.intro (And.intro (by kernel_rfl) (by kernel_rfl)) ?_ | refine And.intro (by decide) ?_ | refine lit_true ?_ | refine lit_false ?_))
  refine aop_tells rfl rfl (check_spec l hok hl) ⟨AVle.refl _, trivial⟩ fun nx => ?_
  (repeat ((conv => whnf); first | refine aw_seq ?_ | refine aw_region ?_ | refine aw_block ?_ | refine aw_skip ?_ | refine aw_true rfl ?_ | refine aw_false rfl ?_ | refine aw_exit ?_ | refine aw_label ?_ | refine aw_ret ?_ | refine And.intro rfl ?_ | refine And.intro trivial ?_ | refine And.intro (And.intro rfl (Nat.le_of_ble_eq_true rfl)) ?_ | refine And.intro (And.intro (by kernel_rfl) (by kernel_rfl)) ?_ | refine And.intro (by decide) ?_ | refine lit_true ?_ | refine lit_false ?_))
  intro c g1; cases c
  · have g1 := bne_no g1
    have hf : Formed l := by
      refine formed_of ?_
      have h2 : (checkI l).2 = 0 := by omega
      unfold checkI at h2
      split at h2
      · exact absurd h2 (by assumption)
      · rename_i h3; omega
    have hle := hf.le
    have hpos := hf.pos
    rw [if_pos (by omega)]
    (repeat ((conv => whnf); first | refine aw_seq ?_ | refine aw_region ?_ | refine aw_block ?_ | refine aw_skip ?_ | refine aw_true rfl ?_ | refine aw_false rfl ?_ | refine aw_exit ?_ | refine aw_label ?_ | refine aw_ret ?_ | refine And.intro rfl ?_ | refine And.intro trivial ?_ | refine And.intro (And.intro rfl (Nat.le_of_ble_eq_true rfl)) ?_ | refine And.intro (And.intro (by kernel_rfl) (by kernel_rfl)) ?_ | refine And.intro (by decide) ?_ | refine lit_true ?_ | refine lit_false ?_))
    (conv => whnf)
    refine ⟨by omega, by omega, by rw [b4]; omega, by omega, ?_⟩
    (repeat ((conv => whnf); first | refine aw_seq ?_ | refine aw_region ?_ | refine aw_block ?_ | refine aw_skip ?_ | refine aw_true rfl ?_ | refine aw_false rfl ?_ | refine aw_exit ?_ | refine aw_label ?_ | refine aw_ret ?_ | refine And.intro rfl ?_ | refine And.intro trivial ?_ | refine And.intro (And.intro rfl (Nat.le_of_ble_eq_true rfl)) ?_ | refine And.intro (And.intro (by kernel_rfl) (by kernel_rfl)) ?_ | refine And.intro (by decide) ?_ | refine lit_true ?_ | refine lit_false ?_))
    (conv => whnf)
    refine ⟨by omega, by omega, by show ((8 : Nat) : Int) * _ ≤ _; omega, ?_⟩
    (repeat ((conv => whnf); first | refine aw_seq ?_ | refine aw_region ?_ | refine aw_block ?_ | refine aw_skip ?_ | refine aw_true rfl ?_ | refine aw_false rfl ?_ | refine aw_exit ?_ | refine aw_label ?_ | refine aw_ret ?_ | refine And.intro rfl ?_ | refine And.intro trivial ?_ | refine And.intro (And.intro rfl (Nat.le_of_ble_eq_true rfl)) ?_ | refine And.intro (And.intro (by kernel_rfl) (by kernel_rfl)) ?_ | refine And.intro (by decide) ?_ | refine lit_true ?_ | refine lit_false ?_))
    have hI := Inv.start hf
    have hlook := look_spec nx (nx + 1) (nx + 2) (nx + 3) (nx + 4) 4 l.length (List.replicate l.length false, []) 0 (by simp) (fun _ => hpos) hpos (by omega)
    generalize lookB (List.replicate l.length false, []) 0 = s at hI hlook
    refine aop_call rfl rfl (ECall.tell (ECall.args (bs := [int ((0 : Nat) : Int), .bp (1, nx + 1) 0, .bp (3, nx + 3) 0]) ⟨AVle.refl _, AVle.refl _, AVle.refl _, trivial⟩ hlook)
      ⟨rfl, OwnLe.refl _, rfl, OwnLe.refl _, rfl, OwnLe.refl _, rfl, OwnLe.of_eq ?_, trivial⟩ trivial rfl) fun r h' hq => ?_
    · rw [List.map_replicate]; rfl
    obtain ⟨k, rfl⟩ := hq
    refine Named.same ?_
    (repeat ((conv => whnf); first | refine aw_seq ?_ | refine aw_region ?_ | refine aw_block ?_ | refine aw_skip ?_ | refine aw_true rfl ?_ | refine aw_false rfl ?_ | refine aw_exit ?_ | refine aw_label ?_ | refine aw_ret ?_ | refine And.intro rfl ?_ | refine And.intro trivial ?_ | refine And.intro (And.intro rfl (Nat.le_of_ble_eq_true rfl)) ?_ | refine And.intro (And.intro (by kernel_rfl) (by kernel_rfl)) ?_ | refine And.intro (by decide) ?_ | refine lit_true ?_ | refine lit_false ?_))
    refine aw_loop (fun x : (List Bool × List Nat) × Nat × Nat => mk 45 [(0, inss l), (5, .bp (1, nx + 1) 0), (6, .bp (3, nx + 3) 0), (7, .fn (.func 51) [] [.bp (1, nx + 1) 0, .bp (3, nx + 3) 0])] (reachH nx (nx + 1) (nx + 2) (nx + 3) x.2.1 x.2.2 l.length x.1)) (fun x => Inv l x.1) (fun x => mBfs l.length x.1) ?_ ?_
    · exact ⟨(s, _, _), hI, ele_mk rfl rfl ⟨AVle.refl _, AVle.refl _, AVle.refl _, AVle.refl _, trivial⟩⟩
    · rintro ⟨⟨o, b⟩, nx', nn'⟩ hI'
      dsimp only at hI'
      (repeat ((conv => whnf); first | refine aw_seq ?_ | refine aw_block ?_ | refine aw_skip ?_ | refine aw_true rfl ?_ | refine aw_false rfl ?_ | refine aw_exit ?_ | refine aw_label ?_ | refine aw_ret ?_ | refine And.intro rfl ?_ | refine And.intro trivial ?_ | refine And.intro (And.intro rfl (Nat.le_of_ble_eq_true rfl)) ?_ | refine And.intro (And.intro (by kernel_rfl) (by kernel_rfl)) ?_ | refine And.intro (by decide) ?_ | refine lit_true ?_ | refine lit_false ?_))
      refine aw_region ?_
      (repeat ((conv => whnf); first | refine aw_seq ?_ | refine aw_block ?_ | refine aw_skip ?_ | refine aw_true rfl ?_ | refine aw_false rfl ?_ | refine aw_exit ?_ | refine aw_label ?_ | refine aw_ret ?_ | refine And.intro rfl ?_ | refine And.intro trivial ?_ | refine And.intro (And.intro rfl (Nat.le_of_ble_eq_true rfl)) ?_ | refine And.intro (And.intro (by kernel_rfl) (by kernel_rfl)) ?_ | refine And.intro (by decide) ?_ | refine lit_true ?_ | refine lit_false ?_))
      refine aw_regionC ?_
      cases b with
      | nil =>
        have ho := Inv.done hf hI'
        subst ho
        (repeat ((conv => whnf); first | refine aw_seq ?_ | refine aw_block ?_ | refine aw_skip ?_ | refine aw_true rfl ?_ | refine aw_false rfl ?_ | refine aw_exit ?_ | refine aw_label ?_ | refine aw_ret ?_ | refine And.intro rfl ?_ | refine And.intro trivial ?_ | refine And.intro (And.intro rfl (Nat.le_of_ble_eq_true rfl)) ?_ | refine And.intro (And.intro (by kernel_rfl) (by kernel_rfl)) ?_ | refine And.intro (by decide) ?_ | refine lit_true ?_ | refine lit_false ?_))
        refine ⟨fun _ => ?_, fun x rest h => by cases h⟩
        (repeat ((conv => whnf); first | refine aw_seq ?_ | refine aw_region ?_ | refine aw_block ?_ | refine aw_skip ?_ | refine aw_true rfl ?_ | refine aw_false rfl ?_ | refine aw_exit ?_ | refine aw_label ?_ | refine And.intro rfl ?_ | refine And.intro trivial ?_ | refine And.intro (And.intro rfl (Nat.le_of_ble_eq_true rfl)) ?_ | refine And.intro (And.intro (by kernel_rfl) (by kernel_rfl)) ?_ | refine And.intro (by decide) ?_ | refine lit_true ?_ | refine lit_false ?_))
        refine AW.le (ele_freeze (L := [(2, bools (reachI l))]) (bx := []) (pm := []) (nn := 0) [((0, nx), .c ((reachI l).map boolA))] rfl rfl (.cons _ (.cons _ (.cons _ (.cons_cons _ .slnil)))) .slnil ⟨?_, trivial⟩) ?_
        · show Frz _ (.hs (0, nx) 0 l.length l.length) (.sl 1 (reachI l).length fun k => boolA ((reachI l).getD k false))
          have hrl := reachI_length l
          rw [hrl]
          refine Frz.hs1 (cs := (reachI l).map boolA) (.head _) (Nat.le_refl _) (by rw [List.length_map, hrl]; exact Nat.le_refl _) (fun _ _ => rfl) fun k hk => ?_
          rw [List.getElem?_map, List.getElem?_eq_getElem (by omega)]
          simp [List.getD, hrl, hk]
        (repeat ((conv => whnf); first | refine aw_seq ?_ | refine aw_region ?_ | refine aw_block ?_ | refine aw_skip ?_ | refine aw_true rfl ?_ | refine aw_false rfl ?_ | refine aw_exit ?_ | refine aw_label ?_ | refine aw_ret ?_ | refine And.intro rfl ?_ | refine And.intro trivial ?_ | refine And.intro (And.intro rfl (Nat.le_of_ble_eq_true rfl)) ?_ | refine And.intro (And.intro (by kernel_rfl) (by kernel_rfl)) ?_ | refine And.intro (by decide) ?_ | refine lit_true ?_ | refine lit_false ?_))
        refine ret_tells rfl (AVle.refl _)
      | cons m b =>
        (repeat ((conv => whnf); first | refine aw_seq ?_ | refine aw_block ?_ | refine aw_skip ?_ | refine aw_true rfl ?_ | refine aw_false rfl ?_ | refine aw_exit ?_ | refine aw_label ?_ | refine aw_ret ?_ | refine And.intro rfl ?_ | refine And.intro trivial ?_ | refine And.intro (And.intro rfl (Nat.le_of_ble_eq_true rfl)) ?_ | refine And.intro (And.intro (by kernel_rfl) (by kernel_rfl)) ?_ | refine And.intro (by decide) ?_ | refine lit_true ?_ | refine lit_false ?_))
        refine ⟨fun h => (by cases h), fun x rest h => ?_⟩
        obtain ⟨rfl, rfl⟩ := List.cons.inj h
        have hm : m < l.length := (hI'.sound m (hI'.mem m (by simp))).lt hf
        have hts : ∀ t ∈ nextsI l m, t < l.length := fun t ht => (nexts_lt hf hm t ht).2
        have hw' : Weak l.length (o, b) := ⟨hI'.weak.len, by have := hI'.weak.few; simp only [List.length_cons] at this; dsimp only; omega⟩
        have hnext := Inv.next hf hI'
        have hshort : (nextsI l m).length ≤ 2 := by unfold nextsI; repeat' split
                                                    all_goals simp
        (repeat ((conv => whnf); first | refine aw_seq ?_ | refine aw_region ?_ | refine aw_block ?_ | refine aw_skip ?_ | refine aw_true rfl ?_ | refine aw_false rfl ?_ | refine aw_exit ?_ | refine aw_label ?_ | refine aw_ret ?_ | refine And.intro rfl ?_ | refine And.intro trivial ?_ | refine And.intro (And.intro rfl (Nat.le_of_ble_eq_true rfl)) ?_ | refine And.intro (And.intro (by kernel_rfl) (by kernel_rfl)) ?_ | refine And.intro (by decide) ?_ | refine lit_true ?_ | refine lit_false ?_))
        refine aop_tells rfl rfl (next_spec l hok hf m hm) ⟨AVle.refl _, AVle.refl _, trivial⟩ fun nx3 => ?_
        have hl2 : ∀ j, j < (nextsI l m).length → (nextsI l m).getD j 0 ∈ nextsI l m := fun j hj => by simp [List.getD, hj]
        generalize nextsI l m = ts at hts hnext hshort hl2 ⊢
        (repeat ((conv => whnf); first | refine aw_seq ?_ | refine aw_region ?_ | refine aw_block ?_ | refine aw_skip ?_ | refine aw_true rfl ?_ | refine aw_false rfl ?_ | refine aw_exit ?_ | refine aw_label ?_ | refine aw_ret ?_ | refine And.intro rfl ?_ | refine And.intro trivial ?_ | refine And.intro (And.intro rfl (Nat.le_of_ble_eq_true rfl)) ?_ | refine And.intro (And.intro (by kernel_rfl) (by kernel_rfl)) ?_ | refine And.intro (by decide) ?_ | refine lit_true ?_ | refine lit_false ?_))
        refine aw_loop (fun x : Nat × Nat × Nat => mk 45 [(0, inss l), (5, .bp (1, nx + 1) 0), (6, .bp (3, nx + 3) 0), (7, .fn (.func 51) [] [.bp (1, nx + 1) 0, .bp (3, nx + 3) 0]), (35, ints ts), (36, int ts.length), (37, int x.1)]
          (reachH nx (nx + 1) (nx + 2) (nx + 3) x.2.1 x.2.2 l.length ((ts.take x.1).foldl lookB (o, b)))) (fun x => x.1 ≤ ts.length) (fun x => ts.length - x.1) ?_ ?_
        · exact ⟨(0, _, _), by dsimp only; omega, ele_mk rfl rfl ⟨AVle.refl _, AVle.refl _, AVle.refl _, AVle.refl _, AVle.refl _, AVle.refl _, AVle.refl _, trivial⟩⟩
        · rintro ⟨j, nx5, nn5⟩ hj
          dsimp only at hj
          (repeat ((conv => whnf); first | refine aw_seq ?_ | refine aw_region ?_ | refine aw_block ?_ | refine aw_skip ?_ | refine aw_true rfl ?_ | refine aw_false rfl ?_ | refine aw_exit ?_ | refine aw_label ?_ | refine aw_ret ?_ | refine And.intro rfl ?_ | refine And.intro trivial ?_ | refine And.intro (And.intro rfl (Nat.le_of_ble_eq_true rfl)) ?_ | refine And.intro (And.intro (by kernel_rfl) (by kernel_rfl)) ?_ | refine And.intro (by decide) ?_ | refine lit_true ?_ | refine lit_false ?_))
          intro c g5; cases c
          · have g5 := not_of g5
            dsimp only at g5
            obtain rfl : j = ts.length := by omega
            (repeat ((conv => whnf); first | refine aw_seq ?_ | refine aw_region ?_ | refine aw_block ?_ | refine aw_skip ?_ | refine aw_true rfl ?_ | refine aw_false rfl ?_ | refine aw_exit ?_ | refine aw_label ?_ | refine aw_ret ?_ | refine And.intro rfl ?_ | refine And.intro trivial ?_ | refine And.intro (And.intro rfl (Nat.le_of_ble_eq_true rfl)) ?_ | refine And.intro (And.intro (by kernel_rfl) (by kernel_rfl)) ?_ | refine And.intro (by decide) ?_ | refine lit_true ?_ | refine lit_false ?_))
            exact back ((ts.take ts.length).foldl lookB (o, b), nx5, nn5) (by rw [List.take_length]; exact hnext.1) (by rw [List.take_length]; exact hnext.2) (ele_mk rfl rfl ⟨AVle.refl _, AVle.refl _, AVle.refl _, AVle.refl _, trivial⟩)
          · have g5 := yes_of g5
            dsimp only at g5
            have hj' : j < ts.length := by omega
            have htj := hts _ (hl2 j hj')
            (repeat ((conv => whnf); first | refine aw_seq ?_ | refine aw_region ?_ | refine aw_block ?_ | refine aw_skip ?_ | refine aw_true rfl ?_ | refine aw_false rfl ?_ | refine aw_exit ?_ | refine aw_label ?_ | refine aw_ret ?_ | refine And.intro rfl ?_ | refine And.intro trivial ?_ | refine And.intro (And.intro rfl (Nat.le_of_ble_eq_true rfl)) ?_ | refine And.intro (And.intro (by kernel_rfl) (by kernel_rfl)) ?_ | refine And.intro (by decide) ?_ | refine lit_true ?_ | refine lit_false ?_))
            refine ⟨⟨by dsimp only; omega, by dsimp only; omega⟩, ?_⟩
            (repeat ((conv => whnf); first | refine aw_seq ?_ | refine aw_region ?_ | refine aw_block ?_ | refine aw_skip ?_ | refine aw_true rfl ?_ | refine aw_false rfl ?_ | refine aw_exit ?_ | refine aw_label ?_ | refine aw_ret ?_ | refine And.intro rfl ?_ | refine And.intro trivial ?_ | refine And.intro (And.intro rfl (Nat.le_of_ble_eq_true rfl)) ?_ | refine And.intro (And.intro (by kernel_rfl) (by kernel_rfl)) ?_ | refine And.intro (by decide) ?_ | refine lit_true ?_ | refine lit_false ?_))
            have hwj : Weak l.length ((ts.take j).foldl lookB (o, b)) := hw'.fold fun t ht => hts t (List.mem_of_mem_take ht)
            refine aop_call rfl rfl (ECall.args (bs := [int (ts.getD j 0 : Nat), .bp (1, nx + 1) 0, .bp (3, nx + 3) 0]) ⟨AVle.refl _, AVle.refl _, AVle.refl _, trivial⟩
              (look_spec nx (nx + 1) (nx + 2) (nx + 3) nx5 nn5 l.length ((ts.take j).foldl lookB (o, b)) (ts.getD j 0) hwj.len (fun h => hwj.room htj h) htj (by omega))) fun r h' hq => ?_
            obtain ⟨k5, rfl⟩ := hq
            refine Named.same ?_
            (repeat ((conv => whnf); first | refine aw_seq ?_ | refine aw_region ?_ | refine aw_block ?_ | refine aw_skip ?_ | refine aw_true rfl ?_ | refine aw_false rfl ?_ | refine aw_exit ?_ | refine aw_label ?_ | refine aw_ret ?_ | refine And.intro rfl ?_ | refine And.intro trivial ?_ | refine And.intro (And.intro rfl (Nat.le_of_ble_eq_true rfl)) ?_ | refine And.intro (And.intro (by kernel_rfl) (by kernel_rfl)) ?_ | refine And.intro (by decide) ?_ | refine lit_true ?_ | refine lit_false ?_))
            have hst : (ts.take (j + 1)).foldl lookB (o, b) = lookB ((ts.take j).foldl lookB (o, b)) (ts.getD j 0) := by rw [take_getD 0 hj', List.foldl_append]; rfl
            refine back (j + 1, nx5, k5) (by dsimp only; omega) (by dsimp only; omega) (ele_tell _ _ rfl rfl (List.Sublist.refl _) .slnil ?_ trivial ⟨AVle.refl _, AVle.refl _, AVle.refl _, AVle.refl _, AVle.refl _, AVle.refl _, le_int (wrap_succ (by dsimp only; omega)), trivial⟩)
            dsimp only
            rw [hst]
            exact BxLe.refl _
  · have g1 := bne_yes g1
    (repeat ((conv => whnf); first | refine aw_seq ?_ | refine aw_region ?_ | refine aw_block ?_ | refine aw_skip ?_ | refine aw_true rfl ?_ | refine aw_false rfl ?_ | refine aw_exit ?_ | refine aw_label ?_ | refine aw_ret ?_ | refine And.intro rfl ?_ | refine And.intro trivial ?_ | refine And.intro (And.intro rfl (Nat.le_of_ble_eq_true rfl)) ?_ | refine And.intro (And.intro (by kernel_rfl) (by kernel_rfl)) ?_ | refine And.intro (by decide) ?_ | refine lit_true ?_ | refine lit_false ?_))
    refine ret_tells rfl ?_
    rw [if_neg (by omega)]
    exact AVle.os_sl0
end Go.Proofs.W

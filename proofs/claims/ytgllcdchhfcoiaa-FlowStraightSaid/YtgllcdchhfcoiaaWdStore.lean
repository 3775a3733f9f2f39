import Derived.Test.YtgllcdchhfcoiaaWcForm
import Derived.Test.YtgllcdchhfcoiaaWpStore
namespace Go.Proofs.W
open Go.Vl
set_option maxRecDepth 100000

def uA (n : Nat) : AV := u16 n
theorem u49 : Try.prog.underlying 49 = some (.int .u16) := by kernel_rfl
theorem b49 : Try.prog.bytesOf 49 = 2 := by kernel_rfl
theorem c49 : Try.prog.cellsOf 49 = 1 := by kernel_rfl
theorem goes_spec (s0 s1 s2 nx nn : Nat) (i : Ins) (now to : Nat) (a : List Nat) (ht : to < a.length) (hl : a.length = 4096) (ha : small a) (hn : now < 65536) :
    ECall Try.prog 81 [int to, .bp (0, s0) 0, .bp (2, s2) 0] ⟨[((2, s2), .c [u16 now]), ((1, s1), .c (insA i).cells), ((0, s0), .c (a.map uA))], [], nx, nn⟩ fun _ h' =>
      ∃ k, h' = ⟨[((2, s2), .c [u16 now]), ((1, s1), .c (insA i).cells), ((0, s0), .c ((goI now a to).map uA))], [], nx, k⟩ := by
  refine ecall_of_aw Try.func81 rfl rfl ?_
  (repeat ((conv => whnf); first | refine aw_seq ?_ | refine aw_region ?_ | refine aw_block ?_ | refine aw_skip ?_ | refine aw_true rfl ?_ | refine aw_false rfl ?_ | refine aw_exit ?_ | refine aw_label ?_ | refine aw_ret ?_ | refine And.intro rfl ?_ | refine And.intro trivial ?_ | refine And.intro (And.intro rfl (Nat.le_of_ble_eq_true rfl)) ?_ | refine And.intro (And.intro (by kernel_rfl) (by kernel_rfl)) ?_ | refine And.intro (by decide) ?_ | refine lit_true ?_ | refine lit_false ?_))
  (refine aw_draw 6 ?_ ?_ ?_ ?_; (· kernel_rfl); (· kernel_rfl); (· kernel_rfl))
  (conv => whnf)
  refine ⟨⟨by omega, by omega⟩, ?_⟩
  have he : (0 + (Int.toNat (to : Int)) * Try.prog.cellsOf 49) = to := by rw [c49]; omega
  refine splitO_eq (b := .bp (0, s0) to) (congrArg (AV.bp (0, s0)) he) ?_
  (repeat ((conv => whnf); first | refine aw_seq ?_ | refine aw_region ?_ | refine aw_block ?_ | refine aw_skip ?_ | refine aw_true rfl ?_ | refine aw_false rfl ?_ | refine aw_exit ?_ | refine aw_label ?_ | refine aw_ret ?_ | refine And.intro rfl ?_ | refine And.intro trivial ?_ | refine And.intro (And.intro rfl (Nat.le_of_ble_eq_true rfl)) ?_ | refine And.intro (And.intro (by kernel_rfl) (by kernel_rfl)) ?_ | refine And.intro (by decide) ?_ | refine lit_true ?_ | refine lit_false ?_))
  (conv => whnf)
  refine ⟨⟨rfl, by simpa using ht⟩, splitO_eq (b := u16 (a.getD to 0)) (getD_map ht) ?_⟩
  (repeat ((conv => whnf); first | refine aw_seq ?_ | refine aw_region ?_ | refine aw_block ?_ | refine aw_skip ?_ | refine aw_true rfl ?_ | refine aw_false rfl ?_ | refine aw_exit ?_ | refine aw_label ?_ | refine aw_ret ?_ | refine And.intro rfl ?_ | refine And.intro trivial ?_ | refine And.intro (And.intro rfl (Nat.le_of_ble_eq_true rfl)) ?_ | refine And.intro (And.intro (by kernel_rfl) (by kernel_rfl)) ?_ | refine And.intro (by decide) ?_ | refine lit_true ?_ | refine lit_false ?_))
  (conv => whnf)
  refine ⟨⟨by omega, by omega⟩, splitO_eq (b := .bp (0, s0) to) (congrArg (AV.bp (0, s0)) he) ?_⟩
  (repeat ((conv => whnf); first | refine aw_seq ?_ | refine aw_region ?_ | refine aw_block ?_ | refine aw_skip ?_ | refine aw_true rfl ?_ | refine aw_false rfl ?_ | refine aw_exit ?_ | refine aw_label ?_ | refine aw_ret ?_ | refine And.intro rfl ?_ | refine And.intro trivial ?_ | refine And.intro (And.intro rfl (Nat.le_of_ble_eq_true rfl)) ?_ | refine And.intro (And.intro (by kernel_rfl) (by kernel_rfl)) ?_ | refine And.intro (by decide) ?_ | refine lit_true ?_ | refine lit_false ?_))
  have hb : bitsI .and .u16 (a.getD to 0 : Nat) now = ((a.getD to 0 &&& now : Nat) : Int) := u16_and (ha to) hn
  have hsp : splice (a.map uA) to [AV.v (.int .u16 (bitsI .and .u16 (a.getD to 0 : Nat) now))] = (goI now a to).map uA := by rw [hb]; exact splice_one ht
  (conv => whnf)
  refine ⟨⟨rfl, by simp; omega⟩, ?_⟩
  rw [hsp]
  (repeat ((conv => whnf); first | refine aw_seq ?_ | refine aw_region ?_ | refine aw_block ?_ | refine aw_skip ?_ | refine aw_true rfl ?_ | refine aw_false rfl ?_ | refine aw_exit ?_ | refine aw_label ?_ | refine aw_ret ?_ | refine And.intro rfl ?_ | refine And.intro trivial ?_ | refine And.intro (And.intro rfl (Nat.le_of_ble_eq_true rfl)) ?_ | refine And.intro (And.intro (by kernel_rfl) (by kernel_rfl)) ?_ | refine And.intro (by decide) ?_ | refine lit_true ?_ | refine lit_false ?_))
  exact ret_is rfl ⟨_, rfl⟩
theorem OwnLe.of_eq {a b : Own} (h : a = b) : OwnLe a b := h ▸ OwnLe.refl a
theorem sl_cat0 {n m : Nat} {f g g' : Nat → AV} {oi : Option Vl.Id} (h : m = n) (hg : ∀ k, k < n → g k = g' k) : AVle (.os 1 (0 + n) (appF 0 f g) oi) (.sl 1 m g') := by
  subst h
  rw [Nat.zero_add]
  exact AVle.os_sl.trans (AVle.sl_fun fun k hk => by rw [← hg k hk]; rfl)
theorem z151 : zcells Try.prog 151 = some (List.replicate 4096 (u16 0)) := by kernel_rfl
def foundS (l : List Ins) : AV := u16s (if (formedI l).2 = 0 then storedI l else [])
theorem stored_spec (l : List Ins) (hok : okL l) (hl : l.length ≤ 1000000000) : Tells Try.prog 54 [inss l] (foundS l) := by
  refine tells_of_aw Try.func54 rfl rfl fun nx => ?_
  (repeat ((conv => whnf); first | refine aw_seq ?_ | refine aw_region ?_ | refine aw_block ?_ | refine aw_skip ?_ | refine aw_true rfl ?_ | refine aw_false rfl ?_ | refine aw_exit ?_ | refine aw_label ?_ | refine aw_ret ?_ | refine And.intro rfl ?_ | refine And.intro trivial ?_ | refine And.intro (And.intro rfl (Nat.le_of_ble_eq_true rfl)) ?_ | refine And.intro (And.intro (by kernel_rfl) (by kernel_rfl)) ?_ | refine And.intro (by decide) ?_ | refine lit_true ?_ | refine lit_false ?_))
  refine aop_tells rfl rfl (formed_spec l hok hl) ⟨AVle.refl _, trivial⟩ fun nx => ?_
  (repeat ((conv => whnf); first | refine aw_seq ?_ | refine aw_region ?_ | refine aw_block ?_ | refine aw_skip ?_ | refine aw_true rfl ?_ | refine aw_false rfl ?_ | refine aw_exit ?_ | refine aw_label ?_ | refine aw_ret ?_ | refine And.intro rfl ?_ | refine And.intro trivial ?_ | refine And.intro (And.intro rfl (Nat.le_of_ble_eq_true rfl)) ?_ | refine And.intro (And.intro (by kernel_rfl) (by kernel_rfl)) ?_ | refine And.intro (by decide) ?_ | refine lit_true ?_ | refine lit_false ?_))
  intro c g1; cases c
  · have g1 := bne_no g1
    have hf : Formed l := formed_of (by omega)
    have hpos := hf.pos
    have hle := hf.le
    (repeat ((conv => whnf); first | refine aw_seq ?_ | refine aw_block ?_ | refine aw_skip ?_ | refine aw_true rfl ?_ | refine aw_false rfl ?_ | refine aw_exit ?_ | refine aw_label ?_ | refine aw_ret ?_ | refine And.intro rfl ?_ | refine And.intro trivial ?_ | refine And.intro (And.intro rfl (Nat.le_of_ble_eq_true rfl)) ?_ | refine And.intro (And.intro (by kernel_rfl) (by kernel_rfl)) ?_ | refine And.intro (by decide) ?_ | refine lit_true ?_ | refine lit_false ?_))
    refine aw_region ?_
    refine aK_alloc rfl rfl z151 ?_
    (repeat ((conv => whnf); first | refine aw_seq ?_ | refine aw_region ?_ | refine aw_block ?_ | refine aw_skip ?_ | refine aw_true rfl ?_ | refine aw_false rfl ?_ | refine aw_exit ?_ | refine aw_label ?_ | refine aw_ret ?_ | refine And.intro rfl ?_ | refine And.intro trivial ?_ | refine And.intro (And.intro rfl (Nat.le_of_ble_eq_true rfl)) ?_ | refine And.intro (And.intro (by kernel_rfl) (by kernel_rfl)) ?_ | refine And.intro (by decide) ?_ | refine lit_true ?_ | refine lit_false ?_))
    refine aw_loop (fun i : Nat => mk 105 [(0, inss l), (5, .bp (0, nx) 0), (22, int l.length), (23, int i)] ⟨[((0, nx), .c ((List.replicate i 65535 ++ List.replicate (4096 - i) 0).map uA))], [], nx + 1, 1⟩) (fun i => i ≤ l.length) (fun i => l.length - i) ?_ ?_
    · exact ⟨0, by omega, ele_tell _ _ rfl rfl (List.Sublist.refl _) .slnil ⟨rfl, OwnLe.of_eq (by simp [uA]), trivial⟩ trivial ⟨AVle.refl _, AVle.refl _, AVle.refl _, AVle.refl _, trivial⟩⟩
    · rintro i h1
      (repeat ((conv => whnf); first | refine aw_seq ?_ | refine aw_region ?_ | refine aw_block ?_ | refine aw_skip ?_ | refine aw_true rfl ?_ | refine aw_false rfl ?_ | refine aw_exit ?_ | refine aw_label ?_ | refine aw_ret ?_ | refine And.intro rfl ?_ | refine And.intro trivial ?_ | refine And.intro (And.intro rfl (Nat.le_of_ble_eq_true rfl)) ?_ | refine And.intro (And.intro (by kernel_rfl) (by kernel_rfl)) ?_ | refine And.intro (by decide) ?_ | refine lit_true ?_ | refine lit_false ?_))
      intro c g2; cases c
      · have h2 := not_of g2
        obtain rfl : i = l.length := by omega
        have he : (0 + (Int.toNat 0) * Try.prog.cellsOf 49) = 0 := by rw [c49]; rfl
        (repeat ((conv => whnf); first | refine aw_seq ?_ | refine aw_region ?_ | refine aw_block ?_ | refine aw_skip ?_ | refine aw_true rfl ?_ | refine aw_false rfl ?_ | refine aw_exit ?_ | refine aw_label ?_ | refine aw_ret ?_ | refine And.intro rfl ?_ | refine And.intro trivial ?_ | refine And.intro (And.intro rfl (Nat.le_of_ble_eq_true rfl)) ?_ | refine And.intro (And.intro (by kernel_rfl) (by kernel_rfl)) ?_ | refine And.intro (by decide) ?_ | refine lit_true ?_ | refine lit_false ?_))
        refine splitO_eq (b := .bp (0, nx) 0) (congrArg (AV.bp (0, nx)) he) ?_
        have hsp : splice ((List.replicate l.length 65535 ++ List.replicate (4096 - l.length) 0).map uA) 0 [AV.v (.int .u16 0)] = (atI l 0).map uA := splice_one (f := uA) (x := 0) (by simp; omega)
        (conv => whnf)
        refine ⟨⟨rfl, by simp; omega⟩, ?_⟩
        rw [hsp]
        (repeat ((conv => whnf); first | refine aw_seq ?_ | refine aw_region ?_ | refine aw_block ?_ | refine aw_skip ?_ | refine aw_true rfl ?_ | refine aw_false rfl ?_ | refine aw_exit ?_ | refine aw_label ?_ | refine aw_ret ?_ | refine And.intro rfl ?_ | refine And.intro trivial ?_ | refine And.intro (And.intro rfl (Nat.le_of_ble_eq_true rfl)) ?_ | refine And.intro (And.intro (by kernel_rfl) (by kernel_rfl)) ?_ | refine And.intro (by decide) ?_ | refine lit_true ?_ | refine lit_false ?_))
        refine aw_loop (fun s : Nat × Nat => mk 105 [(0, inss l), (5, .bp (0, nx) 0), (30, inss l), (31, int l.length), (32, int s.1)] ⟨[((0, nx), .c ((atI l s.1).map uA))], [], s.2, 1⟩) (fun s => s.1 ≤ l.length) (fun s => l.length - s.1) ?_ ?_
        · exact ⟨(0, _), by dsimp only; omega, ele_tell _ _ rfl rfl (List.Sublist.refl _) .slnil ⟨rfl, OwnLe.refl _, trivial⟩ trivial ⟨AVle.refl _, AVle.refl _, AVle.refl _, AVle.refl _, AVle.refl _, trivial⟩⟩
        · rintro ⟨i, nx'⟩ h3
          dsimp only at h3
          have hlen := atI_length hle i
          have hsm := atI_small hle i
          (repeat ((conv => whnf); first | refine aw_seq ?_ | refine aw_region ?_ | refine aw_block ?_ | refine aw_skip ?_ | refine aw_true rfl ?_ | refine aw_false rfl ?_ | refine aw_exit ?_ | refine aw_label ?_ | refine aw_ret ?_ | refine And.intro rfl ?_ | refine And.intro trivial ?_ | refine And.intro (And.intro rfl (Nat.le_of_ble_eq_true rfl)) ?_ | refine And.intro (And.intro (by kernel_rfl) (by kernel_rfl)) ?_ | refine And.intro (by decide) ?_ | refine lit_true ?_ | refine lit_false ?_))
          intro c g3; cases c
          · have h4 := not_of g3
            dsimp only at h4
            obtain rfl : i = l.length := by omega
            (repeat ((conv => whnf); first | refine aw_seq ?_ | refine aw_block ?_ | refine aw_skip ?_ | refine aw_true rfl ?_ | refine aw_false rfl ?_ | refine aw_exit ?_ | refine aw_label ?_ | refine aw_ret ?_ | refine And.intro rfl ?_ | refine And.intro trivial ?_ | refine And.intro (And.intro rfl (Nat.le_of_ble_eq_true rfl)) ?_ | refine And.intro (And.intro (by kernel_rfl) (by kernel_rfl)) ?_ | refine And.intro (by decide) ?_ | refine lit_true ?_ | refine lit_false ?_))
            refine AW.le (ele_freeze (L := [(0, inss l), (5, .rp ((atI l l.length).map uA))]) (bx := []) (pm := []) (nn := 1) [((0, nx), .c ((atI l l.length).map uA))] rfl rfl (List.Sublist.refl _) .slnil ⟨.refl _, .bp (.head _) rfl, trivial⟩) ?_
            (repeat ((conv => whnf); first | refine aw_seq ?_ | refine aw_region ?_ | refine aw_block ?_ | refine aw_skip ?_ | refine aw_true rfl ?_ | refine aw_false rfl ?_ | refine aw_exit ?_ | refine aw_label ?_ | refine aw_ret ?_ | refine And.intro rfl ?_ | refine And.intro trivial ?_ | refine And.intro (And.intro rfl (Nat.le_of_ble_eq_true rfl)) ?_ | refine And.intro (And.intro (by kernel_rfl) (by kernel_rfl)) ?_ | refine And.intro (by decide) ?_ | refine lit_true ?_ | refine lit_false ?_))
            (conv => whnf)
            refine ⟨⟨⟨by rw [c49, List.length_map]; omega, oneOk_map u49 rfl c49 fun _ => rfl⟩, by omega, by omega⟩, splitO_eq (b := .sl 1 l.length fun k => ((atI l l.length).map uA).getD k .any) (by rw [c49, aelem_one u49 rfl]; rfl) ?_⟩
            obtain ⟨m, hm⟩ : ∃ m, l.length = m + 1 := ⟨l.length - 1, by omega⟩
            have hst : storedI l = (atI l l.length).take l.length := rfl
            (repeat ((conv => whnf); first | refine aw_seq ?_ | refine aw_region ?_ | refine aw_block ?_ | refine aw_skip ?_ | refine aw_true rfl ?_ | refine aw_false rfl ?_ | refine aw_exit ?_ | refine aw_label ?_ | refine aw_ret ?_ | refine And.intro rfl ?_ | refine And.intro trivial ?_ | refine And.intro (And.intro rfl (Nat.le_of_ble_eq_true rfl)) ?_ | refine And.intro (And.intro (by kernel_rfl) (by kernel_rfl)) ?_ | refine And.intro (by decide) ?_ | refine lit_true ?_ | refine lit_false ?_))
            (conv => whnf)
            rw [hm]
            (repeat ((conv => whnf); first | refine aw_seq ?_ | refine aw_region ?_ | refine aw_block ?_ | refine aw_skip ?_ | refine aw_true rfl ?_ | refine aw_false rfl ?_ | refine aw_exit ?_ | refine aw_label ?_ | refine aw_ret ?_ | refine And.intro rfl ?_ | refine And.intro trivial ?_ | refine And.intro (And.intro rfl (Nat.le_of_ble_eq_true rfl)) ?_ | refine And.intro (And.intro (by kernel_rfl) (by kernel_rfl)) ?_ | refine And.intro (by decide) ?_ | refine lit_true ?_ | refine lit_false ?_))
            (conv => whnf)
            have hone : oneRow (m + 1) fun k => ((atI l (m + 1)).map uA).getD k .any := fun k hk => by
              dsimp only; rw [getD_map (d := 0) (by rw [hm] at hlen; omega)]; rfl
            refine ⟨hone, by rw [b49]; omega, by omega, ?_⟩
            (repeat ((conv => whnf); first | refine aw_seq ?_ | refine aw_region ?_ | refine aw_block ?_ | refine aw_skip ?_ | refine aw_true rfl ?_ | refine aw_false rfl ?_ | refine aw_exit ?_ | refine aw_label ?_ | refine aw_ret ?_ | refine And.intro rfl ?_ | refine And.intro trivial ?_ | refine And.intro (And.intro rfl (Nat.le_of_ble_eq_true rfl)) ?_ | refine And.intro (And.intro (by kernel_rfl) (by kernel_rfl)) ?_ | refine And.intro (by decide) ?_ | refine lit_true ?_ | refine lit_false ?_))
            refine ret_tells rfl ?_
            unfold foundS
            rw [if_pos (by omega)]
            have hsl : (storedI l).length = m + 1 := by rw [hst, List.length_take, hlen]; omega
            refine sl_cat0 hsl fun k hk => ?_
            dsimp only
            have hkm : (atI l l.length).getD k 0 = (storedI l).getD k 0 := by
              rw [hst]; simp only [List.getD, List.getElem?_take]; rw [if_pos (by omega)]
            rw [← hkm, hm, getD_map (d := 0) (by rw [hm] at hlen; omega)]; rfl
          · have h4 := yes_of g3
            dsimp only at h4
            have hi : i < l.length := by omega
            have hit : (0 + (Int.toNat (i : Int)) * Try.prog.cellsOf 49) = i := by rw [c49]; omega
            have hki : (l.getD i ins0).ok := hok.get hi
            have hwr := hf.ok i hi
            have hpt := wrong_parts hwr
            have hnx := nexts_lt hf hi
            have hnow := now_small (hsm i) hwr
            have hstep := atI_succ l i
            (repeat ((conv => whnf); first | refine aw_seq ?_ | refine aw_region ?_ | refine aw_block ?_ | refine aw_skip ?_ | refine aw_true rfl ?_ | refine aw_false rfl ?_ | refine aw_exit ?_ | refine aw_label ?_ | refine aw_ret ?_ | refine And.intro rfl ?_ | refine And.intro trivial ?_ | refine And.intro (And.intro rfl (Nat.le_of_ble_eq_true rfl)) ?_ | refine And.intro (And.intro (by kernel_rfl) (by kernel_rfl)) ?_ | refine And.intro (by decide) ?_ | refine lit_true ?_ | refine lit_false ?_))
            refine ⟨⟨by dsimp only; omega, by dsimp only; omega⟩, ?_⟩
            (repeat ((conv => whnf); first | refine aw_seq ?_ | refine aw_region ?_ | refine aw_block ?_ | refine aw_skip ?_ | refine aw_true rfl ?_ | refine aw_false rfl ?_ | refine aw_exit ?_ | refine aw_label ?_ | refine aw_ret ?_ | refine And.intro rfl ?_ | refine And.intro trivial ?_ | refine And.intro (And.intro rfl (Nat.le_of_ble_eq_true rfl)) ?_ | refine And.intro (And.intro (by kernel_rfl) (by kernel_rfl)) ?_ | refine And.intro (by decide) ?_ | refine lit_true ?_ | refine lit_false ?_))
            refine aop_tells rfl rfl (of_kind (l.getD i ins0).code hki.1) ⟨AVle.refl _, trivial⟩ fun nx3 => ?_
            (repeat ((conv => whnf); first | refine aw_seq ?_ | refine aw_region ?_ | refine aw_block ?_ | refine aw_skip ?_ | refine aw_true rfl ?_ | refine aw_false rfl ?_ | refine aw_exit ?_ | refine aw_label ?_ | refine aw_ret ?_ | refine And.intro rfl ?_ | refine And.intro trivial ?_ | refine And.intro (And.intro rfl (Nat.le_of_ble_eq_true rfl)) ?_ | refine And.intro (And.intro (by kernel_rfl) (by kernel_rfl)) ?_ | refine And.intro (by decide) ?_ | refine lit_true ?_ | refine lit_false ?_))
            refine ⟨⟨by dsimp only; omega, by dsimp only; omega⟩, splitO_eq (b := .bp (0, _) i) (congrArg (AV.bp (0, _)) hit) ?_⟩
            (conv => whnf)
            refine ⟨⟨rfl, by simp; omega⟩, splitO_eq (b := u16 ((atI l i).getD i 0 : Nat)) (getD_map (by dsimp only; omega)) ?_⟩
            (repeat ((conv => whnf); first | refine aw_seq ?_ | refine aw_region ?_ | refine aw_block ?_ | refine aw_skip ?_ | refine aw_true rfl ?_ | refine aw_false rfl ?_ | refine aw_exit ?_ | refine aw_label ?_ | refine aw_ret ?_ | refine And.intro rfl ?_ | refine And.intro trivial ?_ | refine And.intro (And.intro rfl (Nat.le_of_ble_eq_true rfl)) ?_ | refine And.intro (And.intro (by kernel_rfl) (by kernel_rfl)) ?_ | refine And.intro (by decide) ?_ | refine lit_true ?_ | refine lit_false ?_))
            intro c a1; cases c
            · have a1 := not_of a1
              (repeat ((conv => whnf); first | refine aw_seq ?_ | refine aw_region ?_ | refine aw_block ?_ | refine aw_skip ?_ | refine aw_true rfl ?_ | refine aw_false rfl ?_ | refine aw_exit ?_ | refine aw_label ?_ | refine aw_ret ?_ | refine And.intro rfl ?_ | refine And.intro trivial ?_ | refine And.intro (And.intro rfl (Nat.le_of_ble_eq_true rfl)) ?_ | refine And.intro (And.intro (by kernel_rfl) (by kernel_rfl)) ?_ | refine And.intro (by decide) ?_ | refine lit_true ?_ | refine lit_false ?_))
              intro c a2; cases c
              · have a2 := not_of a2
                have hnowd : nowI (l.getD i ins0) ((atI l i).getD i 0) = (atI l i).getD i 0 := if_neg (by unfold isStore; omega)
                generalize hnn : (atI l i).getD i 0 = now at hnowd ⊢
                rw [hnn, hnowd] at hnow
                (repeat ((conv => whnf); first | refine aw_seq ?_ | refine aw_region ?_ | refine aw_block ?_ | refine aw_skip ?_ | refine aw_true rfl ?_ | refine aw_false rfl ?_ | refine aw_exit ?_ | refine aw_label ?_ | refine aw_ret ?_ | refine And.intro rfl ?_ | refine And.intro trivial ?_ | refine And.intro (And.intro rfl (Nat.le_of_ble_eq_true rfl)) ?_ | refine And.intro (And.intro (by kernel_rfl) (by kernel_rfl)) ?_ | refine And.intro (by decide) ?_ | refine lit_true ?_ | refine lit_false ?_))
                intro c b1; cases c
                · have b1 := not_of b1
                  (repeat ((conv => whnf); first | refine aw_seq ?_ | refine aw_region ?_ | refine aw_block ?_ | refine aw_skip ?_ | refine aw_true rfl ?_ | refine aw_false rfl ?_ | refine aw_exit ?_ | refine aw_label ?_ | refine aw_ret ?_ | refine And.intro rfl ?_ | refine And.intro trivial ?_ | refine And.intro (And.intro rfl (Nat.le_of_ble_eq_true rfl)) ?_ | refine And.intro (And.intro (by kernel_rfl) (by kernel_rfl)) ?_ | refine And.intro (by decide) ?_ | refine lit_true ?_ | refine lit_false ?_))
                  intro c b2; cases c
                  · have b2 := not_of b2
                    (repeat ((conv => whnf); first | refine aw_seq ?_ | refine aw_region ?_ | refine aw_block ?_ | refine aw_skip ?_ | refine aw_true rfl ?_ | refine aw_false rfl ?_ | refine aw_exit ?_ | refine aw_label ?_ | refine aw_ret ?_ | refine And.intro rfl ?_ | refine And.intro trivial ?_ | refine And.intro (And.intro rfl (Nat.le_of_ble_eq_true rfl)) ?_ | refine And.intro (And.intro (by kernel_rfl) (by kernel_rfl)) ?_ | refine And.intro (by decide) ?_ | refine lit_true ?_ | refine lit_false ?_))
                    intro c b3; cases c
                    · have b3 := not_of b3
                      (repeat ((conv => whnf); first | refine aw_seq ?_ | refine aw_region ?_ | refine aw_block ?_ | refine aw_skip ?_ | refine aw_true rfl ?_ | refine aw_false rfl ?_ | refine aw_exit ?_ | refine aw_label ?_ | refine aw_ret ?_ | refine And.intro rfl ?_ | refine And.intro trivial ?_ | refine And.intro (And.intro rfl (Nat.le_of_ble_eq_true rfl)) ?_ | refine And.intro (And.intro (by kernel_rfl) (by kernel_rfl)) ?_ | refine And.intro (by decide) ?_ | refine lit_true ?_ | refine lit_false ?_))
                      intro c b4; cases c
                      · have b4 := not_of b4
                        have hnxt : nextsI l i = [i + 1] := by unfold nextsI kind; rw [if_neg (by omega), if_neg (by omega), if_neg (by omega)]
                        (repeat ((conv => whnf); first | refine aw_seq ?_ | refine aw_region ?_ | refine aw_block ?_ | refine aw_skip ?_ | refine aw_true rfl ?_ | refine aw_false rfl ?_ | refine aw_exit ?_ | refine aw_label ?_ | refine aw_ret ?_ | refine And.intro rfl ?_ | refine And.intro trivial ?_ | refine And.intro (And.intro rfl (Nat.le_of_ble_eq_true rfl)) ?_ | refine And.intro (And.intro (by kernel_rfl) (by kernel_rfl)) ?_ | refine And.intro (by decide) ?_ | refine lit_true ?_ | refine lit_false ?_))
                        refine aop_call rfl rfl (ECall.args (bs := [int (i + 1 : Nat), .bp (0, _) 0, .bp (2, _) 0]) ⟨le_int (wrap_succ (by dsimp only; omega)), AVle.refl _, AVle.refl _, trivial⟩
                          (goes_spec nx nx' nx3 _ _ (l.getD i ins0) now (i + 1) (atI l i) (by have := (hnx (i + 1) (by rw [hnxt]; simp)).2; omega) (by first | omega | (simp only [goI_length]; omega)) (hsm) hnow)) fun r h' hq => ?_
                        obtain ⟨kk, rfl⟩ := hq
                        refine Named.same ?_
                        (repeat ((conv => whnf); first | refine aw_seq ?_ | refine aw_region ?_ | refine aw_block ?_ | refine aw_skip ?_ | refine aw_true rfl ?_ | refine aw_false rfl ?_ | refine aw_exit ?_ | refine aw_label ?_ | refine aw_ret ?_ | refine And.intro rfl ?_ | refine And.intro trivial ?_ | refine And.intro (And.intro rfl (Nat.le_of_ble_eq_true rfl)) ?_ | refine And.intro (And.intro (by kernel_rfl) (by kernel_rfl)) ?_ | refine And.intro (by decide) ?_ | refine lit_true ?_ | refine lit_false ?_))
                        refine back (i + 1, _) (by dsimp only; omega) (by dsimp only; omega) (ele_tell [((0, _), .c ((goI now (atI l i) (i + 1)).map uA))] [] rfl rfl (.cons _ (.cons _ (.cons_cons _ .slnil))) .slnil ⟨rfl, OwnLe.of_eq ?_, trivial⟩ trivial ⟨AVle.refl _, AVle.refl _, AVle.refl _, AVle.refl _, le_int (wrap_succ (by dsimp only; omega)), trivial⟩)
                        dsimp only
                        rw [hstep]; unfold stepS; rw [hnxt]; (try rw [hnn]); rw [hnowd]; rfl
                      · have b4 := yes_of b4
                        have hnxt : nextsI l i = [i + 1 + (l.getD i ins0).jt, i + 1 + (l.getD i ins0).jf] := by unfold nextsI kind; rw [if_neg (by omega), if_neg (by omega), if_pos (by omega)]
                        (repeat ((conv => whnf); first | refine aw_seq ?_ | refine aw_region ?_ | refine aw_block ?_ | refine aw_skip ?_ | refine aw_true rfl ?_ | refine aw_false rfl ?_ | refine aw_exit ?_ | refine aw_label ?_ | refine aw_ret ?_ | refine And.intro rfl ?_ | refine And.intro trivial ?_ | refine And.intro (And.intro rfl (Nat.le_of_ble_eq_true rfl)) ?_ | refine And.intro (And.intro (by kernel_rfl) (by kernel_rfl)) ?_ | refine And.intro (by decide) ?_ | refine lit_true ?_ | refine lit_false ?_))
                        refine aop_call rfl rfl (ECall.args (bs := [int (i + 1 + (l.getD i ins0).jt : Nat), .bp (0, _) 0, .bp (2, _) 0]) ⟨le_int (by show IntKind.i64.wrap (IntKind.i64.wrap ((i : Int) + 1) + IntKind.i64.wrap (((l.getD i ins0).jt : Nat) : Int)) = _; rw [show IntKind.i64.wrap (((l.getD i ins0).jt : Nat) : Int) = ((l.getD i ins0).jt : Nat) from wrap_id (by omega) (by omega), show IntKind.i64.wrap ((i : Int) + 1) = (i : Int) + 1 from wrap_id (by omega) (by omega), wrap_id (by omega) (by omega)]; omega), AVle.refl _, AVle.refl _, trivial⟩
                          (goes_spec nx nx' nx3 _ _ (l.getD i ins0) now (i + 1 + (l.getD i ins0).jt) (atI l i) (by have := (hnx (i + 1 + (l.getD i ins0).jt) (by rw [hnxt]; simp)).2; omega) (by first | omega | (simp only [goI_length]; omega)) (hsm) hnow)) fun r h' hq => ?_
                        obtain ⟨kk, rfl⟩ := hq
                        refine Named.same ?_
                        (repeat ((conv => whnf); first | refine aw_seq ?_ | refine aw_region ?_ | refine aw_block ?_ | refine aw_skip ?_ | refine aw_true rfl ?_ | refine aw_false rfl ?_ | refine aw_exit ?_ | refine aw_label ?_ | refine aw_ret ?_ | refine And.intro rfl ?_ | refine And.intro trivial ?_ | refine And.intro (And.intro rfl (Nat.le_of_ble_eq_true rfl)) ?_ | refine And.intro (And.intro (by kernel_rfl) (by kernel_rfl)) ?_ | refine And.intro (by decide) ?_ | refine lit_true ?_ | refine lit_false ?_))
                        refine aop_call rfl rfl (ECall.args (bs := [int (i + 1 + (l.getD i ins0).jf : Nat), .bp (0, _) 0, .bp (2, _) 0]) ⟨le_int (by show IntKind.i64.wrap (IntKind.i64.wrap ((i : Int) + 1) + IntKind.i64.wrap (((l.getD i ins0).jf : Nat) : Int)) = _; rw [show IntKind.i64.wrap (((l.getD i ins0).jf : Nat) : Int) = ((l.getD i ins0).jf : Nat) from wrap_id (by omega) (by omega), show IntKind.i64.wrap ((i : Int) + 1) = (i : Int) + 1 from wrap_id (by omega) (by omega), wrap_id (by omega) (by omega)]; omega), AVle.refl _, AVle.refl _, trivial⟩
                          (goes_spec nx nx' nx3 _ _ (l.getD i ins0) now (i + 1 + (l.getD i ins0).jf) (goI now (atI l i) (i + 1 + (l.getD i ins0).jt)) (by have := (hnx (i + 1 + (l.getD i ins0).jf) (by rw [hnxt]; simp)).2; simp only [goI_length]; omega) (by first | omega | (simp only [goI_length]; omega)) (goI_small hsm) hnow)) fun r h' hq => ?_
                        obtain ⟨kk, rfl⟩ := hq
                        refine Named.same ?_
                        (repeat ((conv => whnf); first | refine aw_seq ?_ | refine aw_region ?_ | refine aw_block ?_ | refine aw_skip ?_ | refine aw_true rfl ?_ | refine aw_false rfl ?_ | refine aw_exit ?_ | refine aw_label ?_ | refine aw_ret ?_ | refine And.intro rfl ?_ | refine And.intro trivial ?_ | refine And.intro (And.intro rfl (Nat.le_of_ble_eq_true rfl)) ?_ | refine And.intro (And.intro (by kernel_rfl) (by kernel_rfl)) ?_ | refine And.intro (by decide) ?_ | refine lit_true ?_ | refine lit_false ?_))
                        refine back (i + 1, _) (by dsimp only; omega) (by dsimp only; omega) (ele_tell [((0, _), .c ((goI now (goI now (atI l i) (i + 1 + (l.getD i ins0).jt)) (i + 1 + (l.getD i ins0).jf)).map uA))] [] rfl rfl (.cons _ (.cons _ (.cons_cons _ .slnil))) .slnil ⟨rfl, OwnLe.of_eq ?_, trivial⟩ trivial ⟨AVle.refl _, AVle.refl _, AVle.refl _, AVle.refl _, le_int (wrap_succ (by dsimp only; omega)), trivial⟩)
                        dsimp only
                        rw [hstep]; unfold stepS; rw [hnxt]; (try rw [hnn]); rw [hnowd]; rfl
                    · have b3 := yes_of b3
                      have hnxt : nextsI l i = [i + 1 + (l.getD i ins0).k] := by unfold nextsI kind; rw [if_neg (by omega), if_pos (by omega)]
                      (repeat ((conv => whnf); first | refine aw_seq ?_ | refine aw_region ?_ | refine aw_block ?_ | refine aw_skip ?_ | refine aw_true rfl ?_ | refine aw_false rfl ?_ | refine aw_exit ?_ | refine aw_label ?_ | refine aw_ret ?_ | refine And.intro rfl ?_ | refine And.intro trivial ?_ | refine And.intro (And.intro rfl (Nat.le_of_ble_eq_true rfl)) ?_ | refine And.intro (And.intro (by kernel_rfl) (by kernel_rfl)) ?_ | refine And.intro (by decide) ?_ | refine lit_true ?_ | refine lit_false ?_))
                      refine aop_call rfl rfl (ECall.args (bs := [int (i + 1 + (l.getD i ins0).k : Nat), .bp (0, _) 0, .bp (2, _) 0]) ⟨le_int (by show IntKind.i64.wrap (IntKind.i64.wrap ((i : Int) + 1) + IntKind.i64.wrap (((l.getD i ins0).k : Nat) : Int)) = _; rw [show IntKind.i64.wrap (((l.getD i ins0).k : Nat) : Int) = ((l.getD i ins0).k : Nat) from wrap_id (by omega) (by omega), show IntKind.i64.wrap ((i : Int) + 1) = (i : Int) + 1 from wrap_id (by omega) (by omega), wrap_id (by omega) (by omega)]; omega), AVle.refl _, AVle.refl _, trivial⟩
                        (goes_spec nx nx' nx3 _ _ (l.getD i ins0) now (i + 1 + (l.getD i ins0).k) (atI l i) (by have := (hnx (i + 1 + (l.getD i ins0).k) (by rw [hnxt]; simp)).2; omega) (by first | omega | (simp only [goI_length]; omega)) (hsm) hnow)) fun r h' hq => ?_
                      obtain ⟨kk, rfl⟩ := hq
                      refine Named.same ?_
                      (repeat ((conv => whnf); first | refine aw_seq ?_ | refine aw_region ?_ | refine aw_block ?_ | refine aw_skip ?_ | refine aw_true rfl ?_ | refine aw_false rfl ?_ | refine aw_exit ?_ | refine aw_label ?_ | refine aw_ret ?_ | refine And.intro rfl ?_ | refine And.intro trivial ?_ | refine And.intro (And.intro rfl (Nat.le_of_ble_eq_true rfl)) ?_ | refine And.intro (And.intro (by kernel_rfl) (by kernel_rfl)) ?_ | refine And.intro (by decide) ?_ | refine lit_true ?_ | refine lit_false ?_))
                      refine back (i + 1, _) (by dsimp only; omega) (by dsimp only; omega) (ele_tell [((0, _), .c ((goI now (atI l i) (i + 1 + (l.getD i ins0).k)).map uA))] [] rfl rfl (.cons _ (.cons _ (.cons_cons _ .slnil))) .slnil ⟨rfl, OwnLe.of_eq ?_, trivial⟩ trivial ⟨AVle.refl _, AVle.refl _, AVle.refl _, AVle.refl _, le_int (wrap_succ (by dsimp only; omega)), trivial⟩)
                      dsimp only
                      rw [hstep]; unfold stepS; rw [hnxt]; (try rw [hnn]); rw [hnowd]; rfl
                  · have b2 := yes_of b2
                    have hnxt : nextsI l i = [] := by unfold nextsI kind; rw [if_pos (by omega)]
                    (repeat ((conv => whnf); first | refine aw_seq ?_ | refine aw_region ?_ | refine aw_block ?_ | refine aw_skip ?_ | refine aw_true rfl ?_ | refine aw_false rfl ?_ | refine aw_exit ?_ | refine aw_label ?_ | refine aw_ret ?_ | refine And.intro rfl ?_ | refine And.intro trivial ?_ | refine And.intro (And.intro rfl (Nat.le_of_ble_eq_true rfl)) ?_ | refine And.intro (And.intro (by kernel_rfl) (by kernel_rfl)) ?_ | refine And.intro (by decide) ?_ | refine lit_true ?_ | refine lit_false ?_))
                    refine back (i + 1, _) (by dsimp only; omega) (by dsimp only; omega) (ele_tell [((0, _), .c ((atI l i).map uA))] [] rfl rfl (.cons _ (.cons _ (.cons_cons _ .slnil))) .slnil ⟨rfl, OwnLe.of_eq ?_, trivial⟩ trivial ⟨AVle.refl _, AVle.refl _, AVle.refl _, AVle.refl _, le_int (wrap_succ (by dsimp only; omega)), trivial⟩)
                    dsimp only
                    rw [hstep]; unfold stepS; rw [hnxt]; (try rw [hnn]); rw [hnowd]; rfl
                · have b1 := yes_of b1
                  have hnxt : nextsI l i = [] := by unfold nextsI kind; rw [if_pos (by omega)]
                  (repeat ((conv => whnf); first | refine aw_seq ?_ | refine aw_region ?_ | refine aw_block ?_ | refine aw_skip ?_ | refine aw_true rfl ?_ | refine aw_false rfl ?_ | refine aw_exit ?_ | refine aw_label ?_ | refine aw_ret ?_ | refine And.intro rfl ?_ | refine And.intro trivial ?_ | refine And.intro (And.intro rfl (Nat.le_of_ble_eq_true rfl)) ?_ | refine And.intro (And.intro (by kernel_rfl) (by kernel_rfl)) ?_ | refine And.intro (by decide) ?_ | refine lit_true ?_ | refine lit_false ?_))
                  refine back (i + 1, _) (by dsimp only; omega) (by dsimp only; omega) (ele_tell [((0, _), .c ((atI l i).map uA))] [] rfl rfl (.cons _ (.cons _ (.cons_cons _ .slnil))) .slnil ⟨rfl, OwnLe.of_eq ?_, trivial⟩ trivial ⟨AVle.refl _, AVle.refl _, AVle.refl _, AVle.refl _, le_int (wrap_succ (by dsimp only; omega)), trivial⟩)
                  dsimp only
                  rw [hstep]; unfold stepS; rw [hnxt]; (try rw [hnn]); rw [hnowd]; rfl
              · have a2 := yes_of a2
                have hnowd : nowI (l.getD i ins0) ((atI l i).getD i 0) = (atI l i).getD i 0 ||| 2 ^ (l.getD i ins0).k := if_pos (by unfold isStore; omega)
                have hk16 : (l.getD i ins0).k < 16 := by omega
                have hp16 : 2 ^ (l.getD i ins0).k < 65536 := Nat.pow_lt_pow_right (n := 16) (by decide) hk16
                have hsh : IntKind.u16.wrap (1 * 2 ^ (min (Int.toNat ((l.getD i ins0).k : Nat)) IntKind.u16.bits)) = ((2 ^ (l.getD i ins0).k : Nat) : Int) := by
                  have : min (Int.toNat ((l.getD i ins0).k : Nat)) IntKind.u16.bits = (l.getD i ins0).k := by show min _ 16 = _; omega
                  have h2 : ((1 : Int) * 2 ^ (l.getD i ins0).k) = ((2 ^ (l.getD i ins0).k : Nat) : Int) := by simp
                  rw [this, h2]
                  refine IntWalk.u16_in _ ?_
                  generalize 2 ^ (l.getD i ins0).k = q at hp16
                  omega
                have hor : bitsI .or .u16 ((atI l i).getD i 0 : Nat) ((2 ^ (l.getD i ins0).k : Nat) : Int) = (((atI l i).getD i 0 ||| 2 ^ (l.getD i ins0).k : Nat) : Int) := u16_or (hsm i) hp16
                have hnxt : nextsI l i = [i + 1] := by unfold nextsI kind; rw [if_neg (by omega), if_neg (by omega), if_neg (by omega)]
                generalize hnn : (atI l i).getD i 0 ||| 2 ^ (l.getD i ins0).k = now at hnowd hor
                rw [hnowd] at hnow
                (repeat ((conv => whnf); first | refine aw_seq ?_ | refine aw_region ?_ | refine aw_block ?_ | refine aw_skip ?_ | refine aw_true rfl ?_ | refine aw_false rfl ?_ | refine aw_exit ?_ | refine aw_label ?_ | refine aw_ret ?_ | refine And.intro rfl ?_ | refine And.intro trivial ?_ | refine And.intro (And.intro rfl (Nat.le_of_ble_eq_true rfl)) ?_ | refine And.intro (And.intro (by kernel_rfl) (by kernel_rfl)) ?_ | refine And.intro (by decide) ?_ | refine lit_true ?_ | refine lit_false ?_))
                (conv => whnf)
                refine ⟨Int.natCast_nonneg _, splitO_eq (b := u16 ((2 ^ (l.getD i ins0).k : Nat) : Int)) (congrArg (fun x : Int => u16 x) hsh) ?_⟩
                (repeat ((conv => whnf); first | refine aw_seq ?_ | refine aw_region ?_ | refine aw_block ?_ | refine aw_skip ?_ | refine aw_true rfl ?_ | refine aw_false rfl ?_ | refine aw_exit ?_ | refine aw_label ?_ | refine aw_ret ?_ | refine And.intro rfl ?_ | refine And.intro trivial ?_ | refine And.intro (And.intro rfl (Nat.le_of_ble_eq_true rfl)) ?_ | refine And.intro (And.intro (by kernel_rfl) (by kernel_rfl)) ?_ | refine And.intro (by decide) ?_ | refine lit_true ?_ | refine lit_false ?_))
                intro c b1; cases c
                case true => exact absurd (yes_of b1) (by omega)
                (repeat ((conv => whnf); first | refine aw_seq ?_ | refine aw_region ?_ | refine aw_block ?_ | refine aw_skip ?_ | refine aw_true rfl ?_ | refine aw_false rfl ?_ | refine aw_exit ?_ | refine aw_label ?_ | refine aw_ret ?_ | refine And.intro rfl ?_ | refine And.intro trivial ?_ | refine And.intro (And.intro rfl (Nat.le_of_ble_eq_true rfl)) ?_ | refine And.intro (And.intro (by kernel_rfl) (by kernel_rfl)) ?_ | refine And.intro (by decide) ?_ | refine lit_true ?_ | refine lit_false ?_))
                intro c b2; cases c
                case true => exact absurd (yes_of b2) (by omega)
                (repeat ((conv => whnf); first | refine aw_seq ?_ | refine aw_region ?_ | refine aw_block ?_ | refine aw_skip ?_ | refine aw_true rfl ?_ | refine aw_false rfl ?_ | refine aw_exit ?_ | refine aw_label ?_ | refine aw_ret ?_ | refine And.intro rfl ?_ | refine And.intro trivial ?_ | refine And.intro (And.intro rfl (Nat.le_of_ble_eq_true rfl)) ?_ | refine And.intro (And.intro (by kernel_rfl) (by kernel_rfl)) ?_ | refine And.intro (by decide) ?_ | refine lit_true ?_ | refine lit_false ?_))
                intro c b3; cases c
                case true => exact absurd (yes_of b3) (by omega)
                (repeat ((conv => whnf); first | refine aw_seq ?_ | refine aw_region ?_ | refine aw_block ?_ | refine aw_skip ?_ | refine aw_true rfl ?_ | refine aw_false rfl ?_ | refine aw_exit ?_ | refine aw_label ?_ | refine aw_ret ?_ | refine And.intro rfl ?_ | refine And.intro trivial ?_ | refine And.intro (And.intro rfl (Nat.le_of_ble_eq_true rfl)) ?_ | refine And.intro (And.intro (by kernel_rfl) (by kernel_rfl)) ?_ | refine And.intro (by decide) ?_ | refine lit_true ?_ | refine lit_false ?_))
                intro c b4; cases c
                case true => exact absurd (yes_of b4) (by omega)
                (repeat ((conv => whnf); first | refine aw_seq ?_ | refine aw_region ?_ | refine aw_block ?_ | refine aw_skip ?_ | refine aw_true rfl ?_ | refine aw_false rfl ?_ | refine aw_exit ?_ | refine aw_label ?_ | refine aw_ret ?_ | refine And.intro rfl ?_ | refine And.intro trivial ?_ | refine And.intro (And.intro rfl (Nat.le_of_ble_eq_true rfl)) ?_ | refine And.intro (And.intro (by kernel_rfl) (by kernel_rfl)) ?_ | refine And.intro (by decide) ?_ | refine lit_true ?_ | refine lit_false ?_))
                refine aop_call rfl rfl (ECall.args (bs := [int (i + 1 : Nat), .bp (0, _) 0, .bp (2, _) 0]) ⟨le_int (wrap_succ (by dsimp only; omega)), AVle.refl _, AVle.refl _, trivial⟩
                  (ECall.tell (goes_spec nx nx' nx3 (nx3 + 1) 3 (l.getD i ins0) now (i + 1) (atI l i) (by have := (hnx (i + 1) (by rw [hnxt]; simp)).2; omega) (by first | omega | (simp only [goI_length]; omega)) (hsm) hnow) ⟨rfl, OwnLe.of_eq (by rw [hor]; rfl), rfl, OwnLe.refl _, rfl, OwnLe.refl _, trivial⟩ trivial rfl)) fun r h' hq => ?_
                obtain ⟨kk, rfl⟩ := hq
                refine Named.same ?_
                (repeat ((conv => whnf); first | refine aw_seq ?_ | refine aw_region ?_ | refine aw_block ?_ | refine aw_skip ?_ | refine aw_true rfl ?_ | refine aw_false rfl ?_ | refine aw_exit ?_ | refine aw_label ?_ | refine aw_ret ?_ | refine And.intro rfl ?_ | refine And.intro trivial ?_ | refine And.intro (And.intro rfl (Nat.le_of_ble_eq_true rfl)) ?_ | refine And.intro (And.intro (by kernel_rfl) (by kernel_rfl)) ?_ | refine And.intro (by decide) ?_ | refine lit_true ?_ | refine lit_false ?_))
                refine back (i + 1, _) (by dsimp only; omega) (by dsimp only; omega) (ele_tell [((0, _), .c ((goI now (atI l i) (i + 1)).map uA))] [] rfl rfl (.cons _ (.cons _ (.cons_cons _ .slnil))) .slnil ⟨rfl, OwnLe.of_eq ?_, trivial⟩ trivial ⟨AVle.refl _, AVle.refl _, AVle.refl _, AVle.refl _, le_int (wrap_succ (by dsimp only; omega)), trivial⟩)
                dsimp only
                rw [hstep]; unfold stepS; rw [hnxt]; (try rw [hnn]); rw [hnowd]; rfl
            · have a1 := yes_of a1
              have hnowd : nowI (l.getD i ins0) ((atI l i).getD i 0) = (atI l i).getD i 0 ||| 2 ^ (l.getD i ins0).k := if_pos (by unfold isStore; omega)
              have hk16 : (l.getD i ins0).k < 16 := by omega
              have hp16 : 2 ^ (l.getD i ins0).k < 65536 := Nat.pow_lt_pow_right (n := 16) (by decide) hk16
              have hsh : IntKind.u16.wrap (1 * 2 ^ (min (Int.toNat ((l.getD i ins0).k : Nat)) IntKind.u16.bits)) = ((2 ^ (l.getD i ins0).k : Nat) : Int) := by
                have : min (Int.toNat ((l.getD i ins0).k : Nat)) IntKind.u16.bits = (l.getD i ins0).k := by show min _ 16 = _; omega
                have h2 : ((1 : Int) * 2 ^ (l.getD i ins0).k) = ((2 ^ (l.getD i ins0).k : Nat) : Int) := by simp
                rw [this, h2]
                refine IntWalk.u16_in _ ?_
                generalize 2 ^ (l.getD i ins0).k = q at hp16
                omega
              have hor : bitsI .or .u16 ((atI l i).getD i 0 : Nat) ((2 ^ (l.getD i ins0).k : Nat) : Int) = (((atI l i).getD i 0 ||| 2 ^ (l.getD i ins0).k : Nat) : Int) := u16_or (hsm i) hp16
              have hnxt : nextsI l i = [i + 1] := by unfold nextsI kind; rw [if_neg (by omega), if_neg (by omega), if_neg (by omega)]
              generalize hnn : (atI l i).getD i 0 ||| 2 ^ (l.getD i ins0).k = now at hnowd hor
              rw [hnowd] at hnow
              (repeat ((conv => whnf); first | refine aw_seq ?_ | refine aw_region ?_ | refine aw_block ?_ | refine aw_skip ?_ | refine aw_true rfl ?_ | refine aw_false rfl ?_ | refine aw_exit ?_ | refine aw_label ?_ | refine aw_ret ?_ | refine And.intro rfl ?_ | refine And.intro trivial ?_ | refine And.intro (And.intro rfl (Nat.le_of_ble_eq_true rfl)) ?_ | refine And.intro (And.intro (by kernel_rfl) (by kernel_rfl)) ?_ | refine And.intro (by decide) ?_ | refine lit_true ?_ | refine lit_false ?_))
              (conv => whnf)
              refine ⟨Int.natCast_nonneg _, splitO_eq (b := u16 ((2 ^ (l.getD i ins0).k : Nat) : Int)) (congrArg (fun x : Int => u16 x) hsh) ?_⟩
              (repeat ((conv => whnf); first | refine aw_seq ?_ | refine aw_region ?_ | refine aw_block ?_ | refine aw_skip ?_ | refine aw_true rfl ?_ | refine aw_false rfl ?_ | refine aw_exit ?_ | refine aw_label ?_ | refine aw_ret ?_ | refine And.intro rfl ?_ | refine And.intro trivial ?_ | refine And.intro (And.intro rfl (Nat.le_of_ble_eq_true rfl)) ?_ | refine And.intro (And.intro (by kernel_rfl) (by kernel_rfl)) ?_ | refine And.intro (by decide) ?_ | refine lit_true ?_ | refine lit_false ?_))
              intro c b1; cases c
              case true => exact absurd (yes_of b1) (by omega)
              (repeat ((conv => whnf); first | refine aw_seq ?_ | refine aw_region ?_ | refine aw_block ?_ | refine aw_skip ?_ | refine aw_true rfl ?_ | refine aw_false rfl ?_ | refine aw_exit ?_ | refine aw_label ?_ | refine aw_ret ?_ | refine And.intro rfl ?_ | refine And.intro trivial ?_ | refine And.intro (And.intro rfl (Nat.le_of_ble_eq_true rfl)) ?_ | refine And.intro (And.intro (by kernel_rfl) (by kernel_rfl)) ?_ | refine And.intro (by decide) ?_ | refine lit_true ?_ | refine lit_false ?_))
              intro c b2; cases c
              case true => exact absurd (yes_of b2) (by omega)
              (repeat ((conv => whnf); first | refine aw_seq ?_ | refine aw_region ?_ | refine aw_block ?_ | refine aw_skip ?_ | refine aw_true rfl ?_ | refine aw_false rfl ?_ | refine aw_exit ?_ | refine aw_label ?_ | refine aw_ret ?_ | refine And.intro rfl ?_ | refine And.intro trivial ?_ | refine And.intro (And.intro rfl (Nat.le_of_ble_eq_true rfl)) ?_ | refine And.intro (And.intro (by kernel_rfl) (by kernel_rfl)) ?_ | refine And.intro (by decide) ?_ | refine lit_true ?_ | refine lit_false ?_))
              intro c b3; cases c
              case true => exact absurd (yes_of b3) (by omega)
              (repeat ((conv => whnf); first | refine aw_seq ?_ | refine aw_region ?_ | refine aw_block ?_ | refine aw_skip ?_ | refine aw_true rfl ?_ | refine aw_false rfl ?_ | refine aw_exit ?_ | refine aw_label ?_ | refine aw_ret ?_ | refine And.intro rfl ?_ | refine And.intro trivial ?_ | refine And.intro (And.intro rfl (Nat.le_of_ble_eq_true rfl)) ?_ | refine And.intro (And.intro (by kernel_rfl) (by kernel_rfl)) ?_ | refine And.intro (by decide) ?_ | refine lit_true ?_ | refine lit_false ?_))
              intro c b4; cases c
              case true => exact absurd (yes_of b4) (by omega)
              (repeat ((conv => whnf); first | refine aw_seq ?_ | refine aw_region ?_ | refine aw_block ?_ | refine aw_skip ?_ | refine aw_true rfl ?_ | refine aw_false rfl ?_ | refine aw_exit ?_ | refine aw_label ?_ | refine aw_ret ?_ | refine And.intro rfl ?_ | refine And.intro trivial ?_ | refine And.intro (And.intro rfl (Nat.le_of_ble_eq_true rfl)) ?_ | refine And.intro (And.intro (by kernel_rfl) (by kernel_rfl)) ?_ | refine And.intro (by decide) ?_ | refine lit_true ?_ | refine lit_false ?_))
              refine aop_call rfl rfl (ECall.args (bs := [int (i + 1 : Nat), .bp (0, _) 0, .bp (2, _) 0]) ⟨le_int (wrap_succ (by dsimp only; omega)), AVle.refl _, AVle.refl _, trivial⟩
                (ECall.tell (goes_spec nx nx' nx3 (nx3 + 1) 3 (l.getD i ins0) now (i + 1) (atI l i) (by have := (hnx (i + 1) (by rw [hnxt]; simp)).2; omega) (by first | omega | (simp only [goI_length]; omega)) (hsm) hnow) ⟨rfl, OwnLe.of_eq (by rw [hor]; rfl), rfl, OwnLe.refl _, rfl, OwnLe.refl _, trivial⟩ trivial rfl)) fun r h' hq => ?_
              obtain ⟨kk, rfl⟩ := hq
              refine Named.same ?_
              (repeat ((conv => whnf); first | refine aw_seq ?_ | refine aw_region ?_ | refine aw_block ?_ | refine aw_skip ?_ | refine aw_true rfl ?_ | refine aw_false rfl ?_ | refine aw_exit ?_ | refine aw_label ?_ | refine aw_ret ?_ | refine And.intro rfl ?_ | refine And.intro trivial ?_ | refine And.intro (And.intro rfl (Nat.le_of_ble_eq_true rfl)) ?_ | refine And.intro (And.intro (by kernel_rfl) (by kernel_rfl)) ?_ | refine And.intro (by decide) ?_ | refine lit_true ?_ | refine lit_false ?_))
              refine back (i + 1, _) (by dsimp only; omega) (by dsimp only; omega) (ele_tell [((0, _), .c ((goI now (atI l i) (i + 1)).map uA))] [] rfl rfl (.cons _ (.cons _ (.cons_cons _ .slnil))) .slnil ⟨rfl, OwnLe.of_eq ?_, trivial⟩ trivial ⟨AVle.refl _, AVle.refl _, AVle.refl _, AVle.refl _, le_int (wrap_succ (by dsimp only; omega)), trivial⟩)
              dsimp only
              rw [hstep]; unfold stepS; rw [hnxt]; (try rw [hnn]); rw [hnowd]; rfl
      · have h2 := yes_of g2
        have hit : (0 + (Int.toNat (i : Int)) * Try.prog.cellsOf 49) = i := by rw [c49]; omega
        (repeat ((conv => whnf); first | refine aw_seq ?_ | refine aw_region ?_ | refine aw_block ?_ | refine aw_skip ?_ | refine aw_true rfl ?_ | refine aw_false rfl ?_ | refine aw_exit ?_ | refine aw_label ?_ | refine aw_ret ?_ | refine And.intro rfl ?_ | refine And.intro trivial ?_ | refine And.intro (And.intro rfl (Nat.le_of_ble_eq_true rfl)) ?_ | refine And.intro (And.intro (by kernel_rfl) (by kernel_rfl)) ?_ | refine And.intro (by decide) ?_ | refine lit_true ?_ | refine lit_false ?_))
        refine ⟨⟨by omega, by omega⟩, splitO_eq (b := .bp (0, nx) i) (congrArg (AV.bp (0, nx)) hit) ?_⟩
        obtain ⟨m, hm⟩ : ∃ m, 4096 - i = m + 1 := ⟨4096 - i - 1, by omega⟩
        have hsp : splice ((List.replicate i 65535 ++ List.replicate (4096 - i) 0).map uA) i [AV.v (.int .u16 65535)] = (List.replicate (i + 1) 65535 ++ List.replicate (4096 - (i + 1)) 0).map uA := by
          refine (splice_one (f := uA) (x := 65535) (by simp; omega)).trans ?_
          have := fill_set (List.replicate i 65535) m 65535 0
          rw [List.length_replicate] at this
          rw [hm, this, show 4096 - (i + 1) = m by omega, List.replicate_succ']
        (conv => whnf)
        refine ⟨⟨rfl, by simp; omega⟩, ?_⟩
        rw [hsp]
        (repeat ((conv => whnf); first | refine aw_seq ?_ | refine aw_region ?_ | refine aw_block ?_ | refine aw_skip ?_ | refine aw_true rfl ?_ | refine aw_false rfl ?_ | refine aw_exit ?_ | refine aw_label ?_ | refine aw_ret ?_ | refine And.intro rfl ?_ | refine And.intro trivial ?_ | refine And.intro (And.intro rfl (Nat.le_of_ble_eq_true rfl)) ?_ | refine And.intro (And.intro (by kernel_rfl) (by kernel_rfl)) ?_ | refine And.intro (by decide) ?_ | refine lit_true ?_ | refine lit_false ?_))
        exact back (i + 1) (by omega) (by omega) (ele_tell _ _ rfl rfl (List.Sublist.refl _) .slnil ⟨rfl, OwnLe.refl _, trivial⟩ trivial ⟨AVle.refl _, AVle.refl _, AVle.refl _, le_int (wrap_succ (by omega)), trivial⟩)
  · have g1 := bne_yes g1
    (repeat ((conv => whnf); first | refine aw_seq ?_ | refine aw_region ?_ | refine aw_block ?_ | refine aw_skip ?_ | refine aw_true rfl ?_ | refine aw_false rfl ?_ | refine aw_exit ?_ | refine aw_label ?_ | refine aw_ret ?_ | refine And.intro rfl ?_ | refine And.intro trivial ?_ | refine And.intro (And.intro rfl (Nat.le_of_ble_eq_true rfl)) ?_ | refine And.intro (And.intro (by kernel_rfl) (by kernel_rfl)) ?_ | refine And.intro (by decide) ?_ | refine lit_true ?_ | refine lit_false ?_))
    refine ret_tells rfl ?_
    unfold foundS
    rw [if_neg (by omega)]
    exact AVle.os_sl0
end Go.Proofs.W

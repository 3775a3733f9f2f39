import Derived.Test.YtghikejaadkalaaGreatDoorE
import Derived.Test.YtghikejaadkalaaGreatDoorD
import Derived.Test.YtghikejaadkalaaGreatDoorC
import Derived.Shelf.SortM.Plain
import Derived.Shelf.SortM.SortNone
import Derived.Shelf.SlGeneric
import Derived.Ground.SlgmProg
import Derived.Sort.Walk0
import Derived.Shelf.Strings.Search1
import Derived.Shelf.Strings.FieldsFuncGrows
set_option linter.unusedVariables false
set_option linter.unusedSimpArgs false
namespace Go.Proofs.W
open Go.Vl
set_option maxRecDepth 100000

def ownI (a num : Nat) : Nat := if a = 1 ∧ num / 1073741824 % 2 = 1 then num - 1073741824 else num
theorem and_split {c lo d m i : Nat} (h : lo < 2 ^ i) (hm : m < 2 ^ i) : (2 ^ i * c + lo) &&& (2 ^ i * d + m) = 2 ^ i * (c &&& d) + (lo &&& m) := by
  apply Nat.eq_of_testBit_eq
  intro j
  have hlm : lo &&& m < 2 ^ i := Nat.lt_of_le_of_lt Nat.and_le_left h
  rw [Nat.testBit_and, Nat.testBit_two_pow_mul_add _ h, Nat.testBit_two_pow_mul_add _ hm, Nat.testBit_two_pow_mul_add _ hlm]
  split <;> rw [Nat.testBit_and]
theorem own_and {num : Nat} (h : num < 4294967296) : num &&& 3221225471 = ownI 1 num := by
  have hlo : num % 1073741824 < 2 ^ 30 := Nat.mod_lt _ (by decide)
  have e1 : num = 2 ^ 30 * (num / 1073741824) + num % 1073741824 := by have := Nat.div_add_mod num 1073741824; show num = 1073741824 * _ + _; omega
  have hc : num / 1073741824 < 4 := by omega
  have hs := and_split (c := num / 1073741824) (lo := num % 1073741824) (d := 2) (m := 1073741823) (i := 30) hlo (by decide)
  rw [← e1] at hs
  have e2 : (2 ^ 30 * 2 + 1073741823 : Nat) = 3221225471 := by decide
  rw [e2] at hs
  have e3 : num % 1073741824 &&& 1073741823 = num % 1073741824 := by
    have := Nat.and_two_pow_sub_one_eq_mod (num % 1073741824) 30
    rw [show (2 ^ 30 - 1 : Nat) = 1073741823 by decide] at this
    rw [this]; exact Nat.mod_eq_of_lt hlo
  rw [hs, e3]
  unfold ownI
  generalize hq : num / 1073741824 = c at hc
  generalize num % 1073741824 = lo at e1
  rw [hq] at e1
  have e4 : (2 ^ 30 : Nat) = 1073741824 := by decide
  rw [e4] at e1 ⊢
  rcases (by omega : c = 0 ∨ c = 1 ∨ c = 2 ∨ c = 3) with rfl | rfl | rfl | rfl
  · rw [if_neg (by decide), show (0 &&& 2 : Nat) = 0 by decide]; omega
  · rw [if_pos (by decide), show (1 &&& 2 : Nat) = 0 by decide]; omega
  · rw [if_neg (by decide), show (2 &&& 2 : Nat) = 2 by decide]; omega
  · rw [if_pos (by decide), show (3 &&& 2 : Nat) = 2 by decide]; omega
theorem own32 {num : Nat} (h : num < 4294967296) : bitsI .andNot .u32 (num : Int) 1073741824 = ((ownI 1 num : Nat) : Int) := by
  rw [← own_and h]
  exact bits_andNot (k := .u32) (b := 1073741824) h (by decide) (by
    have : num &&& (2 ^ IntKind.u32.bits - 1 - 1073741824) ≤ num := Nat.and_le_left
    have : num &&& (2 ^ IntKind.u32.bits - 1 - 1073741824) < 4294967296 := by omega
    simp [IntKind.wrap, IntKind.signed, IntKind.bits] at this ⊢
    omega)
theorem abiown_spec (a num : Nat) (h : num < 4294967296) : Tells Tryz.prog 65 [int a, u32 num] (u32 (ownI a num)) := by
  refine tells_of_aw Tryz.func65 rfl rfl fun nx => ?_
  (repeat((conv=>whnf);first|apply ω0|apply ω1|apply ω2|refine τ3 rfl ?_|refine τ4 rfl ?_|refine ⟨rfl,?_⟩|apply τa|refine τb rfl ?_|refine ⟨⟨by kernel_rfl,by kernel_rfl⟩,?_⟩|refine ⟨by decide,?_⟩|apply τt|apply τf))
  intro c t; cases c
  · have e : ¬ a = 1 := fun e => by subst e; simp at t
    have e2 : ownI a num = num := if_neg (fun q => e q.1)
    rw [e2]
    (repeat((conv=>whnf);first|apply ω0|apply ω1|apply ω2|refine τ3 rfl ?_|refine τ4 rfl ?_|refine ⟨rfl,?_⟩|apply τa|refine τb rfl ?_|refine ⟨⟨by kernel_rfl,by kernel_rfl⟩,?_⟩|refine ⟨by decide,?_⟩|apply τt|apply τf))
    exact ret_tells rfl (AVle.refl _)
  · have e : a = 1 := by have : (a : Int) = 1 := by simpa using t.symm
                         omega
    subst e
    (repeat((conv=>whnf);first|apply ω0|apply ω1|apply ω2|refine τ3 rfl ?_|refine τ4 rfl ?_|refine ⟨rfl,?_⟩|apply τa|refine τb rfl ?_|refine ⟨⟨by kernel_rfl,by kernel_rfl⟩,?_⟩|refine ⟨by decide,?_⟩|apply τt|apply τf))
    exact ret_tells rfl (AVle.of_eq (congrArg u32 (own32 h)))
def kindI (num : Nat) : Nat := if num = 102 then 1 else if num = 117 then 2 else 0
theorem muxkind_spec (num : Nat) : Tells Tryz.prog 60 [u32 num] (int (kindI num)) := by
  refine tells_of_aw Tryz.func60 rfl rfl fun nx => ?_
  (repeat((conv=>whnf);first|apply ω0|apply ω1|apply ω2|refine τ3 rfl ?_|refine τ4 rfl ?_|refine ⟨rfl,?_⟩|apply τa|refine τb rfl ?_|refine ⟨⟨by kernel_rfl,by kernel_rfl⟩,?_⟩|refine ⟨by decide,?_⟩|apply τt|apply τf))
  intro c t; cases c
  · have e : ¬ num = 102 := fun e => by subst e; simp at t
    (repeat((conv=>whnf);first|apply ω0|apply ω1|apply ω2|refine τ3 rfl ?_|refine τ4 rfl ?_|refine ⟨rfl,?_⟩|apply τa|refine τb rfl ?_|refine ⟨⟨by kernel_rfl,by kernel_rfl⟩,?_⟩|refine ⟨by decide,?_⟩|apply τt|apply τf))
    intro c t2; cases c
    · have e2 : ¬ num = 117 := fun e => by subst e; simp at t2
      have e3 : kindI num = 0 := by unfold kindI; rw [if_neg e, if_neg e2]
      rw [e3]
      (repeat((conv=>whnf);first|apply ω0|apply ω1|apply ω2|refine τ3 rfl ?_|refine τ4 rfl ?_|refine ⟨rfl,?_⟩|apply τa|refine τb rfl ?_|refine ⟨⟨by kernel_rfl,by kernel_rfl⟩,?_⟩|refine ⟨by decide,?_⟩|apply τt|apply τf))
      exact ret_tells rfl (AVle.refl _)
    · have e2 : num = 117 := by have : (num : Int) = 117 := by simpa using t2.symm
                                omega
      subst e2
      (repeat((conv=>whnf);first|apply ω0|apply ω1|apply ω2|refine τ3 rfl ?_|refine τ4 rfl ?_|refine ⟨rfl,?_⟩|apply τa|refine τb rfl ?_|refine ⟨⟨by kernel_rfl,by kernel_rfl⟩,?_⟩|refine ⟨by decide,?_⟩|apply τt|apply τf))
      exact ret_tells rfl (AVle.refl _)
  · have e2 : num = 102 := by have : (num : Int) = 102 := by simpa using t.symm
                              omega
    subst e2
    (repeat((conv=>whnf);first|apply ω0|apply ω1|apply ω2|refine τ3 rfl ?_|refine τ4 rfl ?_|refine ⟨rfl,?_⟩|apply τa|refine τb rfl ?_|refine ⟨⟨by kernel_rfl,by kernel_rfl⟩,?_⟩|refine ⟨by decide,?_⟩|apply τt|apply τf))
    exact ret_tells rfl (AVle.refl _)
def nameO (l : List TRow) : Option Nat → ByteArray
  | some i => (l.getD i trow0).name
  | none => ⟨#[]⟩
theorem low32i {n : Nat} : IntKind.i64.wrap (IntKind.u32.wrap (n : Int)) = ((n % 4294967296 : Nat) : Int) := by
  simp [IntKind.wrap, IntKind.signed, IntKind.bits]; omega
theorem muxed_spec (l : List TRow) (kind : Int) (r : Rec) (hl : l.length ≤ 1000000000) : Tells Tryz.prog 61 [.rp [trows l], .rp [int kind], .rp (recC r)] (strA (nameO l (l.findIdx? (subB kind ((r.a0 % 4294967296 : Nat) : Int))))) := by
  have hs := tabsub_spec l kind ((r.a0 % 4294967296 : Nat) : Int) hl
  generalize l.findIdx? (subB kind ((r.a0 % 4294967296 : Nat) : Int)) = o at hs ⊢
  refine tells_of_aw Tryz.func61 rfl rfl fun nx => ?_
  (repeat((conv=>whnf);first|apply ω0|apply ω1|apply ω2|refine τ3 rfl ?_|refine τ4 rfl ?_|refine ⟨rfl,?_⟩|apply τa|refine τb rfl ?_|refine ⟨⟨by kernel_rfl,by kernel_rfl⟩,?_⟩|refine ⟨by decide,?_⟩|apply τt|apply τf))
  refine ⟨⟨by decide, by decide, by rw [show Int.toNat 0 = 0 from rfl, Nat.zero_mul]; exact Nat.zero_le _⟩, splitO_eq (b := .rp [u64 r.a0, u64 r.a1, u64 r.a2, u64 r.a3, u64 r.a4, u64 r.a5]) (by rw [c_u64]; rfl) ?_⟩
  (repeat((conv=>whnf);first|apply ω0|apply ω1|apply ω2|refine τ3 rfl ?_|refine τ4 rfl ?_|refine ⟨rfl,?_⟩|apply τa|refine τb rfl ?_|refine ⟨⟨by kernel_rfl,by kernel_rfl⟩,?_⟩|refine ⟨by decide,?_⟩|apply τt|apply τf))
  refine aop_tells rfl rfl hs ⟨AVle.refl _, AVle.refl _, le_int low32i, trivial⟩ fun nx2 => ?_
  rcases o with _ | i
  all_goals
    (repeat((conv=>whnf);first|apply ω0|apply ω1|apply ω2|refine τ3 rfl ?_|refine τ4 rfl ?_|refine ⟨rfl,?_⟩|apply τa|refine τb rfl ?_|refine ⟨⟨by kernel_rfl,by kernel_rfl⟩,?_⟩|refine ⟨by decide,?_⟩|apply τt|apply τf))
    exact ret_tells rfl (AVle.refl _)
theorem direct_spec (l : List TRow) (a : Nat) (ha : a < 5) (r : Rec) (hr : r.ok) (hl : l.length ≤ 1000000000) : Tells Tryz.prog 63 [.rp [trows l], .rp [int a], .rp (recC r)] (strA (nameO l (l.findIdx? (nameB5 a ((ownI a r.num : Nat) : Int))))) := by
  have hs := tabname_spec l a ha ((ownI a r.num : Nat) : Int) (Int.natCast_nonneg _) hl
  have ho := abiown_spec a r.num hr.1
  generalize l.findIdx? (nameB5 a ((ownI a r.num : Nat) : Int)) = o at hs ⊢
  have hid : NoId (nameRes l o) := by
    cases o <;> exact NoId.tup (by intro y hy; simp only [List.mem_cons, List.not_mem_nil, or_false] at hy; rcases hy with rfl | rfl <;> exact NoId.v _)
  have hw : IntKind.i64.wrap ((ownI a r.num : Nat) : Int) = ((ownI a r.num : Nat) : Int) := by
    have h2 : ownI a r.num ≤ r.num := by unfold ownI; split <;> omega
    have := hr.1
    exact wrap_id (by omega) (by omega)
  refine tells_of_aw Tryz.func63 rfl rfl fun nx => ?_
  (repeat((conv=>whnf);first|apply ω0|apply ω1|apply ω2|refine τ3 rfl ?_|refine τ4 rfl ?_|refine ⟨rfl,?_⟩|apply τa|refine τb rfl ?_|refine ⟨⟨by kernel_rfl,by kernel_rfl⟩,?_⟩|refine ⟨by decide,?_⟩|apply τt|apply τf))
  refine aw_mixN 12 _ (fun _ => false) (fun i => match i with | 5 => true | 7 => true | _ => false) [0, 1, 2, 3, 4, 5, 6, 7, 8, 9, 10, 11] (by kernel_rfl) (by kernel_rfl) (HB.refl _) ?_
  (repeat((conv=>whnf);first|apply ω0|apply ω1|apply ω2|refine τ3 rfl ?_|refine τ4 rfl ?_|refine ⟨rfl,?_⟩|apply τa|refine τb rfl ?_|refine ⟨⟨by kernel_rfl,by kernel_rfl⟩,?_⟩|refine ⟨by decide,?_⟩|apply τt|apply τf))
  refine ⟨_, pure_tells rfl rfl rfl ho ⟨AVle.refl _, AVle.refl _, trivial⟩ (NoId.v _), ?_⟩
  (repeat((conv=>whnf);first|apply ω0|apply ω1|apply ω2|refine τ3 rfl ?_|refine τ4 rfl ?_|refine ⟨rfl,?_⟩|apply τa|refine τb rfl ?_|refine ⟨⟨by kernel_rfl,by kernel_rfl⟩,?_⟩|refine ⟨by decide,?_⟩|apply τt|apply τf))
  refine ⟨_, pure_tells rfl rfl rfl hs ⟨AVle.refl _, AVle.refl _, le_int hw, trivial⟩ hid, ?_⟩
  rcases o with _ | i
  all_goals
    (repeat((conv=>whnf);first|apply ω0|apply ω1|apply ω2|refine τ3 rfl ?_|refine τ4 rfl ?_|refine ⟨rfl,?_⟩|apply τa|refine τb rfl ?_|refine ⟨⟨by kernel_rfl,by kernel_rfl⟩,?_⟩|refine ⟨by decide,?_⟩|apply τt|apply τf))
    exact ret_tells rfl (AVle.refl _)
end Go.Proofs.W

namespace Go.Proofs.W
open Go.Vl
set_option maxRecDepth 100000

structure CallR where
  some : Bool
  abi : Int
  name : ByteArray
  muxed : Bool
def callC (c : CallR) : List AV := [boolA c.some, int c.abi, strA c.name, boolA c.muxed]
def callA (c : CallR) : AV := .ag (callC c)
def call0 : CallR := ⟨false, 0, ⟨#[]⟩, false⟩
def selO (arch num : Nat) : Option Nat := (infN.find? (selB arch (withB num))).map (·.1)
theorem selA_eq (arch num : Nat) : selA arch num = match selO arch num with
    | some a => .tup [int a, boolA true]
    | none => .tup [int 0, boolA false] := by
  unfold selA selO
  cases infN.find? (selB arch (withB num)) <;> rfl
theorem selO_lt {arch num a : Nat} (h : selO arch num = some a) : a < 5 := by
  unfold selO at h
  obtain ⟨x, hx, rfl⟩ := Option.map_eq_some_iff.1 h
  have := List.mem_of_find?_eq_some hx
  simp only [infN, List.mem_cons, List.not_mem_nil, or_false] at this
  rcases this with rfl | rfl | rfl | rfl | rfl <;> decide
def kindO (a num : Nat) : Nat := if a = 2 then kindI num else 0
/-- Which call a record is. -/
def ofI (l : List TRow) (r : Rec) : CallR := match selO r.arch r.num with
  | none => call0
  | some a => if 0 < kindO a r.num then ⟨true, a, nameO l (l.findIdx? (subB (kindO a r.num) ((r.a0 % 4294967296 : Nat) : Int))), true⟩
    else ⟨true, a, nameO l (l.findIdx? (nameB5 a ((ownI a r.num : Nat) : Int))), false⟩
theorem int2 {a : Nat} : ((a : Int) == 2) = decide (a = 2) := by
  rw [Bool.eq_iff_iff]; simp; omega
set_option maxHeartbeats 4000000 in
theorem muxof_spec (l : List TRow) (r : Rec) (hr : r.ok) (hl : l.length ≤ 1000000000) : Tells Tryz.prog 24 [trows l, recA r] (callA (ofI l r)) := by
  have hs := select_spec r.arch r.num hr.2.1 hr.1
  rw [selA_eq] at hs
  unfold ofI
  cases hso : selO r.arch r.num with
  | none =>
    rw [hso] at hs
    refine tells_of_aw Tryz.func24 rfl rfl fun nx => ?_
    (repeat((conv=>whnf);first|apply ω0|apply ω1|apply ω2|refine τ3 rfl ?_|refine τ4 rfl ?_|refine ⟨rfl,?_⟩|apply τa|refine τb rfl ?_|refine ⟨⟨by kernel_rfl,by kernel_rfl⟩,?_⟩|refine ⟨by decide,?_⟩|apply τt|apply τf))
    refine aop_tells rfl rfl hs ⟨AVle.refl _, AVle.refl _, trivial⟩ fun nx2 => ?_
    (repeat((conv=>whnf);first|apply ω0|apply ω1|apply ω2|refine τ3 rfl ?_|refine τ4 rfl ?_|refine ⟨rfl,?_⟩|apply τa|refine τb rfl ?_|refine ⟨⟨by kernel_rfl,by kernel_rfl⟩,?_⟩|refine ⟨by decide,?_⟩|apply τt|apply τf))
    exact ret_tells_all rfl ⟨rfl, trivial⟩ (AVle.refl _)
  | some a =>
    rw [hso] at hs
    dsimp only at hs ⊢
    have ha := selO_lt hso
    have hk := muxkind_spec r.num
    have hm := fun k => muxed_spec l k r hl
    have hd := direct_spec l a ha r hr hl
    by_cases e : a = 2
    · have ek : kindO a r.num = kindI r.num := if_pos e
      rw [ek]
      have hm := hm (kindI r.num)
      generalize kindI r.num = k at hk hm ⊢
      by_cases hk0 : 0 < k
      · rw [if_pos hk0]
        have hd0 : decide ((k : Int) > 0) = true := decide_eq_true (by omega)
        refine tells_of_aw Tryz.func24 rfl rfl fun nx => ?_
        (repeat((conv=>whnf);first|apply ω0|apply ω1|apply ω2|refine τ3 rfl ?_|refine τ4 rfl ?_|refine ⟨rfl,?_⟩|apply τa|refine τb rfl ?_|refine ⟨⟨by kernel_rfl,by kernel_rfl⟩,?_⟩|refine ⟨by decide,?_⟩|apply τt|apply τf))
        refine aop_tells rfl rfl hs ⟨AVle.refl _, AVle.refl _, trivial⟩ fun nx2 => ?_
        (repeat((conv=>whnf);first|apply ω0|apply ω1|apply ω2|refine τ3 rfl ?_|refine τ4 rfl ?_|refine ⟨rfl,?_⟩|apply τa|refine τb rfl ?_|refine ⟨⟨by kernel_rfl,by kernel_rfl⟩,?_⟩|refine ⟨by decide,?_⟩|apply τt|apply τf))
        intro c hc
        have hc2 : c = decide (a = 2) := hc.trans int2
        clear hc
        have hc3 : c = true := hc2.trans (decide_eq_true e)
        clear hc2; subst hc3
        (repeat((conv=>whnf);first|apply ω0|apply ω2|refine τ3 rfl ?_|refine τ4 rfl ?_|refine ⟨rfl,?_⟩|apply τa|refine τb rfl ?_|refine ⟨⟨by kernel_rfl,by kernel_rfl⟩,?_⟩|refine ⟨by decide,?_⟩|apply τt|apply τf))
        refine aw_region ?_
        (repeat((conv=>whnf);first|apply ω0|apply ω2|refine τ3 rfl ?_|refine τ4 rfl ?_|refine ⟨rfl,?_⟩|apply τa|refine τb rfl ?_|refine ⟨⟨by kernel_rfl,by kernel_rfl⟩,?_⟩|refine ⟨by decide,?_⟩|apply τt|apply τf))
        refine aop_tells rfl rfl hk ⟨AVle.refl _, trivial⟩ fun nx3 => ?_
        (repeat((conv=>whnf);first|apply ω0|apply ω2|refine τ3 rfl ?_|refine τ4 rfl ?_|refine ⟨rfl,?_⟩|apply τa|refine τb rfl ?_|refine ⟨⟨by kernel_rfl,by kernel_rfl⟩,?_⟩|refine ⟨by decide,?_⟩|apply τt|apply τf))
        refine aw_freeze (n := 41) (nx := nx3) (nn := 6) (pm := []) (bx := [((4, nx2 + 1), .c (callC ⟨true, a, ⟨#[]⟩, false⟩)), ((2, nx + 2), .c (callC call0))]) (L := [(2, .rp [trows l]), (3, .rp (recC r)), (4, .bp (2, nx + 2) 0), (5, .rp [int a]), (7, .bp (4, nx2 + 1) 0), (8, .rp [int k])]) (df := some []) [((5, nx2 + 2), .c [int k]), ((3, nx2), .c [int a]), ((1, nx + 1), .c (recC r)), ((0, nx), .c [trows l])] rfl rfl rfl (.cons _ ((List.Perm.swap _ _ _).trans (.cons _ (List.perm_append_comm (l₁ := [_, _]) (l₂ := [_, _]))))) (List.Sublist.refl _) ⟨Frz.bp (.tail _ (.tail _ (.tail _ (.head _)))) rfl, Frz.bp (.tail _ (.tail _ (.head _))) rfl, Frz.refl _, Frz.bp (.tail _ (.head _)) rfl, Frz.refl _, Frz.bp (.head _) rfl, trivial⟩ ?_
        (repeat((conv=>whnf);first|apply ω0|apply ω1|apply ω2|refine τ3 rfl ?_|refine τ4 rfl ?_|refine ⟨rfl,?_⟩|apply τa|refine τb rfl ?_|refine ⟨⟨by kernel_rfl,by kernel_rfl⟩,?_⟩|refine ⟨by decide,?_⟩|apply τt|apply τf))
        (conv => whnf)
        refine lit_eq hd0 ?_
        (repeat((conv=>whnf);first|apply ω0|apply ω1|apply ω2|refine τ3 rfl ?_|refine τ4 rfl ?_|refine ⟨rfl,?_⟩|apply τa|refine τb rfl ?_|refine ⟨⟨by kernel_rfl,by kernel_rfl⟩,?_⟩|refine ⟨by decide,?_⟩|apply τt|apply τf))
        refine aop_tells rfl rfl hm ⟨AVle.refl _, AVle.refl _, AVle.refl _, trivial⟩ fun nx4 => ?_
        (repeat((conv=>whnf);first|apply ω0|apply ω1|apply ω2|refine τ3 rfl ?_|refine τ4 rfl ?_|refine ⟨rfl,?_⟩|apply τa|refine τb rfl ?_|refine ⟨⟨by kernel_rfl,by kernel_rfl⟩,?_⟩|refine ⟨by decide,?_⟩|apply τt|apply τf))
        exact ret_tells_all rfl ⟨rfl, trivial⟩ (AVle.refl _)
      · obtain rfl : k = 0 := by omega
        rw [if_neg hk0]
        refine tells_of_aw Tryz.func24 rfl rfl fun nx => ?_
        (repeat((conv=>whnf);first|apply ω0|apply ω1|apply ω2|refine τ3 rfl ?_|refine τ4 rfl ?_|refine ⟨rfl,?_⟩|apply τa|refine τb rfl ?_|refine ⟨⟨by kernel_rfl,by kernel_rfl⟩,?_⟩|refine ⟨by decide,?_⟩|apply τt|apply τf))
        refine aop_tells rfl rfl hs ⟨AVle.refl _, AVle.refl _, trivial⟩ fun nx2 => ?_
        (repeat((conv=>whnf);first|apply ω0|apply ω1|apply ω2|refine τ3 rfl ?_|refine τ4 rfl ?_|refine ⟨rfl,?_⟩|apply τa|refine τb rfl ?_|refine ⟨⟨by kernel_rfl,by kernel_rfl⟩,?_⟩|refine ⟨by decide,?_⟩|apply τt|apply τf))
        intro c hc
        have hc2 : c = decide (a = 2) := hc.trans int2
        clear hc
        have hc3 : c = true := hc2.trans (decide_eq_true e)
        clear hc2; subst hc3
        (repeat((conv=>whnf);first|apply ω0|apply ω2|refine τ3 rfl ?_|refine τ4 rfl ?_|refine ⟨rfl,?_⟩|apply τa|refine τb rfl ?_|refine ⟨⟨by kernel_rfl,by kernel_rfl⟩,?_⟩|refine ⟨by decide,?_⟩|apply τt|apply τf))
        refine aw_region ?_
        (repeat((conv=>whnf);first|apply ω0|apply ω2|refine τ3 rfl ?_|refine τ4 rfl ?_|refine ⟨rfl,?_⟩|apply τa|refine τb rfl ?_|refine ⟨⟨by kernel_rfl,by kernel_rfl⟩,?_⟩|refine ⟨by decide,?_⟩|apply τt|apply τf))
        refine aop_tells rfl rfl hk ⟨AVle.refl _, trivial⟩ fun nx3 => ?_
        (repeat((conv=>whnf);first|apply ω0|apply ω2|refine τ3 rfl ?_|refine τ4 rfl ?_|refine ⟨rfl,?_⟩|apply τa|refine τb rfl ?_|refine ⟨⟨by kernel_rfl,by kernel_rfl⟩,?_⟩|refine ⟨by decide,?_⟩|apply τt|apply τf))
        refine aw_freeze (n := 41) (nx := nx3) (nn := 6) (pm := []) (bx := [((4, nx2 + 1), .c (callC ⟨true, a, ⟨#[]⟩, false⟩)), ((2, nx + 2), .c (callC call0))]) (L := [(2, .rp [trows l]), (3, .rp (recC r)), (4, .bp (2, nx + 2) 0), (5, .rp [int a]), (7, .bp (4, nx2 + 1) 0), (8, .rp [int ((0 : Nat) : Int)])]) (df := some []) [((5, nx2 + 2), .c [int ((0 : Nat) : Int)]), ((3, nx2), .c [int a]), ((1, nx + 1), .c (recC r)), ((0, nx), .c [trows l])] rfl rfl rfl (.cons _ ((List.Perm.swap _ _ _).trans (.cons _ (List.perm_append_comm (l₁ := [_, _]) (l₂ := [_, _]))))) (List.Sublist.refl _) ⟨Frz.bp (.tail _ (.tail _ (.tail _ (.head _)))) rfl, Frz.bp (.tail _ (.tail _ (.head _))) rfl, Frz.refl _, Frz.bp (.tail _ (.head _)) rfl, Frz.refl _, Frz.bp (.head _) rfl, trivial⟩ ?_
        (repeat((conv=>whnf);first|apply ω0|apply ω1|apply ω2|refine τ3 rfl ?_|refine τ4 rfl ?_|refine ⟨rfl,?_⟩|apply τa|refine τb rfl ?_|refine ⟨⟨by kernel_rfl,by kernel_rfl⟩,?_⟩|refine ⟨by decide,?_⟩|apply τt|apply τf))
        refine aop_tells rfl rfl hd ⟨AVle.refl _, AVle.refl _, AVle.refl _, trivial⟩ fun nx4 => ?_
        (repeat((conv=>whnf);first|apply ω0|apply ω1|apply ω2|refine τ3 rfl ?_|refine τ4 rfl ?_|refine ⟨rfl,?_⟩|apply τa|refine τb rfl ?_|refine ⟨⟨by kernel_rfl,by kernel_rfl⟩,?_⟩|refine ⟨by decide,?_⟩|apply τt|apply τf))
        exact ret_tells_all rfl ⟨rfl, trivial⟩ (AVle.refl _)
    · have ek : kindO a r.num = 0 := if_neg e
      rw [ek, if_neg (by decide)]
      refine tells_of_aw Tryz.func24 rfl rfl fun nx => ?_
      (repeat((conv=>whnf);first|apply ω0|apply ω1|apply ω2|refine τ3 rfl ?_|refine τ4 rfl ?_|refine ⟨rfl,?_⟩|apply τa|refine τb rfl ?_|refine ⟨⟨by kernel_rfl,by kernel_rfl⟩,?_⟩|refine ⟨by decide,?_⟩|apply τt|apply τf))
      refine aop_tells rfl rfl hs ⟨AVle.refl _, AVle.refl _, trivial⟩ fun nx2 => ?_
      (repeat((conv=>whnf);first|apply ω0|apply ω1|apply ω2|refine τ3 rfl ?_|refine τ4 rfl ?_|refine ⟨rfl,?_⟩|apply τa|refine τb rfl ?_|refine ⟨⟨by kernel_rfl,by kernel_rfl⟩,?_⟩|refine ⟨by decide,?_⟩|apply τt|apply τf))
      intro c hc
      have hc2 : c = decide (a = 2) := hc.trans int2
      clear hc
      have hc3 : c = false := hc2.trans (decide_eq_false e)
      clear hc2; subst hc3
      (repeat((conv=>whnf);first|apply ω0|apply ω2|refine τ3 rfl ?_|refine τ4 rfl ?_|refine ⟨rfl,?_⟩|apply τa|refine τb rfl ?_|refine ⟨⟨by kernel_rfl,by kernel_rfl⟩,?_⟩|refine ⟨by decide,?_⟩|apply τt|apply τf))
      refine aw_freeze (n := 41) (nx := nx2 + 3) (nn := 6) (pm := []) (bx := [((4, nx2 + 1), .c (callC ⟨true, a, ⟨#[]⟩, false⟩)), ((2, nx + 2), .c (callC call0))]) (L := [(2, .rp [trows l]), (3, .rp (recC r)), (4, .bp (2, nx + 2) 0), (5, .rp [int a]), (7, .bp (4, nx2 + 1) 0), (8, .rp [int 0])]) (df := some []) [((5, nx2 + 2), .c [int 0]), ((3, nx2), .c [int a]), ((1, nx + 1), .c (recC r)), ((0, nx), .c [trows l])] rfl rfl rfl (.cons _ ((List.Perm.swap _ _ _).trans (.cons _ (List.perm_append_comm (l₁ := [_, _]) (l₂ := [_, _]))))) (List.Sublist.refl _) ⟨Frz.bp (.tail _ (.tail _ (.tail _ (.head _)))) rfl, Frz.bp (.tail _ (.tail _ (.head _))) rfl, Frz.refl _, Frz.bp (.tail _ (.head _)) rfl, Frz.refl _, Frz.bp (.head _) rfl, trivial⟩ ?_
      (repeat((conv=>whnf);first|apply ω0|apply ω1|apply ω2|refine τ3 rfl ?_|refine τ4 rfl ?_|refine ⟨rfl,?_⟩|apply τa|refine τb rfl ?_|refine ⟨⟨by kernel_rfl,by kernel_rfl⟩,?_⟩|refine ⟨by decide,?_⟩|apply τt|apply τf))
      refine aop_tells rfl rfl hd ⟨AVle.refl _, AVle.refl _, AVle.refl _, trivial⟩ fun nx4 => ?_
      (repeat((conv=>whnf);first|apply ω0|apply ω1|apply ω2|refine τ3 rfl ?_|refine τ4 rfl ?_|refine ⟨rfl,?_⟩|apply τa|refine τb rfl ?_|refine ⟨⟨by kernel_rfl,by kernel_rfl⟩,?_⟩|refine ⟨by decide,?_⟩|apply τt|apply τf))
      exact ret_tells_all rfl ⟨rfl, trivial⟩ (AVle.refl _)
end Go.Proofs.W

namespace Go.Proofs.W
open Go.Vl
set_option maxRecDepth 100000

end Go.Proofs.W

namespace Go.Proofs.W
open Go.Vl
set_option maxRecDepth 100000

/- Maps by names, of anything: how they are looked up, how they grow; frozen with what they point to. -/
def kS (s t : ByteArray) : Bool := s.toList == t.toList
theorem kS_eq {s t : ByteArray} : kS s t = true ↔ s = t := by
  unfold kS
  rw [beq_iff_eq, Lib.toList_data, Lib.toList_data]
  constructor
  · intro h
    obtain ⟨⟨a⟩⟩ := s
    obtain ⟨⟨b⟩⟩ := t
    simpa using h
  · rintro rfl; rfl
section
variable {α : Type} {nm : α → ByteArray} {val : α → AV}
end
end Go.Proofs.W

namespace Go.Proofs.W
open Go.Vl
set_option maxRecDepth 100000

/-- What is gathered of a name, and where it stands. -/
structure Ent where
  name : ByteArray
  m : Nat
  a : Nat → Nat
  b : Nat → Bool
  st : Nat
/-- What is gathered, without places. -/
structure Gat where
  name : ByteArray
  m : Nat
  a : Nat → Nat
  b : Nat → Bool
end Go.Proofs.W

namespace Go.Proofs.W
open Go.Vl
set_option maxRecDepth 100000

theorem size0 {s : ByteArray} : (s.toList == (⟨#[]⟩ : ByteArray).toList) = decide (s.size = 0) := by
  rw [Lib.toList_data, Lib.toList_data, Bool.eq_iff_iff, beq_iff_eq, decide_eq_true_iff]
  obtain ⟨⟨a⟩⟩ := s
  show a = [] ↔ a.length = 0
  exact List.length_eq_zero_iff.symm
theorem ofI_abi {l : List TRow} {r : Rec} (h : ¬ (ofI l r).name.size = 0) : (ofI l r).abi.toNat < 5 ∧ (ofI l r).abi = ((ofI l r).abi.toNat : Int) := by
  unfold ofI at h ⊢
  cases hs : selO r.arch r.num with
  | none => rw [hs] at h; exact absurd rfl h
  | some a =>
    have ha := selO_lt hs
    dsimp only
    split
    · exact ⟨by simpa using ha, by simp⟩
    · exact ⟨by simpa using ha, by simp⟩
theorem noid_arr {x : Nat → Nat} : NoId (arrA x) := by unfold arrA; exact NoId.ag (by intro y hy; simp at hy; rcases hy with rfl | rfl | rfl | rfl | rfl | rfl <;> exact NoId.v _)
end Go.Proofs.W

namespace Go.Proofs
open Go.Shelf
shelf_lay_g SlLaysM.n6 Slgm 6 at Tryz 127 as Tryz.laysM6
end Go.Proofs
namespace Go.Proofs.W
open Go.Vl Go.Shelf
set_option maxRecDepth 100000

end Go.Proofs.W

namespace Go.Proofs.W
open Go.Vl
set_option maxRecDepth 100000

abbrev Seen := List (Int × Int)
def numsR (r : TRow) (S : Seen) : Nat → Option Seen
  | 0 => some S
  | k + 1 => match numsR r S k with
    | none => none
    | some S => if r.num k = -1 then some S else if ((k : Int), r.num k) ∈ S then none else some (S ++ [((k : Int), r.num k)])
def muxR (r : TRow) (S : Seen) : Option Seen := if r.mux = 0 then some S else if (5 + r.mux, r.sub) ∈ S then none else some (S ++ [(5 + r.mux, r.sub)])
def leB (s t : ByteArray) : Bool := Op.bytesLess s.toList t.toList || s.toList == t.toList
def rowE (l : List TRow) (i : Nat) (S : Seen) : Except Int Seen :=
  if nameB (l.getD i trow0).name.data.toList = false then .error 13
  else if 0 < i ∧ leB (l.getD i trow0).name (l.getD (i - 1) trow0).name = true then .error 15
  else if rangedR (l.getD i trow0) = false then .error 16
  else if (l.getD i trow0).a2 = 102 ∨ (l.getD i trow0).a2 = 117 then .error 17
  else match numsR (l.getD i trow0) S 5 with
    | none => .error 15
    | some S => match muxR (l.getD i trow0) S with
      | none => .error 15
      | some S => .ok S
def rowsS (l : List TRow) : Nat → Except (Nat × Int) Seen
  | 0 => .ok []
  | k + 1 => match rowsS l k with
    | .error e => .error e
    | .ok S => match rowE l k S with
      | .error e => .error (k, e)
      | .ok S => .ok S
def tabR (l : List TRow) : Int × Int := if 400 < l.length then (0, 3) else match rowsS l l.length with
  | .error e => ((e.1 : Int), e.2)
  | .ok _ => (0, 0)
theorem rowsS_err {l : List TRow} {k : Nat} {e : Nat × Int} (h : rowsS l k = .error e) : ∀ {m : Nat}, k ≤ m → rowsS l m = .error e := by
  intro m hm
  induction m with
  | zero => obtain rfl : k = 0 := by omega
            exact h
  | succ m ih =>
    rcases Nat.lt_or_ge m k with q | q
    · rw [show m + 1 = k by omega]; exact h
    · unfold rowsS; rw [ih q]
theorem tab_err {l : List TRow} {i : Nat} {S : Seen} {e : Int} (hl : ¬ 400 < l.length) (hi : i < l.length) (h : rowsS l i = .ok S) (he : rowE l i S = .error e) : tabR l = ((i : Int), e) := by
  have h1 : rowsS l (i + 1) = .error (i, e) := by unfold rowsS; rw [h]; dsimp only; rw [he]
  unfold tabR
  rw [if_neg hl, rowsS_err h1 hi]
theorem tab_ok {l : List TRow} {S : Seen} (hl : ¬ 400 < l.length) (h : rowsS l l.length = .ok S) : tabR l = (0, 0) := by
  unfold tabR
  rw [if_neg hl, h]
theorem rows_next {l : List TRow} {i : Nat} {S S' : Seen} (h : rowsS l i = .ok S) (he : rowE l i S = .ok S') : rowsS l (i + 1) = .ok S' := by
  unfold rowsS; rw [h]; dsimp only; rw [he]
theorem nums_skip {r : TRow} {S S' : Seen} {k : Nat} (h : numsR r S k = some S') (hn : r.num k = -1) : numsR r S (k + 1) = some S' := by
  unfold numsR; rw [h]; dsimp only; rw [if_pos hn]
theorem nums_in {r : TRow} {S S' : Seen} {k : Nat} (h : numsR r S k = some S') (hn : ¬ r.num k = -1) (hm : ((k : Int), r.num k) ∈ S') : numsR r S (k + 1) = none := by
  unfold numsR; rw [h]; dsimp only; rw [if_neg hn, if_pos hm]
theorem nums_new {r : TRow} {S S' : Seen} {k : Nat} (h : numsR r S k = some S') (hn : ¬ r.num k = -1) (hm : ¬ ((k : Int), r.num k) ∈ S') : numsR r S (k + 1) = some (addA ((k : Int), r.num k) S') := by
  unfold numsR addA; rw [h]; dsimp only; rw [if_neg hn, if_neg hm, if_neg hm]
theorem nums_none {r : TRow} {S : Seen} {k : Nat} (h : numsR r S k = none) : ∀ {m : Nat}, k ≤ m → numsR r S m = none := by
  intro m hm
  induction m with
  | zero => obtain rfl : k = 0 := by omega
            exact h
  | succ m ih =>
    rcases Nat.lt_or_ge m k with q | q
    · rw [show m + 1 = k by omega]; exact h
    · unfold numsR; rw [ih q]
def ordB (l : List TRow) (i : Nat) : Bool := decide (0 < i) && leB (l.getD i trow0).name (l.getD (i - 1) trow0).name
theorem ord_iff {l : List TRow} {i : Nat} : ordB l i = true ↔ 0 < i ∧ leB (l.getD i trow0).name (l.getD (i - 1) trow0).name = true := by unfold ordB; simp
theorem rowE_13 {l : List TRow} {i : Nat} {S : Seen} (h : nameB (l.getD i trow0).name.data.toList = false) : rowE l i S = .error 13 := if_pos h
theorem rowE_15 {l : List TRow} {i : Nat} {S : Seen} (h : nameB (l.getD i trow0).name.data.toList = true) (h2 : ordB l i = true) : rowE l i S = .error 15 := by
  unfold rowE; rw [if_neg (by rw [h]; decide), if_pos (ord_iff.1 h2)]
theorem rowE_16 {l : List TRow} {i : Nat} {S : Seen} (h : nameB (l.getD i trow0).name.data.toList = true) (h2 : ordB l i = false) (h3 : rangedR (l.getD i trow0) = false) : rowE l i S = .error 16 := by
  unfold rowE; rw [if_neg (by rw [h]; decide), if_neg (by rw [← ord_iff, h2]; decide), if_pos h3]
theorem rowE_17 {l : List TRow} {i : Nat} {S : Seen} (h : nameB (l.getD i trow0).name.data.toList = true) (h2 : ordB l i = false) (h3 : rangedR (l.getD i trow0) = true) (h4 : (l.getD i trow0).a2 = 102 ∨ (l.getD i trow0).a2 = 117) : rowE l i S = .error 17 := by
  unfold rowE; rw [if_neg (by rw [h]; decide), if_neg (by rw [← ord_iff, h2]; decide), if_neg (by rw [h3]; decide), if_pos h4]
theorem rowE_rest {l : List TRow} {i : Nat} {S : Seen} (h : nameB (l.getD i trow0).name.data.toList = true) (h2 : ordB l i = false) (h3 : rangedR (l.getD i trow0) = true) (h4 : ¬ ((l.getD i trow0).a2 = 102 ∨ (l.getD i trow0).a2 = 117)) : rowE l i S = match numsR (l.getD i trow0) S 5 with
    | none => .error 15
    | some S => match muxR (l.getD i trow0) S with
      | none => .error 15
      | some S => .ok S := by
  unfold rowE; rw [if_neg (by rw [h]; decide), if_neg (by rw [← ord_iff, h2]; decide), if_neg (by rw [h3]; decide), if_neg h4]
theorem ranged_mux {r : TRow} (h : rangedR r = true) (h0 : ¬ r.mux = 0) : r.mux = 1 ∨ r.mux = 2 := by
  unfold rangedR at h
  rw [if_neg h0] at h
  simp only [Bool.and_eq_true, Bool.or_eq_true, decide_eq_true_eq] at h
  exact h.2.1.1
set_option maxHeartbeats 4000000 in
theorem tabright_spec (l : List TRow) (hl : l.length ≤ 1000000) (hn : ∀ r ∈ l, r.name.size ≤ maxLen) : Tells Tryz.prog 23 [trows l] (.tup [int (tabR l).1, int (tabR l).2]) := by
  refine tells_of_aw Tryz.func23 rfl rfl fun nx => ?_
  (repeat((conv=>whnf);first|apply ω0|apply ω1|apply ω2|refine τ3 rfl ?_|refine τ4 rfl ?_|refine ⟨rfl,?_⟩|apply τa|refine τb rfl ?_|refine ⟨⟨by kernel_rfl,by kernel_rfl⟩,?_⟩|refine ⟨by decide,?_⟩|apply τt|apply τf))
  intro c g4; cases c
  rotate_left
  · have g4 : 400 < l.length := by have := yes_of g4; omega
    have e : tabR l = (0, 3) := by unfold tabR; rw [if_pos g4]
    rw [e]
    (repeat((conv=>whnf);first|apply ω0|apply ω1|apply ω2|refine τ3 rfl ?_|refine τ4 rfl ?_|refine ⟨rfl,?_⟩|apply τa|refine τb rfl ?_|refine ⟨⟨by kernel_rfl,by kernel_rfl⟩,?_⟩|refine ⟨by decide,?_⟩|apply τt|apply τf))
    exact ret_tells rfl (AVle.refl _)
  have g4 : ¬ 400 < l.length := by have := not_of g4; omega
  (repeat((conv=>whnf);first|apply ω0|apply ω1|apply ω2|refine τ3 rfl ?_|refine τ4 rfl ?_|refine ⟨rfl,?_⟩|apply τa|refine τb rfl ?_|refine ⟨⟨by kernel_rfl,by kernel_rfl⟩,?_⟩|refine ⟨by decide,?_⟩|apply τt|apply τf))
  refine aw_loop (fun y : Nat × Seen × Nat => mk 88 [(0, trows l), (2, int 0), (3, int 0), (4, .om (0, nx)), (14, trows l), (15, int l.length), (16, int y.1)] ⟨[((0, nx), .mp (y.2.1.map entA))], [], y.2.2, 1⟩) (fun y => y.1 ≤ l.length ∧ rowsS l y.1 = .ok y.2.1) (fun y => l.length - y.1) ?_ ?_
  · exact ⟨(0, [], nx + 1), ⟨Nat.zero_le _, rfl⟩, ele_tell _ _ rfl rfl (List.Sublist.refl _) (List.Sublist.refl _) (BxLe.refl _) trivial ⟨AVle.refl _, AVle.refl _, AVle.refl _, AVle.refl _, AVle.refl _, AVle.refl _, AVle.refl _, trivial⟩⟩
  · rintro ⟨i, S, nx1⟩ ⟨h1, h2⟩
    dsimp only at h1 h2
    (repeat((conv=>whnf);first|apply ω0|apply ω1|apply ω2|refine τ3 rfl ?_|refine τ4 rfl ?_|refine ⟨rfl,?_⟩|apply τa|refine τb rfl ?_|refine ⟨⟨by kernel_rfl,by kernel_rfl⟩,?_⟩|refine ⟨by decide,?_⟩|apply τt|apply τf))
    intro c g; cases c
    · have g := not_of g
      try dsimp only at g
      have hi : i = l.length := by omega
      subst hi
      rw [tab_ok g4 h2]
      (repeat((conv=>whnf);first|apply ω0|apply ω1|apply ω2|refine τ3 rfl ?_|refine τ4 rfl ?_|refine ⟨rfl,?_⟩|apply τa|refine τb rfl ?_|refine ⟨⟨by kernel_rfl,by kernel_rfl⟩,?_⟩|refine ⟨by decide,?_⟩|apply τt|apply τf))
      exact ret_tells rfl (AVle.refl _)
    · have g := yes_of g
      try dsimp only at g
      have hi : i < l.length := by omega
      have hmem : l.getD i trow0 ∈ l := by simp [List.getD, hi]
      have hnm := named_spec (l.getD i trow0).name (Nat.le_trans (hn _ hmem) (by decide))
      have hrg := ranged_spec (l.getD i trow0)
      have herr := fun e => tab_err (e := e) g4 hi h2
      have hnext := fun S' => rows_next (S' := S') h2
      (repeat((conv=>whnf);first|apply ω0|apply ω1|apply ω2|refine τ3 rfl ?_|refine τ4 rfl ?_|refine ⟨rfl,?_⟩|apply τa|refine τb rfl ?_|refine ⟨⟨by kernel_rfl,by kernel_rfl⟩,?_⟩|refine ⟨by decide,?_⟩|apply τt|apply τf))
      refine ⟨⟨by first | omega | (dsimp only; omega), by first | omega | (dsimp only; omega)⟩, ?_⟩
      (repeat((conv=>whnf);first|apply ω0|apply ω1|apply ω2|refine τ3 rfl ?_|refine τ4 rfl ?_|refine ⟨rfl,?_⟩|apply τa|refine τb rfl ?_|refine ⟨⟨by kernel_rfl,by kernel_rfl⟩,?_⟩|refine ⟨by decide,?_⟩|apply τt|apply τf))
      cases hb : nameB (l.getD i trow0).name.data.toList with
      | false =>
        rw [hb] at hnm
        refine aop_tells rfl rfl hnm ⟨AVle.refl _, trivial⟩ fun nx2 => ?_
        (repeat((conv=>whnf);first|apply ω0|apply ω1|apply ω2|refine τ3 rfl ?_|refine τ4 rfl ?_|refine ⟨rfl,?_⟩|apply τa|refine τb rfl ?_|refine ⟨⟨by kernel_rfl,by kernel_rfl⟩,?_⟩|refine ⟨by decide,?_⟩|apply τt|apply τf))
        rw [herr 13 (rowE_13 hb)]
        exact ret_tells rfl (AVle.refl _)
      | true =>
        rw [hb] at hnm
        refine aop_tells rfl rfl hnm ⟨AVle.refl _, trivial⟩ fun nx2 => ?_
        (repeat((conv=>whnf);first|apply ω0|apply ω1|apply ω2|refine τ3 rfl ?_|refine τ4 rfl ?_|refine ⟨rfl,?_⟩|apply τa|refine τb rfl ?_|refine ⟨⟨by kernel_rfl,by kernel_rfl⟩,?_⟩|refine ⟨by decide,?_⟩|apply τt|apply τf))
        refine aw_mid (fun y : Nat => mk 88 [(0, trows l), (2, int 0), (3, int 0), (4, .om (0, nx)), (5, int i), (6, .bp (1, nx1) 0), (7, int (l.getD i trow0).a2), (14, trows l), (15, int l.length), (16, int i), (30, boolA (ordB l i))] ⟨[((1, nx1), .c (trowC (l.getD i trow0))), ((0, nx), .mp (S.map entA))], [], y, 2⟩) (fun _ => True) ?_ ?_
        · by_cases h0 : 0 < i
          · have hd : decide ((i : Int) > 0) = true := decide_eq_true (by omega)
            have hi1 : IntKind.i64.wrap ((i : Int) - 1) = ((i - 1 : Nat) : Int) := by rw [wrap_id (by omega) (by omega)]; omega
            (refine aw_draw 13 ?_ ?_ ?_ ?_; (· kernel_rfl); (· kernel_rfl); (· kernel_rfl))
            (repeat((conv=>whnf);first|apply ω0|apply ω1|apply ω2|refine τ3 rfl ?_|refine τ4 rfl ?_|refine ⟨rfl,?_⟩|apply τa|refine τb rfl ?_|refine ⟨⟨by kernel_rfl,by kernel_rfl⟩,?_⟩|refine ⟨by decide,?_⟩|apply τt|apply τf))
            (conv => whnf)
            refine lit_eq hd ?_
            (repeat((conv=>whnf);first|apply ω0|apply ω1|apply ω2|refine τ3 rfl ?_|refine τ4 rfl ?_|refine ⟨rfl,?_⟩|apply τa|refine τb rfl ?_|refine ⟨⟨by kernel_rfl,by kernel_rfl⟩,?_⟩|refine ⟨by decide,?_⟩|apply τt|apply τf))
            refine ⟨⟨ixge (i := i - 1) hi1, ixlt (i := i - 1) hi1 (by omega)⟩, splitO_eq (b := .rp (trowC (l.getD (i - 1) trow0))) (congrArg (fun z : Int => AV.rp (trowC (l.getD z.toNat trow0))) hi1) ?_⟩
            (repeat((conv=>whnf);first|apply ω0|apply ω1|apply ω2|refine τ3 rfl ?_|refine τ4 rfl ?_|refine ⟨rfl,?_⟩|apply τa|refine τb rfl ?_|refine ⟨⟨by kernel_rfl,by kernel_rfl⟩,?_⟩|refine ⟨by decide,?_⟩|apply τt|apply τf))
            intro c hc
            have hc2 : c = ordB l i := hc.trans (by unfold ordB; rw [decide_eq_true h0, Bool.true_and]; rfl)
            clear hc
            rw [← hc2]
            clear hc2
            cases c
            all_goals
              (repeat((conv=>whnf);first|apply ω0|apply ω1|apply ω2|refine τ3 rfl ?_|refine τ4 rfl ?_|refine ⟨rfl,?_⟩|apply τa|refine τb rfl ?_|refine ⟨⟨by kernel_rfl,by kernel_rfl⟩,?_⟩|refine ⟨by decide,?_⟩|apply τt|apply τf))
              exact ⟨nx2, trivial, ele_tell _ _ rfl rfl (List.Sublist.refl _) (List.Sublist.refl _) (BxLe.refl _) trivial ⟨AVle.refl _, AVle.refl _, AVle.refl _, AVle.refl _, AVle.refl _, AVle.refl _, AVle.refl _, AVle.refl _, AVle.refl _, AVle.refl _, AVle.refl _, trivial⟩⟩
          · have hd : decide ((i : Int) > 0) = false := decide_eq_false (by omega)
            have hq : ordB l i = false := by unfold ordB; rw [decide_eq_false h0]; rfl
            rw [hq]
            (refine aw_draw 13 ?_ ?_ ?_ ?_; (· kernel_rfl); (· kernel_rfl); (· kernel_rfl))
            (repeat((conv=>whnf);first|apply ω0|apply ω1|apply ω2|refine τ3 rfl ?_|refine τ4 rfl ?_|refine ⟨rfl,?_⟩|apply τa|refine τb rfl ?_|refine ⟨⟨by kernel_rfl,by kernel_rfl⟩,?_⟩|refine ⟨by decide,?_⟩|apply τt|apply τf))
            (conv => whnf)
            refine lit_eq hd ?_
            (repeat((conv=>whnf);first|apply ω0|apply ω1|apply ω2|refine τ3 rfl ?_|refine τ4 rfl ?_|refine ⟨rfl,?_⟩|apply τa|refine τb rfl ?_|refine ⟨⟨by kernel_rfl,by kernel_rfl⟩,?_⟩|refine ⟨by decide,?_⟩|apply τt|apply τf))
            exact ⟨nx2, trivial, ele_tell _ _ rfl rfl (List.Sublist.refl _) (List.Sublist.refl _) (BxLe.refl _) trivial ⟨AVle.refl _, AVle.refl _, AVle.refl _, AVle.refl _, AVle.refl _, AVle.refl _, AVle.refl _, AVle.refl _, AVle.refl _, AVle.refl _, AVle.refl _, trivial⟩⟩
        · rintro nx3 -
          cases hq : ordB l i with
          | true =>
            (repeat((conv=>whnf);first|apply ω0|apply ω1|apply ω2|refine τ3 rfl ?_|refine τ4 rfl ?_|refine ⟨rfl,?_⟩|apply τa|refine τb rfl ?_|refine ⟨⟨by kernel_rfl,by kernel_rfl⟩,?_⟩|refine ⟨by decide,?_⟩|apply τt|apply τf))
            rw [herr 15 (rowE_15 hb hq)]
            exact ret_tells rfl (AVle.refl _)
          | false =>
            (repeat((conv=>whnf);first|apply ω0|apply ω1|apply ω2|refine τ3 rfl ?_|refine τ4 rfl ?_|refine ⟨rfl,?_⟩|apply τa|refine τb rfl ?_|refine ⟨⟨by kernel_rfl,by kernel_rfl⟩,?_⟩|refine ⟨by decide,?_⟩|apply τt|apply τf))
            refine splitO_eq (b := trowA (l.getD i trow0)) rfl ?_
            (repeat((conv=>whnf);first|apply ω0|apply ω1|apply ω2|refine τ3 rfl ?_|refine τ4 rfl ?_|refine ⟨rfl,?_⟩|apply τa|refine τb rfl ?_|refine ⟨⟨by kernel_rfl,by kernel_rfl⟩,?_⟩|refine ⟨by decide,?_⟩|apply τt|apply τf))
            cases hr : rangedR (l.getD i trow0) with
            | false =>
              rw [hr] at hrg
              refine aop_tells rfl rfl hrg ⟨AVle.refl _, trivial⟩ fun nx4 => ?_
              (repeat((conv=>whnf);first|apply ω0|apply ω1|apply ω2|refine τ3 rfl ?_|refine τ4 rfl ?_|refine ⟨rfl,?_⟩|apply τa|refine τb rfl ?_|refine ⟨⟨by kernel_rfl,by kernel_rfl⟩,?_⟩|refine ⟨by decide,?_⟩|apply τt|apply τf))
              rw [herr 16 (rowE_16 hb hq hr)]
              exact ret_tells rfl (AVle.refl _)
            | true =>
              rw [hr] at hrg
              refine aop_tells rfl rfl hrg ⟨AVle.refl _, trivial⟩ fun nx4 => ?_
              (repeat((conv=>whnf);first|apply ω0|apply ω1|apply ω2|refine τ3 rfl ?_|refine τ4 rfl ?_|refine ⟨rfl,?_⟩|apply τa|refine τb rfl ?_|refine ⟨⟨by kernel_rfl,by kernel_rfl⟩,?_⟩|refine ⟨by decide,?_⟩|apply τt|apply τf))
              intro c t1; cases c
              rotate_left
              · have t1 : (l.getD i trow0).a2 = 102 := by simpa using t1.symm
                (repeat((conv=>whnf);first|apply ω0|apply ω1|apply ω2|refine τ3 rfl ?_|refine τ4 rfl ?_|refine ⟨rfl,?_⟩|apply τa|refine τb rfl ?_|refine ⟨⟨by kernel_rfl,by kernel_rfl⟩,?_⟩|refine ⟨by decide,?_⟩|apply τt|apply τf))
                rw [herr 17 (rowE_17 hb hq hr (.inl t1))]
                exact ret_tells rfl (AVle.refl _)
              have t1 : ¬ (l.getD i trow0).a2 = 102 := by simpa using t1.symm
              (repeat((conv=>whnf);first|apply ω0|apply ω1|apply ω2|refine τ3 rfl ?_|refine τ4 rfl ?_|refine ⟨rfl,?_⟩|apply τa|refine τb rfl ?_|refine ⟨⟨by kernel_rfl,by kernel_rfl⟩,?_⟩|refine ⟨by decide,?_⟩|apply τt|apply τf))
              intro c t2; cases c
              rotate_left
              · have t2 : (l.getD i trow0).a2 = 117 := by simpa using t2.symm
                (repeat((conv=>whnf);first|apply ω0|apply ω1|apply ω2|refine τ3 rfl ?_|refine τ4 rfl ?_|refine ⟨rfl,?_⟩|apply τa|refine τb rfl ?_|refine ⟨⟨by kernel_rfl,by kernel_rfl⟩,?_⟩|refine ⟨by decide,?_⟩|apply τt|apply τf))
                rw [herr 17 (rowE_17 hb hq hr (.inr t2))]
                exact ret_tells rfl (AVle.refl _)
              have t2 : ¬ (l.getD i trow0).a2 = 117 := by simpa using t2.symm
              have hrest := rowE_rest (S := S) hb hq hr (fun h => h.elim t1 t2)
              (repeat((conv=>whnf);first|apply ω0|apply ω1|apply ω2|refine τ3 rfl ?_|refine τ4 rfl ?_|refine ⟨rfl,?_⟩|apply τa|refine τb rfl ?_|refine ⟨⟨by kernel_rfl,by kernel_rfl⟩,?_⟩|refine ⟨by decide,?_⟩|apply τt|apply τf))
              refine aw_midB (fun y : Seen × Nat => mk 88 [(0, trows l), (2, int 0), (3, int 0), (4, .om (0, nx)), (5, int i), (6, .bp (1, nx1) 0), (14, trows l), (15, int l.length), (16, int i)] ⟨[((1, nx1), .c (trowC (l.getD i trow0))), ((0, nx), .mp (y.1.map entA))], [], y.2, 2⟩) (fun y => numsR (l.getD i trow0) S 5 = some y.1) ?_ ?_
              · refine aw_loop (fun y : Nat × Seen × Nat => mk 88 [(0, trows l), (2, int 0), (3, int 0), (4, .om (0, nx)), (5, int i), (6, .bp (1, nx1) 0), (14, trows l), (15, int l.length), (16, int i), (59, arr5 (l.getD i trow0)), (60, int y.1)] ⟨[((1, nx1), .c (trowC (l.getD i trow0))), ((0, nx), .mp (y.2.1.map entA))], [], y.2.2, 2⟩) (fun y => y.1 ≤ 5 ∧ numsR (l.getD i trow0) S y.1 = some y.2.1) (fun y => 5 - y.1) ?_ ?_
                · exact ⟨(0, S, nx4), ⟨Nat.zero_le _, rfl⟩, ele_tell _ _ rfl rfl (List.Sublist.refl _) (List.Sublist.refl _) (BxLe.refl _) trivial ⟨AVle.refl _, AVle.refl _, AVle.refl _, AVle.refl _, AVle.refl _, AVle.refl _, AVle.refl _, AVle.refl _, AVle.refl _, AVle.refl _, AVle.refl _, trivial⟩⟩
                · rintro ⟨k, S', nx5⟩ ⟨hk, hS⟩
                  dsimp only at hk hS
                  rcases k with _ | _ | _ | _ | _ | _ | k
                  · (repeat((conv=>whnf);first|apply ω0|apply ω1|apply ω2|refine τ3 rfl ?_|refine τ4 rfl ?_|refine ⟨rfl,?_⟩|apply τa|refine τb rfl ?_|refine ⟨⟨by kernel_rfl,by kernel_rfl⟩,?_⟩|refine ⟨by decide,?_⟩|apply τt|apply τf))
                    intro c t; cases c
                    · have t : (l.getD i trow0).num 0 = -1 := by show (l.getD i trow0).a0 = -1; simpa using t.symm
                      (repeat((conv=>whnf);first|apply ω0|apply ω1|apply ω2|refine τ3 rfl ?_|refine τ4 rfl ?_|refine ⟨rfl,?_⟩|apply τa|refine τb rfl ?_|refine ⟨⟨by kernel_rfl,by kernel_rfl⟩,?_⟩|refine ⟨by decide,?_⟩|apply τt|apply τf))
                      exact back (0 + 1, S', nx5) ⟨by dsimp only; omega, nums_skip hS t⟩ (by dsimp only; omega) (ele_tell _ _ rfl rfl (List.Sublist.refl _) (List.Sublist.refl _) (BxLe.refl _) trivial ⟨AVle.refl _, AVle.refl _, AVle.refl _, AVle.refl _, AVle.refl _, AVle.refl _, AVle.refl _, AVle.refl _, AVle.refl _, AVle.refl _, AVle.refl _, trivial⟩)
                    · have t : ¬ (l.getD i trow0).num 0 = -1 := by show ¬ (l.getD i trow0).a0 = -1; simpa using t.symm
                      (repeat((conv=>whnf);first|apply ω0|apply ω1|apply ω2|refine τ3 rfl ?_|refine τ4 rfl ?_|refine ⟨rfl,?_⟩|apply τa|refine τb rfl ?_|refine ⟨⟨by kernel_rfl,by kernel_rfl⟩,?_⟩|refine ⟨by decide,?_⟩|apply τt|apply τf))
                      refine aop_callF (xs := [.om (0, nx), int ((0 : Nat) : Int), int ((l.getD i trow0).num 0)]) [((1, nx1), .c (trowC (l.getD i trow0)))] [] 2 rfl rfl rfl rfl ⟨AVle.refl _, AVle.refl _, AVle.refl _, trivial⟩ (met_spec nx nx5 0 S' ((0 : Nat) : Int) ((l.getD i trow0).num 0)) (BxLe.refl _) (PmEq.refl _) rfl fun r h' hq2 => ?_
                      obtain ⟨nx6, nn6, rfl, rfl⟩ := hq2
                      by_cases hm : (((0 : Nat) : Int), (l.getD i trow0).num 0) ∈ S'
                      · have hnone := nums_none (nums_in hS t hm) (show 0 + 1 ≤ 5 by decide)
                        rw [hnone] at hrest
                        rw [decide_eq_true hm]
                        (repeat((conv=>whnf);first|apply ω0|apply ω1|apply ω2|refine τ3 rfl ?_|refine τ4 rfl ?_|refine ⟨rfl,?_⟩|apply τa|refine τb rfl ?_|refine ⟨⟨by kernel_rfl,by kernel_rfl⟩,?_⟩|refine ⟨by decide,?_⟩|apply τt|apply τf))
                        rw [herr 15 hrest]
                        exact ret_tells rfl (AVle.refl _)
                      · have hnew := nums_new hS t hm
                        rw [decide_eq_false hm]
                        (repeat((conv=>whnf);first|apply ω0|apply ω1|apply ω2|refine τ3 rfl ?_|refine τ4 rfl ?_|refine ⟨rfl,?_⟩|apply τa|refine τb rfl ?_|refine ⟨⟨by kernel_rfl,by kernel_rfl⟩,?_⟩|refine ⟨by decide,?_⟩|apply τt|apply τf))
                        exact back (0 + 1, addA (((0 : Nat) : Int), (l.getD i trow0).num 0) S', nx6) ⟨by dsimp only; omega, hnew⟩ (by dsimp only; omega) (ele_tell _ _ rfl rfl (List.Sublist.refl _) (List.Sublist.refl _) (BxLe.refl _) trivial ⟨AVle.refl _, AVle.refl _, AVle.refl _, AVle.refl _, AVle.refl _, AVle.refl _, AVle.refl _, AVle.refl _, AVle.refl _, AVle.refl _, AVle.refl _, trivial⟩)
                  · (repeat((conv=>whnf);first|apply ω0|apply ω1|apply ω2|refine τ3 rfl ?_|refine τ4 rfl ?_|refine ⟨rfl,?_⟩|apply τa|refine τb rfl ?_|refine ⟨⟨by kernel_rfl,by kernel_rfl⟩,?_⟩|refine ⟨by decide,?_⟩|apply τt|apply τf))
                    intro c t; cases c
                    · have t : (l.getD i trow0).num 1 = -1 := by show (l.getD i trow0).a1 = -1; simpa using t.symm
                      (repeat((conv=>whnf);first|apply ω0|apply ω1|apply ω2|refine τ3 rfl ?_|refine τ4 rfl ?_|refine ⟨rfl,?_⟩|apply τa|refine τb rfl ?_|refine ⟨⟨by kernel_rfl,by kernel_rfl⟩,?_⟩|refine ⟨by decide,?_⟩|apply τt|apply τf))
                      exact back (1 + 1, S', nx5) ⟨by dsimp only; omega, nums_skip hS t⟩ (by dsimp only; omega) (ele_tell _ _ rfl rfl (List.Sublist.refl _) (List.Sublist.refl _) (BxLe.refl _) trivial ⟨AVle.refl _, AVle.refl _, AVle.refl _, AVle.refl _, AVle.refl _, AVle.refl _, AVle.refl _, AVle.refl _, AVle.refl _, AVle.refl _, AVle.refl _, trivial⟩)
                    · have t : ¬ (l.getD i trow0).num 1 = -1 := by show ¬ (l.getD i trow0).a1 = -1; simpa using t.symm
                      (repeat((conv=>whnf);first|apply ω0|apply ω1|apply ω2|refine τ3 rfl ?_|refine τ4 rfl ?_|refine ⟨rfl,?_⟩|apply τa|refine τb rfl ?_|refine ⟨⟨by kernel_rfl,by kernel_rfl⟩,?_⟩|refine ⟨by decide,?_⟩|apply τt|apply τf))
                      refine aop_callF (xs := [.om (0, nx), int ((1 : Nat) : Int), int ((l.getD i trow0).num 1)]) [((1, nx1), .c (trowC (l.getD i trow0)))] [] 2 rfl rfl rfl rfl ⟨AVle.refl _, AVle.refl _, AVle.refl _, trivial⟩ (met_spec nx nx5 0 S' ((1 : Nat) : Int) ((l.getD i trow0).num 1)) (BxLe.refl _) (PmEq.refl _) rfl fun r h' hq2 => ?_
                      obtain ⟨nx6, nn6, rfl, rfl⟩ := hq2
                      by_cases hm : (((1 : Nat) : Int), (l.getD i trow0).num 1) ∈ S'
                      · have hnone := nums_none (nums_in hS t hm) (show 1 + 1 ≤ 5 by decide)
                        rw [hnone] at hrest
                        rw [decide_eq_true hm]
                        (repeat((conv=>whnf);first|apply ω0|apply ω1|apply ω2|refine τ3 rfl ?_|refine τ4 rfl ?_|refine ⟨rfl,?_⟩|apply τa|refine τb rfl ?_|refine ⟨⟨by kernel_rfl,by kernel_rfl⟩,?_⟩|refine ⟨by decide,?_⟩|apply τt|apply τf))
                        rw [herr 15 hrest]
                        exact ret_tells rfl (AVle.refl _)
                      · have hnew := nums_new hS t hm
                        rw [decide_eq_false hm]
                        (repeat((conv=>whnf);first|apply ω0|apply ω1|apply ω2|refine τ3 rfl ?_|refine τ4 rfl ?_|refine ⟨rfl,?_⟩|apply τa|refine τb rfl ?_|refine ⟨⟨by kernel_rfl,by kernel_rfl⟩,?_⟩|refine ⟨by decide,?_⟩|apply τt|apply τf))
                        exact back (1 + 1, addA (((1 : Nat) : Int), (l.getD i trow0).num 1) S', nx6) ⟨by dsimp only; omega, hnew⟩ (by dsimp only; omega) (ele_tell _ _ rfl rfl (List.Sublist.refl _) (List.Sublist.refl _) (BxLe.refl _) trivial ⟨AVle.refl _, AVle.refl _, AVle.refl _, AVle.refl _, AVle.refl _, AVle.refl _, AVle.refl _, AVle.refl _, AVle.refl _, AVle.refl _, AVle.refl _, trivial⟩)
                  · (repeat((conv=>whnf);first|apply ω0|apply ω1|apply ω2|refine τ3 rfl ?_|refine τ4 rfl ?_|refine ⟨rfl,?_⟩|apply τa|refine τb rfl ?_|refine ⟨⟨by kernel_rfl,by kernel_rfl⟩,?_⟩|refine ⟨by decide,?_⟩|apply τt|apply τf))
                    intro c t; cases c
                    · have t : (l.getD i trow0).num 2 = -1 := by show (l.getD i trow0).a2 = -1; simpa using t.symm
                      (repeat((conv=>whnf);first|apply ω0|apply ω1|apply ω2|refine τ3 rfl ?_|refine τ4 rfl ?_|refine ⟨rfl,?_⟩|apply τa|refine τb rfl ?_|refine ⟨⟨by kernel_rfl,by kernel_rfl⟩,?_⟩|refine ⟨by decide,?_⟩|apply τt|apply τf))
                      exact back (2 + 1, S', nx5) ⟨by dsimp only; omega, nums_skip hS t⟩ (by dsimp only; omega) (ele_tell _ _ rfl rfl (List.Sublist.refl _) (List.Sublist.refl _) (BxLe.refl _) trivial ⟨AVle.refl _, AVle.refl _, AVle.refl _, AVle.refl _, AVle.refl _, AVle.refl _, AVle.refl _, AVle.refl _, AVle.refl _, AVle.refl _, AVle.refl _, trivial⟩)
                    · have t : ¬ (l.getD i trow0).num 2 = -1 := by show ¬ (l.getD i trow0).a2 = -1; simpa using t.symm
                      (repeat((conv=>whnf);first|apply ω0|apply ω1|apply ω2|refine τ3 rfl ?_|refine τ4 rfl ?_|refine ⟨rfl,?_⟩|apply τa|refine τb rfl ?_|refine ⟨⟨by kernel_rfl,by kernel_rfl⟩,?_⟩|refine ⟨by decide,?_⟩|apply τt|apply τf))
                      refine aop_callF (xs := [.om (0, nx), int ((2 : Nat) : Int), int ((l.getD i trow0).num 2)]) [((1, nx1), .c (trowC (l.getD i trow0)))] [] 2 rfl rfl rfl rfl ⟨AVle.refl _, AVle.refl _, AVle.refl _, trivial⟩ (met_spec nx nx5 0 S' ((2 : Nat) : Int) ((l.getD i trow0).num 2)) (BxLe.refl _) (PmEq.refl _) rfl fun r h' hq2 => ?_
                      obtain ⟨nx6, nn6, rfl, rfl⟩ := hq2
                      by_cases hm : (((2 : Nat) : Int), (l.getD i trow0).num 2) ∈ S'
                      · have hnone := nums_none (nums_in hS t hm) (show 2 + 1 ≤ 5 by decide)
                        rw [hnone] at hrest
                        rw [decide_eq_true hm]
                        (repeat((conv=>whnf);first|apply ω0|apply ω1|apply ω2|refine τ3 rfl ?_|refine τ4 rfl ?_|refine ⟨rfl,?_⟩|apply τa|refine τb rfl ?_|refine ⟨⟨by kernel_rfl,by kernel_rfl⟩,?_⟩|refine ⟨by decide,?_⟩|apply τt|apply τf))
                        rw [herr 15 hrest]
                        exact ret_tells rfl (AVle.refl _)
                      · have hnew := nums_new hS t hm
                        rw [decide_eq_false hm]
                        (repeat((conv=>whnf);first|apply ω0|apply ω1|apply ω2|refine τ3 rfl ?_|refine τ4 rfl ?_|refine ⟨rfl,?_⟩|apply τa|refine τb rfl ?_|refine ⟨⟨by kernel_rfl,by kernel_rfl⟩,?_⟩|refine ⟨by decide,?_⟩|apply τt|apply τf))
                        exact back (2 + 1, addA (((2 : Nat) : Int), (l.getD i trow0).num 2) S', nx6) ⟨by dsimp only; omega, hnew⟩ (by dsimp only; omega) (ele_tell _ _ rfl rfl (List.Sublist.refl _) (List.Sublist.refl _) (BxLe.refl _) trivial ⟨AVle.refl _, AVle.refl _, AVle.refl _, AVle.refl _, AVle.refl _, AVle.refl _, AVle.refl _, AVle.refl _, AVle.refl _, AVle.refl _, AVle.refl _, trivial⟩)
                  · (repeat((conv=>whnf);first|apply ω0|apply ω1|apply ω2|refine τ3 rfl ?_|refine τ4 rfl ?_|refine ⟨rfl,?_⟩|apply τa|refine τb rfl ?_|refine ⟨⟨by kernel_rfl,by kernel_rfl⟩,?_⟩|refine ⟨by decide,?_⟩|apply τt|apply τf))
                    intro c t; cases c
                    · have t : (l.getD i trow0).num 3 = -1 := by show (l.getD i trow0).a3 = -1; simpa using t.symm
                      (repeat((conv=>whnf);first|apply ω0|apply ω1|apply ω2|refine τ3 rfl ?_|refine τ4 rfl ?_|refine ⟨rfl,?_⟩|apply τa|refine τb rfl ?_|refine ⟨⟨by kernel_rfl,by kernel_rfl⟩,?_⟩|refine ⟨by decide,?_⟩|apply τt|apply τf))
                      exact back (3 + 1, S', nx5) ⟨by dsimp only; omega, nums_skip hS t⟩ (by dsimp only; omega) (ele_tell _ _ rfl rfl (List.Sublist.refl _) (List.Sublist.refl _) (BxLe.refl _) trivial ⟨AVle.refl _, AVle.refl _, AVle.refl _, AVle.refl _, AVle.refl _, AVle.refl _, AVle.refl _, AVle.refl _, AVle.refl _, AVle.refl _, AVle.refl _, trivial⟩)
                    · have t : ¬ (l.getD i trow0).num 3 = -1 := by show ¬ (l.getD i trow0).a3 = -1; simpa using t.symm
                      (repeat((conv=>whnf);first|apply ω0|apply ω1|apply ω2|refine τ3 rfl ?_|refine τ4 rfl ?_|refine ⟨rfl,?_⟩|apply τa|refine τb rfl ?_|refine ⟨⟨by kernel_rfl,by kernel_rfl⟩,?_⟩|refine ⟨by decide,?_⟩|apply τt|apply τf))
                      refine aop_callF (xs := [.om (0, nx), int ((3 : Nat) : Int), int ((l.getD i trow0).num 3)]) [((1, nx1), .c (trowC (l.getD i trow0)))] [] 2 rfl rfl rfl rfl ⟨AVle.refl _, AVle.refl _, AVle.refl _, trivial⟩ (met_spec nx nx5 0 S' ((3 : Nat) : Int) ((l.getD i trow0).num 3)) (BxLe.refl _) (PmEq.refl _) rfl fun r h' hq2 => ?_
                      obtain ⟨nx6, nn6, rfl, rfl⟩ := hq2
                      by_cases hm : (((3 : Nat) : Int), (l.getD i trow0).num 3) ∈ S'
                      · have hnone := nums_none (nums_in hS t hm) (show 3 + 1 ≤ 5 by decide)
                        rw [hnone] at hrest
                        rw [decide_eq_true hm]
                        (repeat((conv=>whnf);first|apply ω0|apply ω1|apply ω2|refine τ3 rfl ?_|refine τ4 rfl ?_|refine ⟨rfl,?_⟩|apply τa|refine τb rfl ?_|refine ⟨⟨by kernel_rfl,by kernel_rfl⟩,?_⟩|refine ⟨by decide,?_⟩|apply τt|apply τf))
                        rw [herr 15 hrest]
                        exact ret_tells rfl (AVle.refl _)
                      · have hnew := nums_new hS t hm
                        rw [decide_eq_false hm]
                        (repeat((conv=>whnf);first|apply ω0|apply ω1|apply ω2|refine τ3 rfl ?_|refine τ4 rfl ?_|refine ⟨rfl,?_⟩|apply τa|refine τb rfl ?_|refine ⟨⟨by kernel_rfl,by kernel_rfl⟩,?_⟩|refine ⟨by decide,?_⟩|apply τt|apply τf))
                        exact back (3 + 1, addA (((3 : Nat) : Int), (l.getD i trow0).num 3) S', nx6) ⟨by dsimp only; omega, hnew⟩ (by dsimp only; omega) (ele_tell _ _ rfl rfl (List.Sublist.refl _) (List.Sublist.refl _) (BxLe.refl _) trivial ⟨AVle.refl _, AVle.refl _, AVle.refl _, AVle.refl _, AVle.refl _, AVle.refl _, AVle.refl _, AVle.refl _, AVle.refl _, AVle.refl _, AVle.refl _, trivial⟩)
                  · (repeat((conv=>whnf);first|apply ω0|apply ω1|apply ω2|refine τ3 rfl ?_|refine τ4 rfl ?_|refine ⟨rfl,?_⟩|apply τa|refine τb rfl ?_|refine ⟨⟨by kernel_rfl,by kernel_rfl⟩,?_⟩|refine ⟨by decide,?_⟩|apply τt|apply τf))
                    intro c t; cases c
                    · have t : (l.getD i trow0).num 4 = -1 := by show (l.getD i trow0).a4 = -1; simpa using t.symm
                      (repeat((conv=>whnf);first|apply ω0|apply ω1|apply ω2|refine τ3 rfl ?_|refine τ4 rfl ?_|refine ⟨rfl,?_⟩|apply τa|refine τb rfl ?_|refine ⟨⟨by kernel_rfl,by kernel_rfl⟩,?_⟩|refine ⟨by decide,?_⟩|apply τt|apply τf))
                      exact back (4 + 1, S', nx5) ⟨by dsimp only; omega, nums_skip hS t⟩ (by dsimp only; omega) (ele_tell _ _ rfl rfl (List.Sublist.refl _) (List.Sublist.refl _) (BxLe.refl _) trivial ⟨AVle.refl _, AVle.refl _, AVle.refl _, AVle.refl _, AVle.refl _, AVle.refl _, AVle.refl _, AVle.refl _, AVle.refl _, AVle.refl _, AVle.refl _, trivial⟩)
                    · have t : ¬ (l.getD i trow0).num 4 = -1 := by show ¬ (l.getD i trow0).a4 = -1; simpa using t.symm
                      (repeat((conv=>whnf);first|apply ω0|apply ω1|apply ω2|refine τ3 rfl ?_|refine τ4 rfl ?_|refine ⟨rfl,?_⟩|apply τa|refine τb rfl ?_|refine ⟨⟨by kernel_rfl,by kernel_rfl⟩,?_⟩|refine ⟨by decide,?_⟩|apply τt|apply τf))
                      refine aop_callF (xs := [.om (0, nx), int ((4 : Nat) : Int), int ((l.getD i trow0).num 4)]) [((1, nx1), .c (trowC (l.getD i trow0)))] [] 2 rfl rfl rfl rfl ⟨AVle.refl _, AVle.refl _, AVle.refl _, trivial⟩ (met_spec nx nx5 0 S' ((4 : Nat) : Int) ((l.getD i trow0).num 4)) (BxLe.refl _) (PmEq.refl _) rfl fun r h' hq2 => ?_
                      obtain ⟨nx6, nn6, rfl, rfl⟩ := hq2
                      by_cases hm : (((4 : Nat) : Int), (l.getD i trow0).num 4) ∈ S'
                      · have hnone := nums_none (nums_in hS t hm) (show 4 + 1 ≤ 5 by decide)
                        rw [hnone] at hrest
                        rw [decide_eq_true hm]
                        (repeat((conv=>whnf);first|apply ω0|apply ω1|apply ω2|refine τ3 rfl ?_|refine τ4 rfl ?_|refine ⟨rfl,?_⟩|apply τa|refine τb rfl ?_|refine ⟨⟨by kernel_rfl,by kernel_rfl⟩,?_⟩|refine ⟨by decide,?_⟩|apply τt|apply τf))
                        rw [herr 15 hrest]
                        exact ret_tells rfl (AVle.refl _)
                      · have hnew := nums_new hS t hm
                        rw [decide_eq_false hm]
                        (repeat((conv=>whnf);first|apply ω0|apply ω1|apply ω2|refine τ3 rfl ?_|refine τ4 rfl ?_|refine ⟨rfl,?_⟩|apply τa|refine τb rfl ?_|refine ⟨⟨by kernel_rfl,by kernel_rfl⟩,?_⟩|refine ⟨by decide,?_⟩|apply τt|apply τf))
                        exact back (4 + 1, addA (((4 : Nat) : Int), (l.getD i trow0).num 4) S', nx6) ⟨by dsimp only; omega, hnew⟩ (by dsimp only; omega) (ele_tell _ _ rfl rfl (List.Sublist.refl _) (List.Sublist.refl _) (BxLe.refl _) trivial ⟨AVle.refl _, AVle.refl _, AVle.refl _, AVle.refl _, AVle.refl _, AVle.refl _, AVle.refl _, AVle.refl _, AVle.refl _, AVle.refl _, AVle.refl _, trivial⟩)
                  · (repeat((conv=>whnf);first|apply ω0|apply ω1|apply ω2|refine τ3 rfl ?_|refine τ4 rfl ?_|refine ⟨rfl,?_⟩|apply τa|refine τb rfl ?_|refine ⟨⟨by kernel_rfl,by kernel_rfl⟩,?_⟩|refine ⟨by decide,?_⟩|apply τt|apply τf))
                    exact ⟨(S', nx5), hS, ele_tell _ _ rfl rfl (List.Sublist.refl _) (List.Sublist.refl _) (BxLe.refl _) trivial ⟨AVle.refl _, AVle.refl _, AVle.refl _, AVle.refl _, AVle.refl _, AVle.refl _, AVle.refl _, AVle.refl _, AVle.refl _, trivial⟩⟩
                  · omega
              · rintro ⟨S5, nx5⟩ hS
                dsimp only at hS
                (repeat((conv=>whnf);first|apply ω0|apply ω1|apply ω2|refine τ3 rfl ?_|refine τ4 rfl ?_|refine ⟨rfl,?_⟩|apply τa|refine τb rfl ?_|refine ⟨⟨by kernel_rfl,by kernel_rfl⟩,?_⟩|refine ⟨by decide,?_⟩|apply τt|apply τf))
                intro c t; cases c
                · have t : (l.getD i trow0).mux = 0 := by simpa using t.symm
                  have hmx : muxR (l.getD i trow0) S5 = some S5 := if_pos t
                  rw [hS] at hrest
                  dsimp only at hrest
                  rw [hmx] at hrest
                  have h3 := hnext S5 hrest
                  (repeat((conv=>whnf);first|apply ω0|apply ω1|apply ω2|refine τ3 rfl ?_|refine τ4 rfl ?_|refine ⟨rfl,?_⟩|apply τa|refine τb rfl ?_|refine ⟨⟨by kernel_rfl,by kernel_rfl⟩,?_⟩|refine ⟨by decide,?_⟩|apply τt|apply τf))
                  exact back (i + 1, S5, nx5) ⟨hi, h3⟩ (by dsimp only; omega) (ele_tell _ _ rfl rfl (.cons _ (List.Sublist.refl _)) (List.Sublist.refl _) (BxLe.refl _) trivial ⟨AVle.refl _, AVle.refl _, AVle.refl _, AVle.refl _, AVle.refl _, AVle.refl _, le_int (wrap_succ (by first | omega | (dsimp only; omega))), trivial⟩)
                · have t : ¬ (l.getD i trow0).mux = 0 := by simpa using t.symm
                  have h12 := ranged_mux hr t
                  have hw : IntKind.i64.wrap (5 + (l.getD i trow0).mux) = 5 + (l.getD i trow0).mux := wrap_id (by omega) (by omega)
                  (repeat((conv=>whnf);first|apply ω0|apply ω1|apply ω2|refine τ3 rfl ?_|refine τ4 rfl ?_|refine ⟨rfl,?_⟩|apply τa|refine τb rfl ?_|refine ⟨⟨by kernel_rfl,by kernel_rfl⟩,?_⟩|refine ⟨by decide,?_⟩|apply τt|apply τf))
                  refine aop_callF (xs := [.om (0, nx), int (5 + (l.getD i trow0).mux), int (l.getD i trow0).sub]) [((1, nx1), .c (trowC (l.getD i trow0)))] [] 2 rfl rfl rfl rfl ⟨AVle.refl _, le_int hw, AVle.refl _, trivial⟩ (met_spec nx nx5 0 S5 (5 + (l.getD i trow0).mux) (l.getD i trow0).sub) (BxLe.refl _) (PmEq.refl _) rfl fun r h' hq2 => ?_
                  obtain ⟨nx6, nn6, rfl, rfl⟩ := hq2
                  rw [hS] at hrest
                  dsimp only at hrest
                  by_cases hm : (5 + (l.getD i trow0).mux, (l.getD i trow0).sub) ∈ S5
                  · have hmx : muxR (l.getD i trow0) S5 = none := by unfold muxR; rw [if_neg t, if_pos hm]
                    rw [hmx] at hrest
                    rw [decide_eq_true hm]
                    (repeat((conv=>whnf);first|apply ω0|apply ω1|apply ω2|refine τ3 rfl ?_|refine τ4 rfl ?_|refine ⟨rfl,?_⟩|apply τa|refine τb rfl ?_|refine ⟨⟨by kernel_rfl,by kernel_rfl⟩,?_⟩|refine ⟨by decide,?_⟩|apply τt|apply τf))
                    rw [herr 15 hrest]
                    exact ret_tells rfl (AVle.refl _)
                  · have hmx : muxR (l.getD i trow0) S5 = some (addA (5 + (l.getD i trow0).mux, (l.getD i trow0).sub) S5) := by unfold muxR addA; rw [if_neg t, if_neg hm, if_neg hm]
                    rw [hmx] at hrest
                    have h3 := hnext _ hrest
                    rw [decide_eq_false hm]
                    (repeat((conv=>whnf);first|apply ω0|apply ω1|apply ω2|refine τ3 rfl ?_|refine τ4 rfl ?_|refine ⟨rfl,?_⟩|apply τa|refine τb rfl ?_|refine ⟨⟨by kernel_rfl,by kernel_rfl⟩,?_⟩|refine ⟨by decide,?_⟩|apply τt|apply τf))
                    exact back (i + 1, addA (5 + (l.getD i trow0).mux, (l.getD i trow0).sub) S5, nx6) ⟨hi, h3⟩ (by dsimp only; omega) (ele_tell _ _ rfl rfl (.cons _ (List.Sublist.refl _)) (List.Sublist.refl _) (BxLe.refl _) trivial ⟨AVle.refl _, AVle.refl _, AVle.refl _, AVle.refl _, AVle.refl _, AVle.refl _, le_int (wrap_succ (by first | omega | (dsimp only; omega))), trivial⟩)
end Go.Proofs.W

namespace Go.Proofs
open Go.Shelf
shelf_lay Lays.n106 Nm 106 at Tryz as Tryz.lays106
end Go.Proofs
namespace Go.Proofs.W
open Go.Vl Go.Shelf
set_option maxRecDepth 100000

def cmpS (s t : ByteArray) : Int := Lib.compareBytes s.data.toList t.data.toList
theorem compare_spec (s t : ByteArray) : Tells Tryz.prog 131 [.v (.string s), .v (.string t)] (.v (.int .i64 (cmpS s t))) :=
  tells_of_calls (vs := [.string s, .string t]) ⟨_, Tryz.func131, rfl, rfl⟩ fun w => (Any.strings_Compare Tryz.lays106 s t w).mono fun e w' ⟨h1, h2⟩ => ⟨h1, by subst h2; exact ⟨rfl, rfl, rfl, Nat.le_refl _, fun _ _ => rfl⟩⟩
theorem find1_spec (r : TRow) (s : ByteArray) : Tells Tryz.prog 130 [trowA r, strA s] (int (cmpS r.name s)) := by
  refine tells_of_aw Tryz.func130 rfl rfl fun nx => ?_
  (repeat((conv=>whnf);first|apply ω0|apply ω1|apply ω2|refine τ3 rfl ?_|refine τ4 rfl ?_|refine ⟨rfl,?_⟩|apply τa|refine τb rfl ?_|refine ⟨⟨by kernel_rfl,by kernel_rfl⟩,?_⟩|refine ⟨by decide,?_⟩|apply τt|apply τf))
  refine aop_tells rfl rfl (compare_spec r.name s) ⟨AVle.refl _, AVle.refl _, trivial⟩ fun nx2 => ?_
  (repeat((conv=>whnf);first|apply ω0|apply ω1|apply ω2|refine τ3 rfl ?_|refine τ4 rfl ?_|refine ⟨rfl,?_⟩|apply τa|refine τb rfl ?_|refine ⟨⟨by kernel_rfl,by kernel_rfl⟩,?_⟩|refine ⟨by decide,?_⟩|apply τt|apply τf))
  exact ret_tells rfl (AVle.refl _)
def lowB (l : List TRow) (s : ByteArray) : Nat := (l.takeWhile fun r => decide (cmpS r.name s < 0)).length
theorem lowB_le (l : List TRow) (s : ByteArray) : lowB l s ≤ l.length := by
  unfold lowB
  have := congrArg List.length (List.takeWhile_append_dropWhile (p := fun r : TRow => decide (cmpS r.name s < 0)) (l := l))
  rw [List.length_append] at this
  omega
theorem lowB_lt {s : ByteArray} : ∀ {l : List TRow} {j : Nat}, j < lowB l s → cmpS (l.getD j trow0).name s < 0
  | [], j, h => by simp [lowB] at h
  | r :: l, j, h => by
    unfold lowB at h
    rw [List.takeWhile_cons] at h
    by_cases hc : cmpS r.name s < 0
    · rw [if_pos (by simpa using hc)] at h
      cases j with
      | zero => exact hc
      | succ j => exact lowB_lt (l := l) (j := j) (by unfold lowB; simp at h; omega)
    · rw [if_neg (by simpa using hc)] at h; simp at h
theorem lowB_at {s : ByteArray} : ∀ {l : List TRow}, lowB l s < l.length → ¬ cmpS (l.getD (lowB l s) trow0).name s < 0
  | [], h => by simp at h
  | r :: l, h => by
    by_cases hc : cmpS r.name s < 0
    · have e : lowB (r :: l) s = lowB l s + 1 := by unfold lowB; rw [List.takeWhile_cons, if_pos (by simpa using hc)]; rfl
      rw [e] at h ⊢
      exact lowB_at (l := l) (by simpa using h)
    · have e : lowB (r :: l) s = 0 := by unfold lowB; rw [List.takeWhile_cons, if_neg (by simpa using hc)]; rfl
      rw [e]; exact hc
def MonoT (l : List TRow) (s : ByteArray) : Prop := ∀ i j, i < j → j < l.length → cmpS (l.getD j trow0).name s < 0 → cmpS (l.getD i trow0).name s < 0
theorem lowB_ge {l : List TRow} {s : ByteArray} (hs : MonoT l s) {j : Nat} (h1 : lowB l s ≤ j) (h2 : j < l.length) : ¬ cmpS (l.getD j trow0).name s < 0 := fun h => by
  rcases Nat.lt_or_ge (lowB l s) j with q | q
  · exact lowB_at (by omega) (hs _ j q h2 h)
  · have e : lowB l s = j := by omega
    exact lowB_at (l := l) (s := s) (by omega) (by rw [e]; exact h)
def foundB (l : List TRow) (s : ByteArray) : Bool := decide (lowB l s < l.length) && decide (cmpS (l.getD (lowB l s) trow0).name s = 0)
theorem half_eq {a b : Nat} (h : a + b ≤ 4000000) : IntKind.i64.wrap ((IntKind.u64.wrap (IntKind.i64.wrap ((a : Int) + (b : Int)))).fdiv (2 ^ min (Int.toNat 1) IntKind.u64.bits)) = (((a + b) / 2 : Nat) : Int) := by
  rw [wrap_id (n := (a : Int) + (b : Int)) (by omega) (by omega)]
  have hu : IntKind.u64.wrap ((a : Int) + (b : Int)) = (a : Int) + (b : Int) := by
    show ((a : Int) + (b : Int)) % 18446744073709551616 = _
    omega
  rw [hu]
  have h2 : (2 : Int) ^ min (Int.toNat 1) IntKind.u64.bits = 2 := by decide
  rw [h2, Int.fdiv_eq_ediv_of_nonneg _ (by decide)]
  rw [wrap_id (by omega) (by omega)]
  omega
set_option maxHeartbeats 2000000 in
theorem bsearch_spec (l : List TRow) (s : ByteArray) (hl : l.length ≤ 1000000) (hs : MonoT l s) :
    Tells Tryz.prog 129 [trows l, strA s, fn0 130] (.tup [int (lowB l s), boolA (foundB l s)]) := by
  have hk := lowB_le l s
  have hlt := fun j => lowB_lt (l := l) (s := s) (j := j)
  have hge := fun j => lowB_ge (j := j) hs
  unfold foundB
  generalize lowB l s = k at hk hlt hge ⊢
  refine tells_of_aw Tryz.func129 rfl rfl fun nx => ?_
  (repeat((conv=>whnf);first|apply ω0|apply ω1|apply ω2|refine τ3 rfl ?_|refine τ4 rfl ?_|refine ⟨rfl,?_⟩|apply τa|refine τb rfl ?_|refine ⟨⟨by kernel_rfl,by kernel_rfl⟩,?_⟩|refine ⟨by decide,?_⟩|apply τt|apply τf))
  refine aw_loop (fun y : Nat × Nat × Nat => mk 49 [(0, trows l), (1, strA s), (2, fn0 130), (8, int l.length), (9, int y.1), (10, int y.2.1)] ⟨[], [], y.2.2, 0⟩) (fun y => y.1 ≤ k ∧ k ≤ y.2.1 ∧ y.2.1 ≤ l.length) (fun y => y.2.1 - y.1) ?_ ?_
  · exact ⟨(0, l.length, nx), ⟨Nat.zero_le _, hk, Nat.le_refl _⟩, ele_mk rfl rfl ⟨AVle.refl _, AVle.refl _, AVle.refl _, AVle.refl _, AVle.refl _, AVle.refl _, trivial⟩⟩
  · rintro ⟨lo, hi, nx1⟩ ⟨h1, h2, h3⟩
    dsimp only at h1 h2 h3
    (repeat((conv=>whnf);first|apply ω0|apply ω1|apply ω2|refine τ3 rfl ?_|refine τ4 rfl ?_|refine ⟨rfl,?_⟩|apply τa|refine τb rfl ?_|refine ⟨⟨by kernel_rfl,by kernel_rfl⟩,?_⟩|refine ⟨by decide,?_⟩|apply τt|apply τf))
    intro c g; cases c
    · have g := not_of g
      try dsimp only at g
      have e : lo = k := by omega
      subst e
      by_cases hkl : lo < l.length
      · have hf1 := find1_spec (l.getD lo trow0) s
        have hd : decide ((lo : Int) < (l.length : Int)) = true := decide_eq_true (by omega)
        (repeat((conv=>whnf);first|apply ω0|apply ω1|apply ω2|refine τ3 rfl ?_|refine τ4 rfl ?_|refine ⟨rfl,?_⟩|apply τa|refine τb rfl ?_|refine ⟨⟨by kernel_rfl,by kernel_rfl⟩,?_⟩|refine ⟨by decide,?_⟩|apply τt|apply τf))
        (conv => whnf)
        refine lit_eq hd ?_
        (repeat((conv=>whnf);first|apply ω0|apply ω1|apply ω2|refine τ3 rfl ?_|refine τ4 rfl ?_|refine ⟨rfl,?_⟩|apply τa|refine τb rfl ?_|refine ⟨⟨by kernel_rfl,by kernel_rfl⟩,?_⟩|refine ⟨by decide,?_⟩|apply τt|apply τf))
        refine ⟨⟨by first | omega | (dsimp only; omega), by first | omega | (dsimp only; omega)⟩, ?_⟩
        (repeat((conv=>whnf);first|apply ω0|apply ω1|apply ω2|refine τ3 rfl ?_|refine τ4 rfl ?_|refine ⟨rfl,?_⟩|apply τa|refine τb rfl ?_|refine ⟨⟨by kernel_rfl,by kernel_rfl⟩,?_⟩|refine ⟨by decide,?_⟩|apply τt|apply τf))
        refine aop_tells rfl rfl hf1 ⟨AVle.refl _, AVle.refl _, trivial⟩ fun nx2 => ?_
        intro c t; cases c
        all_goals
          (repeat((conv=>whnf);first|apply ω0|apply ω1|apply ω2|refine τ3 rfl ?_|refine τ4 rfl ?_|refine ⟨rfl,?_⟩|apply τa|refine τb rfl ?_|refine ⟨⟨by kernel_rfl,by kernel_rfl⟩,?_⟩|refine ⟨by decide,?_⟩|apply τt|apply τf))
          exact ret_tells rfl (AVle.tups (cs := [_, _]) ⟨AVle.refl _, le_bool (t.trans (by rw [decide_eq_true hkl, Bool.true_and, Bool.eq_iff_iff]; simp)), trivial⟩)
      · have hd : decide ((lo : Int) < (l.length : Int)) = false := decide_eq_false (by omega)
        rw [decide_eq_false hkl, Bool.false_and]
        (repeat((conv=>whnf);first|apply ω0|apply ω1|apply ω2|refine τ3 rfl ?_|refine τ4 rfl ?_|refine ⟨rfl,?_⟩|apply τa|refine τb rfl ?_|refine ⟨⟨by kernel_rfl,by kernel_rfl⟩,?_⟩|refine ⟨by decide,?_⟩|apply τt|apply τf))
        (conv => whnf)
        refine lit_eq hd ?_
        (repeat((conv=>whnf);first|apply ω0|apply ω1|apply ω2|refine τ3 rfl ?_|refine τ4 rfl ?_|refine ⟨rfl,?_⟩|apply τa|refine τb rfl ?_|refine ⟨⟨by kernel_rfl,by kernel_rfl⟩,?_⟩|refine ⟨by decide,?_⟩|apply τt|apply τf))
        exact ret_tells rfl (AVle.refl _)
    · have g := yes_of g
      try dsimp only at g
      have hm := half_eq (a := lo) (b := hi) (by omega)
      have hml : (lo + hi) / 2 < l.length := by omega
      have hf1 := find1_spec (l.getD ((lo + hi) / 2) trow0) s
      (repeat((conv=>whnf);first|apply ω0|apply ω1|apply ω2|refine τ3 rfl ?_|refine τ4 rfl ?_|refine ⟨rfl,?_⟩|apply τa|refine τb rfl ?_|refine ⟨⟨by kernel_rfl,by kernel_rfl⟩,?_⟩|refine ⟨by decide,?_⟩|apply τt|apply τf))
      refine ⟨⟨ixge (i := (lo + hi) / 2) hm, ixlt (i := (lo + hi) / 2) hm hml⟩, splitO_eq (b := .rp (trowC (l.getD ((lo + hi) / 2) trow0))) (congrArg (fun z : Int => AV.rp (trowC (l.getD z.toNat trow0))) hm) ?_⟩
      (repeat((conv=>whnf);first|apply ω0|apply ω1|apply ω2|refine τ3 rfl ?_|refine τ4 rfl ?_|refine ⟨rfl,?_⟩|apply τa|refine τb rfl ?_|refine ⟨⟨by kernel_rfl,by kernel_rfl⟩,?_⟩|refine ⟨by decide,?_⟩|apply τt|apply τf))
      refine aop_tells rfl rfl hf1 ⟨AVle.refl _, AVle.refl _, trivial⟩ fun nx2 => ?_
      (repeat((conv=>whnf);first|apply ω0|apply ω1|apply ω2|refine τ3 rfl ?_|refine τ4 rfl ?_|refine ⟨rfl,?_⟩|apply τa|refine τb rfl ?_|refine ⟨⟨by kernel_rfl,by kernel_rfl⟩,?_⟩|refine ⟨by decide,?_⟩|apply τt|apply τf))
      intro c gg; cases c
      · have gg : ¬ cmpS (l.getD ((lo + hi) / 2) trow0).name s < 0 := not_of gg
        have hkm : k ≤ (lo + hi) / 2 := by
          rcases Nat.lt_or_ge ((lo + hi) / 2) k with q | q
          · exact absurd (hlt _ q) gg
          · exact q
        (repeat((conv=>whnf);first|apply ω0|apply ω1|apply ω2|refine τ3 rfl ?_|refine τ4 rfl ?_|refine ⟨rfl,?_⟩|apply τa|refine τb rfl ?_|refine ⟨⟨by kernel_rfl,by kernel_rfl⟩,?_⟩|refine ⟨by decide,?_⟩|apply τt|apply τf))
        exact back (lo, (lo + hi) / 2, nx2) ⟨h1, hkm, by dsimp only; omega⟩ (by dsimp only; omega) (ele_mk rfl rfl ⟨AVle.refl _, AVle.refl _, AVle.refl _, AVle.refl _, AVle.refl _, le_int hm, trivial⟩)
      · have gg : cmpS (l.getD ((lo + hi) / 2) trow0).name s < 0 := yes_of gg
        have hkm : (lo + hi) / 2 + 1 ≤ k := by
          rcases Nat.lt_or_ge ((lo + hi) / 2) k with q | q
          · exact q
          · exact absurd gg (hge _ q hml)
        (repeat((conv=>whnf);first|apply ω0|apply ω1|apply ω2|refine τ3 rfl ?_|refine τ4 rfl ?_|refine ⟨rfl,?_⟩|apply τa|refine τb rfl ?_|refine ⟨⟨by kernel_rfl,by kernel_rfl⟩,?_⟩|refine ⟨by decide,?_⟩|apply τt|apply τf))
        exact back ((lo + hi) / 2 + 1, hi, nx2) ⟨hkm, h2, h3⟩ (by dsimp only; omega) (ele_mk rfl rfl ⟨AVle.refl _, AVle.refl _, AVle.refl _, AVle.refl _, le_int (by rw [hm]; exact wrap_succ (by omega)), AVle.refl _, trivial⟩)
def findA (l : List TRow) (s : ByteArray) : AV := if foundB l s then .tup [trowA (l.getD (lowB l s) trow0), int (lowB l s), boolA true] else .tup [trowA trow0, int 0, boolA false]
theorem tabfind_spec (l : List TRow) (s : ByteArray) (hl : l.length ≤ 1000000) (hs : MonoT l s) : Tells Tryz.prog 86 [trows l, strA s] (findA l s) := by
  have hb := bsearch_spec l s hl hs
  have hk : foundB l s = true → lowB l s < l.length := fun h => by unfold foundB at h; simp only [Bool.and_eq_true, decide_eq_true_eq] at h; exact h.1
  unfold findA
  generalize lowB l s = k at hb hk ⊢
  refine tells_of_aw Tryz.func86 rfl rfl fun nx => ?_
  cases hf : foundB l s with
  | true =>
    rw [hf] at hb hk
    have hk := hk rfl
    rw [if_pos rfl]
    (repeat((conv=>whnf);first|apply ω0|apply ω1|apply ω2|refine τ3 rfl ?_|refine τ4 rfl ?_|refine ⟨rfl,?_⟩|apply τa|refine τb rfl ?_|refine ⟨⟨by kernel_rfl,by kernel_rfl⟩,?_⟩|refine ⟨by decide,?_⟩|apply τt|apply τf))
    refine aop_tells rfl rfl hb ⟨AVle.refl _, AVle.refl _, AVle.refl _, trivial⟩ fun nx2 => ?_
    (repeat((conv=>whnf);first|apply ω0|apply ω1|apply ω2|refine τ3 rfl ?_|refine τ4 rfl ?_|refine ⟨rfl,?_⟩|apply τa|refine τb rfl ?_|refine ⟨⟨by kernel_rfl,by kernel_rfl⟩,?_⟩|refine ⟨by decide,?_⟩|apply τt|apply τf))
    refine ⟨⟨by first | omega | (dsimp only; omega), by first | omega | (dsimp only; omega)⟩, ?_⟩
    (repeat((conv=>whnf);first|apply ω0|apply ω1|apply ω2|refine τ3 rfl ?_|refine τ4 rfl ?_|refine ⟨rfl,?_⟩|apply τa|refine τb rfl ?_|refine ⟨⟨by kernel_rfl,by kernel_rfl⟩,?_⟩|refine ⟨by decide,?_⟩|apply τt|apply τf))
    exact ret_tells_all rfl ⟨rfl, trivial⟩ (AVle.refl _)
  | false =>
    rw [hf] at hb
    rw [if_neg (by decide)]
    (repeat((conv=>whnf);first|apply ω0|apply ω1|apply ω2|refine τ3 rfl ?_|refine τ4 rfl ?_|refine ⟨rfl,?_⟩|apply τa|refine τb rfl ?_|refine ⟨⟨by kernel_rfl,by kernel_rfl⟩,?_⟩|refine ⟨by decide,?_⟩|apply τt|apply τf))
    refine aop_tells rfl rfl hb ⟨AVle.refl _, AVle.refl _, AVle.refl _, trivial⟩ fun nx2 => ?_
    (repeat((conv=>whnf);first|apply ω0|apply ω1|apply ω2|refine τ3 rfl ?_|refine τ4 rfl ?_|refine ⟨rfl,?_⟩|apply τa|refine τb rfl ?_|refine ⟨⟨by kernel_rfl,by kernel_rfl⟩,?_⟩|refine ⟨by decide,?_⟩|apply τt|apply τf))
    exact ret_tells_all rfl ⟨rfl, trivial⟩ (AVle.refl _)
theorem cmpL_lt : ∀ {a b : List UInt8}, Lib.compareBytes a b < 0 ↔ a < b
  | [], [] => by simp [Lib.compareBytes]
  | [], b :: l => by simp [Lib.compareBytes]
  | a :: l, [] => by simp [Lib.compareBytes]
  | a :: l, b :: m => by
    have ih := cmpL_lt (a := l) (b := m)
    unfold Lib.compareBytes
    rw [List.cons_lt_cons_iff]
    split
    · rename_i h; simp [h]
    · rename_i h
      split
      · rename_i h2
        constructor
        · intro h3; exact absurd h3 (by decide)
        · rintro (h3 | ⟨h3, _⟩)
          · exact absurd h3 h
          · subst h3; exact absurd h2 h
      · rename_i h2
        rw [ih]
        constructor
        · intro h3; exact .inr ⟨UInt8.le_antisymm (UInt8.not_lt.1 h2) (UInt8.not_lt.1 h), h3⟩
        · rintro (h3 | ⟨_, h3⟩)
          · exact absurd h3 h
          · exact h3
theorem cmpL_eq0 : ∀ {a b : List UInt8}, Lib.compareBytes a b = 0 ↔ a = b
  | [], [] => by simp [Lib.compareBytes]
  | [], b :: l => by simp [Lib.compareBytes]
  | a :: l, [] => by simp [Lib.compareBytes]
  | a :: l, b :: m => by
    have ih := cmpL_eq0 (a := l) (b := m)
    unfold Lib.compareBytes
    split
    · rename_i h
      constructor
      · intro h3; exact absurd h3 (by decide)
      · intro h3; cases h3; exact absurd h (UInt8.lt_irrefl _)
    · rename_i h
      split
      · rename_i h2
        constructor
        · intro h3; exact absurd h3 (by decide)
        · intro h3; cases h3; exact absurd h2 (UInt8.lt_irrefl _)
      · rename_i h2
        rw [ih, List.cons.injEq]
        exact ⟨fun h3 => ⟨UInt8.le_antisymm (UInt8.not_lt.1 h2) (UInt8.not_lt.1 h), h3⟩, fun h3 => h3.2⟩
theorem data_inj' {s t : ByteArray} (h : s.data.toList = t.data.toList) : s = t := by
  obtain ⟨⟨l⟩⟩ := s; obtain ⟨⟨l'⟩⟩ := t
  exact congrArg (fun l => (⟨⟨l⟩⟩ : ByteArray)) h
theorem ltStr_tot' : ∀ x y : List UInt8, Go.Sort.ltStr x y = false → Go.Sort.ltStr y x = false → x = y := fun x y h1 h2 => by
  simp only [Go.Sort.ltStr, decide_eq_false_iff_not, List.not_lt] at h1 h2
  exact List.le_antisymm h2 h1
theorem cmpS_lt {s t : ByteArray} : cmpS s t < 0 ↔ Go.Sort.ltStr s.data.toList t.data.toList = true := by
  unfold cmpS Go.Sort.ltStr; rw [cmpL_lt, decide_eq_true_iff]
theorem cmpS_eq {s t : ByteArray} : cmpS s t = 0 ↔ s = t := by
  unfold cmpS; rw [cmpL_eq0]
  exact ⟨data_inj', fun h => by rw [h]⟩
theorem leB_no {s t : ByteArray} (h : leB s t = false) : Go.Sort.ltStr t.data.toList s.data.toList = true := by
  unfold leB at h
  rw [Bool.or_eq_false_iff, Go.Proofs.bytesLess_eq, Lib.toList_data, Lib.toList_data] at h
  cases hl : Go.Sort.ltStr t.data.toList s.data.toList with
  | true => rfl
  | false =>
    have e := ltStr_tot' _ _ hl h.1
    rw [e] at h; simp at h
def sortedT (l : List TRow) : Prop := ∀ i j, i < j → j < l.length → Go.Sort.ltStr (l.getD i trow0).name.data.toList (l.getD j trow0).name.data.toList = true
theorem sorted_mono {l : List TRow} (h : sortedT l) (s : ByteArray) : MonoT l s := fun i j hij hj hc => by
  rw [cmpS_lt] at hc ⊢
  exact Go.Sort.swo_ltStr.trans _ _ _ (h i j hij hj) hc
end Go.Proofs.W

namespace Go.Proofs.W
open Go.Vl
set_option maxRecDepth 100000

end Go.Proofs.W

namespace Go.Proofs.W
open Go.Vl
set_option maxRecDepth 100000

def rowOf (l : List TRow) (s : ByteArray) : TRow := if foundB l s then l.getD (lowB l s) trow0 else trow0
set_option maxHeartbeats 2000000 in
theorem ways_spec (l : List TRow) (s : ByteArray) (hl : l.length ≤ 1000000) (hs : MonoT l s) : Tells Tryz.prog 38 [trows l, strA s] (.tup [boolA (foundB l s && decide ((rowOf l s).a2 ≥ 0)), boolA (decide ((rowOf l s).mux > 0))]) := by
  have hf := tabfind_spec l s hl hs
  unfold findA at hf
  unfold rowOf
  cases hb : foundB l s with
  | true =>
    rw [hb, if_pos rfl] at hf
    rw [if_pos rfl]
    generalize l.getD (lowB l s) trow0 = r at hf ⊢
    cases hd : decide (r.a2 ≥ 0) with
    | true =>
      refine tells_of_aw Tryz.func38 rfl rfl fun nx => ?_
      (repeat((conv=>whnf);first|apply ω0|apply ω1|apply ω2|refine τ3 rfl ?_|refine τ4 rfl ?_|refine ⟨rfl,?_⟩|apply τa|refine τb rfl ?_|refine ⟨⟨by kernel_rfl,by kernel_rfl⟩,?_⟩|refine ⟨by decide,?_⟩|apply τt|apply τf))
      refine aop_tells rfl rfl hf ⟨AVle.refl _, AVle.refl _, trivial⟩ fun nx2 => ?_
      (repeat((conv=>whnf);first|apply ω0|apply ω1|apply ω2|refine τ3 rfl ?_|refine τ4 rfl ?_|refine ⟨rfl,?_⟩|apply τa|refine τb rfl ?_|refine ⟨⟨by kernel_rfl,by kernel_rfl⟩,?_⟩|refine ⟨by decide,?_⟩|apply τt|apply τf))
      refine aw_mixN 11 _ (fun _ => false) (fun _ => false) [0, 1, 2, 3, 4, 5, 6, 7, 8, 9, 10] (by kernel_rfl) (by kernel_rfl) (HB.refl _) ?_
      (repeat((conv=>whnf);first|apply ω0|apply ω1|apply ω2|refine τ3 rfl ?_|refine τ4 rfl ?_|refine ⟨rfl,?_⟩|apply τa|refine τb rfl ?_|refine ⟨⟨by kernel_rfl,by kernel_rfl⟩,?_⟩|refine ⟨by decide,?_⟩|apply τt|apply τf))
      refine ⟨_, pure_yes rfl rfl rfl rfl trivial, ?_⟩
      (repeat((conv=>whnf);first|apply ω0|apply ω1|apply ω2|refine τ3 rfl ?_|refine τ4 rfl ?_|refine ⟨rfl,?_⟩|apply τa|refine τb rfl ?_|refine ⟨⟨by kernel_rfl,by kernel_rfl⟩,?_⟩|refine ⟨by decide,?_⟩|apply τt|apply τf))
      refine ⟨_, pure_yes rfl rfl rfl rfl (by first | trivial | exact ⟨rfl, Nat.le_of_ble_eq_true rfl⟩ | exact ⟨by decide, by decide⟩), ?_⟩
      (repeat((conv=>whnf);first|apply ω0|apply ω1|apply ω2|refine τ3 rfl ?_|refine τ4 rfl ?_|refine ⟨rfl,?_⟩|apply τa|refine τb rfl ?_|refine ⟨⟨by kernel_rfl,by kernel_rfl⟩,?_⟩|refine ⟨by decide,?_⟩|apply τt|apply τf))
      refine ⟨_, pure_yes rfl rfl rfl rfl (by first | trivial | exact ⟨rfl, Nat.le_of_ble_eq_true rfl⟩), ?_⟩
      (repeat((conv=>whnf);first|apply ω0|apply ω1|apply ω2|refine τ3 rfl ?_|refine τ4 rfl ?_|refine ⟨rfl,?_⟩|apply τa|refine τb rfl ?_|refine ⟨⟨by kernel_rfl,by kernel_rfl⟩,?_⟩|refine ⟨by decide,?_⟩|apply τt|apply τf))
      refine ⟨.v (.bool true), pure_yesB rfl rfl rfl rfl trivial hd, ?_⟩
      (repeat((conv=>whnf);first|apply ω0|apply ω1|apply ω2|refine τ3 rfl ?_|refine τ4 rfl ?_|refine ⟨rfl,?_⟩|apply τa|refine τb rfl ?_|refine ⟨⟨by kernel_rfl,by kernel_rfl⟩,?_⟩|refine ⟨by decide,?_⟩|apply τt|apply τf))
      exact ret_tells_all rfl trivial (AVle.refl _)
    | false =>
      refine tells_of_aw Tryz.func38 rfl rfl fun nx => ?_
      (repeat((conv=>whnf);first|apply ω0|apply ω1|apply ω2|refine τ3 rfl ?_|refine τ4 rfl ?_|refine ⟨rfl,?_⟩|apply τa|refine τb rfl ?_|refine ⟨⟨by kernel_rfl,by kernel_rfl⟩,?_⟩|refine ⟨by decide,?_⟩|apply τt|apply τf))
      refine aop_tells rfl rfl hf ⟨AVle.refl _, AVle.refl _, trivial⟩ fun nx2 => ?_
      (repeat((conv=>whnf);first|apply ω0|apply ω1|apply ω2|refine τ3 rfl ?_|refine τ4 rfl ?_|refine ⟨rfl,?_⟩|apply τa|refine τb rfl ?_|refine ⟨⟨by kernel_rfl,by kernel_rfl⟩,?_⟩|refine ⟨by decide,?_⟩|apply τt|apply τf))
      refine aw_mixN 11 _ (fun _ => false) (fun _ => false) [0, 1, 2, 3, 4, 5, 6, 7, 8, 9, 10] (by kernel_rfl) (by kernel_rfl) (HB.refl _) ?_
      (repeat((conv=>whnf);first|apply ω0|apply ω1|apply ω2|refine τ3 rfl ?_|refine τ4 rfl ?_|refine ⟨rfl,?_⟩|apply τa|refine τb rfl ?_|refine ⟨⟨by kernel_rfl,by kernel_rfl⟩,?_⟩|refine ⟨by decide,?_⟩|apply τt|apply τf))
      refine ⟨_, pure_yes rfl rfl rfl rfl trivial, ?_⟩
      (repeat((conv=>whnf);first|apply ω0|apply ω1|apply ω2|refine τ3 rfl ?_|refine τ4 rfl ?_|refine ⟨rfl,?_⟩|apply τa|refine τb rfl ?_|refine ⟨⟨by kernel_rfl,by kernel_rfl⟩,?_⟩|refine ⟨by decide,?_⟩|apply τt|apply τf))
      refine ⟨_, pure_yes rfl rfl rfl rfl (by first | trivial | exact ⟨rfl, Nat.le_of_ble_eq_true rfl⟩ | exact ⟨by decide, by decide⟩), ?_⟩
      (repeat((conv=>whnf);first|apply ω0|apply ω1|apply ω2|refine τ3 rfl ?_|refine τ4 rfl ?_|refine ⟨rfl,?_⟩|apply τa|refine τb rfl ?_|refine ⟨⟨by kernel_rfl,by kernel_rfl⟩,?_⟩|refine ⟨by decide,?_⟩|apply τt|apply τf))
      refine ⟨_, pure_yes rfl rfl rfl rfl (by first | trivial | exact ⟨rfl, Nat.le_of_ble_eq_true rfl⟩), ?_⟩
      (repeat((conv=>whnf);first|apply ω0|apply ω1|apply ω2|refine τ3 rfl ?_|refine τ4 rfl ?_|refine ⟨rfl,?_⟩|apply τa|refine τb rfl ?_|refine ⟨⟨by kernel_rfl,by kernel_rfl⟩,?_⟩|refine ⟨by decide,?_⟩|apply τt|apply τf))
      refine ⟨.v (.bool false), pure_yesB rfl rfl rfl rfl trivial hd, ?_⟩
      (repeat((conv=>whnf);first|apply ω0|apply ω1|apply ω2|refine τ3 rfl ?_|refine τ4 rfl ?_|refine ⟨rfl,?_⟩|apply τa|refine τb rfl ?_|refine ⟨⟨by kernel_rfl,by kernel_rfl⟩,?_⟩|refine ⟨by decide,?_⟩|apply τt|apply τf))
      exact ret_tells_all rfl trivial (AVle.refl _)
  | false =>
    rw [hb, if_neg (by decide)] at hf
    rw [if_neg (by decide)]
    refine tells_of_aw Tryz.func38 rfl rfl fun nx => ?_
    (repeat((conv=>whnf);first|apply ω0|apply ω1|apply ω2|refine τ3 rfl ?_|refine τ4 rfl ?_|refine ⟨rfl,?_⟩|apply τa|refine τb rfl ?_|refine ⟨⟨by kernel_rfl,by kernel_rfl⟩,?_⟩|refine ⟨by decide,?_⟩|apply τt|apply τf))
    refine aop_tells rfl rfl hf ⟨AVle.refl _, AVle.refl _, trivial⟩ fun nx2 => ?_
    (repeat((conv=>whnf);first|apply ω0|apply ω1|apply ω2|refine τ3 rfl ?_|refine τ4 rfl ?_|refine ⟨rfl,?_⟩|apply τa|refine τb rfl ?_|refine ⟨⟨by kernel_rfl,by kernel_rfl⟩,?_⟩|refine ⟨by decide,?_⟩|apply τt|apply τf))
    refine aw_mixN 11 _ (fun _ => false) (fun _ => false) [0, 1, 2, 3, 4, 5, 6, 7, 8, 9, 10] (by kernel_rfl) (by kernel_rfl) (HB.refl _) ?_
    (repeat((conv=>whnf);first|apply ω0|apply ω1|apply ω2|refine τ3 rfl ?_|refine τ4 rfl ?_|refine ⟨rfl,?_⟩|apply τa|refine τb rfl ?_|refine ⟨⟨by kernel_rfl,by kernel_rfl⟩,?_⟩|refine ⟨by decide,?_⟩|apply τt|apply τf))
    refine ⟨_, pure_no rfl rfl rfl, ?_⟩
    (repeat((conv=>whnf);first|apply ω0|apply ω1|apply ω2|refine τ3 rfl ?_|refine τ4 rfl ?_|refine ⟨rfl,?_⟩|apply τa|refine τb rfl ?_|refine ⟨⟨by kernel_rfl,by kernel_rfl⟩,?_⟩|refine ⟨by decide,?_⟩|apply τt|apply τf))
    refine ⟨_, pure_no rfl rfl rfl, ?_⟩
    (repeat((conv=>whnf);first|apply ω0|apply ω1|apply ω2|refine τ3 rfl ?_|refine τ4 rfl ?_|refine ⟨rfl,?_⟩|apply τa|refine τb rfl ?_|refine ⟨⟨by kernel_rfl,by kernel_rfl⟩,?_⟩|refine ⟨by decide,?_⟩|apply τt|apply τf))
    refine ⟨_, pure_no rfl rfl rfl, ?_⟩
    (repeat((conv=>whnf);first|apply ω0|apply ω1|apply ω2|refine τ3 rfl ?_|refine τ4 rfl ?_|refine ⟨rfl,?_⟩|apply τa|refine τb rfl ?_|refine ⟨⟨by kernel_rfl,by kernel_rfl⟩,?_⟩|refine ⟨by decide,?_⟩|apply τt|apply τf))
    refine ⟨_, pure_no rfl rfl rfl, ?_⟩
    (repeat((conv=>whnf);first|apply ω0|apply ω1|apply ω2|refine τ3 rfl ?_|refine τ4 rfl ?_|refine ⟨rfl,?_⟩|apply τa|refine τb rfl ?_|refine ⟨⟨by kernel_rfl,by kernel_rfl⟩,?_⟩|refine ⟨by decide,?_⟩|apply τt|apply τf))
    exact ret_tells_all rfl trivial (AVle.refl _)
end Go.Proofs.W

namespace Go.Proofs.W
open Go.Vl
set_option maxRecDepth 100000

structure Ct where
  name : ByteArray
  many : Nat
deriving DecidableEq
end Go.Proofs.W

namespace Go.Proofs.W
open Go.Vl
set_option maxRecDepth 100000

end Go.Proofs.W

namespace Go.Proofs.W
open Go.Vl
set_option maxRecDepth 100000

def fewB (l : List TRow) : Bool := decide (l.length ≤ 40) && !l.any fun r => decide (60 < r.name.size)
end Go.Proofs.W

namespace Go.Proofs.W
open Go.Vl
set_option maxRecDepth 100000

end Go.Proofs.W

namespace Go.Proofs.W
open Go.Vl
set_option maxRecDepth 100000

end Go.Proofs.W

namespace Go.Proofs.W
open Go.Vl
set_option maxRecDepth 100000

def selI (arch num : Nat) : Int := match selO arch num with
  | some a => a
  | none => -1
end Go.Proofs.W

namespace Go.Proofs.W
open Go.Vl
set_option maxRecDepth 100000

end Go.Proofs.W

namespace Go.Proofs.W
open Go.Vl
set_option maxRecDepth 100000

end Go.Proofs.W

namespace Go.Proofs.W
open Go.Vl
set_option maxRecDepth 100000

/-- The row that a record calls. -/
def atO (l : List TRow) (r : Rec) : Option Nat := match selO r.arch r.num with
  | none => none
  | some a => if 0 < kindO a r.num then l.findIdx? (subB (kindO a r.num) ((r.a0 % 4294967296 : Nat) : Int)) else l.findIdx? (nameB5 a ((ownI a r.num : Nat) : Int))
def muxB (r : Rec) : Bool := match selO r.arch r.num with
  | none => false
  | some a => decide (0 < kindO a r.num)
end Go.Proofs.W

namespace Go.Proofs.W
open Go.Vl
set_option maxRecDepth 100000

theorem arg_lt {r : Rec} (h : r.ok) (k : Nat) : r.arg k < 18446744073709551616 := by
  obtain ⟨_, _, _, h0, h1, h2, h3, h4, h5⟩ := h
  unfold Rec.arg; split <;> assumption
end Go.Proofs.W

namespace Go.Proofs.W
open Go.Vl
set_option maxRecDepth 100000

def muxBad (r : TRow) : Bool := decide (r.mux < 0) || (decide (2 < r.mux) || ((decide (r.mux = 0) && decide (r.sub ≠ 0)) || (decide (0 < r.mux) && (decide (r.sub < 1) || decide (255 < r.sub)))))
theorem ranged_eq (r : TRow) : rangedR r = (!badR r && !muxBad r) := by
  unfold rangedR
  congr 1
  unfold muxBad
  by_cases h : r.mux = 0
  · rw [if_pos h, h]; simp
  · rw [if_neg h, Bool.eq_iff_iff]; simp; omega
def clashN (r s : TRow) : Bool := [0, 1, 2, 3, 4].any fun a => decide (0 ≤ r.num a) && decide (s.num a = r.num a)
def clashM (r s : TRow) : Bool := decide (0 < r.mux) && (decide (s.mux = r.mux) && decide (s.sub = r.sub))
def clashB (l : List TRow) (i : Nat) : Bool := (l.take i).any fun s => clashN (l.getD i trow0) s || clashM (l.getD i trow0) s
def a2Bad (r : TRow) : Bool := decide (r.a2 = 102) || decide (r.a2 = 117)
def rowI (l : List TRow) (i : Nat) : Int := if nameB (l.getD i trow0).name.data.toList = false then 13 else if ordB l i then 15 else if badR (l.getD i trow0) then 16 else if muxBad (l.getD i trow0) then 16 else if a2Bad (l.getD i trow0) then 17 else if clashB l i then 15 else 0
theorem rowI_13 {l : List TRow} {i : Nat} (h : nameB (l.getD i trow0).name.data.toList = false) : rowI l i = 13 := if_pos h
theorem rowI_ord {l : List TRow} {i : Nat} (h : nameB (l.getD i trow0).name.data.toList = true) : rowI l i = if ordB l i then 15 else if badR (l.getD i trow0) then 16 else if muxBad (l.getD i trow0) then 16 else if a2Bad (l.getD i trow0) then 17 else if clashB l i then 15 else 0 := if_neg (by rw [h]; decide)
theorem clash_true {l : List TRow} {i k : Nat} {r : TRow} (hr : l.getD i trow0 = r) (hk : k < i) (hi : i < l.length) (h : (clashN r (l.getD k trow0) || clashM r (l.getD k trow0)) = true) : clashB l i = true := by
  unfold clashB
  rw [hr, List.any_eq_true]
  refine ⟨l.getD k trow0, ?_, h⟩
  rw [List.mem_iff_getElem]
  exact ⟨k, by rw [List.length_take]; omega, by rw [List.getElem_take]; simp [List.getD, show k < l.length by omega]⟩
def cN (r s : TRow) (a : Nat) : Bool := decide (r.num a ≥ 0) && decide (s.num a = r.num a)
theorem clashN_true {r s : TRow} {a : Nat} (ha : a < 5) (h : cN r s a = true) : clashN r s = true := by
  unfold clashN
  rw [List.any_eq_true]
  exact ⟨a, by simp; omega, h⟩
theorem bad_some {r : TRow} {k : Nat} (hk : k < 5) (h : true = badN (r.num k)) : badR r = true := by
  rcases (by omega : k = 0 ∨ k = 1 ∨ k = 2 ∨ k = 3 ∨ k = 4) with rfl | rfl | rfl | rfl | rfl
  all_goals
    have h' : badN (r.num _) = true := h.symm
    simp only [TRow.num] at h'
    simp [badR, h']
end Go.Proofs.W

namespace Go.Proofs.W
open Go.Vl
set_option maxRecDepth 100000

def right11 (l : List TRow) : Int × Int := if 400 < l.length then (0, 3) else match (List.range l.length).find? (fun i => decide (rowI l i ≠ 0)) with
  | some i => ((i : Int), rowI l i)
  | none => (0, 0)
theorem find_range {n : Nat} {p : Nat → Bool} {i : Nat} (hi : i < n) (h : ∀ j, j < i → p j = false) (hp : p i = true) : (List.range n).find? p = some i := by
  rw [List.find?_range_eq_some]
  exact ⟨hp, List.mem_range.2 hi, fun j hj => by rw [h j hj]; rfl⟩
theorem find_range0 {n : Nat} {p : Nat → Bool} (h : ∀ j, j < n → p j = false) : (List.range n).find? p = none := by
  rw [List.find?_eq_none]
  intro x hx
  rw [h x (List.mem_range.1 hx)]; decide
end Go.Proofs.W

namespace Go.Proofs.W
open Go.Vl
set_option maxRecDepth 100000

/-- What was seen of the rows so far. -/
def SeenOf (l : List TRow) (k : Nat) (S : Seen) : Prop := (∀ (a : Nat) (n : Int), a < 5 → (((a : Int), n) ∈ S ↔ n ≠ -1 ∧ ∃ j, j < k ∧ (l.getD j trow0).num a = n)) ∧ (∀ m s : Int, m = 1 ∨ m = 2 → ((5 + m, s) ∈ S ↔ ∃ j, j < k ∧ (l.getD j trow0).mux = m ∧ (l.getD j trow0).sub = s))
theorem numsR_none {r : TRow} {S : Seen} : ∀ {k : Nat}, numsR r S k = none → ∃ a, a < k ∧ r.num a ≠ -1 ∧ ((a : Int), r.num a) ∈ S
  | 0, h => by unfold numsR at h; cases h
  | k + 1, h => by
    unfold numsR at h
    cases hk : numsR r S k with
    | none => obtain ⟨a, h1, h2⟩ := numsR_none hk; exact ⟨a, by omega, h2⟩
    | some S' =>
      rw [hk] at h
      dsimp only at h
      split at h
      · cases h
      · rename_i hn
        split at h
        · rename_i hm
          refine ⟨k, Nat.lt_succ_self _, hn, ?_⟩
          have : ∀ {m : Nat} {S' : Seen}, numsR r S m = some S' → ∀ x ∈ S', x ∈ S ∨ ∃ a, a < m ∧ x = ((a : Int), r.num a) := by
            intro m
            induction m with
            | zero => intro S' h x hx; unfold numsR at h; cases h; exact .inl hx
            | succ m ih =>
              intro S' h x hx
              unfold numsR at h
              cases hm : numsR r S m with
              | none => rw [hm] at h; cases h
              | some S1 =>
                rw [hm] at h
                dsimp only at h
                split at h
                · cases h
                  rcases ih hm x hx with q | ⟨a, q1, q2⟩
                  · exact .inl q
                  · exact .inr ⟨a, by omega, q2⟩
                · split at h
                  · cases h
                  · cases h
                    rcases List.mem_append.1 hx with hx | hx
                    · rcases ih hm x hx with q | ⟨a, q1, q2⟩
                      · exact .inl q
                      · exact .inr ⟨a, by omega, q2⟩
                    · exact .inr ⟨m, Nat.lt_succ_self _, List.mem_singleton.1 hx⟩
          rcases this hk _ hm with q | ⟨a, q1, q2⟩
          · exact q
          · have := congrArg Prod.fst q2
            dsimp only at this
            omega
        · cases h
theorem numsR_some {r : TRow} {S : Seen} : ∀ {k : Nat} {S' : Seen}, numsR r S k = some S' → (∀ x, x ∈ S' ↔ x ∈ S ∨ ∃ a, a < k ∧ r.num a ≠ -1 ∧ x = ((a : Int), r.num a)) ∧ ∀ a, a < k → r.num a ≠ -1 → ¬ ((a : Int), r.num a) ∈ S
  | 0, S', h => by
    unfold numsR at h; cases h
    exact ⟨fun x => ⟨.inl, fun q => by rcases q with q | ⟨a, q, _⟩; exact q; omega⟩, fun a ha => by omega⟩
  | k + 1, S', h => by
    unfold numsR at h
    cases hk : numsR r S k with
    | none => rw [hk] at h; cases h
    | some S1 =>
      rw [hk] at h
      dsimp only at h
      obtain ⟨i1, i2⟩ := numsR_some hk
      split at h
      · rename_i hn
        cases h
        refine ⟨fun x => (i1 x).trans ⟨fun q => ?_, fun q => ?_⟩, fun a ha hna => ?_⟩
        · rcases q with q | ⟨a, q1, q2⟩
          · exact .inl q
          · exact .inr ⟨a, by omega, q2⟩
        · rcases q with q | ⟨a, q1, q2⟩
          · exact .inl q
          · rcases Nat.lt_or_ge a k with w | w
            · exact .inr ⟨a, w, q2⟩
            · rw [show a = k by omega] at q2; exact absurd hn q2.1
        · rcases Nat.lt_or_ge a k with w | w
          · exact i2 a w hna
          · rw [show a = k by omega] at hna; exact absurd hn hna
      · rename_i hn
        split at h
        · cases h
        · rename_i hm
          cases h
          refine ⟨fun x => ?_, fun a ha hna => ?_⟩
          · rw [List.mem_append, i1, List.mem_singleton]
            constructor
            · rintro ((q | ⟨a, q1, q2⟩) | q)
              · exact .inl q
              · exact .inr ⟨a, by omega, q2⟩
              · exact .inr ⟨k, Nat.lt_succ_self _, hn, q⟩
            · rintro (q | ⟨a, q1, q2, q3⟩)
              · exact .inl (.inl q)
              · rcases Nat.lt_or_ge a k with w | w
                · exact .inl (.inr ⟨a, w, q2, q3⟩)
                · rw [show a = k by omega] at q3; exact .inr q3
          · rcases Nat.lt_or_ge a k with w | w
            · exact i2 a w hna
            · rw [show a = k by omega]
              exact fun q => hm ((i1 _).2 (.inl q))
theorem clash_iff {l : List TRow} {i : Nat} (hi : i < l.length) : clashB l i = true ↔ ∃ j, j < i ∧ ((∃ a, a < 5 ∧ 0 ≤ (l.getD i trow0).num a ∧ (l.getD j trow0).num a = (l.getD i trow0).num a) ∨ (0 < (l.getD i trow0).mux ∧ (l.getD j trow0).mux = (l.getD i trow0).mux ∧ (l.getD j trow0).sub = (l.getD i trow0).sub)) := by
  constructor
  · intro h
    unfold clashB at h
    rw [List.any_eq_true] at h
    obtain ⟨s, hs, h⟩ := h
    obtain ⟨j, hj, rfl⟩ := List.mem_iff_getElem.1 hs
    rw [List.length_take] at hj
    rw [List.getElem_take] at h
    have hg : l.getD j trow0 = l[j] := by simp [List.getD, show j < l.length by omega]
    refine ⟨j, by omega, ?_⟩
    rw [hg]
    rw [Bool.or_eq_true] at h
    rcases h with h | h
    · left
      unfold clashN at h
      rw [List.any_eq_true] at h
      obtain ⟨a, ha, h⟩ := h
      rw [Bool.and_eq_true, decide_eq_true_iff, decide_eq_true_iff] at h
      exact ⟨a, by simp at ha; omega, h⟩
    · right
      unfold clashM at h
      rw [Bool.and_eq_true, Bool.and_eq_true, decide_eq_true_iff, decide_eq_true_iff, decide_eq_true_iff] at h
      exact h
  · rintro ⟨j, hj, h⟩
    refine clash_true rfl hj hi ?_
    rw [Bool.or_eq_true]
    rcases h with ⟨a, ha, h1, h2⟩ | ⟨h1, h2, h3⟩
    · exact .inl (clashN_true ha (by unfold cN; rw [decide_eq_true h1, decide_eq_true h2]; rfl))
    · exact .inr (by unfold clashM; rw [decide_eq_true h1, decide_eq_true h2, decide_eq_true h3]; rfl)
theorem bad_num {r : TRow} (h : badR r = false) {a : Nat} (ha : a < 5) : -1 ≤ r.num a := by
  have : badN (r.num a) = false := by
    cases hq : badN (r.num a) with
    | false => rfl
    | true => rw [bad_some ha hq.symm] at h; cases h
  unfold badN at this
  rw [Bool.or_eq_false_iff, decide_eq_false_iff_not] at this
  omega
theorem row_iff {l : List TRow} {i : Nat} {S : Seen} (hi : i < l.length) (hS : SeenOf l i S) : (rowI l i = 0 → ∃ S', rowE l i S = .ok S' ∧ SeenOf l (i + 1) S') ∧ (rowI l i ≠ 0 → ∃ e, rowE l i S = .error e ∧ e ≠ 0) := by
  obtain ⟨s1, s2⟩ := hS
  cases hn : nameB (l.getD i trow0).name.data.toList with
  | false => rw [rowI_13 hn]; exact ⟨(fun h => by cases h), fun _ => ⟨13, rowE_13 hn, by decide⟩⟩
  | true =>
    rw [rowI_ord hn]
    cases ho : ordB l i with
    | true => rw [if_pos rfl]; exact ⟨(fun h => by cases h), fun _ => ⟨15, rowE_15 hn ho, by decide⟩⟩
    | false =>
      rw [if_neg (by decide)]
      cases hb : badR (l.getD i trow0) with
      | true =>
        rw [if_pos rfl]
        exact ⟨(fun h => by cases h), fun _ => ⟨16, rowE_16 hn ho (by rw [ranged_eq, hb]; rfl), by decide⟩⟩
      | false =>
        rw [if_neg (by decide)]
        cases hm : muxBad (l.getD i trow0) with
        | true =>
          rw [if_pos rfl]
          exact ⟨(fun h => by cases h), fun _ => ⟨16, rowE_16 hn ho (by rw [ranged_eq, hb, hm]; rfl), by decide⟩⟩
        | false =>
          rw [if_neg (by decide)]
          have hrg : rangedR (l.getD i trow0) = true := by rw [ranged_eq, hb, hm]; rfl
          cases ha : a2Bad (l.getD i trow0) with
          | true =>
            rw [if_pos rfl]
            have ha' : (l.getD i trow0).a2 = 102 ∨ (l.getD i trow0).a2 = 117 := by unfold a2Bad at ha; simpa using ha
            exact ⟨(fun h => by cases h), fun _ => ⟨17, rowE_17 hn ho hrg ha', by decide⟩⟩
          | false =>
            rw [if_neg (by decide)]
            have ha' : ¬ ((l.getD i trow0).a2 = 102 ∨ (l.getD i trow0).a2 = 117) := fun q => by
              unfold a2Bad at ha
              rcases q with q | q
              · rw [decide_eq_true q] at ha; cases ha
              · rw [decide_eq_true q, Bool.or_true] at ha; cases ha
            rw [rowE_rest hn ho hrg ha']
            cases hns : numsR (l.getD i trow0) S 5 with
            | none =>
              obtain ⟨a, h1, h2, h3⟩ := numsR_none hns
              obtain ⟨_, j, hj, h4⟩ := (s1 a _ h1).1 h3
              have hc : clashB l i = true := (clash_iff hi).2 ⟨j, hj, .inl ⟨a, h1, by have := bad_num hb h1; omega, h4⟩⟩
              rw [hc, if_pos rfl]
              exact ⟨(fun h => by cases h), fun _ => ⟨15, rfl, by decide⟩⟩
            | some S1 =>
              obtain ⟨i1, i2⟩ := numsR_some hns
              dsimp only
              have hnoN : ∀ j, j < i → ∀ a, a < 5 → 0 ≤ (l.getD i trow0).num a → (l.getD j trow0).num a ≠ (l.getD i trow0).num a := fun j hj a h1 h2 h3 => i2 a h1 (by omega) ((s1 a _ h1).2 ⟨by omega, j, hj, h3⟩)
              have hS1 : ∀ (a : Nat) (n : Int), a < 5 → (((a : Int), n) ∈ S1 ↔ n ≠ -1 ∧ ∃ j, j < i + 1 ∧ (l.getD j trow0).num a = n) := fun a n h5 => by
                rw [i1, s1 a n h5]
                constructor
                · rintro (⟨q1, j, q2, q3⟩ | ⟨b, q1, q2, q3⟩)
                  · exact ⟨q1, j, by omega, q3⟩
                  · have e1 : a = b := by have := congrArg Prod.fst q3; dsimp only at this; omega
                    have e2 : n = (l.getD i trow0).num b := congrArg Prod.snd q3
                    subst e1
                    exact ⟨by rw [e2]; exact q2, i, Nat.lt_succ_self _, e2.symm⟩
                · rintro ⟨q1, j, q2, q3⟩
                  rcases Nat.lt_or_ge j i with w | w
                  · exact .inl ⟨q1, j, w, q3⟩
                  · have e : j = i := by omega
                    subst e
                    exact .inr ⟨a, h5, by rw [q3]; exact q1, by rw [q3]⟩
              unfold muxR
              by_cases hm0 : (l.getD i trow0).mux = 0
              · rw [if_pos hm0]
                have hc : clashB l i = false := by
                  rw [Bool.eq_false_iff, Ne, clash_iff hi]
                  rintro ⟨j, hj, ⟨a, h1, h2, h3⟩ | ⟨h1, _⟩⟩
                  · exact hnoN j hj a h1 h2 h3
                  · omega
                rw [hc, if_neg (by decide)]
                refine ⟨fun _ => ⟨S1, rfl, hS1, fun m s hms => ?_⟩, fun h => absurd rfl h⟩
                rw [i1, s2 m s hms]
                constructor
                · rintro (⟨j, q2, q3⟩ | ⟨b, q1, q2, q3⟩)
                  · exact ⟨j, by omega, q3⟩
                  · have := congrArg Prod.fst q3; dsimp only at this; omega
                · rintro ⟨j, q2, q3, q4⟩
                  rcases Nat.lt_or_ge j i with w | w
                  · exact .inl ⟨j, w, q3, q4⟩
                  · have e : j = i := by omega
                    subst e; omega
              · rw [if_neg hm0]
                have hm12 := ranged_mux hrg hm0
                by_cases hin : (5 + (l.getD i trow0).mux, (l.getD i trow0).sub) ∈ S1
                · rw [if_pos hin]
                  have hinS : (5 + (l.getD i trow0).mux, (l.getD i trow0).sub) ∈ S := by
                    rcases (i1 _).1 hin with q | ⟨b, q1, q2, q3⟩
                    · exact q
                    · have := congrArg Prod.fst q3; dsimp only at this; omega
                  obtain ⟨j, hj, q1, q2⟩ := (s2 _ _ hm12).1 hinS
                  have hc : clashB l i = true := (clash_iff hi).2 ⟨j, hj, .inr ⟨by omega, q1, q2⟩⟩
                  rw [hc, if_pos rfl]
                  exact ⟨(fun h => by cases h), fun _ => ⟨15, rfl, by decide⟩⟩
                · rw [if_neg hin]
                  have hc : clashB l i = false := by
                    rw [Bool.eq_false_iff, Ne, clash_iff hi]
                    rintro ⟨j, hj, ⟨a, h1, h2, h3⟩ | ⟨h1, h2, h3⟩⟩
                    · exact hnoN j hj a h1 h2 h3
                    · exact hin ((i1 _).2 (.inl ((s2 _ _ hm12).2 ⟨j, hj, h2, h3⟩)))
                  rw [hc, if_neg (by decide)]
                  refine ⟨fun _ => ⟨_, rfl, fun a n h5 => ?_, fun m s hms => ?_⟩, fun h => absurd rfl h⟩
                  · rw [List.mem_append, hS1 a n h5, List.mem_singleton]
                    constructor
                    · rintro (q | q)
                      · exact q
                      · have := congrArg Prod.fst q; dsimp only at this; omega
                    · exact .inl
                  · rw [List.mem_append, i1, s2 m s hms, List.mem_singleton]
                    constructor
                    · rintro ((⟨j, q2, q3⟩ | ⟨b, q1, q2, q3⟩) | q)
                      · exact ⟨j, by omega, q3⟩
                      · have := congrArg Prod.fst q3; dsimp only at this; omega
                      · have e1 := congrArg Prod.fst q
                        have e2 := congrArg Prod.snd q
                        dsimp only at e1 e2
                        exact ⟨i, Nat.lt_succ_self _, by omega, e2.symm⟩
                    · rintro ⟨j, q2, q3, q4⟩
                      rcases Nat.lt_or_ge j i with w | w
                      · exact .inl (.inl ⟨j, w, q3, q4⟩)
                      · have e : j = i := by omega
                        subst e
                        exact .inr (by rw [q3, q4])
theorem rowsS_ok {l : List TRow} : ∀ {k : Nat}, k ≤ l.length → (∀ j, j < k → rowI l j = 0) → ∃ S, rowsS l k = .ok S ∧ SeenOf l k S
  | 0, _, _ => ⟨[], rfl, fun a n _ => by simp, fun m s _ => by simp⟩
  | k + 1, hk, h => by
    obtain ⟨S, h1, h2⟩ := rowsS_ok (k := k) (by omega) fun j hj => h j (by omega)
    obtain ⟨S', h3, h4⟩ := (row_iff (by omega) h2).1 (h k (by omega))
    exact ⟨S', rows_next h1 h3, h4⟩
theorem first_bad {l : List TRow} : (∀ j, j < l.length → rowI l j = 0) ∨ ∃ i, i < l.length ∧ rowI l i ≠ 0 ∧ ∀ j, j < i → rowI l j = 0 := by
  have : ∀ n, n ≤ l.length → (∀ j, j < n → rowI l j = 0) ∨ ∃ i, i < l.length ∧ rowI l i ≠ 0 ∧ ∀ j, j < i → rowI l j = 0 := by
    intro n
    induction n with
    | zero => exact fun _ => .inl fun j hj => absurd hj (Nat.not_lt_zero j)
    | succ n ih =>
      intro hn
      rcases ih (by omega) with h | h
      · by_cases q : rowI l n = 0
        · exact .inl fun j hj => by rcases Nat.lt_or_ge j n with w | w; exact h j w; rw [show j = n by omega]; exact q
        · exact .inr ⟨n, by omega, q, h⟩
      · exact .inr h
  exact this _ (Nat.le_refl _)
theorem tab_right (l : List TRow) : (tabR l).2 = 0 ↔ (right11 l).2 = 0 := by
  by_cases h4 : 400 < l.length
  · unfold tabR right11
    rw [if_pos h4, if_pos h4]
  · rcases first_bad (l := l) with h | ⟨i, hi, h1, h2⟩
    · obtain ⟨S, hS, -⟩ := rowsS_ok (Nat.le_refl _) h
      rw [tab_ok h4 hS]
      unfold right11
      rw [if_neg h4, find_range0 (fun j hj => decide_eq_false (fun q => q (h j hj)))]
    · obtain ⟨S, hS, hs⟩ := rowsS_ok (k := i) (by omega) h2
      obtain ⟨e, he, hne⟩ := (row_iff hi hs).2 h1
      rw [tab_err h4 hi hS he]
      unfold right11
      rw [if_neg h4, find_range (p := fun i => decide (rowI l i ≠ 0)) hi (fun j hj => decide_eq_false (fun q => q (h2 j hj))) (decide_eq_true h1)]
      exact ⟨fun q => absurd q hne, fun q => absurd q h1⟩
theorem right_rows {l : List TRow} (h : (tabR l).2 = 0) : l.length ≤ 400 ∧ ∀ j, j < l.length → rowI l j = 0 := by
  rw [tab_right] at h
  unfold right11 at h
  by_cases h4 : 400 < l.length
  · rw [if_pos h4] at h; cases h
  · rcases first_bad (l := l) with q | ⟨i, hi, h1, h2⟩
    · exact ⟨by omega, q⟩
    · rw [if_neg h4, find_range (p := fun i => decide (rowI l i ≠ 0)) hi (fun j hj => decide_eq_false (fun q => q (h2 j hj))) (decide_eq_true h1)] at h
      exact absurd h h1
theorem row_good {l : List TRow} {i : Nat} (h : rowI l i = 0) : nameB (l.getD i trow0).name.data.toList = true ∧ ordB l i = false ∧ badR (l.getD i trow0) = false ∧ muxBad (l.getD i trow0) = false ∧ a2Bad (l.getD i trow0) = false ∧ clashB l i = false := by
  cases hn : nameB (l.getD i trow0).name.data.toList with
  | false => rw [rowI_13 hn] at h; cases h
  | true =>
    rw [rowI_ord hn] at h
    split at h
    · cases h
    split at h
    · cases h
    split at h
    · cases h
    split at h
    · cases h
    split at h
    · cases h
    simp_all
theorem tab_sorted {l : List TRow} (h : (tabR l).2 = 0) : sortedT l := by
  obtain ⟨_, hr⟩ := right_rows h
  have step : ∀ i, i + 1 < l.length → Go.Sort.ltStr (l.getD i trow0).name.data.toList (l.getD (i + 1) trow0).name.data.toList = true := fun i hi => by
    have := (row_good (hr (i + 1) hi)).2.1
    unfold ordB at this
    rw [decide_eq_true (Nat.succ_pos i), Bool.true_and] at this
    exact leB_no this
  intro i j hij hj
  have : ∀ n, i + 1 + n < l.length → Go.Sort.ltStr (l.getD i trow0).name.data.toList (l.getD (i + 1 + n) trow0).name.data.toList = true := by
    intro n
    induction n with
    | zero => exact step i
    | succ n ih => exact fun hn => Go.Sort.swo_ltStr.trans _ _ _ (ih (by omega)) (step (i + 1 + n) (by omega))
  have := this (j - i - 1) (by omega)
  rwa [show i + 1 + (j - i - 1) = j by omega] at this
theorem tab_name {l : List TRow} (h : (tabR l).2 = 0) {i : Nat} (hi : i < l.length) : (l.getD i trow0).name.size ≠ 0 := by
  have := (row_good ((right_rows h).2 i hi)).1
  have := ((nameB_ref _).1 this).1
  exact this
end Go.Proofs.W

namespace Go.Proofs.W
open Go.Vl
set_option maxRecDepth 100000

def nameR (l : List TRow) (r : Rec) : ByteArray := (ofI l r).name
def ownN (l : List TRow) (s : ByteArray) (rs : List Rec) : List Rec := rs.filter fun r => kS s (nameR l r)
def xarg (l : List TRow) (r : Rec) (k : Nat) : Nat := argI (ofI l r).abi.toNat r k
def OwnOk (l : List TRow) (rs : List Rec) (g : Gat) : Prop := ∃ r0 rest, ownN l g.name rs = r0 :: rest ∧ g.m = rest.length + 1 ∧ (∀ k, g.a k = xarg l r0 k) ∧ ∀ k, g.b k = rest.all fun r => decide (xarg l r0 k = xarg l r k)
structure GInv (l : List TRow) (rs : List Rec) (S : List Gat × Bool) : Prop where
  nd : (S.1.map Gat.name).Nodup
  nz : ∀ g ∈ S.1, g.name.size ≠ 0
  own : ∀ g ∈ S.1, OwnOk l rs g
  all : ∀ r ∈ rs, (nameR l r).size ≠ 0 → ∃ g ∈ S.1, g.name = nameR l r
  x : S.2 = rs.any fun r => decide ((nameR l r).size ≠ 0) && decide ((ofI l r).abi = 1)
def RSb (a b : List UInt8) : Prop := Go.Sort.ltStr a b = true
theorem RSb_irr (x : List UInt8) : ¬ RSb x x := by unfold RSb; rw [Go.Sort.swo_ltStr.irrefl]; decide
end Go.Proofs.W

namespace Go.Proofs
open Go.Shelf
shelf_lay Lays.n217 Nm 217 at Tryz as Tryz.lays217
shelf_lay Lays.n229 Nm 229 at Tryz as Tryz.lays229
end Go.Proofs
namespace Go.Proofs.W
open Go.Vl Go.Shelf
set_option maxRecDepth 100000

def i32 (n : Int) : AV := .v (.int .i32 n)
def blankB (x : Nat) : Bool := decide (x = 32) || decide (x = 9) || decide (x = 13)
theorem blank_spec (x : Nat) : Tells Tryz.prog 135 [i32 x] (boolA (blankB x)) := by
  have hb : blankB x = (((x : Int) == 32) || (((x : Int) == 9) || ((x : Int) == 13))) := by
    unfold blankB
    rw [show ((x : Int) == 32) = decide (x = 32) by rw [Bool.eq_iff_iff]; simp; omega, show ((x : Int) == 9) = decide (x = 9) by rw [Bool.eq_iff_iff]; simp; omega, show ((x : Int) == 13) = decide (x = 13) by rw [Bool.eq_iff_iff]; simp; omega, Bool.or_assoc]
  refine tells_of_aw Tryz.func135 rfl rfl fun nx => ?_
  (repeat((conv=>whnf);first|apply ω0|apply ω1|apply ω2|refine τ3 rfl ?_|refine τ4 rfl ?_|refine ⟨rfl,?_⟩|apply τa|refine τb rfl ?_|refine ⟨⟨by kernel_rfl,by kernel_rfl⟩,?_⟩|refine ⟨by decide,?_⟩|apply τt|apply τf))
  intro c hc
  have hc2 : c = ((x : Int) == 32) := hc
  clear hc
  rw [← hc2] at hb
  clear hc2
  cases c
  · (repeat((conv=>whnf);first|apply ω0|apply ω1|apply ω2|refine τ3 rfl ?_|refine τ4 rfl ?_|refine ⟨rfl,?_⟩|apply τa|refine τb rfl ?_|refine ⟨⟨by kernel_rfl,by kernel_rfl⟩,?_⟩|refine ⟨by decide,?_⟩|apply τt|apply τf))
    intro c hc
    have hc2 : c = ((x : Int) == 9) := hc
    clear hc
    rw [← hc2, Bool.false_or] at hb
    clear hc2
    cases c
    · (repeat((conv=>whnf);first|apply ω0|apply ω1|apply ω2|refine τ3 rfl ?_|refine τ4 rfl ?_|refine ⟨rfl,?_⟩|apply τa|refine τb rfl ?_|refine ⟨⟨by kernel_rfl,by kernel_rfl⟩,?_⟩|refine ⟨by decide,?_⟩|apply τt|apply τf))
      intro c hc
      have hc2 : c = ((x : Int) == 13) := hc
      clear hc
      rw [← hc2, Bool.false_or] at hb
      (repeat((conv=>whnf);first|apply ω0|apply ω1|apply ω2|refine τ3 rfl ?_|refine τ4 rfl ?_|refine ⟨rfl,?_⟩|apply τa|refine τb rfl ?_|refine ⟨⟨by kernel_rfl,by kernel_rfl⟩,?_⟩|refine ⟨by decide,?_⟩|apply τt|apply τf))
      exact ret_tells rfl (le_bool (by exact hb.symm))
    · (repeat((conv=>whnf);first|apply ω0|apply ω1|apply ω2|refine τ3 rfl ?_|refine τ4 rfl ?_|refine ⟨rfl,?_⟩|apply τa|refine τb rfl ?_|refine ⟨⟨by kernel_rfl,by kernel_rfl⟩,?_⟩|refine ⟨by decide,?_⟩|apply τt|apply τf))
      exact ret_tells rfl (le_bool (by exact hb.symm))
  · (repeat((conv=>whnf);first|apply ω0|apply ω1|apply ω2|refine τ3 rfl ?_|refine τ4 rfl ?_|refine ⟨rfl,?_⟩|apply τa|refine τb rfl ?_|refine ⟨⟨by kernel_rfl,by kernel_rfl⟩,?_⟩|refine ⟨by decide,?_⟩|apply τt|apply τf))
    exact ret_tells rfl (le_bool (by exact hb.symm))
def lineOk (s : ByteArray) : Prop := ∀ i, i < s.size → (s.get! i).toNat < 128 ∧ (blankB (s.get! i).toNat = true ∨ (32 ≤ (s.get! i).toNat ∧ (s.get! i).toNat ≤ 126))
set_option maxHeartbeats 2000000 in
theorem plain_spec (s : ByteArray) (hs : lineOk s) (hl : s.size ≤ 1000000) : Tells Tryz.prog 133 [strA s] (boolA true) := by
  refine tells_of_aw Tryz.func133 rfl rfl fun nx => ?_
  (repeat((conv=>whnf);first|apply ω0|apply ω1|apply ω2|refine τ3 rfl ?_|refine τ4 rfl ?_|refine ⟨rfl,?_⟩|apply τa|refine τb rfl ?_|refine ⟨⟨by kernel_rfl,by kernel_rfl⟩,?_⟩|refine ⟨by decide,?_⟩|apply τt|apply τf))
  refine aop_rangeS rfl Tryz.underlying9 rfl ?_
  (repeat((conv=>whnf);first|apply ω0|apply ω1|apply ω2|refine τ3 rfl ?_|refine τ4 rfl ?_|refine ⟨rfl,?_⟩|apply τa|refine τb rfl ?_|refine ⟨⟨by kernel_rfl,by kernel_rfl⟩,?_⟩|refine ⟨by decide,?_⟩|apply τt|apply τf))
  refine aw_loop (fun y : Nat × Nat => mk 21 [(0, strA s), (6, .bp (0, nx) 0)] ⟨[((0, nx), .si s y.1)], [], y.2, 1⟩) (fun y => y.1 ≤ s.size) (fun y => s.size - y.1) ?_ ?_
  · exact ⟨(0, nx + 1), Nat.zero_le _, ele_tell (pm := []) (bx := [((0, nx), .si s 0)]) _ _ rfl rfl (List.Sublist.refl _) (List.Sublist.refl _) (BxLe.refl _) trivial ⟨AVle.refl _, AVle.refl _, trivial⟩⟩
  · rintro ⟨i, nx1⟩ h1
    dsimp only at h1
    (repeat((conv=>whnf);first|apply ω0|apply ω1|apply ω2|refine τ3 rfl ?_|refine τ4 rfl ?_|refine ⟨rfl,?_⟩|apply τa|refine τb rfl ?_|refine ⟨⟨by kernel_rfl,by kernel_rfl⟩,?_⟩|refine ⟨by decide,?_⟩|apply τt|apply τf))
    by_cases hi : i < s.size
    · obtain ⟨q1, q2⟩ := hs i hi
      have hd := decode_lo q1
      have hbl := blank_spec (s.get! i).toNat
      generalize (s.get! i).toNat = x at q1 q2 hd hbl
      refine aop_nextSA rfl rfl rfl hi hd ?_
      (repeat((conv=>whnf);first|apply ω0|apply ω1|apply ω2|refine τ3 rfl ?_|refine τ4 rfl ?_|refine ⟨rfl,?_⟩|apply τa|refine τb rfl ?_|refine ⟨⟨by kernel_rfl,by kernel_rfl⟩,?_⟩|refine ⟨by decide,?_⟩|apply τt|apply τf))
      refine aop_tells rfl rfl hbl ⟨AVle.refl _, trivial⟩ fun nx2 => ?_
      cases hb : blankB x with
      | true =>
        (repeat((conv=>whnf);first|apply ω0|apply ω1|apply ω2|refine τ3 rfl ?_|refine τ4 rfl ?_|refine ⟨rfl,?_⟩|apply τa|refine τb rfl ?_|refine ⟨⟨by kernel_rfl,by kernel_rfl⟩,?_⟩|refine ⟨by decide,?_⟩|apply τt|apply τf))
        exact back (i + 1, nx2) hi (by dsimp only; omega) (ele_tell (pm := []) (bx := [((0, nx), .si s (i + 1))]) _ _ rfl rfl (List.Sublist.refl _) (List.Sublist.refl _) (BxLe.refl _) trivial ⟨AVle.refl _, AVle.refl _, trivial⟩)
      | false =>
        rw [hb] at q2
        have h32 : 32 ≤ x ∧ x ≤ 126 := q2.resolve_left (by decide)
        (repeat((conv=>whnf);first|apply ω0|apply ω1|apply ω2|refine τ3 rfl ?_|refine τ4 rfl ?_|refine ⟨rfl,?_⟩|apply τa|refine τb rfl ?_|refine ⟨⟨by kernel_rfl,by kernel_rfl⟩,?_⟩|refine ⟨by decide,?_⟩|apply τt|apply τf))
        (intro c hc; obtain rfl : c = false := hc.trans (by first | exact decide_eq_false (by omega) | (simp; omega)); (repeat((conv=>whnf);first|apply ω0|apply ω1|apply ω2|refine τ3 rfl ?_|refine τ4 rfl ?_|refine ⟨rfl,?_⟩|apply τa|refine τb rfl ?_|refine ⟨⟨by kernel_rfl,by kernel_rfl⟩,?_⟩|refine ⟨by decide,?_⟩|apply τt|apply τf)))
        (intro c hc; obtain rfl : c = false := hc.trans (by first | exact decide_eq_false (by omega) | (simp; omega)); (repeat((conv=>whnf);first|apply ω0|apply ω1|apply ω2|refine τ3 rfl ?_|refine τ4 rfl ?_|refine ⟨rfl,?_⟩|apply τa|refine τb rfl ?_|refine ⟨⟨by kernel_rfl,by kernel_rfl⟩,?_⟩|refine ⟨by decide,?_⟩|apply τt|apply τf)))
        exact back (i + 1, nx2) hi (by dsimp only; omega) (ele_tell (pm := []) (bx := [((0, nx), .si s (i + 1))]) _ _ rfl rfl (List.Sublist.refl _) (List.Sublist.refl _) (BxLe.refl _) trivial ⟨AVle.refl _, AVle.refl _, trivial⟩)
    · refine aop_nextS0 rfl rfl rfl hi ?_
      (repeat((conv=>whnf);first|apply ω0|apply ω1|apply ω2|refine τ3 rfl ?_|refine τ4 rfl ?_|refine ⟨rfl,?_⟩|apply τa|refine τb rfl ?_|refine ⟨⟨by kernel_rfl,by kernel_rfl⟩,?_⟩|refine ⟨by decide,?_⟩|apply τt|apply τf))
      exact ret_tells rfl (AVle.refl _)
end Go.Proofs.W

namespace Go.Proofs.W
open Go.Vl Go.Shelf
set_option maxRecDepth 100000

theorem lidx_spec (s : ByteArray) (c : Int) : Tells Tryz.prog 155 [.v (.string s), .v (.int .u8 c)] (.v (.int .i64 (Lib.indexByte s.data.toList c.toNat.toUInt8))) :=
  tells_of_calls (vs := [.string s, .int .u8 c]) ⟨_, Tryz.func155, rfl, rfl⟩ fun w => (Any.stringslite_IndexByte Tryz.lays217 s c w).mono fun e w' ⟨h1, h2⟩ => ⟨h1, by subst h2; exact ⟨rfl, rfl, rfl, Nat.le_refl _, fun _ _ => rfl⟩⟩
theorem fields_spec (s : ByteArray) (hs : s.size ≤ 1000000) : Tells Tryz.prog 134 [strA s, .fn (.func 135) [] []] (.sl 1 (Lib.goFieldsP blankB s).length fun k => .v (((Lib.goFieldsP blankB s).map Value.string).getD k undef)) := by
  have h := tells_of_row (P := Tryz.prog) (f := 134) (ars := [strA s, .fn (.func 135) [] []]) (vs := [.string s, .func (.func 135) #[] #[]]) (xs := (Lib.goFieldsP blankB s).map Value.string) (t := 9) ⟨_, Tryz.func134, rfl, rfl⟩ (fun w X g us h1 h2 => by
    match us, h1 with
    | [a, b], _ =>
      have ha := h2 0 _ a rfl rfl
      have hb := fn_le _ _ _ _ (h2 1 _ b rfl rfl)
      generalize a = a' at ha
      generalize b = b' at hb
      cases ha
      cases hb
      rfl) (fun w hk => by
    rw [List.length_map]
    exact Any.strings_FieldsFunc_grows Tryz.lays229 135 #[] (fun args w => enters_of Tryz.func135 (by kernel_rfl) rfl args w) blankB s w (by omega) (pred_of_tells (fun x _ => blank_spec x) w hk) (by kernel_rfl) (by kernel_rfl))
  rw [List.length_map] at h
  exact h
set_option maxHeartbeats 1000000 in
theorem idx1_spec (s : ByteArray) (b : UInt8) (hne : ((⟨#[b]⟩ : ByteArray).toList == s.toList) = false) : Tells Tryz.prog 247 [strA s, strA ⟨#[b]⟩] (int (Lib.indexByte s.data.toList b)) := by
  have hi := lidx_spec s (b.toNat : Int)
  have hbb : ((b.toNat : Int).toNat.toUInt8) = b := by simp
  rw [hbb] at hi
  refine tells_of_aw Tryz.func247 rfl rfl fun nx => ?_
  (repeat((conv=>whnf);first|apply ω0|apply ω1|apply ω2|refine τ3 rfl ?_|refine τ4 rfl ?_|refine ⟨rfl,?_⟩|apply τa|refine τb rfl ?_|refine ⟨⟨by kernel_rfl,by kernel_rfl⟩,?_⟩|refine ⟨by decide,?_⟩|apply τt|apply τf))
  intro c hc
  obtain rfl : c = false := hc.trans hne
  (repeat((conv=>whnf);first|apply ω0|apply ω1|apply ω2|refine τ3 rfl ?_|refine τ4 rfl ?_|refine ⟨rfl,?_⟩|apply τa|refine τb rfl ?_|refine ⟨⟨by kernel_rfl,by kernel_rfl⟩,?_⟩|refine ⟨by decide,?_⟩|apply τt|apply τf))
  (conv => whnf)
  refine ⟨⟨by decide, (show (0 : Int) < 1 by decide)⟩, ?_⟩
  (repeat((conv=>whnf);first|apply ω0|apply ω1|apply ω2|refine τ3 rfl ?_|refine τ4 rfl ?_|refine ⟨rfl,?_⟩|apply τa|refine τb rfl ?_|refine ⟨⟨by kernel_rfl,by kernel_rfl⟩,?_⟩|refine ⟨by decide,?_⟩|apply τt|apply τf))
  refine aop_tells rfl rfl hi ⟨AVle.refl _, AVle.refl _, trivial⟩ fun nx2 => ?_
  (repeat((conv=>whnf);first|apply ω0|apply ω1|apply ω2|refine τ3 rfl ?_|refine τ4 rfl ?_|refine ⟨rfl,?_⟩|apply τa|refine τb rfl ?_|refine ⟨⟨by kernel_rfl,by kernel_rfl⟩,?_⟩|refine ⟨by decide,?_⟩|apply τt|apply τf))
  exact ret_tells rfl (AVle.refl _)
set_option maxHeartbeats 1000000 in
theorem cut0_spec (s : ByteArray) (b : UInt8) (hne : ((⟨#[b]⟩ : ByteArray).toList == s.toList) = false) (h : Lib.indexByte s.data.toList b = -1) : Tells Tryz.prog 172 [strA s, strA ⟨#[b]⟩] (.tup [strA s, strA ⟨#[]⟩, boolA false]) := by
  have hi := idx1_spec s b hne
  rw [h] at hi
  have hc : Tells Tryz.prog 224 [strA s, strA ⟨#[b]⟩] (.tup [strA s, strA ⟨#[]⟩, boolA false]) := by
    refine tells_of_aw Tryz.func224 rfl rfl fun nx => ?_
    (repeat((conv=>whnf);first|apply ω0|apply ω1|apply ω2|refine τ3 rfl ?_|refine τ4 rfl ?_|refine ⟨rfl,?_⟩|apply τa|refine τb rfl ?_|refine ⟨⟨by kernel_rfl,by kernel_rfl⟩,?_⟩|refine ⟨by decide,?_⟩|apply τt|apply τf))
    refine aop_tells rfl rfl hi ⟨AVle.refl _, AVle.refl _, trivial⟩ fun nx2 => ?_
    (repeat((conv=>whnf);first|apply ω0|apply ω1|apply ω2|refine τ3 rfl ?_|refine τ4 rfl ?_|refine ⟨rfl,?_⟩|apply τa|refine τb rfl ?_|refine ⟨⟨by kernel_rfl,by kernel_rfl⟩,?_⟩|refine ⟨by decide,?_⟩|apply τt|apply τf))
    exact ret_tells_all rfl trivial (AVle.refl _)
  refine tells_of_aw Tryz.func172 rfl rfl fun nx => ?_
  (repeat((conv=>whnf);first|apply ω0|apply ω1|apply ω2|refine τ3 rfl ?_|refine τ4 rfl ?_|refine ⟨rfl,?_⟩|apply τa|refine τb rfl ?_|refine ⟨⟨by kernel_rfl,by kernel_rfl⟩,?_⟩|refine ⟨by decide,?_⟩|apply τt|apply τf))
  refine aop_tells rfl rfl hc ⟨AVle.refl _, AVle.refl _, trivial⟩ fun nx2 => ?_
  (repeat((conv=>whnf);first|apply ω0|apply ω1|apply ω2|refine τ3 rfl ?_|refine τ4 rfl ?_|refine ⟨rfl,?_⟩|apply τa|refine τb rfl ?_|refine ⟨⟨by kernel_rfl,by kernel_rfl⟩,?_⟩|refine ⟨by decide,?_⟩|apply τt|apply τf))
  exact ret_tells_all rfl trivial (AVle.refl _)
theorem index_spec (s : ByteArray) (b : UInt8) (hne : ((⟨#[b]⟩ : ByteArray).toList == s.toList) = false) : Tells Tryz.prog 246 [strA s, strA ⟨#[b]⟩] (int (Lib.indexByte s.data.toList b)) := by
  have hi := idx1_spec s b hne
  refine tells_of_aw Tryz.func246 rfl rfl fun nx => ?_
  (repeat((conv=>whnf);first|apply ω0|apply ω1|apply ω2|refine τ3 rfl ?_|refine τ4 rfl ?_|refine ⟨rfl,?_⟩|apply τa|refine τb rfl ?_|refine ⟨⟨by kernel_rfl,by kernel_rfl⟩,?_⟩|refine ⟨by decide,?_⟩|apply τt|apply τf))
  refine aop_tells rfl rfl hi ⟨AVle.refl _, AVle.refl _, trivial⟩ fun nx2 => ?_
  (repeat((conv=>whnf);first|apply ω0|apply ω1|apply ω2|refine τ3 rfl ?_|refine τ4 rfl ?_|refine ⟨rfl,?_⟩|apply τa|refine τb rfl ?_|refine ⟨⟨by kernel_rfl,by kernel_rfl⟩,?_⟩|refine ⟨by decide,?_⟩|apply τt|apply τf))
  exact ret_tells rfl (AVle.refl _)
end Go.Proofs.W

namespace Go.Proofs.W
open Go.Vl Go.Shelf
set_option maxRecDepth 100000

def lineA : ByteArray := ⟨#[100, 101, 102, 97, 117, 108, 116, 32, 107, 105, 108, 108]⟩
def lineB : ByteArray := ⟨#[114, 101, 97, 100, 32, 97, 108, 108, 111, 119]⟩
def textAB : ByteArray := ⟨#[100, 101, 102, 97, 117, 108, 116, 32, 107, 105, 108, 108, 10, 114, 101, 97, 100, 32, 97, 108, 108, 111, 119]⟩
theorem lines_spec (s : ByteArray) : Tells Tryz.prog 132 [strA s] (.fn (.func 170) [] [.rp [strA s]]) := by
  refine tells_of_aw Tryz.func132 rfl rfl fun nx => ?_
  (repeat ((conv=>whnf);first|refine ω0 ?_|refine ω1 ?_|refine ω2 ?_|refine ω3 ?_|refine ω4 rfl ?_|refine ω5 rfl ?_|refine ω6 ?_|refine ω7 ?_|refine ⟨rfl,?_⟩|refine ⟨trivial,?_⟩|refine ⟨⟨rfl,Nat.le_of_ble_eq_true rfl⟩,?_⟩|refine ⟨⟨by kernel_rfl,by kernel_rfl⟩,?_⟩|refine ⟨by decide,?_⟩|refine lit_true ?_|refine lit_false ?_))
  refine AW.le (ele_freeze (L := [(2, .fn (.func 170) [] [.rp [strA s]])]) (bx := []) (pm := []) (nn := 1) [((0, nx), .c [strA s])] rfl rfl (List.Sublist.refl _) .slnil ⟨Frz.fn trivial ⟨Frz.bp (.head _) rfl, trivial⟩, trivial⟩) ?_
  (repeat((conv=>whnf);first|apply ω0|apply ω1|apply ω2|refine τ3 rfl ?_|refine τ4 rfl ?_|refine ⟨rfl,?_⟩|apply τa|refine τb rfl ?_|refine ⟨⟨by kernel_rfl,by kernel_rfl⟩,?_⟩|refine ⟨by decide,?_⟩|apply τt|apply τf))
  exact ret_tells rfl (AVle.refl _)
def splitB (a : Nat) (s sep : ByteArray) : List (Vl.Id × Own) := [((12, a + 2), .c [int 0]), ((11, a + 1), .c [strA sep]), ((10, a), .c [strA s])]
def splitF (a : Nat) : AV := .fn (.func 245) [] [.bp (11, a + 1) 0, .bp (10, a) 0, .bp (12, a + 2) 0]
theorem splits_spec (s sep : ByteArray) (nx : Nat) : ECall Tryz.prog 223 [strA s, strA sep, int 0] ⟨[], [], nx, 10⟩ fun r h' => r = splitF nx ∧ h' = ⟨splitB nx s sep, [], nx + 3, 13⟩ := by
  refine ecall_of_aw Tryz.func223 rfl rfl ?_
  (repeat((conv=>whnf);first|apply ω0|apply ω1|apply ω2|refine τ3 rfl ?_|refine τ4 rfl ?_|refine ⟨rfl,?_⟩|apply τa|refine τb rfl ?_|refine ⟨⟨by kernel_rfl,by kernel_rfl⟩,?_⟩|refine ⟨by decide,?_⟩|apply τt|apply τf))
  exact ret_is rfl ⟨rfl, rfl⟩
theorem splitseq_spec (s sep : ByteArray) (nx : Nat) : ECall Tryz.prog 171 [strA s, strA sep] ⟨[], [], nx, 10⟩ fun r h' => r = splitF nx ∧ h' = ⟨splitB nx s sep, [], nx + 3, 13⟩ := by
  refine ecall_of_aw Tryz.func171 rfl rfl ?_
  (repeat((conv=>whnf);first|apply ω0|apply ω1|apply ω2|refine τ3 rfl ?_|refine τ4 rfl ?_|refine ⟨rfl,?_⟩|apply τa|refine τb rfl ?_|refine ⟨⟨by kernel_rfl,by kernel_rfl⟩,?_⟩|refine ⟨by decide,?_⟩|apply τt|apply τf))
  refine aop_callP (xs := [strA s, strA sep, int 0]) [] [] 13 rfl rfl rfl rfl ⟨AVle.refl _, AVle.refl _, AVle.refl _, trivial⟩ (splits_spec s sep nx) (BxLe.refl _) (PmEq.refl _) rfl fun r h' hq => ?_
  obtain ⟨rfl, rfl⟩ := hq
  (repeat((conv=>whnf);first|apply ω0|apply ω1|apply ω2|refine τ3 rfl ?_|refine τ4 rfl ?_|refine ⟨rfl,?_⟩|apply τa|refine τb rfl ?_|refine ⟨⟨by kernel_rfl,by kernel_rfl⟩,?_⟩|refine ⟨by decide,?_⟩|apply τt|apply τf))
  exact ret_is rfl ⟨rfl, rfl⟩
def cutT : Nat → ByteArray
  | 0 => textAB
  | _ => lineB
set_option maxHeartbeats 2000000 in
theorem split_iter (a : Nat) : IterAll Tryz.prog 245 [] [.bp (11, a + 1) 0, .bp (10, a) 0, .bp (12, a + 2) 0] (fun s : ByteArray => [strA s]) [lineA, lineB] (splitB a textAB ⟨#[10]⟩) := by
  intro i σ Cb Cp I hc s0 nx nn h0
  refine ECall.wk (ecall_of_aw Tryz.func245 rfl rfl ?_)
  have hi0 := index_spec textAB 10 (by rw [Lib.toList_data, Lib.toList_data]; decide)
  have hi1 := index_spec lineB 10 (by rw [Lib.toList_data, Lib.toList_data]; decide)
  rw [show Lib.indexByte textAB.data.toList 10 = 12 by decide] at hi0
  rw [show Lib.indexByte lineB.data.toList 10 = -1 by decide] at hi1
  (repeat((conv=>whnf);first|apply ω0|apply ω1|apply ω2|refine τ3 rfl ?_|refine τ4 rfl ?_|refine ⟨rfl,?_⟩|apply τa|refine τb rfl ?_|refine ⟨⟨by kernel_rfl,by kernel_rfl⟩,?_⟩|refine ⟨by decide,?_⟩|apply τt|apply τf))
  refine aw_loop (fun y : Nat × σ × Nat => mk 52 [(0, .yl i), (1, .bp (11, a + 1) 0), (2, .bp (10, a) 0), (3, .bp (12, a + 2) 0)] ⟨splitB a (cutT y.1) ⟨#[10]⟩ ++ Cb y.2.1, Cp y.2.1, y.2.2, nn⟩) (fun y => y.1 ≤ 1 ∧ I ([lineA].take y.1) y.2.1) (fun y => 1 - y.1) ?_ ?_
  · exact ⟨(0, s0, nx), ⟨Nat.zero_le _, h0⟩, ele_tell _ _ rfl rfl (List.Sublist.refl _) (List.Sublist.refl _) (BxLe.refl _) (PmEq.refl _) ⟨AVle.refl _, AVle.refl _, AVle.refl _, AVle.refl _, trivial⟩⟩
  · rintro ⟨k, s, nx1⟩ ⟨k1, hI⟩
    dsimp only at k1 hI
    obtain rfl | rfl : k = 0 ∨ k = 1 := by omega
    · (repeat((conv=>whnf);first|apply ω0|apply ω1|apply ω2|refine τ3 rfl ?_|refine τ4 rfl ?_|refine ⟨rfl,?_⟩|apply τa|refine τb rfl ?_|refine ⟨⟨by kernel_rfl,by kernel_rfl⟩,?_⟩|refine ⟨by decide,?_⟩|apply τt|apply τf))
      refine aop_tells rfl rfl hi0 ⟨AVle.refl _, AVle.refl _, trivial⟩ fun nx2 => ?_
      (repeat((conv=>whnf);first|apply ω0|apply ω1|apply ω2|refine τ3 rfl ?_|refine τ4 rfl ?_|refine ⟨rfl,?_⟩|apply τa|refine τb rfl ?_|refine ⟨⟨by kernel_rfl,by kernel_rfl⟩,?_⟩|refine ⟨by decide,?_⟩|apply τt|apply τf))
      (conv => whnf)
      refine ⟨⟨by decide, (by decide : (12 : Int) ≤ 23)⟩, splitO_eq (b := strA lineA) (by kernel_rfl) ?_⟩
      (repeat((conv=>whnf);first|apply ω0|apply ω1|apply ω2|refine τ3 rfl ?_|refine τ4 rfl ?_|refine ⟨rfl,?_⟩|apply τa|refine τb rfl ?_|refine ⟨⟨by kernel_rfl,by kernel_rfl⟩,?_⟩|refine ⟨by decide,?_⟩|apply τt|apply τf))
      refine aop_hand (pre := []) (x := lineA) (post := [lineB]) (s := s) (splitB a textAB ⟨#[10]⟩) [] rfl rfl rfl hc rfl hI ⟨AVle.refl _, trivial⟩ (fun s' nx' hI' => ?_) (fun s' nx' hJ => hJ.elim)
      (repeat((conv=>whnf);first|apply ω0|apply ω1|apply ω2|refine τ3 rfl ?_|refine τ4 rfl ?_|refine ⟨rfl,?_⟩|apply τa|refine τb rfl ?_|refine ⟨⟨by kernel_rfl,by kernel_rfl⟩,?_⟩|refine ⟨by decide,?_⟩|apply τt|apply τf))
      exact back (1, s', nx') ⟨Nat.le_refl _, hI'⟩ (by dsimp only; omega) (ele_tell (bx := splitB a lineB ⟨#[10]⟩ ++ Cb s') _ _ rfl rfl (List.Sublist.refl _) (List.Sublist.refl _) ⟨rfl, OwnLe.refl _, rfl, OwnLe.refl _, rfl, ⟨AVle.of_eq (by kernel_rfl), trivial⟩, BxLe.refl _⟩ (PmEq.refl _) ⟨AVle.refl _, AVle.refl _, AVle.refl _, AVle.refl _, trivial⟩)
    · (repeat((conv=>whnf);first|apply ω0|apply ω1|apply ω2|refine τ3 rfl ?_|refine τ4 rfl ?_|refine ⟨rfl,?_⟩|apply τa|refine τb rfl ?_|refine ⟨⟨by kernel_rfl,by kernel_rfl⟩,?_⟩|refine ⟨by decide,?_⟩|apply τt|apply τf))
      refine aop_tells rfl rfl hi1 ⟨AVle.refl _, AVle.refl _, trivial⟩ fun nx2 => ?_
      (repeat((conv=>whnf);first|apply ω0|apply ω1|apply ω2|refine τ3 rfl ?_|refine τ4 rfl ?_|refine ⟨rfl,?_⟩|apply τa|refine τb rfl ?_|refine ⟨⟨by kernel_rfl,by kernel_rfl⟩,?_⟩|refine ⟨by decide,?_⟩|apply τt|apply τf))
      refine aop_hand (pre := [lineA]) (x := lineB) (post := []) (s := s) (splitB a lineB ⟨#[10]⟩) [] rfl rfl rfl hc rfl hI ⟨AVle.refl _, trivial⟩ (fun s' nx' hI' => ?_) (fun s' nx' hJ => hJ.elim)
      (repeat((conv=>whnf);first|apply ω0|apply ω1|apply ω2|refine τ3 rfl ?_|refine τ4 rfl ?_|refine ⟨rfl,?_⟩|apply τa|refine τb rfl ?_|refine ⟨⟨by kernel_rfl,by kernel_rfl⟩,?_⟩|refine ⟨by decide,?_⟩|apply τt|apply τf))
      refine ret_is rfl ⟨_, ⟨Cb s', Cp s', nx', 0⟩, AVle.refl _, ?_, s', hI', rfl, rfl⟩
      exact hle_tell _ _ rfl (List.sublist_append_right _ _) (List.Sublist.refl _) (BxLe.refl _) (PmEq.refl _)
end Go.Proofs.W

namespace Go.Proofs.W
open Go.Vl Go.Shelf
set_option maxRecDepth 100000

def lineE (p : ByteArray × Nat) : List AV := [int p.2, strA p.1]
theorem two_cases {pre post : List ByteArray} {x : ByteArray} (h : [lineA, lineB] = pre ++ x :: post) : (pre = [] ∧ x = lineA ∧ post = [lineB]) ∨ (pre = [lineA] ∧ x = lineB ∧ post = []) := by
  match pre, h with
  | [], h => cases h; exact .inl ⟨rfl, rfl, rfl⟩
  | [_], h => cases h; exact .inr ⟨rfl, rfl, rfl⟩
  | _ :: _ :: pre, h => simp at h
theorem cutA : Tells Tryz.prog 172 [strA lineA, strA ⟨#[35]⟩] (.tup [strA lineA, strA ⟨#[]⟩, boolA false]) := cut0_spec lineA 35 (by rw [Lib.toList_data, Lib.toList_data]; decide) (by decide)
theorem cutB : Tells Tryz.prog 172 [strA lineB, strA ⟨#[35]⟩] (.tup [strA lineB, strA ⟨#[]⟩, boolA false]) := cut0_spec lineB 35 (by rw [Lib.toList_data, Lib.toList_data]; decide) (by decide)
set_option maxHeartbeats 4000000 in
theorem lines_iter : IterAll Tryz.prog 170 [] [.rp [strA textAB]] lineE [(lineA, 1), (lineB, 2)] [] := by
  intro i σ Cb Cp I hc s0 nx nn h0
  refine ECall.wk (ecall_of_aw Tryz.func170 rfl rfl ?_)
  refine AW.le (E' := mk 21 [(0, .yl i), (1, .rp [strA textAB])] ⟨Cb s0, Cp s0, nx, 0⟩ (some [])) (ele_tell _ _ rfl rfl (List.Sublist.refl _) (List.Sublist.refl _) (BxLe.refl _) (PmEq.refl _) ⟨AVle.refl _, AVle.refl _, trivial⟩) ?_
  (repeat((conv=>whnf);first|apply ω0|apply ω1|apply ω2|refine τ3 rfl ?_|refine τ4 rfl ?_|refine ⟨rfl,?_⟩|apply τa|refine τb rfl ?_|refine ⟨⟨by kernel_rfl,by kernel_rfl⟩,?_⟩|refine ⟨by decide,?_⟩|apply τt|apply τf))
  refine aop_callP (xs := [strA textAB, strA ⟨#[10]⟩]) (bx1 := []) (pm1 := []) (((1, nx + 1), .c [int 0]) :: ((0, nx), .c [.yl i]) :: Cb s0) (Cp s0) 13 rfl rfl rfl (List.append_nil _).symm ⟨AVle.refl _, AVle.refl _, trivial⟩ (splitseq_spec textAB ⟨#[10]⟩ (nx + 2)) (BxLe.refl _) (PmEq.refl _) rfl fun r h' hq => ?_
  obtain ⟨rfl, rfl⟩ := hq
  (repeat((conv=>whnf);first|apply ω0|apply ω2|refine τ3 rfl ?_|refine τ4 rfl ?_|refine ⟨rfl,?_⟩|apply τa|refine τb rfl ?_|refine ⟨⟨by kernel_rfl,by kernel_rfl⟩,?_⟩|refine ⟨by decide,?_⟩|apply τt|apply τf))
  refine AW.le (E' := mk 21 [(2, .bp (0, nx) 0), (3, .bp (1, nx + 1) 0), (6, splitF (nx + 2))] ⟨splitB (nx + 2) textAB ⟨#[10]⟩ ++ (((1, nx + 1), .c [int 0]) :: ((0, nx), .c [.yl i]) :: Cb s0), Cp s0, nx + 5, 13⟩ (some [])) (ele_tell _ _ rfl rfl (List.Sublist.refl _) (List.Sublist.refl _) (BxLe.refl _) (by rw [List.append_nil]; exact PmEq.refl _) ⟨AVle.refl _, AVle.refl _, AVle.refl _, trivial⟩) ?_
  (repeat((conv=>whnf);first|apply ω0|apply ω2|refine τ3 rfl ?_|refine τ4 rfl ?_|refine ⟨rfl,?_⟩|apply τa|refine τb rfl ?_|refine ⟨⟨by kernel_rfl,by kernel_rfl⟩,?_⟩|refine ⟨by decide,?_⟩|apply τt|apply τf))
  refine aw_forO (σ := σ × Nat) (e := fun s : ByteArray => [strA s]) (xs := [lineA, lineB]) (first' := []) (caps' := [.bp (11, nx + 2 + 1) 0, .bp (10, nx + 2) 0, .bp (12, nx + 2 + 2) 0]) (splitB (nx + 2) textAB ⟨#[10]⟩) (fun y => ((1, nx + 1), .c [int y.2]) :: ((0, nx), .c [.yl i]) :: Cb y.1) (fun y => Cp y.1) (fun pre y => y.2 = pre.length ∧ I (pre.zipIdx 1) y.1) (s0, 0) rfl rfl (split_iter (nx + 2)) (LeL.refl _) (LeL.refl _) rfl rfl ⟨rfl, h0⟩ (fun _ => rfl) ?_ ?_
  · rintro pre x post ⟨s, n⟩ nx3 nn3 hx ⟨hn, hI⟩
    dsimp only at hn hI
    have hcut : Tells Tryz.prog 172 [strA x, strA ⟨#[35]⟩] (.tup [strA x, strA ⟨#[]⟩, boolA false]) := by
      rcases two_cases hx with ⟨_, rfl, _⟩ | ⟨_, rfl, _⟩
      · exact cutA
      · exact cutB
    have hlen : pre.length ≤ 1 := by rcases two_cases hx with ⟨rfl, _⟩ | ⟨rfl, _⟩ <;> decide
    have hX : [(lineA, 1), (lineB, 2)] = pre.zipIdx 1 ++ (x, n + 1) :: post.zipIdx (pre.length + 2) := by
      rw [hn]
      rcases two_cases hx with ⟨rfl, rfl, rfl⟩ | ⟨rfl, rfl, rfl⟩ <;> rfl
    have hI2 : (pre ++ [x]).zipIdx 1 = pre.zipIdx 1 ++ [(x, n + 1)] := by
      rw [hn]
      rcases two_cases hx with ⟨rfl, rfl, rfl⟩ | ⟨rfl, rfl, rfl⟩ <;> rfl
    (repeat((conv=>whnf);first|apply ω0|apply ω2|refine τ3 rfl ?_|refine τ4 rfl ?_|refine ⟨rfl,?_⟩|apply τa|refine τb rfl ?_|refine ⟨⟨by kernel_rfl,by kernel_rfl⟩,?_⟩|refine ⟨by decide,?_⟩|apply τt|apply τf))
    refine aw_region ?_
    (repeat((conv=>whnf);first|apply ω0|apply ω1|apply ω2|refine τ3 rfl ?_|refine τ4 rfl ?_|refine ⟨rfl,?_⟩|apply τa|refine τb rfl ?_|refine ⟨⟨by kernel_rfl,by kernel_rfl⟩,?_⟩|refine ⟨by decide,?_⟩|apply τt|apply τf))
    refine aop_tells rfl rfl hcut ⟨AVle.refl _, AVle.refl _, trivial⟩ fun nx4 => ?_
    (repeat((conv=>whnf);first|apply ω0|apply ω1|apply ω2|refine τ3 rfl ?_|refine τ4 rfl ?_|refine ⟨rfl,?_⟩|apply τa|refine τb rfl ?_|refine ⟨⟨by kernel_rfl,by kernel_rfl⟩,?_⟩|refine ⟨by decide,?_⟩|apply τt|apply τf))
    refine aop_hand (pre := pre.zipIdx 1) (x := (x, n + 1)) (post := post.zipIdx (pre.length + 2)) (s := s) [_, _, _, _] [] rfl rfl rfl hc hX hI ⟨le_int (wrap_succ (by omega)), AVle.refl _, trivial⟩ (fun s' nx' hI' => ?_) (fun s' nx' hJ => hJ.elim)
    (repeat((conv=>whnf);first|apply ω0|apply ω1|apply ω2|refine τ3 rfl ?_|refine τ4 rfl ?_|refine ⟨rfl,?_⟩|apply τa|refine τb rfl ?_|refine ⟨⟨by kernel_rfl,by kernel_rfl⟩,?_⟩|refine ⟨by decide,?_⟩|apply τt|apply τf))
    refine ⟨(s', n + 1), .inl ⟨rfl, by simp [hn], by rw [hI2]; exact hI'⟩, ?_, rfl⟩
    have e : IntKind.i64.wrap ((n : Int) + 1) = ((n + 1 : Nat) : Int) := wrap_succ (by omega)
    show _ = _ :: _ :: ((1, nx + 1), Own.c [int ((n + 1 : Nat) : Int)]) :: ((0, nx), Own.c [.yl i]) :: Cb s'
    rw [← e]
    rfl
  · rintro ⟨s', n⟩ nx3 nn3 ⟨hn, hI⟩
    dsimp only at hn hI
    (repeat((conv=>whnf);first|apply ω0|apply ω1|apply ω2|refine τ3 rfl ?_|refine τ4 rfl ?_|refine ⟨rfl,?_⟩|apply τa|refine τb rfl ?_|refine ⟨⟨by kernel_rfl,by kernel_rfl⟩,?_⟩|refine ⟨by decide,?_⟩|apply τt|apply τf))
    refine ret_is rfl ⟨_, ⟨Cb s', Cp s', nx3, 0⟩, AVle.refl _, ?_, s', hI, rfl, rfl⟩
    exact hle_tell _ _ rfl (.cons _ (.cons _ (.cons _ (List.Sublist.refl _)))) (List.Sublist.refl _) (BxLe.refl _) (PmEq.refl _)
end Go.Proofs.W

namespace Go.Proofs.W
open Go.Vl Go.Shelf
set_option maxRecDepth 100000

def wDefault : ByteArray := ⟨#[100, 101, 102, 97, 117, 108, 116]⟩
def wKill : ByteArray := ⟨#[107, 105, 108, 108]⟩
def wRead : ByteArray := ⟨#[114, 101, 97, 100]⟩
def wAllow : ByteArray := ⟨#[97, 108, 108, 111, 119]⟩
def strsA (l : List ByteArray) : AV := .sl 1 l.length fun k => .v ((l.map Value.string).getD k undef)
def lineV (p : Nat × List ByteArray) : AV := .ag [int p.1, strsA p.2]
def linesA (L : List (Nat × List ByteArray)) : AV := .sl 2 L.length fun k => lineV (L.getD k (0, []))
def fieldsL (s : ByteArray) : List ByteArray := Lib.goFieldsP blankB s
theorem fieldsA : fieldsL lineA = [wDefault, wKill] := by decide +kernel
theorem fieldsB : fieldsL lineB = [wRead, wAllow] := by decide +kernel
theorem plainA : lineOk lineA := by
  intro i hi
  have hi : i < 12 := hi
  rcases (by omega : i = 0 ∨ i = 1 ∨ i = 2 ∨ i = 3 ∨ i = 4 ∨ i = 5 ∨ i = 6 ∨ i = 7 ∨ i = 8 ∨ i = 9 ∨ i = 10 ∨ i = 11) with rfl | rfl | rfl | rfl | rfl | rfl | rfl | rfl | rfl | rfl | rfl | rfl <;> decide
theorem plainB : lineOk lineB := by
  intro i hi
  have hi : i < 10 := hi
  rcases (by omega : i = 0 ∨ i = 1 ∨ i = 2 ∨ i = 3 ∨ i = 4 ∨ i = 5 ∨ i = 6 ∨ i = 7 ∨ i = 8 ∨ i = 9) with rfl | rfl | rfl | rfl | rfl | rfl | rfl | rfl | rfl | rfl <;> decide
def outL (L : List (ByteArray × Nat)) : List (Nat × List ByteArray) := L.map fun p => (p.2, fieldsL p.1)
def rowL (L : List (ByteArray × Nat)) (k : Nat) : AV := lineV ((outL L).getD k (0, []))
theorem bytes_line : Tryz.prog.bytesOf 155 = 32 := by kernel_rfl
theorem pair_cases {pre post : List (ByteArray × Nat)} {x : ByteArray × Nat} (h : [(lineA, 1), (lineB, 2)] = pre ++ x :: post) : (pre = [] ∧ x = (lineA, 1)) ∨ (pre = [(lineA, 1)] ∧ x = (lineB, 2)) := by
  match pre, h with
  | [], h => cases h; exact .inl ⟨rfl, rfl⟩
  | [_], h => cases h; exact .inr ⟨rfl, rfl⟩
  | _ :: _ :: pre, h => simp at h
set_option maxHeartbeats 4000000 in
theorem lexlines_spec : Tells Tryz.prog 89 [strA textAB] (.tup [linesA (outL [(lineA, 1), (lineB, 2)]), int 0, int 0]) := by
  refine tells_of_aw Tryz.func89 rfl rfl fun nx => ?_
  (repeat((conv=>whnf);first|apply ω0|apply ω1|apply ω2|refine τ3 rfl ?_|refine τ4 rfl ?_|refine ⟨rfl,?_⟩|apply τa|refine τb rfl ?_|refine ⟨⟨by kernel_rfl,by kernel_rfl⟩,?_⟩|refine ⟨by decide,?_⟩|apply τt|apply τf))
  refine aop_tells rfl rfl (lines_spec textAB) ⟨AVle.refl _, trivial⟩ fun nx2 => ?_
  (repeat((conv=>whnf);first|apply ω0|apply ω2|refine τ3 rfl ?_|refine τ4 rfl ?_|refine ⟨rfl,?_⟩|apply τa|refine τb rfl ?_|refine ⟨⟨by kernel_rfl,by kernel_rfl⟩,?_⟩|refine ⟨by decide,?_⟩|apply τt|apply τf))
  refine AW.le (E' := mk 32 [(2, .bp (0, nx) 0), (3, .bp (1, nx + 1) 0), (4, .bp (2, nx + 2) 0), (5, .bp (3, nx + 3) 0), (13, .fn (.func 170) [] [.rp [strA textAB]])] ⟨[((3, nx + 3), .c [.os 2 0 (rowL []) none]), ((2, nx + 2), .c [int 0]), ((1, nx + 1), .c [int 0]), ((0, nx), .c [.os 0 0 (fun _ => .any) none])], [], nx2, 4⟩ (some [])) (ele_tell _ _ rfl rfl (List.Sublist.refl _) (List.Sublist.refl _) ⟨rfl, ⟨AVle.os_nil, trivial⟩, BxLe.refl _⟩ trivial ⟨AVle.refl _, AVle.refl _, AVle.refl _, AVle.refl _, AVle.refl _, trivial⟩) ?_
  (repeat((conv=>whnf);first|apply ω0|apply ω2|refine τ3 rfl ?_|refine τ4 rfl ?_|refine ⟨rfl,?_⟩|apply τa|refine τb rfl ?_|refine ⟨⟨by kernel_rfl,by kernel_rfl⟩,?_⟩|refine ⟨by decide,?_⟩|apply τt|apply τf))
  refine aw_forO (σ := Nat × (Nat → AV) × Option Vl.Id) (e := lineE) (xs := [(lineA, 1), (lineB, 2)]) (first' := []) (caps' := [.rp [strA textAB]]) [] (fun y => [((3, nx + 3), .c [.os 2 y.1 y.2.1 y.2.2]), ((2, nx + 2), .c [int 0]), ((1, nx + 1), .c [int 0]), ((0, nx), .c [.os 0 0 (fun _ => .any) none])]) (fun y => pmOf y.2.2 (y.1 * 2)) (fun pre y => y.1 = pre.length ∧ (∀ k, k < y.1 → y.2.1 k = rowL pre k) ∧ (y.2.2 = none → pre = [])) (0, rowL [], none) rfl rfl lines_iter (LeL.refl _) (LeL.refl _) rfl rfl ⟨rfl, fun _ _ => rfl, fun _ => rfl⟩ (fun _ => rfl) ?_ ?_
  · rintro pre x post ⟨L, f, oi⟩ nx3 nn3 hx ⟨hL, hf0, ho⟩
    dsimp only at hL hf0 ho
    subst hL
    rcases pair_cases hx with ⟨rfl, rfl⟩ | ⟨rfl, rfl⟩
    · have hp := plain_spec lineA plainA (by decide)
      have hf : Tells Tryz.prog 134 [strA lineA, .fn (.func 135) [] []] (strsA [wDefault, wKill]) := by rw [← fieldsA]; exact fields_spec lineA (by decide)
      (repeat((conv=>whnf);first|apply ω0|apply ω2|refine τ3 rfl ?_|refine τ4 rfl ?_|refine ⟨rfl,?_⟩|apply τa|refine τb rfl ?_|refine ⟨⟨by kernel_rfl,by kernel_rfl⟩,?_⟩|refine ⟨by decide,?_⟩|apply τt|apply τf))
      refine aw_region ?_
      (repeat((conv=>whnf);first|apply ω0|apply ω1|apply ω2|refine τ3 rfl ?_|refine τ4 rfl ?_|refine ⟨rfl,?_⟩|apply τa|refine τb rfl ?_|refine ⟨⟨by kernel_rfl,by kernel_rfl⟩,?_⟩|refine ⟨by decide,?_⟩|apply τt|apply τf))
      refine aop_tells rfl rfl hp ⟨AVle.refl _, trivial⟩ fun nx4 => ?_
      (repeat((conv=>whnf);first|apply ω0|apply ω1|apply ω2|refine τ3 rfl ?_|refine τ4 rfl ?_|refine ⟨rfl,?_⟩|apply τa|refine τb rfl ?_|refine ⟨⟨by kernel_rfl,by kernel_rfl⟩,?_⟩|refine ⟨by decide,?_⟩|apply τt|apply τf))
      refine aop_tells rfl rfl hf ⟨AVle.refl _, AVle.refl _, trivial⟩ fun nx5 => ?_
      (repeat((conv=>whnf);first|apply ω0|apply ω2|refine τ3 rfl ?_|refine τ4 rfl ?_|refine ⟨rfl,?_⟩|apply τa|refine τb rfl ?_|refine ⟨⟨by kernel_rfl,by kernel_rfl⟩,?_⟩|refine ⟨by decide,?_⟩|apply τt|apply τf))
      refine aw_region ?_
      (repeat((conv=>whnf);first|apply ω0|apply ω2|refine τ3 rfl ?_|refine τ4 rfl ?_|refine ⟨rfl,?_⟩|apply τa|refine τb rfl ?_|refine ⟨⟨by kernel_rfl,by kernel_rfl⟩,?_⟩|refine ⟨by decide,?_⟩|apply τt|apply τf))
      refine aw_regionY (fun n => match n with | 0 => true | _ => false) 6 ?_
      (repeat((conv=>whnf);first|apply ω0|apply ω1|apply ω2|refine τ3 rfl ?_|refine τ4 rfl ?_|refine ⟨rfl,?_⟩|apply τa|refine τb rfl ?_|refine ⟨⟨by kernel_rfl,by kernel_rfl⟩,?_⟩|refine ⟨by decide,?_⟩|apply τt|apply τf))
      refine aop_append1 (e := 155) (c := 2) (pm := []) (n := 0) (oi := oi) (sz := 2) (f := f) rfl rfl (.inr ⟨_, rfl⟩) (by kernel_rfl) (by kernel_rfl) (by kernel_rfl) (.inr rfl) (by kernel_rfl) (List.append_nil _).symm (oneRow_one rfl) (by rw [bytes_line]; decide) (by decide) ?_
      (repeat((conv=>whnf);first|apply ω0|apply ω1|apply ω2|refine τ3 rfl ?_|refine τ4 rfl ?_|refine ⟨rfl,?_⟩|apply τa|refine τb rfl ?_|refine ⟨⟨by kernel_rfl,by kernel_rfl⟩,?_⟩|refine ⟨by decide,?_⟩|apply τt|apply τf))
      refine ⟨(0 + 1, _, some (nn3, nx5)), .inl ⟨rfl, rfl, fun k hk => ?_, fun h => by cases h⟩, rfl, rfl⟩
      obtain rfl : k = 0 := Nat.lt_one_iff.1 hk
      show _ = lineV (1, fieldsL lineA)
      rw [fieldsA]; rfl
    · have hp := plain_spec lineB plainB (by decide)
      have hf : Tells Tryz.prog 134 [strA lineB, .fn (.func 135) [] []] (strsA [wRead, wAllow]) := by rw [← fieldsB]; exact fields_spec lineB (by decide)
      (repeat((conv=>whnf);first|apply ω0|apply ω2|refine τ3 rfl ?_|refine τ4 rfl ?_|refine ⟨rfl,?_⟩|apply τa|refine τb rfl ?_|refine ⟨⟨by kernel_rfl,by kernel_rfl⟩,?_⟩|refine ⟨by decide,?_⟩|apply τt|apply τf))
      refine aw_region ?_
      (repeat((conv=>whnf);first|apply ω0|apply ω1|apply ω2|refine τ3 rfl ?_|refine τ4 rfl ?_|refine ⟨rfl,?_⟩|apply τa|refine τb rfl ?_|refine ⟨⟨by kernel_rfl,by kernel_rfl⟩,?_⟩|refine ⟨by decide,?_⟩|apply τt|apply τf))
      refine aop_tells rfl rfl hp ⟨AVle.refl _, trivial⟩ fun nx4 => ?_
      (repeat((conv=>whnf);first|apply ω0|apply ω1|apply ω2|refine τ3 rfl ?_|refine τ4 rfl ?_|refine ⟨rfl,?_⟩|apply τa|refine τb rfl ?_|refine ⟨⟨by kernel_rfl,by kernel_rfl⟩,?_⟩|refine ⟨by decide,?_⟩|apply τt|apply τf))
      refine aop_tells rfl rfl hf ⟨AVle.refl _, AVle.refl _, trivial⟩ fun nx5 => ?_
      (repeat((conv=>whnf);first|apply ω0|apply ω2|refine τ3 rfl ?_|refine τ4 rfl ?_|refine ⟨rfl,?_⟩|apply τa|refine τb rfl ?_|refine ⟨⟨by kernel_rfl,by kernel_rfl⟩,?_⟩|refine ⟨by decide,?_⟩|apply τt|apply τf))
      refine aw_region ?_
      (repeat((conv=>whnf);first|apply ω0|apply ω2|refine τ3 rfl ?_|refine τ4 rfl ?_|refine ⟨rfl,?_⟩|apply τa|refine τb rfl ?_|refine ⟨⟨by kernel_rfl,by kernel_rfl⟩,?_⟩|refine ⟨by decide,?_⟩|apply τt|apply τf))
      refine aw_regionY (fun n => match n with | 0 => true | _ => false) 6 ?_
      (repeat((conv=>whnf);first|apply ω0|apply ω1|apply ω2|refine τ3 rfl ?_|refine τ4 rfl ?_|refine ⟨rfl,?_⟩|apply τa|refine τb rfl ?_|refine ⟨⟨by kernel_rfl,by kernel_rfl⟩,?_⟩|refine ⟨by decide,?_⟩|apply τt|apply τf))
      refine aop_append1 (e := 155) (c := 2) (pm := []) (n := 1) (oi := oi) (sz := 2) (f := f) rfl rfl (.inr ⟨_, rfl⟩) (by kernel_rfl) (by kernel_rfl) (by kernel_rfl) (.inr rfl) (by kernel_rfl) (List.append_nil _).symm (oneRow_one rfl) (by rw [bytes_line]; decide) (by decide) ?_
      (repeat((conv=>whnf);first|apply ω0|apply ω1|apply ω2|refine τ3 rfl ?_|refine τ4 rfl ?_|refine ⟨rfl,?_⟩|apply τa|refine τb rfl ?_|refine ⟨⟨by kernel_rfl,by kernel_rfl⟩,?_⟩|refine ⟨by decide,?_⟩|apply τt|apply τf))
      refine ⟨(1 + 1, _, some (nn3, nx5)), .inl ⟨rfl, rfl, fun k hk => ?_, fun h => by cases h⟩, rfl, rfl⟩
      refine appF_one (fun k hk => ?_) ?_ k hk
      · obtain rfl : k = 0 := Nat.lt_one_iff.1 hk
        exact hf0 0 (by decide)
      · show _ = lineV (2, fieldsL lineB)
        rw [fieldsB]; rfl
  · rintro ⟨L, f, oi⟩ nx3 nn3 ⟨hL, hf0, ho⟩
    dsimp only at hL hf0 ho
    subst hL
    (repeat((conv=>whnf);first|apply ω0|apply ω1|apply ω2|refine τ3 rfl ?_|refine τ4 rfl ?_|refine ⟨rfl,?_⟩|apply τa|refine τb rfl ?_|refine ⟨⟨by kernel_rfl,by kernel_rfl⟩,?_⟩|refine ⟨by decide,?_⟩|apply τt|apply τf))
    exact ret_tells_all rfl ⟨⟨rfl, Nat.zero_lt_one⟩, ⟨rfl, Nat.zero_lt_one⟩, ⟨rfl, Nat.zero_lt_one⟩, trivial⟩ (AVle.tups (cs := [_, _, _]) ⟨(AVle.os_fun hf0).trans AVle.os_sl, AVle.refl _, AVle.refl _, trivial⟩)
end Go.Proofs.W

namespace Go.Proofs.W
open Go.Vl
set_option maxRecDepth 100000

/-- A kind's code, how great its number may be. -/
def kb (k : Nat) : Nat := [2147483648, 0, 196608, 327680, 2143289344, 2146435072, 2147221504, 2147418112].getD k 0
def km (k : Nat) : Nat := if k = 3 then 4095 else if k = 5 then 65535 else 0
theorem row_kb (k : Nat) (h : k < 8) : ∃ s m, rowF rowsL k = .ag [.v (.string s), .v (.int .u32 (kb k)), m] ∧ Tells Tryz.prog 117 [rowF rowsL k] (int (km k)) := by
  have key := row_most k h
  rcases k with _ | _ | _ | _ | _ | _ | _ | _ | k
  · exact ⟨_, _, rfl, f27_nil _ _⟩
  · exact ⟨_, _, rfl, f27_nil _ _⟩
  · exact ⟨_, _, rfl, f27_nil _ _⟩
  · exact ⟨_, _, rfl, f27_below _ _ 4096 (by decide)⟩
  · exact ⟨_, _, rfl, f27_nil _ _⟩
  · exact ⟨_, _, rfl, f27_below _ _ 65536 (by decide)⟩
  · exact ⟨_, _, rfl, f27_nil _ _⟩
  · exact ⟨_, _, rfl, f27_nil _ _⟩
  · omega
theorem kb_le {k : Nat} (h : k < 8) : kb k + km k < 4294967296 := by
  rcases k with _ | _ | _ | _ | _ | _ | _ | _ | k
  all_goals first | decide | omega
end Go.Proofs.W

namespace Go.Proofs.W
open Go.Vl
set_option maxRecDepth 100000

def readC (w : ByteArray) : AV := .fn (.func 248) [] [.rp [strsA [w]]]
def rowS (j : Nat) : ByteArray := match rowF rowsL j with
  | .ag (.v (.string s) :: _) => s
  | _ => ⟨#[]⟩
def eqW (w : ByteArray) (j : Nat) : Bool := (rowS j).toList == w.toList
def wordI (w : ByteArray) : Option Nat := (List.range 8).find? (eqW w)
theorem readw_spec (w s : ByteArray) (c : Int) (m : AV) (hm : m = .v .nilFunc ∨ ∃ n, m = belowF n) : Tells Tryz.prog 248 [.ag [.v (.string s), .v (.int .u32 c), m], .rp [strsA [w]]] (boolA (s.toList == w.toList)) := by
  refine tells_of_aw Tryz.func248 rfl rfl fun nx => ?_
  rcases hm with rfl | ⟨n, rfl⟩
  all_goals
    (repeat((conv=>whnf);first|apply ω0|apply ω1|apply ω2|refine τ3 rfl ?_|refine τ4 rfl ?_|refine ⟨rfl,?_⟩|apply τa|refine τb rfl ?_|refine ⟨⟨by kernel_rfl,by kernel_rfl⟩,?_⟩|refine ⟨by decide,?_⟩|apply τt|apply τf))
    (refine aw_draw 7 ?_ ?_ ?_ ?_; (· kernel_rfl); (· kernel_rfl); (· kernel_rfl))
    (repeat((conv=>whnf);first|apply ω0|apply ω1|apply ω2|refine τ3 rfl ?_|refine τ4 rfl ?_|refine ⟨rfl,?_⟩|apply τa|refine τb rfl ?_|refine ⟨⟨by kernel_rfl,by kernel_rfl⟩,?_⟩|refine ⟨by decide,?_⟩|apply τt|apply τf))
    refine ⟨⟨by decide, (show (0 : Int) < 1 by decide)⟩, ?_⟩
    (repeat((conv=>whnf);first|apply ω0|apply ω1|apply ω2|refine τ3 rfl ?_|refine τ4 rfl ?_|refine ⟨rfl,?_⟩|apply τa|refine τb rfl ?_|refine ⟨⟨by kernel_rfl,by kernel_rfl⟩,?_⟩|refine ⟨by decide,?_⟩|apply τt|apply τf))
    intro c hc
    subst hc
    (repeat((conv=>whnf);first|apply ω0|apply ω1|apply ω2|refine τ3 rfl ?_|refine τ4 rfl ?_|refine ⟨rfl,?_⟩|apply τa|refine τb rfl ?_|refine ⟨⟨by kernel_rfl,by kernel_rfl⟩,?_⟩|refine ⟨by decide,?_⟩|apply τt|apply τf))
    exact ret_tells rfl (AVle.refl _)
set_option maxHeartbeats 1000000 in
theorem idxw_spec (w : ByteArray) : Tells Tryz.prog 114 [rowsA, readC w] (int (optI (wordI w))) := by
  refine tells_of_aw Tryz.func114 rfl rfl fun nx => ?_
  (repeat((conv=>whnf);first|apply ω0|apply ω1|apply ω2|refine τ3 rfl ?_|refine τ4 rfl ?_|refine ⟨rfl,?_⟩|apply τa|refine τb rfl ?_|refine ⟨⟨by kernel_rfl,by kernel_rfl⟩,?_⟩|refine ⟨by decide,?_⟩|apply τt|apply τf))
  refine aw_loop (fun s : Nat × Nat => mk 19 [(0, rowsA), (1, readC w), (7, int 8), (8, int s.1)] ⟨[], [], s.2, 0⟩) (fun s => s.1 ≤ 8 ∧ ∀ j, j < s.1 → eqW w j = false) (fun s => 8 - s.1) ?_ ?_
  · exact ⟨(0, nx), ⟨by simp, by intro j hj; simp at hj⟩, ele_mk rfl rfl ⟨AVle.refl _, AVle.refl _, AVle.refl _, AVle.refl _, trivial⟩⟩
  · rintro ⟨i, nx⟩ ⟨h1, h2⟩
    dsimp only at h1 h2
    by_cases hi : i < 8
    · obtain ⟨s, c0, m, hr1, h4, _⟩ := row_most i hi
      have hT := readw_spec w s c0 m h4
      have hes : (s.toList == w.toList) = eqW w i := by unfold eqW rowS; rw [hr1]
      rw [hes] at hT
      rcases h4 with rfl | ⟨n', rfl⟩
      all_goals
        (repeat((conv=>whnf);first|apply ω0|apply ω1|apply ω2|refine τ3 rfl ?_|refine τ4 rfl ?_|refine ⟨rfl,?_⟩|apply τa|refine τb rfl ?_|refine ⟨⟨by kernel_rfl,by kernel_rfl⟩,?_⟩|refine ⟨by decide,?_⟩|apply τt|apply τf))
        intro c h3; cases c
        · exact absurd (not_of h3) (by dsimp only; omega)
        (repeat((conv=>whnf);first|apply ω0|apply ω1|apply ω2|refine τ3 rfl ?_|refine τ4 rfl ?_|refine ⟨rfl,?_⟩|apply τa|refine τb rfl ?_|refine ⟨⟨by kernel_rfl,by kernel_rfl⟩,?_⟩|refine ⟨by decide,?_⟩|apply τt|apply τf))
        refine ⟨⟨by dsimp only; omega, by dsimp only; omega⟩, splitO_eq (b := .rp [.v (.string s), .v (.int .u32 c0), _]) (by show AV.rp (rowF rowsL i).cells = _; rw [hr1]; rfl) ?_⟩
        (repeat((conv=>whnf);first|apply ω0|apply ω1|apply ω2|refine τ3 rfl ?_|refine τ4 rfl ?_|refine ⟨rfl,?_⟩|apply τa|refine τb rfl ?_|refine ⟨⟨by kernel_rfl,by kernel_rfl⟩,?_⟩|refine ⟨by decide,?_⟩|apply τt|apply τf))
        refine aop_tells rfl rfl hT ⟨AVle.refl _, AVle.refl _, trivial⟩ fun nx' => ?_
        intro c h4; cases c
        · (repeat((conv=>whnf);first|apply ω0|apply ω1|apply ω2|refine τ3 rfl ?_|refine τ4 rfl ?_|refine ⟨rfl,?_⟩|apply τa|refine τb rfl ?_|refine ⟨⟨by kernel_rfl,by kernel_rfl⟩,?_⟩|refine ⟨by decide,?_⟩|apply τt|apply τf))
          refine back (i + 1, nx') ⟨by dsimp only; omega, fun j hj => ?_⟩ (by dsimp only; omega) (ele_mk rfl rfl ⟨AVle.refl _, AVle.refl _, AVle.refl _, le_int (wrap_succ (by dsimp only; omega)), trivial⟩)
          dsimp only at hj
          rcases Nat.lt_or_ge j i with h | h
          · exact h2 j h
          · obtain rfl : j = i := by omega
            exact h4.symm
        · (repeat((conv=>whnf);first|apply ω0|apply ω1|apply ω2|refine τ3 rfl ?_|refine τ4 rfl ?_|refine ⟨rfl,?_⟩|apply τa|refine τb rfl ?_|refine ⟨⟨by kernel_rfl,by kernel_rfl⟩,?_⟩|refine ⟨by decide,?_⟩|apply τt|apply τf))
          refine ret_tells rfl (le_int ?_)
          have : wordI w = some i := by
            unfold wordI
            rw [List.find?_range_eq_some]
            exact ⟨h4.symm, by simp; omega, fun j hj => by rw [h2 j hj]; rfl⟩
          rw [this]; rfl
    · obtain rfl : i = 8 := by omega
      (repeat((conv=>whnf);first|apply ω0|apply ω1|apply ω2|refine τ3 rfl ?_|refine τ4 rfl ?_|refine ⟨rfl,?_⟩|apply τa|refine τb rfl ?_|refine ⟨⟨by kernel_rfl,by kernel_rfl⟩,?_⟩|refine ⟨by decide,?_⟩|apply τt|apply τf))
      refine ret_tells rfl (le_int ?_)
      have : wordI w = none := by
        unfold wordI
        rw [List.find?_range_eq_none]
        intro j hj
        rw [h2 j hj]; rfl
      rw [this]; rfl
set_option maxHeartbeats 1000000 in
theorem read_word (w s : ByteArray) (k : Nat) (c : Int) (hw : wordI w = some k) (hk : k < 8) (hr : rowF rowsL k = .ag [.v (.string s), .v (.int .u32 c), .v .nilFunc]) : Tells Tryz.prog 225 [strsA [w]] (.tup [act (k + 1 : Nat) 0, int 1, int 0]) := by
  have hx := idxw_spec w
  rw [hw] at hx
  have ho := f26_in k hk
  rw [hr] at ho
  refine tells_of_aw Tryz.func225 rfl rfl fun nx => ?_
  ((repeat((conv=>whnf);first|apply ω0|apply ω2|refine τ3 rfl ?_|refine τ4 rfl ?_|refine ⟨rfl,?_⟩|apply τa|refine τb rfl ?_|refine ⟨⟨by kernel_rfl,by kernel_rfl⟩,?_⟩|refine ⟨by decide,?_⟩|apply τt|apply τf)); refine aw_region ?_; (repeat((conv=>whnf);first|apply ω0|apply ω2|refine τ3 rfl ?_|refine τ4 rfl ?_|refine ⟨rfl,?_⟩|apply τa|refine τb rfl ?_|refine ⟨⟨by kernel_rfl,by kernel_rfl⟩,?_⟩|refine ⟨by decide,?_⟩|apply τt|apply τf)))
  refine aw_freeze (n := 60) (nx := nx + 2) (nn := 2) (pm := []) (bx := [((1, nx + 1), .c [int 0, int 0])]) (L := [(1, .rp [strsA [w]]), (2, .bp (1, nx + 1) 0), (3, int 0), (4, int 0)]) (df := some []) [((0, nx), .c [strsA [w]])] rfl rfl rfl (List.Perm.swap _ _ _) (List.Sublist.refl _) ⟨Frz.bp (.head _) rfl, Frz.refl _, Frz.refl _, Frz.refl _, trivial⟩ ?_
  (repeat((conv=>whnf);first|apply ω0|apply ω1|apply ω2|refine τ3 rfl ?_|refine τ4 rfl ?_|refine ⟨rfl,?_⟩|apply τa|refine τb rfl ?_|refine ⟨⟨by kernel_rfl,by kernel_rfl⟩,?_⟩|refine ⟨by decide,?_⟩|apply τt|apply τf))
  refine aop_tells rfl rfl f28_spec trivial fun nx1 => ?_
  (repeat((conv=>whnf);first|apply ω0|apply ω1|apply ω2|refine τ3 rfl ?_|refine τ4 rfl ?_|refine ⟨rfl,?_⟩|apply τa|refine τb rfl ?_|refine ⟨⟨by kernel_rfl,by kernel_rfl⟩,?_⟩|refine ⟨by decide,?_⟩|apply τt|apply τf))
  refine aop_tells rfl rfl hx ⟨AVle.refl _, AVle.refl _, trivial⟩ fun nx2 => ?_
  (repeat((conv=>whnf);first|apply ω0|apply ω1|apply ω2|refine τ3 rfl ?_|refine τ4 rfl ?_|refine ⟨rfl,?_⟩|apply τa|refine τb rfl ?_|refine ⟨⟨by kernel_rfl,by kernel_rfl⟩,?_⟩|refine ⟨by decide,?_⟩|apply τt|apply τf))
  refine aop_tells rfl rfl ho ⟨le_int (by show IntKind.i64.wrap (1 + (k : Int)) = _; rw [wrap_id (by omega) (by omega)]; omega), trivial⟩ fun nx3 => ?_
  (repeat((conv=>whnf);first|apply ω0|apply ω1|apply ω2|refine τ3 rfl ?_|refine τ4 rfl ?_|refine ⟨rfl,?_⟩|apply τa|refine τb rfl ?_|refine ⟨⟨by kernel_rfl,by kernel_rfl⟩,?_⟩|refine ⟨by decide,?_⟩|apply τt|apply τf))
  exact ret_tells_all rfl ⟨rfl, trivial⟩ (AVle.tups (cs := [_, _, _]) ⟨AVle.ags (cs := [_, _]) ⟨le_int (by show IntKind.i64.wrap (1 + (k : Int)) = _; rw [wrap_id (by omega) (by omega)]; omega), AVle.refl _, trivial⟩, AVle.refl _, AVle.refl _, trivial⟩)
theorem read_kill : Tells Tryz.prog 225 [strsA [wKill]] (.tup [act 1 0, int 1, int 0]) := read_word wKill _ 0 _ (by decide +kernel) (by decide) rfl
theorem read_allow : Tells Tryz.prog 225 [strsA [wAllow]] (.tup [act 8 0, int 1, int 0]) := read_word wAllow _ 7 _ (by decide +kernel) (by decide) rfl
end Go.Proofs.W

namespace Go.Proofs.W
open Go.Vl
set_option maxRecDepth 100000

def rdrB (s : Nat) (a b c ru wd : AV) (n : Int) : List (Vl.Id × Own) := [((0, s), .c [a, b, c, ru, wd, int n])]
theorem need_spec (e : Int) : Tells Tryz.prog 173 [boolA true, int e] (.tup []) := by
  refine tells_of_aw Tryz.func173 rfl rfl fun nx => ?_
  (repeat((conv=>whnf);first|apply ω0|apply ω1|apply ω2|refine τ3 rfl ?_|refine τ4 rfl ?_|refine ⟨rfl,?_⟩|apply τa|refine τb rfl ?_|refine ⟨⟨by kernel_rfl,by kernel_rfl⟩,?_⟩|refine ⟨by decide,?_⟩|apply τt|apply τf))
  exact ret_tells rfl (AVle.refl _)
theorem told_spec : Tells Tryz.prog 226 [int 0] (.tup []) := by
  refine tells_of_aw Tryz.func226 rfl rfl fun nx => ?_
  (repeat((conv=>whnf);first|apply ω0|apply ω1|apply ω2|refine τ3 rfl ?_|refine τ4 rfl ?_|refine ⟨rfl,?_⟩|apply τa|refine τb rfl ?_|refine ⟨⟨by kernel_rfl,by kernel_rfl⟩,?_⟩|refine ⟨by decide,?_⟩|apply τt|apply τf))
  refine aop_tells rfl rfl (need_spec 0) ⟨AVle.refl _, AVle.refl _, trivial⟩ fun nx2 => ?_
  (repeat((conv=>whnf);first|apply ω0|apply ω1|apply ω2|refine τ3 rfl ?_|refine τ4 rfl ?_|refine ⟨rfl,?_⟩|apply τa|refine τb rfl ?_|refine ⟨⟨by kernel_rfl,by kernel_rfl⟩,?_⟩|refine ⟨by decide,?_⟩|apply τt|apply τf))
  exact ret_tells rfl (AVle.refl _)
theorem strs_tail (x : ByteArray) (l : List ByteArray) : (AV.sl 1 ((x :: l).length - Int.toNat 1) fun k => (fun k => AV.v ((List.map Value.string (x :: l)).getD k undef)) (Int.toNat 1 + k)) = strsA l := by
  unfold strsA
  rw [show (x :: l).length - Int.toNat 1 = l.length by simp]
  congr 1
  funext k
  show AV.v ((List.map Value.string (x :: l)).getD (1 + k) undef) = _
  rw [Nat.add_comm]; rfl
theorem next_spec (s : Nat) (a b c ru : AV) (w1 w2 : ByteArray) (n : Int) (nx : Nat) : ECall Tryz.prog 137 [.bp (0, s) 0] ⟨rdrB s a b c ru (strsA [w1, w2]) n, [], nx, 1⟩ fun r h' => r = strA w1 ∧ h' = ⟨rdrB s a b c ru (strsA [w2]) n, [], nx, 1⟩ := by
  refine ecall_of_aw Tryz.func137 rfl rfl ?_
  (repeat((conv=>whnf);first|apply ω0|apply ω1|apply ω2|refine τ3 rfl ?_|refine τ4 rfl ?_|refine ⟨rfl,?_⟩|apply τa|refine τb rfl ?_|refine ⟨⟨by kernel_rfl,by kernel_rfl⟩,?_⟩|refine ⟨by decide,?_⟩|apply τt|apply τf))
  refine ⟨⟨by decide, (show (0 : Int) < 2 by decide)⟩, ?_⟩
  (repeat((conv=>whnf);first|apply ω0|apply ω1|apply ω2|refine τ3 rfl ?_|refine τ4 rfl ?_|refine ⟨rfl,?_⟩|apply τa|refine τb rfl ?_|refine ⟨⟨by kernel_rfl,by kernel_rfl⟩,?_⟩|refine ⟨by decide,?_⟩|apply τt|apply τf))
  refine ⟨⟨by decide, (show (1 : Int) ≤ 2 by decide)⟩, splitO_eq (b := strsA [w2]) (strs_tail w1 [w2]) ?_⟩
  (repeat((conv=>whnf);first|apply ω0|apply ω1|apply ω2|refine τ3 rfl ?_|refine τ4 rfl ?_|refine ⟨rfl,?_⟩|apply τa|refine τb rfl ?_|refine ⟨⟨by kernel_rfl,by kernel_rfl⟩,?_⟩|refine ⟨by decide,?_⟩|apply τt|apply τf))
  exact ret_is rfl ⟨rfl, rfl⟩
theorem action_spec (s : Nat) (a b c ru : AV) (w : ByteArray) (k : Int) (n : Int) (nx : Nat) (hr : Tells Tryz.prog 225 [strsA [w]] (.tup [act k 0, int 1, int 0])) : ECall Tryz.prog 174 [.bp (0, s) 0] ⟨rdrB s a b c ru (strsA [w]) n, [], nx, 1⟩ fun r h' => r = act k 0 ∧ ∃ nx', h' = ⟨rdrB s a b c ru (strsA []) n, [], nx', 1⟩ := by
  refine ECall.wk (ecall_of_aw Tryz.func174 rfl rfl ?_)
  (repeat((conv=>whnf);first|apply ω0|apply ω1|apply ω2|refine τ3 rfl ?_|refine τ4 rfl ?_|refine ⟨rfl,?_⟩|apply τa|refine τb rfl ?_|refine ⟨⟨by kernel_rfl,by kernel_rfl⟩,?_⟩|refine ⟨by decide,?_⟩|apply τt|apply τf))
  refine aop_tells rfl rfl hr ⟨AVle.refl _, trivial⟩ fun nx2 => ?_
  (repeat((conv=>whnf);first|apply ω0|apply ω1|apply ω2|refine τ3 rfl ?_|refine τ4 rfl ?_|refine ⟨rfl,?_⟩|apply τa|refine τb rfl ?_|refine ⟨⟨by kernel_rfl,by kernel_rfl⟩,?_⟩|refine ⟨by decide,?_⟩|apply τt|apply τf))
  refine aop_tells rfl rfl told_spec ⟨AVle.refl _, trivial⟩ fun nx3 => ?_
  (repeat((conv=>whnf);first|apply ω0|apply ω1|apply ω2|refine τ3 rfl ?_|refine τ4 rfl ?_|refine ⟨rfl,?_⟩|apply τa|refine τb rfl ?_|refine ⟨⟨by kernel_rfl,by kernel_rfl⟩,?_⟩|refine ⟨by decide,?_⟩|apply τt|apply τf))
  refine ⟨⟨by decide, (show (1 : Int) ≤ 1 by decide)⟩, splitO_eq (b := strsA []) (strs_tail w []) ?_⟩
  (repeat((conv=>whnf);first|apply ω0|apply ω1|apply ω2|refine τ3 rfl ?_|refine τ4 rfl ?_|refine ⟨rfl,?_⟩|apply τa|refine τb rfl ?_|refine ⟨⟨by kernel_rfl,by kernel_rfl⟩,?_⟩|refine ⟨by decide,?_⟩|apply τt|apply τf))
  refine ret_all rfl ⟨rfl, trivial⟩ ⟨act k 0, ⟨rdrB s a b c ru (strsA []) n, [], nx3, 1⟩, AVle.refl _, ?_, rfl, nx3, rfl⟩
  exact hle_tell (rdrB s a b c ru (strsA []) n) [] rfl (.cons _ (.cons _ (List.Sublist.refl _))) (List.Sublist.refl _) (BxLe.refl _) (PmEq.refl _)
theorem first_spec (s : Nat) (a b c ru : AV) (w : ByteArray) (k : Int) (nx : Nat) (hr : Tells Tryz.prog 225 [strsA [w]] (.tup [act k 0, int 1, int 0])) : ECall Tryz.prog 138 [.bp (0, s) 0] ⟨rdrB s a b c ru (strsA [w]) 0, [], nx, 1⟩ fun r h' => r = .tup [] ∧ ∃ nx', h' = ⟨rdrB s (int k) (int 0) c ru (strsA []) 0, [], nx', 1⟩ := by
  refine ECall.wk (ecall_of_aw Tryz.func138 rfl rfl ?_)
  (repeat((conv=>whnf);first|apply ω0|apply ω1|apply ω2|refine τ3 rfl ?_|refine τ4 rfl ?_|refine ⟨rfl,?_⟩|apply τa|refine τb rfl ?_|refine ⟨⟨by kernel_rfl,by kernel_rfl⟩,?_⟩|refine ⟨by decide,?_⟩|apply τt|apply τf))
  refine aop_tells rfl rfl (need_spec 13) ⟨AVle.refl _, AVle.refl _, trivial⟩ fun nx2 => ?_
  (repeat((conv=>whnf);first|apply ω0|apply ω1|apply ω2|refine τ3 rfl ?_|refine τ4 rfl ?_|refine ⟨rfl,?_⟩|apply τa|refine τb rfl ?_|refine ⟨⟨by kernel_rfl,by kernel_rfl⟩,?_⟩|refine ⟨by decide,?_⟩|apply τt|apply τf))
  refine aop_callP (xs := [.bp (0, s) 0]) (bx1 := rdrB s a b c ru (strsA [w]) 0) (pm1 := []) [] [] 1 rfl rfl rfl rfl ⟨AVle.refl _, trivial⟩ (action_spec s a b c ru w k 0 nx2 hr) (BxLe.refl _) (PmEq.refl _) rfl fun r h' hq => ?_
  obtain ⟨rfl, nx3, rfl⟩ := hq
  (repeat((conv=>whnf);first|apply ω0|apply ω1|apply ω2|refine τ3 rfl ?_|refine τ4 rfl ?_|refine ⟨rfl,?_⟩|apply τa|refine τb rfl ?_|refine ⟨⟨by kernel_rfl,by kernel_rfl⟩,?_⟩|refine ⟨by decide,?_⟩|apply τt|apply τf))
  refine aop_tells rfl rfl (need_spec 13) ⟨AVle.refl _, AVle.refl _, trivial⟩ fun nx4 => ?_
  (repeat((conv=>whnf);first|apply ω0|apply ω1|apply ω2|refine τ3 rfl ?_|refine τ4 rfl ?_|refine ⟨rfl,?_⟩|apply τa|refine τb rfl ?_|refine ⟨⟨by kernel_rfl,by kernel_rfl⟩,?_⟩|refine ⟨by decide,?_⟩|apply τt|apply τf))
  refine ret_all rfl trivial ⟨.tup [], ⟨rdrB s (int k) (int 0) c ru (strsA []) 0, [], nx4, 1⟩, AVle.refl _, ?_, rfl, nx4, rfl⟩
  exact hle_tell (rdrB s (int k) (int 0) c ru (strsA []) 0) [] rfl (List.Sublist.refl _) (List.Sublist.refl _) (BxLe.refl _) (PmEq.refl _)
end Go.Proofs.W

namespace Go.Proofs.W
open Go.Vl
set_option maxRecDepth 100000

def nilA : AV := .os 0 0 (fun _ => .any) none
theorem bytes_rul14 : Tryz.prog.bytesOf 85 = 56 := by kernel_rfl
set_option maxHeartbeats 4000000 in
theorem rule_spec (s : Nat) (a b c : AV) (nm w : ByteArray) (k : Int) (nx : Nat) (hn : nameB nm.data.toList = true) (hs : nm.size ≤ 1000) (hr : Tells Tryz.prog 225 [strsA [w]] (.tup [act k 0, int 1, int 0])) :
    ECall Tryz.prog 141 [.bp (0, s) 0, strA nm] ⟨rdrB s a b c nilA (strsA [w]) 1, [], nx, 1⟩ fun r h' => r = .tup [] ∧ ∃ st nx', h' = ⟨rdrB s a b c (.os 4 1 (fun _ => rulA ⟨nm, (k, 0), []⟩) (some (0, st))) (strsA []) 1, [((0, st), 4)], nx', 1⟩ := by
  have hnm := pnamed_spec nm (by omega)
  rw [hn] at hnm
  refine ECall.wk (ecall_of_aw Tryz.func141 rfl rfl ?_)
  (repeat((conv=>whnf);first|apply ω0|apply ω1|apply ω2|refine τ3 rfl ?_|refine τ4 rfl ?_|refine ⟨rfl,?_⟩|apply τa|refine τb rfl ?_|refine ⟨⟨by kernel_rfl,by kernel_rfl⟩,?_⟩|refine ⟨by decide,?_⟩|apply τt|apply τf))
  refine aop_tells rfl rfl hnm ⟨AVle.refl _, trivial⟩ fun nx2 => ?_
  (repeat((conv=>whnf);first|apply ω0|apply ω1|apply ω2|refine τ3 rfl ?_|refine τ4 rfl ?_|refine ⟨rfl,?_⟩|apply τa|refine τb rfl ?_|refine ⟨⟨by kernel_rfl,by kernel_rfl⟩,?_⟩|refine ⟨by decide,?_⟩|apply τt|apply τf))
  refine aop_tells rfl rfl (need_spec 13) ⟨AVle.refl _, AVle.refl _, trivial⟩ fun nx3 => ?_
  (repeat((conv=>whnf);first|apply ω0|apply ω1|apply ω2|refine τ3 rfl ?_|refine τ4 rfl ?_|refine ⟨rfl,?_⟩|apply τa|refine τb rfl ?_|refine ⟨⟨by kernel_rfl,by kernel_rfl⟩,?_⟩|refine ⟨by decide,?_⟩|apply τt|apply τf))
  refine aop_tells rfl rfl (need_spec 3) ⟨AVle.refl _, AVle.refl _, trivial⟩ fun nx4 => ?_
  (repeat((conv=>whnf);first|apply ω0|apply ω1|apply ω2|refine τ3 rfl ?_|refine τ4 rfl ?_|refine ⟨rfl,?_⟩|apply τa|refine τb rfl ?_|refine ⟨⟨by kernel_rfl,by kernel_rfl⟩,?_⟩|refine ⟨by decide,?_⟩|apply τt|apply τf))
  refine aop_callP (xs := [.bp (0, s) 0]) (bx1 := rdrB s a b c nilA (strsA [w]) 1) (pm1 := []) [] [] 1 rfl rfl rfl rfl ⟨AVle.refl _, trivial⟩ (action_spec s a b c nilA w k 1 nx4 hr) (BxLe.refl _) (PmEq.refl _) rfl fun r h' hq => ?_
  obtain ⟨rfl, nx5, rfl⟩ := hq
  (repeat((conv=>whnf);first|apply ω0|apply ω1|apply ω2|refine τ3 rfl ?_|refine τ4 rfl ?_|refine ⟨rfl,?_⟩|apply τa|refine τb rfl ?_|refine ⟨⟨by kernel_rfl,by kernel_rfl⟩,?_⟩|refine ⟨by decide,?_⟩|apply τt|apply τf))
  refine aw_loop (fun y : Nat => mk 67 [(0, .bp (0, s) 0), (1, strA nm), (4, .bp (1, nx5) 0)] ⟨((1, nx5), .c [strA nm, int k, int 0, cnds []]) :: rdrB s a b c nilA (strsA []) 1, [], y, 2⟩) (fun _ => True) (fun _ => 0) ?_ ?_
  · exact ⟨nx5 + 1, trivial, ele_tell (pm := []) (bx := ((1, nx5), .c [strA nm, int k, int 0, cnds []]) :: rdrB s a b c nilA (strsA []) 1) _ _ rfl rfl (List.Sublist.refl _) (List.Sublist.refl _) ⟨rfl, ⟨AVle.refl _, AVle.refl _, AVle.refl _, AVle.os_sl0, trivial⟩, BxLe.refl _⟩ trivial ⟨AVle.refl _, AVle.refl _, AVle.refl _, trivial⟩⟩
  · rintro nx6 -
    (repeat((conv=>whnf);first|apply ω0|apply ω1|apply ω2|refine τ3 rfl ?_|refine τ4 rfl ?_|refine ⟨rfl,?_⟩|apply τa|refine τb rfl ?_|refine ⟨⟨by kernel_rfl,by kernel_rfl⟩,?_⟩|refine ⟨by decide,?_⟩|apply τt|apply τf))
    refine aw_mixN 9 (((1, nx5), .c [strA nm, int k, int 0, cnds []]) :: rdrB s a b c nilA (strsA []) 1) (fun i => match i with | 8 => true | _ => false) (fun _ => false) [0, 1, 2, 3, 4, 5, 6, 7, 8] (by kernel_rfl) (by kernel_rfl) (HB.refl _) ?_
    (repeat((conv=>whnf);first|apply ω0|apply ω1|apply ω2|refine τ3 rfl ?_|refine τ4 rfl ?_|refine ⟨rfl,?_⟩|apply τa|refine τb rfl ?_|refine ⟨⟨by kernel_rfl,by kernel_rfl⟩,?_⟩|refine ⟨by decide,?_⟩|apply τt|apply τf))
    refine ⟨_, eff_append1 (e := 85) (c := 4) (pm := []) (n := 0) (oi := none) (sz := 0) (f := fun _ => .any) (HB.refl _) rfl rfl rfl (.inr ⟨_, rfl⟩) (by kernel_rfl) (by kernel_rfl) (by kernel_rfl) (.inl ⟨rfl, rfl⟩) (by kernel_rfl) rfl (oneRow_one rfl) (by rw [bytes_rul14]; decide) (by decide), fun r h' hr => ?_⟩
    obtain ⟨rfl, rfl⟩ := hr
    (repeat((conv=>whnf);first|apply ω0|apply ω1|apply ω2|refine τ3 rfl ?_|refine τ4 rfl ?_|refine ⟨rfl,?_⟩|apply τa|refine τb rfl ?_|refine ⟨⟨by kernel_rfl,by kernel_rfl⟩,?_⟩|refine ⟨by decide,?_⟩|apply τt|apply τf))
    refine ret_all rfl trivial ⟨.tup [], ⟨rdrB s a b c (.os 4 1 (fun _ => rulA ⟨nm, (k, 0), []⟩) (some (0, nx6))) (strsA []) 1, [((0, nx6), 4)], nx6 + 1, 1⟩, AVle.refl _, ?_, rfl, nx6, nx6 + 1, rfl⟩
    exact hle_tell (rdrB s a b c (.os 4 1 (appF 0 (fun _ => .any) _) (some (2, nx6))) (strsA []) 1) [((2, nx6), 4)] rfl (.cons _ (List.Sublist.refl _)) (List.Sublist.refl _) ⟨rfl, ⟨AVle.refl _, AVle.refl _, AVle.refl _, (AVle.os_fun (fun i hi => by obtain rfl : i = 0 := Nat.lt_one_iff.1 hi; rfl)).trans (AVle.os_nm rfl), AVle.refl _, AVle.refl _, trivial⟩, trivial⟩ ⟨rfl, rfl, trivial⟩
end Go.Proofs.W

namespace Go.Proofs.W
open Go.Vl
set_option maxRecDepth 100000

def rdrB1 (s : Nat) (a b c ru wd : AV) (n : Int) : List (Vl.Id × Own) := [((1, s), .c [a, b, c, ru, wd, int n])]
theorem forceM_eq {l l' : List (Value × AV)} {K : List (Value × AV) → Prop} (h : l = l') (hk : forceM l' K) : forceM l K := h ▸ hk
def doF (s : Nat) : AV := .fn (.func 138) [.bp (0, s) 0] []
def doX (s : Nat) : AV := .fn (.func 139) [.bp (0, s) 0] []
def doM (s : Nat) : List (Value × AV) := [(.string wDefault, doF s), (.string ⟨#[120, 51, 50]⟩, doX s)]
theorem catch0 (x : AV) (h : Heap) : DCall Tryz.prog 136 [x] .returning h fun u h' => u = .returning ∧ h' = h := by
  refine dcall_recover Tryz.func136 rfl rfl rfl rfl rfl rfl ?_
  (repeat((conv=>whnf);first|apply ω0|apply ω1|apply ω2|refine τ3 rfl ?_|refine τ4 rfl ?_|refine ⟨rfl,?_⟩|apply τa|refine τb rfl ?_|refine ⟨⟨by kernel_rfl,by kernel_rfl⟩,?_⟩|refine ⟨by decide,?_⟩|apply τt|apply τf))
  refine aop_niliface rfl (.inr rfl) rfl rfl ?_
  (repeat((conv=>whnf);first|apply ω0|apply ω1|apply ω2|refine τ3 rfl ?_|refine τ4 rfl ?_|refine ⟨rfl,?_⟩|apply τa|refine τb rfl ?_|refine ⟨⟨by kernel_rfl,by kernel_rfl⟩,?_⟩|refine ⟨by decide,?_⟩|apply τt|apply τf))
  exact ret_is rfl ⟨rfl, rfl⟩
def outerB (s s1 s2 s3 s4 : Nat) (nm : ByteArray) : List (Vl.Id × Own) := [((4, s4), .mp (doM s)), ((3, s3), .c [strA nm]), ((2, s2), .c [int 0]), ((1, s1), .c [.bp (0, s) 0])]
theorem line2_spec (s s1 s2 s3 s4 nx : Nat) (a b c : AV) (nm w : ByteArray) (k : Int) (hn : nameB nm.data.toList = true) (hs : nm.size ≤ 1000) (hr : Tells Tryz.prog 225 [strsA [w]] (.tup [act k 0, int 1, int 0])) :
    ECall Tryz.prog 140 [.bp (1, s1) 0, .bp (3, s3) 0] ⟨outerB s s1 s2 s3 s4 nm ++ rdrB s a b c nilA (strsA [w]) 1, [], nx, 5⟩ fun r h' => r = .tup [] ∧ ∃ st nx', h' = ⟨outerB s s1 s2 s3 s4 nm ++ rdrB s a b c (.os 4 1 (fun _ => rulA ⟨nm, (k, 0), []⟩) (some (0, st))) (strsA []) 1, [((0, st), 4)], nx', 5⟩ := by
  refine ecall_of_aw Tryz.func140 rfl rfl ?_
  (repeat((conv=>whnf);first|apply ω0|apply ω1|apply ω2|refine τ3 rfl ?_|refine τ4 rfl ?_|refine ⟨rfl,?_⟩|apply τa|refine τb rfl ?_|refine ⟨⟨by kernel_rfl,by kernel_rfl⟩,?_⟩|refine ⟨by decide,?_⟩|apply τt|apply τf))
  refine aop_callF (xs := [.bp (0, s) 0, strA nm]) (bx1 := rdrB s a b c nilA (strsA [w]) 1) (pm1 := []) (outerB s s1 s2 s3 s4 nm) [] 5 rfl rfl rfl rfl ⟨AVle.refl _, AVle.refl _, trivial⟩ (rule_spec s a b c nm w k nx hn hs hr) (BxLe.refl _) (PmEq.refl _) rfl fun r h' hq => ?_
  obtain ⟨rfl, st, nx2, rfl⟩ := hq
  (repeat((conv=>whnf);first|apply ω0|apply ω1|apply ω2|refine τ3 rfl ?_|refine τ4 rfl ?_|refine ⟨rfl,?_⟩|apply τa|refine τb rfl ?_|refine ⟨⟨by kernel_rfl,by kernel_rfl⟩,?_⟩|refine ⟨by decide,?_⟩|apply τt|apply τf))
  exact ret_is rfl ⟨rfl, st, nx2, rfl⟩
set_option maxHeartbeats 4000000 in
theorem line_first (s : Nat) (nx : Nat) : ECall Tryz.prog 90 [.bp (0, s) 0, strsA [wDefault, wKill]] ⟨rdrB s (int 0) (int 0) (boolA false) nilA nilA 0, [], nx, 1⟩ fun r h' => r = int 0 ∧ ∃ nx', h' = ⟨rdrB1 s (int 1) (int 0) (boolA false) nilA (strsA []) 1, [], nx', 1⟩ := by
  refine ECall.wk (ecall_of_aw Tryz.func90 rfl rfl ?_)
  (repeat((conv=>whnf);first|apply ω0|apply ω1|apply ω2|refine τ3 rfl ?_|refine τ4 rfl ?_|refine ⟨rfl,?_⟩|apply τa|refine τb rfl ?_|refine ⟨⟨by kernel_rfl,by kernel_rfl⟩,?_⟩|refine ⟨by decide,?_⟩|apply τt|apply τf))
  refine aop_defer rfl rfl rfl ?_
  (repeat((conv=>whnf);first|apply ω0|apply ω1|apply ω2|refine τ3 rfl ?_|refine τ4 rfl ?_|refine ⟨rfl,?_⟩|apply τa|refine τb rfl ?_|refine ⟨⟨by kernel_rfl,by kernel_rfl⟩,?_⟩|refine ⟨by decide,?_⟩|apply τt|apply τf))
  refine aop_callF (xs := [.bp (0, s) 0]) (bx1 := rdrB s (int 0) (int 0) (boolA false) nilA (strsA [wDefault, wKill]) 0) (pm1 := []) [((2, nx + 1), .c [int 0]), ((1, nx), .c [.bp (0, s) 0])] [] 3 rfl rfl rfl rfl ⟨AVle.refl _, trivial⟩ (next_spec s (int 0) (int 0) (boolA false) nilA wDefault wKill 0 (nx + 2)) (BxLe.refl _) (PmEq.refl _) rfl fun r h' hq => ?_
  obtain ⟨rfl, rfl⟩ := hq
  (repeat((conv=>whnf);first|apply ω0|apply ω1|apply ω2|refine τ3 rfl ?_|refine τ4 rfl ?_|refine ⟨rfl,?_⟩|apply τa|refine τb rfl ?_|refine ⟨⟨by kernel_rfl,by kernel_rfl⟩,?_⟩|refine ⟨by decide,?_⟩|apply τt|apply τf))
  refine forceM_eq (l' := doM s) (by kernel_rfl) ?_
  (repeat((conv=>whnf);first|apply ω0|apply ω1|apply ω2|refine τ3 rfl ?_|refine τ4 rfl ?_|refine ⟨rfl,?_⟩|apply τa|refine τb rfl ?_|refine ⟨⟨by kernel_rfl,by kernel_rfl⟩,?_⟩|refine ⟨by decide,?_⟩|apply τt|apply τf))
  refine splitO_eq (b := .fn (.func 138) [.bp (0, s) 0] []) (by kernel_rfl) ?_
  (repeat((conv=>whnf);first|apply ω0|apply ω1|apply ω2|refine τ3 rfl ?_|refine τ4 rfl ?_|refine ⟨rfl,?_⟩|apply τa|refine τb rfl ?_|refine ⟨⟨by kernel_rfl,by kernel_rfl⟩,?_⟩|refine ⟨by decide,?_⟩|apply τt|apply τf))
  refine aop_callF (xs := [.bp (0, s) 0]) (bx1 := rdrB s (int 0) (int 0) (boolA false) nilA (strsA [wKill]) 0) (pm1 := []) [((4, nx + 3), .mp (doM s)), ((3, nx + 2), .c [strA wDefault]), ((2, nx + 1), .c [int 0]), ((1, nx), .c [.bp (0, s) 0])] [] 5 rfl rfl rfl rfl ⟨AVle.refl _, trivial⟩ (first_spec s (int 0) (int 0) (boolA false) nilA wKill 1 (nx + 4) read_kill) (BxLe.refl _) (PmEq.refl _) rfl fun r h' hq => ?_
  obtain ⟨rfl, nx2, rfl⟩ := hq
  (repeat((conv=>whnf);first|apply ω0|apply ω1|apply ω2|refine τ3 rfl ?_|refine τ4 rfl ?_|refine ⟨rfl,?_⟩|apply τa|refine τb rfl ?_|refine ⟨⟨by kernel_rfl,by kernel_rfl⟩,?_⟩|refine ⟨by decide,?_⟩|apply τt|apply τf))
  refine DCall.mono (catch0 _ _) fun u h' hq => ?_
  obtain ⟨rfl, rfl⟩ := hq
  refine ret_all rfl ⟨⟨rfl, Nat.zero_lt_one⟩, trivial⟩ ⟨int 0, ⟨rdrB1 s (int 1) (int 0) (boolA false) nilA (strsA []) 1, [], nx2, 1⟩, AVle.refl _, ?_, rfl, nx2, rfl⟩
  exact hle_tell (rdrB s (int 1) (int 0) (boolA false) nilA (strsA []) 1) [] rfl (.cons _ (.cons _ (.cons _ (.cons _ (List.Sublist.refl _))))) (List.Sublist.refl _) ⟨rfl, OwnLe.refl _, trivial⟩ (PmEq.refl _)
set_option maxHeartbeats 4000000 in
theorem line_rule (s : Nat) (nx : Nat) : ECall Tryz.prog 90 [.bp (0, s) 0, strsA [wRead, wAllow]] ⟨rdrB s (int 1) (int 0) (boolA false) nilA (strsA []) 1, [], nx, 1⟩ fun r h' => r = int 0 ∧ ∃ st nx', h' = ⟨rdrB1 s (int 1) (int 0) (boolA false) (.os 4 1 (fun _ => rulA ⟨wRead, (8, 0), []⟩) (some (0, st))) (strsA []) 2, [((0, st), 4)], nx', 1⟩ := by
  refine ECall.wk (ecall_of_aw Tryz.func90 rfl rfl ?_)
  (repeat((conv=>whnf);first|apply ω0|apply ω1|apply ω2|refine τ3 rfl ?_|refine τ4 rfl ?_|refine ⟨rfl,?_⟩|apply τa|refine τb rfl ?_|refine ⟨⟨by kernel_rfl,by kernel_rfl⟩,?_⟩|refine ⟨by decide,?_⟩|apply τt|apply τf))
  refine aop_defer rfl rfl rfl ?_
  (repeat((conv=>whnf);first|apply ω0|apply ω1|apply ω2|refine τ3 rfl ?_|refine τ4 rfl ?_|refine ⟨rfl,?_⟩|apply τa|refine τb rfl ?_|refine ⟨⟨by kernel_rfl,by kernel_rfl⟩,?_⟩|refine ⟨by decide,?_⟩|apply τt|apply τf))
  refine aop_callF (xs := [.bp (0, s) 0]) (bx1 := rdrB s (int 1) (int 0) (boolA false) nilA (strsA [wRead, wAllow]) 1) (pm1 := []) [((2, nx + 1), .c [int 0]), ((1, nx), .c [.bp (0, s) 0])] [] 3 rfl rfl rfl rfl ⟨AVle.refl _, trivial⟩ (next_spec s (int 1) (int 0) (boolA false) nilA wRead wAllow 1 (nx + 2)) (BxLe.refl _) (PmEq.refl _) rfl fun r h' hq => ?_
  obtain ⟨rfl, rfl⟩ := hq
  (repeat((conv=>whnf);first|apply ω0|apply ω1|apply ω2|refine τ3 rfl ?_|refine τ4 rfl ?_|refine ⟨rfl,?_⟩|apply τa|refine τb rfl ?_|refine ⟨⟨by kernel_rfl,by kernel_rfl⟩,?_⟩|refine ⟨by decide,?_⟩|apply τt|apply τf))
  refine forceM_eq (l' := doM s) (by kernel_rfl) ?_
  (repeat((conv=>whnf);first|apply ω0|apply ω1|apply ω2|refine τ3 rfl ?_|refine τ4 rfl ?_|refine ⟨rfl,?_⟩|apply τa|refine τb rfl ?_|refine ⟨⟨by kernel_rfl,by kernel_rfl⟩,?_⟩|refine ⟨by decide,?_⟩|apply τt|apply τf))
  refine splitO_eq (b := .v .nilFunc) (by kernel_rfl) ?_
  (repeat((conv=>whnf);first|apply ω0|apply ω1|apply ω2|refine τ3 rfl ?_|refine τ4 rfl ?_|refine ⟨rfl,?_⟩|apply τa|refine τb rfl ?_|refine ⟨⟨by kernel_rfl,by kernel_rfl⟩,?_⟩|refine ⟨by decide,?_⟩|apply τt|apply τf))
  refine aop_callF (xs := [.bp (1, nx) 0, .bp (3, nx + 2) 0]) (bx1 := outerB s nx (nx + 1) (nx + 2) (nx + 3) wRead ++ rdrB s (int 1) (int 0) (boolA false) nilA (strsA [wAllow]) 1) (pm1 := []) [] [] 5 rfl rfl rfl rfl ⟨AVle.refl _, AVle.refl _, trivial⟩ (line2_spec s nx (nx + 1) (nx + 2) (nx + 3) (nx + 4) (int 1) (int 0) (boolA false) wRead wAllow 8 (by decide +kernel) (by decide) read_allow) (BxLe.refl _) (PmEq.refl _) rfl fun r h' hq => ?_
  obtain ⟨rfl, st, nx2, rfl⟩ := hq
  (repeat((conv=>whnf);first|apply ω0|apply ω1|apply ω2|refine τ3 rfl ?_|refine τ4 rfl ?_|refine ⟨rfl,?_⟩|apply τa|refine τb rfl ?_|refine ⟨⟨by kernel_rfl,by kernel_rfl⟩,?_⟩|refine ⟨by decide,?_⟩|apply τt|apply τf))
  refine DCall.mono (catch0 _ _) fun u h' hq => ?_
  obtain ⟨rfl, rfl⟩ := hq
  refine ret_all rfl ⟨⟨rfl, Nat.zero_lt_one⟩, trivial⟩ ⟨int 0, ⟨rdrB1 s (int 1) (int 0) (boolA false) (.os 4 1 (fun _ => rulA ⟨wRead, (8, 0), []⟩) (some (0, st))) (strsA []) 2, [((0, st), 4)], nx2, 1⟩, AVle.refl _, ?_, rfl, st, nx2, rfl⟩
  exact hle_tell (rdrB s (int 1) (int 0) (boolA false) (.os 4 1 (fun _ => rulA ⟨wRead, (8, 0), []⟩) (some (0, st))) (strsA []) 2) [((0, st), 4)] rfl (.cons _ (.cons _ (.cons _ (.cons _ (List.Sublist.refl _))))) (List.Sublist.refl _) ⟨rfl, OwnLe.refl _, trivial⟩ (PmEq.refl _)
end Go.Proofs.W

namespace Go.Proofs.W
open Go.Vl
set_option maxRecDepth 100000

def pAw : Pol := ⟨(1, 0), false, [⟨wRead, (8, 0), []⟩]⟩
def LL : List (Nat × List ByteArray) := [(1, [wDefault, wKill]), (2, [wRead, wAllow])]
theorem outLL : outL [(lineA, 1), (lineB, 2)] = LL := by
  show [(1, fieldsL lineA), (2, fieldsL lineB)] = _
  rw [fieldsA, fieldsB]; rfl
/-- The reader behind so many lines. -/
def rdrC (k st : Nat) : List AV := match k with
  | 0 => [int 0, int 0, boolA false, nilA, nilA, int 0]
  | 1 => [int 1, int 0, boolA false, nilA, strsA [], int 1]
  | _ => [int 1, int 0, boolA false, .os 4 1 (fun _ => rulA ⟨wRead, (8, 0), []⟩) (some (0, st)), strsA [], int 2]
def rdrP (k st : Nat) : List (Vl.Id × Nat) := match k with
  | 2 => [((0, st), 4)]
  | _ => []
set_option maxHeartbeats 4000000 in
theorem parse_spec : Tells Tryz.prog 42 [strA textAB] (.tup [polA pAw, int 0, int 0]) := by
  have hl := lexlines_spec
  rw [outLL] at hl
  refine tells_of_aw Tryz.func42 rfl rfl fun nx => ?_
  (repeat((conv=>whnf);first|apply ω0|apply ω1|apply ω2|refine τ3 rfl ?_|refine τ4 rfl ?_|refine ⟨rfl,?_⟩|apply τa|refine τb rfl ?_|refine ⟨⟨by kernel_rfl,by kernel_rfl⟩,?_⟩|refine ⟨by decide,?_⟩|apply τt|apply τf))
  refine aop_tells rfl rfl hl ⟨AVle.refl _, trivial⟩ fun nx2 => ?_
  (repeat((conv=>whnf);first|apply ω0|apply ω1|apply ω2|refine τ3 rfl ?_|refine τ4 rfl ?_|refine ⟨rfl,?_⟩|apply τa|refine τb rfl ?_|refine ⟨⟨by kernel_rfl,by kernel_rfl⟩,?_⟩|refine ⟨by decide,?_⟩|apply τt|apply τf))
  refine aw_loop (fun y : Nat × Nat × Nat => mk 52 [(2, .bp (0, nx) 0), (3, int 0), (4, int 0), (8, .bp (1, nx2) 0), (31, linesA LL), (32, int 2), (33, int y.1)] ⟨[((1, nx2), .c (rdrC y.1 y.2.1)), ((0, nx), .c [int 0, int 0, boolA false, nilA])], rdrP y.1 y.2.1, y.2.2, 2⟩) (fun y => y.1 ≤ 2) (fun y => 2 - y.1) ?_ ?_
  · exact ⟨(0, 0, nx2 + 1), Nat.zero_le _, ele_tell (pm := []) (bx := [((1, nx2), .c (rdrC 0 0)), ((0, nx), .c [int 0, int 0, boolA false, nilA])]) _ _ rfl rfl (List.Sublist.refl _) (List.Sublist.refl _) (BxLe.refl _) trivial ⟨AVle.refl _, AVle.refl _, AVle.refl _, AVle.refl _, AVle.refl _, AVle.refl _, AVle.refl _, trivial⟩⟩
  · rintro ⟨k, st, nx3⟩ h1
    dsimp only at h1
    obtain rfl | rfl | rfl : k = 0 ∨ k = 1 ∨ k = 2 := by omega
    · (repeat((conv=>whnf);first|apply ω0|apply ω1|apply ω2|refine τ3 rfl ?_|refine τ4 rfl ?_|refine ⟨rfl,?_⟩|apply τa|refine τb rfl ?_|refine ⟨⟨by kernel_rfl,by kernel_rfl⟩,?_⟩|refine ⟨by decide,?_⟩|apply τt|apply τf))
      refine ⟨⟨(by decide : (0 : Int) ≤ 0), (by decide : (0 : Int) < 2)⟩, splitO_eq (b := .rp [int 1, strsA [wDefault, wKill]]) rfl ?_⟩
      (repeat((conv=>whnf);first|apply ω0|apply ω1|apply ω2|refine τ3 rfl ?_|refine τ4 rfl ?_|refine ⟨rfl,?_⟩|apply τa|refine τb rfl ?_|refine ⟨⟨by kernel_rfl,by kernel_rfl⟩,?_⟩|refine ⟨by decide,?_⟩|apply τt|apply τf))
      refine aop_callM (xs := [.bp (0, nx2) 0, strsA [wDefault, wKill]]) (bx1 := [((1, nx2), .c (rdrC 0 st))]) (pm1 := []) [((2, nx3), .c [int 1, strsA [wDefault, wKill]])] [((0, nx), .c [int 0, int 0, boolA false, nilA])] [] 3 rfl rfl rfl rfl ⟨AVle.bp_nm rfl, AVle.refl _, trivial⟩ (line_first nx2 (nx3 + 1)) ⟨rfl, OwnLe.refl _, trivial⟩ (PmEq.refl _) rfl fun r h' hq => ?_
      obtain ⟨rfl, nx4, rfl⟩ := hq
      (repeat((conv=>whnf);first|apply ω0|apply ω1|apply ω2|refine τ3 rfl ?_|refine τ4 rfl ?_|refine ⟨rfl,?_⟩|apply τa|refine τb rfl ?_|refine ⟨⟨by kernel_rfl,by kernel_rfl⟩,?_⟩|refine ⟨by decide,?_⟩|apply τt|apply τf))
      exact back (1, 0, nx4) (by dsimp only; omega) (by dsimp only; omega) (ele_tell (pm := rdrP 1 0) (bx := [((1, nx2), .c (rdrC 1 0)), ((0, nx), .c [int 0, int 0, boolA false, nilA])]) _ _ rfl rfl (.cons _ (List.Sublist.refl _)) (List.Sublist.refl _) (BxLe.refl _) (PmEq.refl _) ⟨AVle.refl _, AVle.refl _, AVle.refl _, AVle.refl _, AVle.refl _, AVle.refl _, AVle.refl _, trivial⟩)
    · (repeat((conv=>whnf);first|apply ω0|apply ω1|apply ω2|refine τ3 rfl ?_|refine τ4 rfl ?_|refine ⟨rfl,?_⟩|apply τa|refine τb rfl ?_|refine ⟨⟨by kernel_rfl,by kernel_rfl⟩,?_⟩|refine ⟨by decide,?_⟩|apply τt|apply τf))
      refine ⟨⟨(by decide : (0 : Int) ≤ 1), (by decide : (1 : Int) < 2)⟩, splitO_eq (b := .rp [int 2, strsA [wRead, wAllow]]) rfl ?_⟩
      (repeat((conv=>whnf);first|apply ω0|apply ω1|apply ω2|refine τ3 rfl ?_|refine τ4 rfl ?_|refine ⟨rfl,?_⟩|apply τa|refine τb rfl ?_|refine ⟨⟨by kernel_rfl,by kernel_rfl⟩,?_⟩|refine ⟨by decide,?_⟩|apply τt|apply τf))
      refine aop_callM (xs := [.bp (0, nx2) 0, strsA [wRead, wAllow]]) (bx1 := [((1, nx2), .c (rdrC 1 st))]) (pm1 := []) [((2, nx3), .c [int 2, strsA [wRead, wAllow]])] [((0, nx), .c [int 0, int 0, boolA false, nilA])] [] 3 rfl rfl rfl rfl ⟨AVle.bp_nm rfl, AVle.refl _, trivial⟩ (line_rule nx2 (nx3 + 1)) ⟨rfl, OwnLe.refl _, trivial⟩ (PmEq.refl _) rfl fun r h' hq => ?_
      obtain ⟨rfl, st', nx4, rfl⟩ := hq
      (repeat((conv=>whnf);first|apply ω0|apply ω1|apply ω2|refine τ3 rfl ?_|refine τ4 rfl ?_|refine ⟨rfl,?_⟩|apply τa|refine τb rfl ?_|refine ⟨⟨by kernel_rfl,by kernel_rfl⟩,?_⟩|refine ⟨by decide,?_⟩|apply τt|apply τf))
      exact back (2, st', nx4) (by dsimp only; omega) (by dsimp only; omega) (ele_tell (pm := rdrP 2 st') (bx := [((1, nx2), .c (rdrC 2 st')), ((0, nx), .c [int 0, int 0, boolA false, nilA])]) _ _ rfl rfl (.cons _ (List.Sublist.refl _)) (List.Sublist.refl _) (BxLe.refl _) (PmEq.refl _) ⟨AVle.refl _, AVle.refl _, AVle.refl _, AVle.refl _, AVle.refl _, AVle.refl _, AVle.refl _, trivial⟩)
    · (repeat((conv=>whnf);first|apply ω0|apply ω1|apply ω2|refine τ3 rfl ?_|refine τ4 rfl ?_|refine ⟨rfl,?_⟩|apply τa|refine τb rfl ?_|refine ⟨⟨by kernel_rfl,by kernel_rfl⟩,?_⟩|refine ⟨by decide,?_⟩|apply τt|apply τf))
      exact ret_tells_all rfl ⟨rfl, trivial⟩ (AVle.tups (cs := [_, _, _]) ⟨AVle.ags (cs := [_, _, _, _]) ⟨AVle.refl _, AVle.refl _, AVle.refl _, (AVle.os_fun (fun i hi => by obtain rfl : i = 0 := Nat.lt_one_iff.1 hi; rfl)).trans AVle.os_sl, trivial⟩, AVle.refl _, AVle.refl _, trivial⟩)
end Go.Proofs.W

namespace Go.Proofs.W
open Go.Vl
set_option maxRecDepth 100000

end Go.Proofs.W

namespace Go.Proofs.W
open Go.Vl
set_option maxRecDepth 100000

theorem le_u32' {a b : Int} (h : a = b) : AVle (.v (.int .u32 a)) (u32 b) := h ▸ AVle.refl _
theorem code_spec9 (k n : Nat) (hk : k < 8) (hn : n ≤ km k) : Tells Tryz.prog 52 [act (k + 1 : Nat) n] (.tup [u32 (kb k + n : Nat), int 0]) := by
  obtain ⟨s, m, hr1, hr2⟩ := row_kb k hk
  obtain ⟨s', c', m', h3, h4, _⟩ := row_most k hk
  have hm : m = m' := by
    rw [hr1] at h3
    have := AV.ag.inj h3
    simp at this
    exact this.2.2
  rw [← hm] at h4
  clear h3
  have hle := kb_le hk
  have ho := f26_in k hk
  rw [hr1] at ho
  have hR := f22_spec ((k + 1 : Nat) : Int) (n : Int)
  have hkm : ((km k : Nat) : Int) = most9 ((k + 1 : Nat) : Int) := by
    clear hr1 hr2 h4 hle ho hR hn
    rcases k with _ | _ | _ | _ | _ | _ | _ | _ | k
    all_goals first | decide | omega
  rw [show right9 ((k + 1 : Nat) : Int) (n : Int) = true by unfold right9; rw [← hkm]; simp; omega] at hR
  have e1 : IntKind.u32.wrap (n : Int) = (n : Int) := by simp [IntKind.wrap, IntKind.signed, IntKind.bits]; omega
  have e2 : IntKind.u32.wrap ((kb k : Int) + (n : Int)) = ((kb k + n : Nat) : Int) := by
    rw [show (kb k : Int) + (n : Int) = ((kb k + n : Nat) : Int) by omega]
    simp [IntKind.wrap, IntKind.signed, IntKind.bits]; omega
  rcases h4 with rfl | ⟨n', rfl⟩
  all_goals
    refine tells_of_aw Tryz.func52 rfl rfl fun nx => ?_
    (repeat((conv=>whnf);first|apply ω0|apply ω1|apply ω2|refine τ3 rfl ?_|refine τ4 rfl ?_|refine ⟨rfl,?_⟩|apply τa|refine τb rfl ?_|refine ⟨⟨by kernel_rfl,by kernel_rfl⟩,?_⟩|refine ⟨by decide,?_⟩|apply τt|apply τf))
    refine aop_tells rfl rfl hR ⟨AVle.refl _, trivial⟩ fun nx1 => ?_
    (repeat((conv=>whnf);first|apply ω0|apply ω1|apply ω2|refine τ3 rfl ?_|refine τ4 rfl ?_|refine ⟨rfl,?_⟩|apply τa|refine τb rfl ?_|refine ⟨⟨by kernel_rfl,by kernel_rfl⟩,?_⟩|refine ⟨by decide,?_⟩|apply τt|apply τf))
    refine aop_tells rfl rfl ho ⟨AVle.refl _, trivial⟩ fun nx2 => ?_
    (repeat((conv=>whnf);first|apply ω0|apply ω1|apply ω2|refine τ3 rfl ?_|refine τ4 rfl ?_|refine ⟨rfl,?_⟩|apply τa|refine τb rfl ?_|refine ⟨⟨by kernel_rfl,by kernel_rfl⟩,?_⟩|refine ⟨by decide,?_⟩|apply τt|apply τf))
    refine ret_tells rfl (AVle.tups ⟨le_u32' ?_, AVle.refl _, trivial⟩)
    show IntKind.u32.wrap ((kb k : Int) + IntKind.u32.wrap (n : Int)) = _
    rw [e1, e2]
end Go.Proofs.W

namespace Go.Proofs.W
open Go.Vl
set_option maxRecDepth 100000

def hB (x : Nat → Nat) (c : Cnd) : Bool := rightC c && holdsC c ([x 0, x 1, x 2, x 3, x 4, x 5].getD c.arg.toNat 0)
def letB (x : Nat → Nat) (r : Rul) : Bool := r.conds.all (hB x)
theorem six_lt {x : Nat → Nat} (hx : ∀ i, x i < 18446744073709551616) (i : Nat) : [x 0, x 1, x 2, x 3, x 4, x 5].getD i 0 < 18446744073709551616 := by
  rcases i with _ | _ | _ | _ | _ | _ | i
  · exact hx 0
  · exact hx 1
  · exact hx 2
  · exact hx 3
  · exact hx 4
  · exact hx 5
  · exact Nat.zero_lt_succ _
theorem hold_spec (x : Nat → Nat) (hx : ∀ i, x i < 18446744073709551616) (c : Cnd) (hc : c.ok) : Tells Tryz.prog 96 [cndA c, arrA x] (boolA (hB x c)) := holds_spec c (x 0) (x 1) (x 2) (x 3) (x 4) (x 5) hc (six_lt hx)
def arrP (x : Nat → Nat) : AV := .rp [u64 (x 0), u64 (x 1), u64 (x 2), u64 (x 3), u64 (x 4), u64 (x 5)]
theorem all1_spec (x : Nat → Nat) (hx : ∀ i, x i < 18446744073709551616) (c : Cnd) (hc : c.ok) : Tells Tryz.prog 95 [cndA c, arrP x] (boolA (!hB x c)) := by
  have hh := hold_spec x hx c hc
  generalize hB x c = b at hh
  refine tells_of_aw Tryz.func95 rfl rfl fun nx => ?_
  (repeat((conv=>whnf);first|apply ω0|apply ω1|apply ω2|refine τ3 rfl ?_|refine τ4 rfl ?_|refine ⟨rfl,?_⟩|apply τa|refine τb rfl ?_|refine ⟨⟨by kernel_rfl,by kernel_rfl⟩,?_⟩|refine ⟨by decide,?_⟩|apply τt|apply τf))
  refine splitO_eq (b := cndA c) rfl ?_
  (repeat((conv=>whnf);first|apply ω0|apply ω1|apply ω2|refine τ3 rfl ?_|refine τ4 rfl ?_|refine ⟨rfl,?_⟩|apply τa|refine τb rfl ?_|refine ⟨⟨by kernel_rfl,by kernel_rfl⟩,?_⟩|refine ⟨by decide,?_⟩|apply τt|apply τf))
  refine aop_tells rfl rfl hh ⟨AVle.refl _, AVle.refl _, trivial⟩ fun nx2 => ?_
  cases b
  · (repeat((conv=>whnf);first|apply ω0|apply ω1|apply ω2|refine τ3 rfl ?_|refine τ4 rfl ?_|refine ⟨rfl,?_⟩|apply τa|refine τb rfl ?_|refine ⟨⟨by kernel_rfl,by kernel_rfl⟩,?_⟩|refine ⟨by decide,?_⟩|apply τt|apply τf))
    exact ret_tells rfl (AVle.refl _)
  · (repeat((conv=>whnf);first|apply ω0|apply ω1|apply ω2|refine τ3 rfl ?_|refine τ4 rfl ?_|refine ⟨rfl,?_⟩|apply τa|refine τb rfl ?_|refine ⟨⟨by kernel_rfl,by kernel_rfl⟩,?_⟩|refine ⟨by decide,?_⟩|apply τt|apply τf))
    exact ret_tells rfl (AVle.refl _)
theorem idxc_cnd (l : List Cnd) (p : Cnd → Bool) (f : Nat) (x : Nat → Nat) (hl : l.length ≤ 1000000000) (hp : ∀ i, i < l.length → Tells Tryz.prog f (cndA (l.getD i cnd0) :: [arrP x]) (boolA (p (l.getD i cnd0)))) :
    Tells Tryz.prog 143 [slOf 4 cndA cnd0 l, (.fn (.func f) [] [arrP x])] (int (optI (l.findIdx? p))) := by
  refine tells_of_aw Tryz.func143 rfl rfl fun nx => ?_
  (repeat((conv=>whnf);first|apply ω0|apply ω1|apply ω2|refine τ3 rfl ?_|refine τ4 rfl ?_|refine ⟨rfl,?_⟩|apply τa|refine τb rfl ?_|refine ⟨⟨by kernel_rfl,by kernel_rfl⟩,?_⟩|refine ⟨by decide,?_⟩|apply τt|apply τf))
  refine aw_loop (fun s : Nat × Nat => mk 19 [(0, slOf 4 cndA cnd0 l), (1, (.fn (.func f) [] [arrP x])), (7, int l.length), (8, int s.1)] ⟨[], [], s.2, 0⟩) (fun s => s.1 ≤ l.length ∧ ∀ j, j < s.1 → p (l.getD j cnd0) = false) (fun s => l.length - s.1) ?_ ?_
  · exact ⟨(0, nx), ⟨by simp, by intro j hj; simp at hj⟩, ele_mk rfl rfl ⟨AVle.refl _, AVle.refl _, AVle.refl _, AVle.refl _, trivial⟩⟩
  · rintro ⟨i, nx⟩ ⟨h1, h2⟩
    dsimp only at h1 h2
    (repeat((conv=>whnf);first|apply ω0|apply ω1|apply ω2|refine τ3 rfl ?_|refine τ4 rfl ?_|refine ⟨rfl,?_⟩|apply τa|refine τb rfl ?_|refine ⟨⟨by kernel_rfl,by kernel_rfl⟩,?_⟩|refine ⟨by decide,?_⟩|apply τt|apply τf))
    intro c h3; cases c
    · have h3 := not_of h3
      dsimp only at h3
      (repeat((conv=>whnf);first|apply ω0|apply ω1|apply ω2|refine τ3 rfl ?_|refine τ4 rfl ?_|refine ⟨rfl,?_⟩|apply τa|refine τb rfl ?_|refine ⟨⟨by kernel_rfl,by kernel_rfl⟩,?_⟩|refine ⟨by decide,?_⟩|apply τt|apply τf))
      refine ret_tells rfl (le_int ?_)
      rw [idx_none cnd0 (fun j hj => h2 j (by omega))]; rfl
    · have h3 := yes_of h3
      dsimp only at h3
      have hi : i < l.length := by omega
      (repeat((conv=>whnf);first|apply ω0|apply ω1|apply ω2|refine τ3 rfl ?_|refine τ4 rfl ?_|refine ⟨rfl,?_⟩|apply τa|refine τb rfl ?_|refine ⟨⟨by kernel_rfl,by kernel_rfl⟩,?_⟩|refine ⟨by decide,?_⟩|apply τt|apply τf))
      refine ⟨⟨by dsimp only; omega, by dsimp only; omega⟩, ?_⟩
      (repeat((conv=>whnf);first|apply ω0|apply ω1|apply ω2|refine τ3 rfl ?_|refine τ4 rfl ?_|refine ⟨rfl,?_⟩|apply τa|refine τb rfl ?_|refine ⟨⟨by kernel_rfl,by kernel_rfl⟩,?_⟩|refine ⟨by decide,?_⟩|apply τt|apply τf))
      refine aop_tells rfl rfl (hp i hi) ⟨AVle.refl _, AVle.refl _, trivial⟩ fun nx' => ?_
      intro c h4; cases c
      · (repeat((conv=>whnf);first|apply ω0|apply ω1|apply ω2|refine τ3 rfl ?_|refine τ4 rfl ?_|refine ⟨rfl,?_⟩|apply τa|refine τb rfl ?_|refine ⟨⟨by kernel_rfl,by kernel_rfl⟩,?_⟩|refine ⟨by decide,?_⟩|apply τt|apply τf))
        refine back (i + 1, nx') ⟨by dsimp only; omega, fun j hj => ?_⟩ (by dsimp only; omega) (ele_mk rfl rfl ⟨AVle.refl _, AVle.refl _, AVle.refl _, le_int (wrap_succ (by dsimp only; omega)), trivial⟩)
        dsimp only at hj
        rcases Nat.lt_or_ge j i with h | h
        · exact h2 j h
        · obtain rfl : j = i := by omega
          exact h4.symm
      · (repeat((conv=>whnf);first|apply ω0|apply ω1|apply ω2|refine τ3 rfl ?_|refine τ4 rfl ?_|refine ⟨rfl,?_⟩|apply τa|refine τb rfl ?_|refine ⟨⟨by kernel_rfl,by kernel_rfl⟩,?_⟩|refine ⟨by decide,?_⟩|apply τt|apply τf))
        refine ret_tells rfl (le_int ?_)
        rw [idx_at cnd0 hi h2 h4.symm]; rfl
theorem cntc_cnd (l : List Cnd) (p : Cnd → Bool) (f : Nat) (x : Nat → Nat) (hl : l.length ≤ 1000000000) (hp : ∀ i, i < l.length → Tells Tryz.prog f (cndA (l.getD i cnd0) :: [arrP x]) (boolA (p (l.getD i cnd0)))) :
    Tells Tryz.prog 94 [slOf 4 cndA cnd0 l, (.fn (.func f) [] [arrP x])] (boolA (l.any p)) := by
  refine tells_of_aw Tryz.func94 rfl rfl fun nx => ?_
  (repeat((conv=>whnf);first|apply ω0|apply ω1|apply ω2|refine τ3 rfl ?_|refine τ4 rfl ?_|refine ⟨rfl,?_⟩|apply τa|refine τb rfl ?_|refine ⟨⟨by kernel_rfl,by kernel_rfl⟩,?_⟩|refine ⟨by decide,?_⟩|apply τt|apply τf))
  refine aop_tells rfl rfl (idxc_cnd l p f x hl hp) ⟨AVle.refl _, AVle.refl _, trivial⟩ fun nx' => ?_
  (repeat((conv=>whnf);first|apply ω0|apply ω1|apply ω2|refine τ3 rfl ?_|refine τ4 rfl ?_|refine ⟨rfl,?_⟩|apply τa|refine τb rfl ?_|refine ⟨⟨by kernel_rfl,by kernel_rfl⟩,?_⟩|refine ⟨by decide,?_⟩|apply τt|apply τf))
  intro c h; cases c
  all_goals
    (repeat((conv=>whnf);first|apply ω0|apply ω1|apply ω2|refine τ3 rfl ?_|refine τ4 rfl ?_|refine ⟨rfl,?_⟩|apply τa|refine τb rfl ?_|refine ⟨⟨by kernel_rfl,by kernel_rfl⟩,?_⟩|refine ⟨by decide,?_⟩|apply τt|apply τf))
    refine ret_tells rfl (le_bool ?_)
    rw [h, ← List.findIdx?_isSome]
    exact optI_nonneg _
theorem all_spec (x : Nat → Nat) (hx : ∀ i, x i < 18446744073709551616) (l : List Cnd) (hl : l.length ≤ 1000000000) (hc : ∀ c ∈ l, c.ok) : Tells Tryz.prog 46 [cnds l, arrA x] (boolA (l.all (hB x))) := by
  have hcn := cntc_cnd l (fun c => !hB x c) 95 x hl (fun i hi => all1_spec x hx _ (hc _ (by simp [List.getD, hi])))
  have he : (l.any fun c => !hB x c) = !(l.all (hB x)) := by rw [List.all_eq_not_any_not, Bool.not_not]
  rw [he] at hcn
  generalize l.all (hB x) = b at hcn
  refine tells_of_aw Tryz.func46 rfl rfl fun nx => ?_
  ((repeat((conv=>whnf);first|apply ω0|apply ω2|refine τ3 rfl ?_|refine τ4 rfl ?_|refine ⟨rfl,?_⟩|apply τa|refine τb rfl ?_|refine ⟨⟨by kernel_rfl,by kernel_rfl⟩,?_⟩|refine ⟨by decide,?_⟩|apply τt|apply τf)); refine aw_region ?_; (repeat((conv=>whnf);first|apply ω0|apply ω2|refine τ3 rfl ?_|refine τ4 rfl ?_|refine ⟨rfl,?_⟩|apply τa|refine τb rfl ?_|refine ⟨⟨by kernel_rfl,by kernel_rfl⟩,?_⟩|refine ⟨by decide,?_⟩|apply τt|apply τf)))
  refine aw_freeze (n := 9) (nx := nx + 1) (nn := 1) (pm := []) (bx := []) (L := [(0, cnds l), (3, arrP x), (4, boolA false)]) (df := some []) [((0, nx), .c [u64 (x 0), u64 (x 1), u64 (x 2), u64 (x 3), u64 (x 4), u64 (x 5)])] rfl rfl rfl (List.Perm.refl _) (List.Sublist.refl _) ⟨Frz.refl _, Frz.bp (.head _) rfl, Frz.refl _, trivial⟩ ?_
  (repeat((conv=>whnf);first|apply ω0|apply ω1|apply ω2|refine τ3 rfl ?_|refine τ4 rfl ?_|refine ⟨rfl,?_⟩|apply τa|refine τb rfl ?_|refine ⟨⟨by kernel_rfl,by kernel_rfl⟩,?_⟩|refine ⟨by decide,?_⟩|apply τt|apply τf))
  refine aop_tells rfl rfl hcn ⟨AVle.refl _, AVle.refl _, trivial⟩ fun nx2 => ?_
  cases b
  · (repeat((conv=>whnf);first|apply ω0|apply ω1|apply ω2|refine τ3 rfl ?_|refine τ4 rfl ?_|refine ⟨rfl,?_⟩|apply τa|refine τb rfl ?_|refine ⟨⟨by kernel_rfl,by kernel_rfl⟩,?_⟩|refine ⟨by decide,?_⟩|apply τt|apply τf))
    exact ret_tells rfl (AVle.refl _)
  · (repeat((conv=>whnf);first|apply ω0|apply ω1|apply ω2|refine τ3 rfl ?_|refine τ4 rfl ?_|refine ⟨rfl,?_⟩|apply τa|refine τb rfl ?_|refine ⟨⟨by kernel_rfl,by kernel_rfl⟩,?_⟩|refine ⟨by decide,?_⟩|apply τt|apply τf))
    exact ret_tells rfl (AVle.refl _)
theorem let_spec (x : Nat → Nat) (hx : ∀ i, x i < 18446744073709551616) (r : Rul) (hl : r.conds.length ≤ 1000000000) (hc : ∀ c ∈ r.conds, c.ok) : Tells Tryz.prog 45 [rulA r, arrP x] (boolA (letB x r)) := by
  have ha := all_spec x hx r.conds hl hc
  unfold letB
  generalize r.conds.all (hB x) = b at ha
  refine tells_of_aw Tryz.func45 rfl rfl fun nx => ?_
  (repeat((conv=>whnf);first|apply ω0|apply ω1|apply ω2|refine τ3 rfl ?_|refine τ4 rfl ?_|refine ⟨rfl,?_⟩|apply τa|refine τb rfl ?_|refine ⟨⟨by kernel_rfl,by kernel_rfl⟩,?_⟩|refine ⟨by decide,?_⟩|apply τt|apply τf))
  refine aop_tells rfl rfl ha ⟨AVle.refl _, AVle.refl _, trivial⟩ fun nx2 => ?_
  cases b
  · (repeat((conv=>whnf);first|apply ω0|apply ω1|apply ω2|refine τ3 rfl ?_|refine τ4 rfl ?_|refine ⟨rfl,?_⟩|apply τa|refine τb rfl ?_|refine ⟨⟨by kernel_rfl,by kernel_rfl⟩,?_⟩|refine ⟨by decide,?_⟩|apply τt|apply τf))
    exact ret_tells rfl (AVle.refl _)
  · (repeat((conv=>whnf);first|apply ω0|apply ω1|apply ω2|refine τ3 rfl ?_|refine τ4 rfl ?_|refine ⟨rfl,?_⟩|apply τa|refine τb rfl ?_|refine ⟨⟨by kernel_rfl,by kernel_rfl⟩,?_⟩|refine ⟨by decide,?_⟩|apply τt|apply τf))
    exact ret_tells rfl (AVle.refl _)
theorem find_first {l : List Rul} {q : Rul → Bool} {i : Nat} (hi : i < l.length) (h : ∀ j, j < i → q (l.getD j rul0) = false) (hq : q (l.getD i rul0) = true) : l.find? q = some (l.getD i rul0) := by
  have e : l.getD i rul0 = l[i] := by simp [List.getD, hi]
  rw [e] at hq ⊢
  rw [List.find?_eq_some_iff_getElem]
  refine ⟨hq, i, hi, rfl, fun j hj => ?_⟩
  have := h j hj
  rw [show l.getD j rul0 = l[j] by simp [List.getD, show j < l.length by omega]] at this
  rw [this]; rfl
def decP (p : Pol) (nm : ByteArray) (x : Nat → Nat) : A2 := match p.rules.find? (fun r => kS r.name nm && letB x r) with
  | some r => r.act
  | none => p.dflt
set_option maxHeartbeats 4000000 in
theorem first_dec (p : Pol) (nm : ByteArray) (x : Nat → Nat) (hl : p.rules.length ≤ 1000000) (hp : ∀ r ∈ p.rules, Tells Tryz.prog 45 [rulA r, arrP x] (boolA (letB x r))) : Tells Tryz.prog 44 [polA p, strA nm, .fn (.func 45) [] [arrP x]] (actP (decP p nm x)) := by
  obtain ⟨⟨k, n⟩, x32, rs⟩ := p
  dsimp only at hl hp
  refine tells_of_aw Tryz.func44 rfl rfl fun nx => ?_
  (repeat((conv=>whnf);first|apply ω0|apply ω1|apply ω2|refine τ3 rfl ?_|refine τ4 rfl ?_|refine ⟨rfl,?_⟩|apply τa|refine τb rfl ?_|refine ⟨⟨by kernel_rfl,by kernel_rfl⟩,?_⟩|refine ⟨by decide,?_⟩|apply τt|apply τf))
  refine aw_scope ?_
  (repeat((conv=>whnf);first|apply ω0|apply ω1|apply ω2|refine τ3 rfl ?_|refine τ4 rfl ?_|refine ⟨rfl,?_⟩|apply τa|refine τb rfl ?_|refine ⟨⟨by kernel_rfl,by kernel_rfl⟩,?_⟩|refine ⟨by decide,?_⟩|apply τt|apply τf))
  refine aw_loop (fun y : Nat × Nat => mk 30 [(1, strA nm), (2, .fn (.func 45) [] [arrP x]), (3, .bp (0, nx) 0), (6, .bp (1, nx + 1) 0), (10, ruls rs), (11, int rs.length), (12, int y.1)] ⟨[((1, nx + 1), .c [int 0, int 0]), ((0, nx), .c [int k, int n, boolA x32, ruls rs])], [], y.2, 2⟩) (fun y => y.1 ≤ rs.length ∧ ∀ j, j < y.1 → (kS (rs.getD j rul0).name nm && letB x (rs.getD j rul0)) = false) (fun y => rs.length - y.1) ?_ ?_
  · exact ⟨(0, nx + 2), ⟨Nat.zero_le _, fun j h => absurd h (Nat.not_lt_zero _)⟩, ele_tell (pm := []) (bx := [((1, nx + 1), .c [int 0, int 0]), ((0, nx), .c [int k, int n, boolA x32, ruls rs])]) _ _ rfl rfl (List.Sublist.refl _) (List.Sublist.refl _) (BxLe.refl _) trivial ⟨AVle.refl _, AVle.refl _, AVle.refl _, AVle.refl _, AVle.refl _, AVle.refl _, AVle.refl _, trivial⟩⟩
  · rintro ⟨i, nx1⟩ ⟨h1, h2⟩
    dsimp only at h1 h2
    (repeat((conv=>whnf);first|apply ω0|apply ω1|apply ω2|refine τ3 rfl ?_|refine τ4 rfl ?_|refine ⟨rfl,?_⟩|apply τa|refine τb rfl ?_|refine ⟨⟨by kernel_rfl,by kernel_rfl⟩,?_⟩|refine ⟨by decide,?_⟩|apply τt|apply τf))
    intro c g1; cases c
    · have g1 := not_of g1
      try dsimp only at g1
      have hi : i = rs.length := by omega
      subst hi
      have hd : decP ⟨(k, n), x32, rs⟩ nm x = (k, n) := by
        unfold decP
        rw [List.find?_eq_none.2 fun r hr => ?_]
        obtain ⟨j, hj, rfl⟩ := List.mem_iff_getElem.1 hr
        have := h2 j hj
        rw [show rs.getD j rul0 = rs[j] by simp [List.getD, hj]] at this
        rw [this]; decide
      (repeat((conv=>whnf);first|apply ω0|apply ω1|apply ω2|refine τ3 rfl ?_|refine τ4 rfl ?_|refine ⟨rfl,?_⟩|apply τa|refine τb rfl ?_|refine ⟨⟨by kernel_rfl,by kernel_rfl⟩,?_⟩|refine ⟨by decide,?_⟩|apply τt|apply τf))
      exact ret_tells_all rfl ⟨rfl, trivial⟩ (AVle.of_eq (by rw [hd]; rfl))
    · have g1 := yes_of g1
      try dsimp only at g1
      have hi : i < rs.length := by omega
      have hlet := hp (rs.getD i rul0) (by simp [List.getD, hi])
      generalize hr : rs.getD i rul0 = r at hlet
      (repeat((conv=>whnf);first|apply ω0|apply ω1|apply ω2|refine τ3 rfl ?_|refine τ4 rfl ?_|refine ⟨rfl,?_⟩|apply τa|refine τb rfl ?_|refine ⟨⟨by kernel_rfl,by kernel_rfl⟩,?_⟩|refine ⟨by decide,?_⟩|apply τt|apply τf))
      refine ⟨⟨by first | omega | (dsimp only; omega), by first | omega | (dsimp only; omega)⟩, splitO_eq (b := .rp [strA r.name, int r.act.1, int r.act.2, cnds r.conds]) (by rw [← hr]; rfl) ?_⟩
      (repeat((conv=>whnf);first|apply ω0|apply ω1|apply ω2|refine τ3 rfl ?_|refine τ4 rfl ?_|refine ⟨rfl,?_⟩|apply τa|refine τb rfl ?_|refine ⟨⟨by kernel_rfl,by kernel_rfl⟩,?_⟩|refine ⟨by decide,?_⟩|apply τt|apply τf))
      intro c hc
      have hc2 : kS r.name nm = !c := by rw [show c = (r.name.toList != nm.toList) from hc]; unfold kS; rw [bne, Bool.not_not]
      clear hc
      cases c
      · (repeat((conv=>whnf);first|apply ω0|apply ω1|apply ω2|refine τ3 rfl ?_|refine τ4 rfl ?_|refine ⟨rfl,?_⟩|apply τa|refine τb rfl ?_|refine ⟨⟨by kernel_rfl,by kernel_rfl⟩,?_⟩|refine ⟨by decide,?_⟩|apply τt|apply τf))
        refine splitO_eq (b := rulA r) rfl ?_
        (repeat((conv=>whnf);first|apply ω0|apply ω1|apply ω2|refine τ3 rfl ?_|refine τ4 rfl ?_|refine ⟨rfl,?_⟩|apply τa|refine τb rfl ?_|refine ⟨⟨by kernel_rfl,by kernel_rfl⟩,?_⟩|refine ⟨by decide,?_⟩|apply τt|apply τf))
        generalize hlb : letB x r = bb at hlet
        refine aop_tells rfl rfl hlet ⟨AVle.refl _, AVle.refl _, trivial⟩ fun nx2 => ?_
        cases bb
        · have hno : (kS r.name nm && letB x r) = false := by rw [hlb, Bool.and_false]
          (repeat((conv=>whnf);first|apply ω0|apply ω1|apply ω2|refine τ3 rfl ?_|refine τ4 rfl ?_|refine ⟨rfl,?_⟩|apply τa|refine τb rfl ?_|refine ⟨⟨by kernel_rfl,by kernel_rfl⟩,?_⟩|refine ⟨by decide,?_⟩|apply τt|apply τf))
          exact back (i + 1, nx2) ⟨hi, fun j hj => by dsimp only at hj; rcases Nat.lt_or_ge j i with q | q; exact h2 j q; rw [show j = i by omega, hr]; exact hno⟩ (by dsimp only; omega) (ele_tell (pm := []) (bx := [((1, nx + 1), .c [int 0, int 0]), ((0, nx), .c [int k, int n, boolA x32, ruls rs])]) _ _ rfl rfl (.cons _ (List.Sublist.refl _)) (List.Sublist.refl _) (BxLe.refl _) trivial ⟨AVle.refl _, AVle.refl _, AVle.refl _, AVle.refl _, AVle.refl _, AVle.refl _, le_int (wrap_succ (by first | omega | (dsimp only; omega))), trivial⟩)
        · have hd : decP ⟨(k, n), x32, rs⟩ nm x = r.act := by
            unfold decP
            rw [find_first hi h2 (by rw [hr, hc2, hlb]; rfl), hr]
          (repeat((conv=>whnf);first|apply ω0|apply ω1|apply ω2|refine τ3 rfl ?_|refine τ4 rfl ?_|refine ⟨rfl,?_⟩|apply τa|refine τb rfl ?_|refine ⟨⟨by kernel_rfl,by kernel_rfl⟩,?_⟩|refine ⟨by decide,?_⟩|apply τt|apply τf))
          exact ret_tells_all rfl ⟨rfl, trivial⟩ (AVle.of_eq (by rw [hd]; rfl))
      · have hno : (kS r.name nm && letB x r) = false := by rw [hc2]; rfl
        (repeat((conv=>whnf);first|apply ω0|apply ω1|apply ω2|refine τ3 rfl ?_|refine τ4 rfl ?_|refine ⟨rfl,?_⟩|apply τa|refine τb rfl ?_|refine ⟨⟨by kernel_rfl,by kernel_rfl⟩,?_⟩|refine ⟨by decide,?_⟩|apply τt|apply τf))
        exact back (i + 1, nx1 + 1) ⟨hi, fun j hj => by dsimp only at hj; rcases Nat.lt_or_ge j i with q | q; exact h2 j q; rw [show j = i by omega, hr]; exact hno⟩ (by dsimp only; omega) (ele_tell (pm := []) (bx := [((1, nx + 1), .c [int 0, int 0]), ((0, nx), .c [int k, int n, boolA x32, ruls rs])]) _ _ rfl rfl (.cons _ (List.Sublist.refl _)) (List.Sublist.refl _) (BxLe.refl _) trivial ⟨AVle.refl _, AVle.refl _, AVle.refl _, AVle.refl _, AVle.refl _, AVle.refl _, le_int (wrap_succ (by first | omega | (dsimp only; omega))), trivial⟩)
theorem decide_spec (p : Pol) (nm : ByteArray) (x : Nat → Nat) (hl : p.rules.length ≤ 1000000) (hp : ∀ r ∈ p.rules, Tells Tryz.prog 45 [rulA r, arrP x] (boolA (letB x r))) : Tells Tryz.prog 12 [polA p, strA nm, arrA x] (actP (decP p nm x)) := by
  have hf := first_dec p nm x hl hp
  generalize decP p nm x = a at hf
  obtain ⟨k', n'⟩ := a
  obtain ⟨⟨k, n⟩, x32, rs⟩ := p
  refine tells_of_aw Tryz.func12 rfl rfl fun nx => ?_
  ((repeat((conv=>whnf);first|apply ω0|apply ω2|refine τ3 rfl ?_|refine τ4 rfl ?_|refine ⟨rfl,?_⟩|apply τa|refine τb rfl ?_|refine ⟨⟨by kernel_rfl,by kernel_rfl⟩,?_⟩|refine ⟨by decide,?_⟩|apply τt|apply τf)); refine aw_region ?_; (repeat((conv=>whnf);first|apply ω0|apply ω2|refine τ3 rfl ?_|refine τ4 rfl ?_|refine ⟨rfl,?_⟩|apply τa|refine τb rfl ?_|refine ⟨⟨by kernel_rfl,by kernel_rfl⟩,?_⟩|refine ⟨by decide,?_⟩|apply τt|apply τf)))
  refine aw_freeze (n := 11) (nx := nx + 3) (nn := 3) (pm := []) (bx := [((2, nx + 2), .c [int 0, int 0]), ((0, nx), .c [int k, int n, boolA x32, ruls rs])]) (L := [(1, strA nm), (3, .bp (0, nx) 0), (5, arrP x), (6, .bp (2, nx + 2) 0)]) (df := some []) [((1, nx + 1), .c [u64 (x 0), u64 (x 1), u64 (x 2), u64 (x 3), u64 (x 4), u64 (x 5)])] rfl rfl rfl (List.Perm.swap _ _ _) (List.Sublist.refl _) ⟨Frz.refl _, Frz.refl _, Frz.bp (.head _) rfl, Frz.refl _, trivial⟩ ?_
  (repeat((conv=>whnf);first|apply ω0|apply ω1|apply ω2|refine τ3 rfl ?_|refine τ4 rfl ?_|refine ⟨rfl,?_⟩|apply τa|refine τb rfl ?_|refine ⟨⟨by kernel_rfl,by kernel_rfl⟩,?_⟩|refine ⟨by decide,?_⟩|apply τt|apply τf))
  refine aop_tells rfl rfl hf ⟨AVle.refl _, AVle.refl _, AVle.refl _, trivial⟩ fun nx2 => ?_
  (repeat((conv=>whnf);first|apply ω0|apply ω1|apply ω2|refine τ3 rfl ?_|refine τ4 rfl ?_|refine ⟨rfl,?_⟩|apply τa|refine τb rfl ?_|refine ⟨⟨by kernel_rfl,by kernel_rfl⟩,?_⟩|refine ⟨by decide,?_⟩|apply τt|apply τf))
  exact ret_tells_all rfl ⟨rfl, trivial⟩ (AVle.refl _)
def blindP (p : Pol) (nm : ByteArray) : A2 := match p.rules.find? (fun r => kS r.name nm) with
  | some r => if r.conds.length = 0 then r.act else p.dflt
  | none => p.dflt
def metB (s : Nat) (m : Bool) : List (Vl.Id × Own) := [((0, s), .c [boolA m])]
theorem blind1_spec (s : Nat) (m : Bool) (r : Rul) (nx : Nat) : ECall Tryz.prog 48 [rulA r, .bp (0, s) 0] ⟨metB s m, [], nx, 1⟩ fun v h' => v = boolA (!m && decide (r.conds.length = 0)) ∧ ∃ nx', h' = ⟨metB s true, [], nx', 1⟩ := by
  refine ECall.wk (ecall_of_aw Tryz.func48 rfl rfl ?_)
  cases m
  · (repeat((conv=>whnf);first|apply ω0|apply ω1|apply ω2|refine τ3 rfl ?_|refine τ4 rfl ?_|refine ⟨rfl,?_⟩|apply τa|refine τb rfl ?_|refine ⟨⟨by kernel_rfl,by kernel_rfl⟩,?_⟩|refine ⟨by decide,?_⟩|apply τt|apply τf))
    intro c hc
    have hc2 : c = decide (r.conds.length = 0) := hc.trans (by rw [Bool.eq_iff_iff]; simp)
    clear hc
    rw [← hc2]
    clear hc2
    (repeat((conv=>whnf);first|apply ω0|apply ω1|apply ω2|refine τ3 rfl ?_|refine τ4 rfl ?_|refine ⟨rfl,?_⟩|apply τa|refine τb rfl ?_|refine ⟨⟨by kernel_rfl,by kernel_rfl⟩,?_⟩|refine ⟨by decide,?_⟩|apply τt|apply τf))
    refine ret_all rfl trivial ⟨boolA c, ⟨metB s true, [], nx + 1, 1⟩, AVle.refl _, ?_, by cases c <;> rfl, nx + 1, rfl⟩
    exact hle_tell (metB s true) [] rfl (.cons _ (List.Sublist.refl _)) (List.Sublist.refl _) (BxLe.refl _) (PmEq.refl _)
  · (repeat((conv=>whnf);first|apply ω0|apply ω1|apply ω2|refine τ3 rfl ?_|refine τ4 rfl ?_|refine ⟨rfl,?_⟩|apply τa|refine τb rfl ?_|refine ⟨⟨by kernel_rfl,by kernel_rfl⟩,?_⟩|refine ⟨by decide,?_⟩|apply τt|apply τf))
    refine ret_all rfl trivial ⟨boolA false, ⟨metB s true, [], nx + 1, 1⟩, AVle.refl _, ?_, rfl, nx + 1, rfl⟩
    exact hle_tell (metB s true) [] rfl (.cons _ (List.Sublist.refl _)) (List.Sublist.refl _) (BxLe.refl _) (PmEq.refl _)
end Go.Proofs.W

namespace Go.Proofs.W
open Go.Vl
set_option maxRecDepth 100000

set_option maxHeartbeats 4000000 in
theorem first_blind (p : Pol) (nm : ByteArray) (hl : p.rules.length ≤ 1000000) (s nx : Nat) : ECall Tryz.prog 44 [polA p, strA nm, .fn (.func 48) [] [.bp (0, s) 0]] ⟨metB s false, [], nx, 1⟩ fun v h' => v = actP (blindP p nm) ∧ ∃ m nx', h' = ⟨metB s m, [], nx', 1⟩ := by
  obtain ⟨⟨k, n⟩, x32, rs⟩ := p
  dsimp only at hl
  refine ECall.wk (ecall_of_aw Tryz.func44 rfl rfl ?_)
  (repeat((conv=>whnf);first|apply ω0|apply ω1|apply ω2|refine τ3 rfl ?_|refine τ4 rfl ?_|refine ⟨rfl,?_⟩|apply τa|refine τb rfl ?_|refine ⟨⟨by kernel_rfl,by kernel_rfl⟩,?_⟩|refine ⟨by decide,?_⟩|apply τt|apply τf))
  refine aw_scope ?_
  (repeat((conv=>whnf);first|apply ω0|apply ω1|apply ω2|refine τ3 rfl ?_|refine τ4 rfl ?_|refine ⟨rfl,?_⟩|apply τa|refine τb rfl ?_|refine ⟨⟨by kernel_rfl,by kernel_rfl⟩,?_⟩|refine ⟨by decide,?_⟩|apply τt|apply τf))
  refine aw_loop (fun y : Nat × Bool × Nat => mk 30 [(1, strA nm), (2, .fn (.func 48) [] [.bp (0, s) 0]), (3, .bp (1, nx) 0), (6, .bp (2, nx + 1) 0), (10, ruls rs), (11, int rs.length), (12, int y.1)] ⟨[((2, nx + 1), .c [int 0, int 0]), ((1, nx), .c [int k, int n, boolA x32, ruls rs]), ((0, s), .c [boolA y.2.1])], [], y.2.2, 3⟩) (fun y => y.1 ≤ rs.length ∧ (y.2.1 = false → ∀ j, j < y.1 → kS (rs.getD j rul0).name nm = false) ∧ (y.2.1 = true → blindP ⟨(k, n), x32, rs⟩ nm = (k, n))) (fun y => rs.length - y.1) ?_ ?_
  · exact ⟨(0, false, nx + 2), ⟨Nat.zero_le _, fun _ j h => absurd h (Nat.not_lt_zero _), fun h => by cases h⟩, ele_tell (pm := []) (bx := [((2, nx + 1), .c [int 0, int 0]), ((1, nx), .c [int k, int n, boolA x32, ruls rs]), ((0, s), .c [boolA false])]) _ _ rfl rfl (List.Sublist.refl _) (List.Sublist.refl _) (BxLe.refl _) trivial ⟨AVle.refl _, AVle.refl _, AVle.refl _, AVle.refl _, AVle.refl _, AVle.refl _, AVle.refl _, trivial⟩⟩
  · rintro ⟨i, m, nx1⟩ ⟨h1, h2, h3⟩
    dsimp only at h1 h2 h3
    (repeat((conv=>whnf);first|apply ω0|apply ω1|apply ω2|refine τ3 rfl ?_|refine τ4 rfl ?_|refine ⟨rfl,?_⟩|apply τa|refine τb rfl ?_|refine ⟨⟨by kernel_rfl,by kernel_rfl⟩,?_⟩|refine ⟨by decide,?_⟩|apply τt|apply τf))
    intro c g1; cases c
    · have g1 := not_of g1
      try dsimp only at g1
      have hi : i = rs.length := by omega
      subst hi
      have hd : blindP ⟨(k, n), x32, rs⟩ nm = (k, n) := by
        cases m with
        | true => exact h3 rfl
        | false =>
          unfold blindP
          rw [List.find?_eq_none.2 fun r hr => ?_]
          obtain ⟨j, hj, rfl⟩ := List.mem_iff_getElem.1 hr
          have := h2 rfl j hj
          rw [show rs.getD j rul0 = rs[j] by simp [List.getD, hj]] at this
          rw [this]; decide
      (repeat((conv=>whnf);first|apply ω0|apply ω1|apply ω2|refine τ3 rfl ?_|refine τ4 rfl ?_|refine ⟨rfl,?_⟩|apply τa|refine τb rfl ?_|refine ⟨⟨by kernel_rfl,by kernel_rfl⟩,?_⟩|refine ⟨by decide,?_⟩|apply τt|apply τf))
      refine ret_all rfl ⟨rfl, trivial⟩ ⟨act k n, ⟨metB s m, [], nx1, 1⟩, AVle.refl _, ?_, by rw [hd]; rfl, m, nx1, rfl⟩
      exact hle_tell (metB s m) [] rfl (.cons _ (.cons _ (List.Sublist.refl _))) (List.Sublist.refl _) (BxLe.refl _) (PmEq.refl _)
    · have g1 := yes_of g1
      try dsimp only at g1
      have hi : i < rs.length := by omega
      generalize hr : rs.getD i rul0 = r
      (repeat((conv=>whnf);first|apply ω0|apply ω1|apply ω2|refine τ3 rfl ?_|refine τ4 rfl ?_|refine ⟨rfl,?_⟩|apply τa|refine τb rfl ?_|refine ⟨⟨by kernel_rfl,by kernel_rfl⟩,?_⟩|refine ⟨by decide,?_⟩|apply τt|apply τf))
      refine ⟨⟨by first | omega | (dsimp only; omega), by first | omega | (dsimp only; omega)⟩, splitO_eq (b := .rp [strA r.name, int r.act.1, int r.act.2, cnds r.conds]) (by rw [← hr]; rfl) ?_⟩
      (repeat((conv=>whnf);first|apply ω0|apply ω1|apply ω2|refine τ3 rfl ?_|refine τ4 rfl ?_|refine ⟨rfl,?_⟩|apply τa|refine τb rfl ?_|refine ⟨⟨by kernel_rfl,by kernel_rfl⟩,?_⟩|refine ⟨by decide,?_⟩|apply τt|apply τf))
      intro c hc
      have hc2 : kS r.name nm = !c := by rw [show c = (r.name.toList != nm.toList) from hc]; unfold kS; rw [bne, Bool.not_not]
      clear hc
      cases c
      · (repeat((conv=>whnf);first|apply ω0|apply ω1|apply ω2|refine τ3 rfl ?_|refine τ4 rfl ?_|refine ⟨rfl,?_⟩|apply τa|refine τb rfl ?_|refine ⟨⟨by kernel_rfl,by kernel_rfl⟩,?_⟩|refine ⟨by decide,?_⟩|apply τt|apply τf))
        refine splitO_eq (b := rulA r) rfl ?_
        (repeat((conv=>whnf);first|apply ω0|apply ω1|apply ω2|refine τ3 rfl ?_|refine τ4 rfl ?_|refine ⟨rfl,?_⟩|apply τa|refine τb rfl ?_|refine ⟨⟨by kernel_rfl,by kernel_rfl⟩,?_⟩|refine ⟨by decide,?_⟩|apply τt|apply τf))
        refine aop_callF (xs := [rulA r, .bp (0, s) 0]) (bx1 := metB s m) (pm1 := []) [((3, nx1), .c [strA r.name, int r.act.1, int r.act.2, cnds r.conds]), ((2, nx + 1), .c [int 0, int 0]), ((1, nx), .c [int k, int n, boolA x32, ruls rs])] [] 4 rfl rfl rfl rfl ⟨AVle.refl _, AVle.refl _, trivial⟩ (blind1_spec s m r (nx1 + 1)) (BxLe.refl _) (PmEq.refl _) rfl fun v h' hq => ?_
        obtain ⟨rfl, nx2, rfl⟩ := hq
        cases m with
        | true =>
          (repeat((conv=>whnf);first|apply ω0|apply ω1|apply ω2|refine τ3 rfl ?_|refine τ4 rfl ?_|refine ⟨rfl,?_⟩|apply τa|refine τb rfl ?_|refine ⟨⟨by kernel_rfl,by kernel_rfl⟩,?_⟩|refine ⟨by decide,?_⟩|apply τt|apply τf))
          exact back (i + 1, true, nx2) ⟨hi, (fun h => by cases h), fun _ => h3 rfl⟩ (by dsimp only; omega) (ele_tell (pm := []) (bx := [((2, nx + 1), .c [int 0, int 0]), ((1, nx), .c [int k, int n, boolA x32, ruls rs]), ((0, s), .c [boolA true])]) _ _ rfl rfl (.cons _ (List.Sublist.refl _)) (List.Sublist.refl _) (BxLe.refl _) trivial ⟨AVle.refl _, AVle.refl _, AVle.refl _, AVle.refl _, AVle.refl _, AVle.refl _, le_int (wrap_succ (by first | omega | (dsimp only; omega))), trivial⟩)
        | false =>
          have hfnd : rs.find? (fun r => kS r.name nm) = some r := by
            have := find_first (q := fun r => kS r.name nm) hi (h2 rfl) (by rw [hr]; exact hc2)
            rw [hr] at this
            exact this
          generalize hd0 : decide (r.conds.length = 0) = dd
          cases dd with
          | true =>
            have hd : blindP ⟨(k, n), x32, rs⟩ nm = r.act := by unfold blindP; rw [hfnd]; exact if_pos (of_decide_eq_true hd0)
            (repeat((conv=>whnf);first|apply ω0|apply ω1|apply ω2|refine τ3 rfl ?_|refine τ4 rfl ?_|refine ⟨rfl,?_⟩|apply τa|refine τb rfl ?_|refine ⟨⟨by kernel_rfl,by kernel_rfl⟩,?_⟩|refine ⟨by decide,?_⟩|apply τt|apply τf))
            refine ret_all rfl ⟨rfl, trivial⟩ ⟨actP r.act, ⟨metB s true, [], nx2, 1⟩, AVle.refl _, ?_, by rw [hd], true, nx2, rfl⟩
            exact hle_tell (metB s true) [] rfl (.cons _ (.cons _ (.cons _ (List.Sublist.refl _)))) (List.Sublist.refl _) (BxLe.refl _) (PmEq.refl _)
          | false =>
            have hd : blindP ⟨(k, n), x32, rs⟩ nm = (k, n) := by unfold blindP; rw [hfnd]; exact if_neg (of_decide_eq_false hd0)
            (repeat((conv=>whnf);first|apply ω0|apply ω1|apply ω2|refine τ3 rfl ?_|refine τ4 rfl ?_|refine ⟨rfl,?_⟩|apply τa|refine τb rfl ?_|refine ⟨⟨by kernel_rfl,by kernel_rfl⟩,?_⟩|refine ⟨by decide,?_⟩|apply τt|apply τf))
            exact back (i + 1, true, nx2) ⟨hi, (fun h => by cases h), fun _ => hd⟩ (by dsimp only; omega) (ele_tell (pm := []) (bx := [((2, nx + 1), .c [int 0, int 0]), ((1, nx), .c [int k, int n, boolA x32, ruls rs]), ((0, s), .c [boolA true])]) _ _ rfl rfl (.cons _ (List.Sublist.refl _)) (List.Sublist.refl _) (BxLe.refl _) trivial ⟨AVle.refl _, AVle.refl _, AVle.refl _, AVle.refl _, AVle.refl _, AVle.refl _, le_int (wrap_succ (by first | omega | (dsimp only; omega))), trivial⟩)
      · (repeat((conv=>whnf);first|apply ω0|apply ω1|apply ω2|refine τ3 rfl ?_|refine τ4 rfl ?_|refine ⟨rfl,?_⟩|apply τa|refine τb rfl ?_|refine ⟨⟨by kernel_rfl,by kernel_rfl⟩,?_⟩|refine ⟨by decide,?_⟩|apply τt|apply τf))
        exact back (i + 1, m, nx1 + 1) ⟨hi, fun hm j hj => by dsimp only at hj; rcases Nat.lt_or_ge j i with q | q; exact h2 hm j q; rw [show j = i by omega, hr]; exact hc2, h3⟩ (by dsimp only; omega) (ele_tell (pm := []) (bx := [((2, nx + 1), .c [int 0, int 0]), ((1, nx), .c [int k, int n, boolA x32, ruls rs]), ((0, s), .c [boolA m])]) _ _ rfl rfl (.cons _ (List.Sublist.refl _)) (List.Sublist.refl _) (BxLe.refl _) trivial ⟨AVle.refl _, AVle.refl _, AVle.refl _, AVle.refl _, AVle.refl _, AVle.refl _, le_int (wrap_succ (by first | omega | (dsimp only; omega))), trivial⟩)
theorem blind_spec (p : Pol) (nm : ByteArray) (hl : p.rules.length ≤ 1000000) : Tells Tryz.prog 14 [polA p, strA nm] (actP (blindP p nm)) := by
  have hf := first_blind p nm hl
  generalize blindP p nm = a at hf
  obtain ⟨k', n'⟩ := a
  obtain ⟨⟨k, n⟩, x32, rs⟩ := p
  refine tells_of_aw Tryz.func14 rfl rfl fun nx => ?_
  (repeat((conv=>whnf);first|apply ω0|apply ω1|apply ω2|refine τ3 rfl ?_|refine τ4 rfl ?_|refine ⟨rfl,?_⟩|apply τa|refine τb rfl ?_|refine ⟨⟨by kernel_rfl,by kernel_rfl⟩,?_⟩|refine ⟨by decide,?_⟩|apply τt|apply τf))
  refine aop_callP (xs := [polA ⟨(k, n), x32, rs⟩, strA nm, .fn (.func 48) [] [.bp (0, nx + 2) 0]]) (bx1 := [((2, nx + 2), .c [boolA false])]) (pm1 := []) [((1, nx + 1), .c [int 0, int 0]), ((0, nx), .c [int k, int n, boolA x32, ruls rs])] [] 3 rfl rfl rfl rfl ⟨AVle.refl _, AVle.refl _, AVle.fn_caps ⟨AVle.bp_nm rfl, trivial⟩, trivial⟩ (hf (nx + 2) (nx + 3)) ⟨rfl, OwnLe.refl _, trivial⟩ (PmEq.refl _) rfl fun v h' hq => ?_
  obtain ⟨rfl, m, nx2, rfl⟩ := hq
  (repeat((conv=>whnf);first|apply ω0|apply ω1|apply ω2|refine τ3 rfl ?_|refine τ4 rfl ?_|refine ⟨rfl,?_⟩|apply τa|refine τb rfl ?_|refine ⟨⟨by kernel_rfl,by kernel_rfl⟩,?_⟩|refine ⟨by decide,?_⟩|apply τt|apply τf))
  exact ret_tells_all rfl ⟨rfl, trivial⟩ (AVle.refl _)
end Go.Proofs.W

namespace Go.Proofs.W
open Go.Vl
set_option maxRecDepth 100000

theorem atO_lt {l : List TRow} {r : Rec} {i : Nat} (h : atO l r = some i) : i < l.length := by
  unfold atO at h
  cases hs : selO r.arch r.num with
  | none => rw [hs] at h; cases h
  | some a =>
    rw [hs] at h
    dsimp only at h
    split at h <;> exact idx_lt h
end Go.Proofs.W

namespace Go.Proofs.W
open Go.Vl
set_option maxRecDepth 100000

def actionP (p : Pol) (l : List TRow) (r : Rec) : A2 := if (!(ofI l r).some || (decide ((ofI l r).abi = 1) && !p.x32)) = true then (1, 0) else if (ofI l r).name.size = 0 then p.dflt else if (ofI l r).muxed = true then blindP p (ofI l r).name else decP p (ofI l r).name (argI (ofI l r).abi.toNat r)
def polOk (p : Pol) : Prop := p.rules.length ≤ 1000000 ∧ ∀ r ∈ p.rules, r.conds.length ≤ 1000000 ∧ ∀ c ∈ r.conds, c.ok
theorem argI_lt {r : Rec} (h : r.ok) (a k : Nat) : argI a r k < 18446744073709551616 := by
  have := arg_lt h k
  unfold argI; split <;> omega
set_option maxHeartbeats 4000000 in
theorem action_law (p : Pol) (l : List TRow) (r : Rec) (hp : polOk p) (hl : l.length ≤ 1000000) (hr : r.ok) : Tells Tryz.prog 53 [polA p, trows l, recA r] (actP (actionP p l r)) := by
  have hof := muxof_spec l r hr (by omega)
  have hab := ofI_abi (l := l) (r := r)
  have hbl := blind_spec p (ofI l r).name hp.1
  have hdc := decide_spec p (ofI l r).name (argI (ofI l r).abi.toNat r) hp.1 (fun q hq => let_spec _ (argI_lt hr _) q (by have := (hp.2 q hq).1; omega) (hp.2 q hq).2)
  unfold actionP
  generalize ofI l r = c at hof hab hbl hdc
  obtain ⟨sm, ab, nm, mx⟩ := c
  dsimp only at hab hbl hdc
  generalize blindP p nm = bl at hbl
  generalize decP p nm (argI ab.toNat r) = dc at hdc
  obtain ⟨⟨k, n⟩, x32, rs⟩ := p
  dsimp only
  generalize hA : (if (!sm || (decide (ab = 1) && !x32)) = true then ((1, 0) : A2) else if nm.size = 0 then (k, n) else if mx = true then bl else dc) = A
  obtain ⟨b1, b2⟩ := bl
  obtain ⟨d1, d2⟩ := dc
  refine tells_of_aw Tryz.func53 rfl rfl fun nx => ?_
  (repeat((conv=>whnf);first|apply ω0|apply ω1|apply ω2|refine τ3 rfl ?_|refine τ4 rfl ?_|refine ⟨rfl,?_⟩|apply τa|refine τb rfl ?_|refine ⟨⟨by kernel_rfl,by kernel_rfl⟩,?_⟩|refine ⟨by decide,?_⟩|apply τt|apply τf))
  refine splitO_eq (b := recA r) rfl ?_
  (repeat((conv=>whnf);first|apply ω0|apply ω1|apply ω2|refine τ3 rfl ?_|refine τ4 rfl ?_|refine ⟨rfl,?_⟩|apply τa|refine τb rfl ?_|refine ⟨⟨by kernel_rfl,by kernel_rfl⟩,?_⟩|refine ⟨by decide,?_⟩|apply τt|apply τf))
  refine aop_tells rfl rfl hof ⟨AVle.refl _, AVle.refl _, trivial⟩ fun nx2 => ?_
  cases sm with
  | false =>
    rw [if_pos (by rfl)] at hA
    (repeat((conv=>whnf);first|apply ω0|apply ω1|apply ω2|refine τ3 rfl ?_|refine τ4 rfl ?_|refine ⟨rfl,?_⟩|apply τa|refine τb rfl ?_|refine ⟨⟨by kernel_rfl,by kernel_rfl⟩,?_⟩|refine ⟨by decide,?_⟩|apply τt|apply τf))
    exact ret_tells_all rfl ⟨rfl, trivial⟩ (AVle.of_eq (by rw [← hA]; rfl))
  | true =>
    (repeat((conv=>whnf);first|apply ω0|apply ω2|refine τ3 rfl ?_|refine τ4 rfl ?_|refine ⟨rfl,?_⟩|apply τa|refine τb rfl ?_|refine ⟨⟨by kernel_rfl,by kernel_rfl⟩,?_⟩|refine ⟨by decide,?_⟩|apply τt|apply τf))
    refine aw_mid (fun y : Nat => mk 47 [(3, .bp (0, nx) 0), (5, .bp (1, nx + 1) 0), (6, .bp (2, nx + 2) 0), (7, .bp (3, nx2) 0), (1, trows l), (11, boolA (decide (ab = 1) && !x32))] ⟨[((3, nx2), .c [boolA true, int ab, strA nm, boolA mx]), ((2, nx + 2), .c [int 0, int 0]), ((1, nx + 1), .c (recC r)), ((0, nx), .c [int k, int n, boolA x32, ruls rs])], [], y, 4⟩) (fun _ => True) ?_ ?_
    · refine aw_region ?_
      (repeat((conv=>whnf);first|apply ω0|apply ω1|apply ω2|refine τ3 rfl ?_|refine τ4 rfl ?_|refine ⟨rfl,?_⟩|apply τa|refine τb rfl ?_|refine ⟨⟨by kernel_rfl,by kernel_rfl⟩,?_⟩|refine ⟨by decide,?_⟩|apply τt|apply τf))
      intro c hc
      have hc2 : c = decide (ab = 1) := hc.trans (by rw [Bool.eq_iff_iff]; simp)
      clear hc
      cases c
      · (repeat((conv=>whnf);first|apply ω0|apply ω1|apply ω2|refine τ3 rfl ?_|refine τ4 rfl ?_|refine ⟨rfl,?_⟩|apply τa|refine τb rfl ?_|refine ⟨⟨by kernel_rfl,by kernel_rfl⟩,?_⟩|refine ⟨by decide,?_⟩|apply τt|apply τf))
        exact ⟨nx2 + 1, trivial, ele_tell (pm := []) (bx := [((3, nx2), .c [boolA true, int ab, strA nm, boolA mx]), ((2, nx + 2), .c [int 0, int 0]), ((1, nx + 1), .c (recC r)), ((0, nx), .c [int k, int n, boolA x32, ruls rs])]) _ _ rfl rfl (List.Sublist.refl _) (List.Sublist.refl _) (BxLe.refl _) trivial ⟨AVle.refl _, AVle.refl _, AVle.refl _, AVle.refl _, AVle.refl _, AVle.of_eq (by rw [← hc2]; rfl), trivial⟩⟩
      · cases x32
        · (repeat((conv=>whnf);first|apply ω0|apply ω1|apply ω2|refine τ3 rfl ?_|refine τ4 rfl ?_|refine ⟨rfl,?_⟩|apply τa|refine τb rfl ?_|refine ⟨⟨by kernel_rfl,by kernel_rfl⟩,?_⟩|refine ⟨by decide,?_⟩|apply τt|apply τf))
          exact ⟨nx2 + 1, trivial, ele_tell (pm := []) (bx := [((3, nx2), .c [boolA true, int ab, strA nm, boolA mx]), ((2, nx + 2), .c [int 0, int 0]), ((1, nx + 1), .c (recC r)), ((0, nx), .c [int k, int n, boolA false, ruls rs])]) _ _ rfl rfl (List.Sublist.refl _) (List.Sublist.refl _) (BxLe.refl _) trivial ⟨AVle.refl _, AVle.refl _, AVle.refl _, AVle.refl _, AVle.refl _, AVle.of_eq (by rw [← hc2]; rfl), trivial⟩⟩
        · (repeat((conv=>whnf);first|apply ω0|apply ω1|apply ω2|refine τ3 rfl ?_|refine τ4 rfl ?_|refine ⟨rfl,?_⟩|apply τa|refine τb rfl ?_|refine ⟨⟨by kernel_rfl,by kernel_rfl⟩,?_⟩|refine ⟨by decide,?_⟩|apply τt|apply τf))
          exact ⟨nx2 + 1, trivial, ele_tell (pm := []) (bx := [((3, nx2), .c [boolA true, int ab, strA nm, boolA mx]), ((2, nx + 2), .c [int 0, int 0]), ((1, nx + 1), .c (recC r)), ((0, nx), .c [int k, int n, boolA true, ruls rs])]) _ _ rfl rfl (List.Sublist.refl _) (List.Sublist.refl _) (BxLe.refl _) trivial ⟨AVle.refl _, AVle.refl _, AVle.refl _, AVle.refl _, AVle.refl _, AVle.of_eq (by rw [← hc2]; rfl), trivial⟩⟩
    · rintro nx3 -
      generalize hb : (decide (ab = 1) && !x32) = bb at hA
      cases bb with
      | true =>
        rw [if_pos (by rfl)] at hA
        (repeat((conv=>whnf);first|apply ω0|apply ω1|apply ω2|refine τ3 rfl ?_|refine τ4 rfl ?_|refine ⟨rfl,?_⟩|apply τa|refine τb rfl ?_|refine ⟨⟨by kernel_rfl,by kernel_rfl⟩,?_⟩|refine ⟨by decide,?_⟩|apply τt|apply τf))
        exact ret_tells_all rfl ⟨rfl, trivial⟩ (AVle.of_eq (by rw [← hA]; rfl))
      | false =>
        rw [if_neg (by decide)] at hA
        (repeat((conv=>whnf);first|apply ω0|apply ω1|apply ω2|refine τ3 rfl ?_|refine τ4 rfl ?_|refine ⟨rfl,?_⟩|apply τa|refine τb rfl ?_|refine ⟨⟨by kernel_rfl,by kernel_rfl⟩,?_⟩|refine ⟨by decide,?_⟩|apply τt|apply τf))
        intro c hc
        have hc2 : c = decide (nm.size = 0) := hc.trans size0
        clear hc
        cases c
        · have h0 : ¬ nm.size = 0 := of_decide_eq_false hc2.symm
          rw [if_neg h0] at hA
          obtain ⟨ha5, hab2⟩ := hab h0
          have har := abiargs_spec ab.toNat ha5 r hr
          rw [← hab2] at har
          cases mx with
          | true =>
            rw [if_pos rfl] at hA
            (repeat((conv=>whnf);first|apply ω0|apply ω1|apply ω2|refine τ3 rfl ?_|refine τ4 rfl ?_|refine ⟨rfl,?_⟩|apply τa|refine τb rfl ?_|refine ⟨⟨by kernel_rfl,by kernel_rfl⟩,?_⟩|refine ⟨by decide,?_⟩|apply τt|apply τf))
            refine splitO_eq (b := strA nm) rfl ?_
            (repeat((conv=>whnf);first|apply ω0|apply ω1|apply ω2|refine τ3 rfl ?_|refine τ4 rfl ?_|refine ⟨rfl,?_⟩|apply τa|refine τb rfl ?_|refine ⟨⟨by kernel_rfl,by kernel_rfl⟩,?_⟩|refine ⟨by decide,?_⟩|apply τt|apply τf))
            refine aop_tells rfl rfl hbl ⟨AVle.refl _, AVle.refl _, trivial⟩ fun nx4 => ?_
            (repeat((conv=>whnf);first|apply ω0|apply ω1|apply ω2|refine τ3 rfl ?_|refine τ4 rfl ?_|refine ⟨rfl,?_⟩|apply τa|refine τb rfl ?_|refine ⟨⟨by kernel_rfl,by kernel_rfl⟩,?_⟩|refine ⟨by decide,?_⟩|apply τt|apply τf))
            exact ret_tells_all rfl ⟨rfl, trivial⟩ (AVle.of_eq (by rw [← hA]; rfl))
          | false =>
            rw [if_neg (by decide)] at hA
            (repeat((conv=>whnf);first|apply ω0|apply ω1|apply ω2|refine τ3 rfl ?_|refine τ4 rfl ?_|refine ⟨rfl,?_⟩|apply τa|refine τb rfl ?_|refine ⟨⟨by kernel_rfl,by kernel_rfl⟩,?_⟩|refine ⟨by decide,?_⟩|apply τt|apply τf))
            refine aw_mixN 8 _ (fun _ => false) (fun i => match i with | 6 => true | 7 => true | _ => false) [0, 1, 2, 3, 4, 5, 6, 7] (by kernel_rfl) (by kernel_rfl) (HB.refl _) ?_
            (repeat((conv=>whnf);first|apply ω0|apply ω1|apply ω2|refine τ3 rfl ?_|refine τ4 rfl ?_|refine ⟨rfl,?_⟩|apply τa|refine τb rfl ?_|refine ⟨⟨by kernel_rfl,by kernel_rfl⟩,?_⟩|refine ⟨by decide,?_⟩|apply τt|apply τf))
            refine ⟨_, pure_tells rfl rfl rfl har ⟨AVle.refl _, AVle.refl _, trivial⟩ noid_arr, ?_⟩
            (repeat((conv=>whnf);first|apply ω0|apply ω1|apply ω2|refine τ3 rfl ?_|refine τ4 rfl ?_|refine ⟨rfl,?_⟩|apply τa|refine τb rfl ?_|refine ⟨⟨by kernel_rfl,by kernel_rfl⟩,?_⟩|refine ⟨by decide,?_⟩|apply τt|apply τf))
            refine ⟨_, pure_tells rfl rfl rfl hdc ⟨AVle.refl _, AVle.refl _, AVle.refl _, trivial⟩ (NoId.ag (by intro y hy; simp at hy; rcases hy with rfl | rfl <;> exact NoId.v _)), ?_⟩
            (repeat((conv=>whnf);first|apply ω0|apply ω1|apply ω2|refine τ3 rfl ?_|refine τ4 rfl ?_|refine ⟨rfl,?_⟩|apply τa|refine τb rfl ?_|refine ⟨⟨by kernel_rfl,by kernel_rfl⟩,?_⟩|refine ⟨by decide,?_⟩|apply τt|apply τf))
            exact ret_tells_all rfl ⟨rfl, trivial⟩ (AVle.of_eq (by rw [← hA]; rfl))
        · have h0 : nm.size = 0 := of_decide_eq_true hc2.symm
          rw [if_pos h0] at hA
          (repeat((conv=>whnf);first|apply ω0|apply ω1|apply ω2|refine τ3 rfl ?_|refine τ4 rfl ?_|refine ⟨rfl,?_⟩|apply τa|refine τb rfl ?_|refine ⟨⟨by kernel_rfl,by kernel_rfl⟩,?_⟩|refine ⟨by decide,?_⟩|apply τt|apply τf))
          exact ret_tells_all rfl ⟨rfl, trivial⟩ (AVle.of_eq (by rw [← hA]; rfl))
def codeA (a : A2) : Nat := kb (a.1.toNat - 1) + a.2.toNat
theorem right_parts {k n : Int} (h : right9 k n = true) : ∃ k' n' : Nat, k = (k' + 1 : Nat) ∧ n = (n' : Nat) ∧ k' < 8 ∧ n' ≤ km k' := by
  unfold right9 at h
  simp only [Bool.and_eq_true, decide_eq_true_eq] at h
  obtain ⟨⟨⟨h1, h2⟩, h3⟩, h4⟩ := h
  refine ⟨(k - 1).toNat, n.toNat, by omega, by omega, by omega, ?_⟩
  unfold most9 at h4
  unfold km
  split at h4
  · rw [if_pos (by omega)]; omega
  · split at h4
    · rw [if_neg (by omega), if_pos (by omega)]; omega
    · rw [if_neg (by omega), if_neg (by omega)]; omega
theorem code_of (a : A2) (h : right9 a.1 a.2 = true) : Tells Tryz.prog 52 [actP a] (.tup [u32 (codeA a : Nat), int 0]) := by
  obtain ⟨k, n⟩ := a
  obtain ⟨k', n', rfl, rfl, h1, h2⟩ := right_parts h
  have := code_spec9 k' n' h1 h2
  unfold codeA
  dsimp only
  rw [show ((k' + 1 : Nat) : Int).toNat - 1 = k' by omega, show ((n' : Nat) : Int).toNat = n' by omega]
  exact this
theorem codeA_lt {a : A2} (h : right9 a.1 a.2 = true) : codeA a < 4294967296 := by
  obtain ⟨k, n⟩ := a
  obtain ⟨k', n', rfl, rfl, h1, h2⟩ := right_parts h
  have := kb_le h1
  unfold codeA
  dsimp only
  rw [show ((k' + 1 : Nat) : Int).toNat - 1 = k' by omega, show ((n' : Nat) : Int).toNat = n' by omega]
  omega
theorem rights {p : Pol} (h : rightP p = true) : right9 p.dflt.1 p.dflt.2 = true ∧ ∀ r ∈ p.rules, rightR r = true := by
  unfold rightP at h
  simp only [Bool.and_eq_true, decide_eq_true_eq, Bool.not_eq_true', List.any_eq_false, Bool.not_eq_false'] at h
  refine ⟨h.1, fun r hr => ?_⟩
  have := h.2.2 r hr
  simpa using this
theorem rule_right {r : Rul} (h : rightR r = true) : right9 r.act.1 r.act.2 = true := by
  unfold rightR at h
  simp only [Bool.and_eq_true] at h
  exact h.2.1
theorem blind_right {p : Pol} (h : rightP p = true) (nm : ByteArray) : right9 (blindP p nm).1 (blindP p nm).2 = true := by
  obtain ⟨h1, h2⟩ := rights h
  unfold blindP
  cases hf : p.rules.find? (fun r => kS r.name nm) with
  | none => exact h1
  | some r =>
    dsimp only
    split
    · exact rule_right (h2 r (List.mem_of_find?_eq_some hf))
    · exact h1
theorem dec_right {p : Pol} (h : rightP p = true) (nm : ByteArray) (x : Nat → Nat) : right9 (decP p nm x).1 (decP p nm x).2 = true := by
  obtain ⟨h1, h2⟩ := rights h
  unfold decP
  cases hf : p.rules.find? (fun r => kS r.name nm && letB x r) with
  | none => exact h1
  | some r => exact rule_right (h2 r (List.mem_of_find?_eq_some hf))
theorem action_right {p : Pol} (h : rightP p = true) (l : List TRow) (r : Rec) : right9 (actionP p l r).1 (actionP p l r).2 = true := by
  unfold actionP
  split
  · decide
  · split
    · exact (rights h).1
    · split
      · exact blind_right h _
      · exact dec_right h _ _
def judgeR (p : Pol) (l : List TRow) (r : Rec) : Nat × Int := if rightP p = false then (0, 13) else if (tabR l).2 ≠ 0 then (0, 18) else (codeA (actionP p l r), 0)
set_option maxHeartbeats 2000000 in
theorem judge_law (p : Pol) (l : List TRow) (r : Rec) (hp : polOk p) (hpk : p.ok) (hl : l.length ≤ 1000000) (hn : ∀ q ∈ l, q.name.size ≤ maxLen) (hr : r.ok) : Tells Tryz.prog 18 [polA p, trows l, recA r] (.tup [u32 ((judgeR p l r).1 : Nat), int (judgeR p l r).2]) := by
  have hrp := pright_spec p hpk
  have htb := tabright_spec l hl hn
  have hac := action_law p l r hp hl hr
  have hcd : rightP p = true → _ := fun h => code_of (actionP p l r) (action_right h l r)
  generalize hJ : judgeR p l r = J
  unfold judgeR at hJ
  generalize rightP p = b at hrp hcd hJ
  generalize tabR l = tb at htb hJ
  generalize actionP p l r = A at hac hcd hJ
  obtain ⟨a1, a2⟩ := A
  obtain ⟨⟨k, n⟩, x32, rs⟩ := p
  refine tells_of_aw Tryz.func18 rfl rfl fun nx => ?_
  (repeat((conv=>whnf);first|apply ω0|apply ω1|apply ω2|refine τ3 rfl ?_|refine τ4 rfl ?_|refine ⟨rfl,?_⟩|apply τa|refine τb rfl ?_|refine ⟨⟨by kernel_rfl,by kernel_rfl⟩,?_⟩|refine ⟨by decide,?_⟩|apply τt|apply τf))
  refine splitO_eq (b := polA ⟨(k, n), x32, rs⟩) rfl ?_
  (repeat((conv=>whnf);first|apply ω0|apply ω1|apply ω2|refine τ3 rfl ?_|refine τ4 rfl ?_|refine ⟨rfl,?_⟩|apply τa|refine τb rfl ?_|refine ⟨⟨by kernel_rfl,by kernel_rfl⟩,?_⟩|refine ⟨by decide,?_⟩|apply τt|apply τf))
  refine aop_tells rfl rfl hrp ⟨AVle.refl _, trivial⟩ fun nx2 => ?_
  cases b with
  | false =>
    rw [if_pos rfl] at hJ
    subst hJ
    (repeat((conv=>whnf);first|apply ω0|apply ω1|apply ω2|refine τ3 rfl ?_|refine τ4 rfl ?_|refine ⟨rfl,?_⟩|apply τa|refine τb rfl ?_|refine ⟨⟨by kernel_rfl,by kernel_rfl⟩,?_⟩|refine ⟨by decide,?_⟩|apply τt|apply τf))
    exact ret_tells_all rfl trivial (AVle.refl _)
  | true =>
    rw [if_neg (by decide)] at hJ
    (repeat((conv=>whnf);first|apply ω0|apply ω1|apply ω2|refine τ3 rfl ?_|refine τ4 rfl ?_|refine ⟨rfl,?_⟩|apply τa|refine τb rfl ?_|refine ⟨⟨by kernel_rfl,by kernel_rfl⟩,?_⟩|refine ⟨by decide,?_⟩|apply τt|apply τf))
    refine aop_tells rfl rfl htb ⟨AVle.refl _, trivial⟩ fun nx3 => ?_
    (repeat((conv=>whnf);first|apply ω0|apply ω1|apply ω2|refine τ3 rfl ?_|refine τ4 rfl ?_|refine ⟨rfl,?_⟩|apply τa|refine τb rfl ?_|refine ⟨⟨by kernel_rfl,by kernel_rfl⟩,?_⟩|refine ⟨by decide,?_⟩|apply τt|apply τf))
    intro c hc
    by_cases h0 : tb.2 = 0
    · rw [if_neg (fun q => q h0)] at hJ
      subst hJ
      obtain rfl : c = false := hc.trans (bne_eq_false_iff_eq.2 h0)
      (repeat((conv=>whnf);first|apply ω0|apply ω1|apply ω2|refine τ3 rfl ?_|refine τ4 rfl ?_|refine ⟨rfl,?_⟩|apply τa|refine τb rfl ?_|refine ⟨⟨by kernel_rfl,by kernel_rfl⟩,?_⟩|refine ⟨by decide,?_⟩|apply τt|apply τf))
      refine splitO_eq (b := recA r) rfl ?_
      (repeat((conv=>whnf);first|apply ω0|apply ω1|apply ω2|refine τ3 rfl ?_|refine τ4 rfl ?_|refine ⟨rfl,?_⟩|apply τa|refine τb rfl ?_|refine ⟨⟨by kernel_rfl,by kernel_rfl⟩,?_⟩|refine ⟨by decide,?_⟩|apply τt|apply τf))
      refine aop_tells rfl rfl hac ⟨AVle.refl _, AVle.refl _, AVle.refl _, trivial⟩ fun nx4 => ?_
      (repeat((conv=>whnf);first|apply ω0|apply ω1|apply ω2|refine τ3 rfl ?_|refine τ4 rfl ?_|refine ⟨rfl,?_⟩|apply τa|refine τb rfl ?_|refine ⟨⟨by kernel_rfl,by kernel_rfl⟩,?_⟩|refine ⟨by decide,?_⟩|apply τt|apply τf))
      refine aop_tells rfl rfl (hcd rfl) ⟨AVle.refl _, trivial⟩ fun nx5 => ?_
      (repeat((conv=>whnf);first|apply ω0|apply ω1|apply ω2|refine τ3 rfl ?_|refine τ4 rfl ?_|refine ⟨rfl,?_⟩|apply τa|refine τb rfl ?_|refine ⟨⟨by kernel_rfl,by kernel_rfl⟩,?_⟩|refine ⟨by decide,?_⟩|apply τt|apply τf))
      exact ret_tells_all rfl trivial (AVle.refl _)
    · rw [if_pos h0] at hJ
      subst hJ
      obtain rfl : c = true := hc.trans (bne_iff_ne.2 h0)
      (repeat((conv=>whnf);first|apply ω0|apply ω1|apply ω2|refine τ3 rfl ?_|refine τ4 rfl ?_|refine ⟨rfl,?_⟩|apply τa|refine τb rfl ?_|refine ⟨⟨by kernel_rfl,by kernel_rfl⟩,?_⟩|refine ⟨by decide,?_⟩|apply τt|apply τf))
      exact ret_tells_all rfl trivial (AVle.refl _)
end Go.Proofs.W

namespace Go.Proofs.W
open Go.Vl
set_option maxRecDepth 100000

theorem noid_rul17 (r : Rul) : NoId (.ag [strA r.name, int r.act.1, int r.act.2, cnds r.conds]) := NoId.ag (by
  intro y hy
  simp only [List.mem_cons, List.not_mem_nil, or_false] at hy
  rcases hy with rfl | rfl | rfl | rfl
  · exact NoId.v _
  · exact NoId.v _
  · exact NoId.v _
  · refine NoId.sl fun i hi c hc => ?_
    simp only [cndA, AV.cells, List.mem_cons, List.not_mem_nil, or_false] at hc
    rcases hc with rfl | rfl | rfl | rfl <;> exact NoId.v _)
theorem bytes_cnd_l17 : Tryz.prog.bytesOf 159 = 32 := by kernel_rfl
theorem bytes_rul_l17 : Tryz.prog.bytesOf 85 = 56 := by kernel_rfl
theorem conds_l17 (c : Cnd) : Tells Tryz.prog 97 [cndA c] (cndA c) := by
  refine tells_of_aw Tryz.func97 rfl rfl fun nx => ?_
  (repeat((conv=>whnf);first|apply ω0|apply ω1|apply ω2|refine τ3 rfl ?_|refine τ4 rfl ?_|refine ⟨rfl,?_⟩|apply τa|refine τb rfl ?_|refine ⟨⟨by kernel_rfl,by kernel_rfl⟩,?_⟩|refine ⟨by decide,?_⟩|apply τt|apply τf))
  exact ret_tells_all rfl ⟨rfl, trivial⟩ (AVle.refl _)

set_option maxHeartbeats 1000000 in
theorem rule_l17 (nm : ByteArray) (k n : Int) (cs : List Cnd) (hl : cs.length ≤ 1000000) : Tells Tryz.prog 47 [.ag [strA nm, int k, int n, cnds cs]] (.ag [strA nm, int k, int n, cnds cs]) := by
  refine tells_of_aw Tryz.func47 rfl rfl fun nx => ?_
  (repeat((conv=>whnf);first|apply ω0|apply ω1|apply ω2|refine τ3 rfl ?_|refine τ4 rfl ?_|refine ⟨rfl,?_⟩|apply τa|refine τb rfl ?_|refine ⟨⟨by kernel_rfl,by kernel_rfl⟩,?_⟩|refine ⟨by decide,?_⟩|apply τt|apply τf))
  refine aw_loop (fun s : Nat × Option Nat × Nat => mk 34 [(1, .bp (0, nx) 0), (2, .bp (1, nx + 1) 0), (3, .bp (2, nx + 2) 0), (4, int s.1)] ⟨[((2, nx + 2), .c [strA nm, int k, int n, .os 4 s.1 (fun j => cndA (cs.getD j cnd0)) (nmd s.2.1)]), ((1, nx + 1), .c [strA ⟨#[]⟩, int 0, int 0, .os 0 0 (fun _ => .any) none]), ((0, nx), .c [strA nm, int k, int n, cnds cs])], pmOf (nmd s.2.1) (s.1 * 4), s.2.2, 3⟩) (fun s => s.1 ≤ cs.length ∧ (s.2.1 = none → s.1 = 0)) (fun s => cs.length - s.1) ?_ ?_
  · exact ⟨(0, none, nx + 3), ⟨Nat.zero_le _, fun _ => rfl⟩, ele_tell (pm := []) _ [] rfl rfl (List.Sublist.refl _) (List.Sublist.refl _) ⟨rfl, ⟨AVle.refl _, AVle.refl _, AVle.refl _, AVle.os_nil, trivial⟩, rfl, OwnLe.refl _, rfl, OwnLe.refl _, trivial⟩ trivial ⟨AVle.refl _, AVle.refl _, AVle.refl _, AVle.refl _, trivial⟩⟩
  · rintro ⟨i, oi, nx2⟩ ⟨h3, h4⟩
    dsimp only at h3 h4
    (repeat((conv=>whnf);first|apply ω0|apply ω1|apply ω2|refine τ3 rfl ?_|refine τ4 rfl ?_|refine ⟨rfl,?_⟩|apply τa|refine τb rfl ?_|refine ⟨⟨by kernel_rfl,by kernel_rfl⟩,?_⟩|refine ⟨by decide,?_⟩|apply τt|apply τf))
    intro c h5; cases c
    · have h6 := not_of h5
      dsimp only at h6
      obtain rfl : i = cs.length := by omega
      (repeat((conv=>whnf);first|apply ω0|apply ω1|apply ω2|refine τ3 rfl ?_|refine τ4 rfl ?_|refine ⟨rfl,?_⟩|apply τa|refine τb rfl ?_|refine ⟨⟨by kernel_rfl,by kernel_rfl⟩,?_⟩|refine ⟨by decide,?_⟩|apply τt|apply τf))
      exact ret_tells_all rfl ⟨rfl, trivial⟩ (AVle.ags ⟨AVle.refl _, AVle.refl _, AVle.refl _, AVle.os_sl, trivial⟩)
    · have h6 := yes_of h5
      dsimp only at h6
      have hi : i < cs.length := by omega
      have hcall := conds_l17 (cs.getD i cnd0)
      (repeat((conv=>whnf);first|apply ω0|apply ω1|apply ω2|refine τ3 rfl ?_|refine τ4 rfl ?_|refine ⟨rfl,?_⟩|apply τa|refine τb rfl ?_|refine ⟨⟨by kernel_rfl,by kernel_rfl⟩,?_⟩|refine ⟨by decide,?_⟩|apply τt|apply τf))
      refine aw_mixN 11 [((2, nx + 2), .c [strA nm, int k, int n, .os 4 i (fun j => cndA (cs.getD j cnd0)) (nmd oi)]), ((1, nx + 1), .c [strA ⟨#[]⟩, int 0, int 0, .os 0 0 (fun _ => .any) none]), ((0, nx), .c [strA nm, int k, int n, cnds cs])] (fun i => match i with | 9 => true | _ => false) (fun i => match i with | 7 => true | _ => false) [0, 1, 2, 3, 4, 5, 6, 7, 8, 9, 10] (by kernel_rfl) (by kernel_rfl) (HB.refl _) ?_
      (repeat((conv=>whnf);first|apply ω0|apply ω1|apply ω2|refine τ3 rfl ?_|refine τ4 rfl ?_|refine ⟨rfl,?_⟩|apply τa|refine τb rfl ?_|refine ⟨⟨by kernel_rfl,by kernel_rfl⟩,?_⟩|refine ⟨by decide,?_⟩|apply τt|apply τf))
      refine ⟨⟨by dsimp only; omega, by dsimp only; omega⟩, ?_⟩
      (repeat((conv=>whnf);first|apply ω0|apply ω1|apply ω2|refine τ3 rfl ?_|refine τ4 rfl ?_|refine ⟨rfl,?_⟩|apply τa|refine τb rfl ?_|refine ⟨⟨by kernel_rfl,by kernel_rfl⟩,?_⟩|refine ⟨by decide,?_⟩|apply τt|apply τf))
      refine ⟨_, pure_tells rfl rfl rfl hcall ⟨AVle.refl _, trivial⟩ (noid_cndA _), ?_⟩
      (repeat((conv=>whnf);first|apply ω0|apply ω1|apply ω2|refine τ3 rfl ?_|refine τ4 rfl ?_|refine ⟨rfl,?_⟩|apply τa|refine τb rfl ?_|refine ⟨⟨by kernel_rfl,by kernel_rfl⟩,?_⟩|refine ⟨by decide,?_⟩|apply τt|apply τf))
      rcases oi with _ | id
      · obtain rfl := h4 rfl
        refine ⟨_, eff_append1 (e := 159) (c := 4) (pm := []) (n := 0) (oi := none) (sz := 4) (f := fun j => cndA (cs.getD j cnd0)) (HB.refl _) rfl rfl rfl (.inr ⟨_, rfl⟩) (by kernel_rfl) (by kernel_rfl) (by kernel_rfl) (.inr rfl) (by kernel_rfl) (List.append_nil _).symm (oneRow_one rfl) (by rw [bytes_cnd_l17]; omega) (by omega), fun r h' hr => ?_⟩
        obtain ⟨rfl, rfl⟩ := hr
        (repeat((conv=>whnf);first|apply ω0|apply ω1|apply ω2|refine τ3 rfl ?_|refine τ4 rfl ?_|refine ⟨rfl,?_⟩|apply τa|refine τb rfl ?_|refine ⟨⟨by kernel_rfl,by kernel_rfl⟩,?_⟩|refine ⟨by decide,?_⟩|apply τt|apply τf))
        refine back (0 + 1, some nx2, nx2 + 1) ⟨by dsimp only; omega, (fun h => by cases h)⟩ (by dsimp only; omega) (ele_tell (pm := [((0, nx2), (0 + 1) * 4)]) _ _ rfl rfl (List.Sublist.refl _) (List.Sublist.refl _) ⟨rfl, ⟨AVle.refl _, AVle.refl _, AVle.refl _, (AVle.os_fun (appF_one (fun k h => absurd h (Nat.not_lt_zero k)) ?_)).trans (AVle.os_nm rfl), trivial⟩, rfl, OwnLe.refl _, rfl, OwnLe.refl _, trivial⟩ ⟨rfl, rfl, trivial⟩ ⟨AVle.refl _, AVle.refl _, AVle.refl _, le_int (wrap_succ (by dsimp only; omega)), trivial⟩)
        rfl
      · refine ⟨_, eff_append1 (e := 159) (c := 4) (pm := []) (n := i) (oi := some (0, id)) (sz := 4) (f := fun j => cndA (cs.getD j cnd0)) (HB.refl _) rfl rfl rfl (.inr ⟨_, rfl⟩) (by kernel_rfl) (by kernel_rfl) (by kernel_rfl) (.inr rfl) (by kernel_rfl) (List.append_nil _).symm (oneRow_one rfl) (by rw [bytes_cnd_l17]; omega) (by omega), fun r h' hr => ?_⟩
        obtain ⟨rfl, rfl⟩ := hr
        (repeat((conv=>whnf);first|apply ω0|apply ω1|apply ω2|refine τ3 rfl ?_|refine τ4 rfl ?_|refine ⟨rfl,?_⟩|apply τa|refine τb rfl ?_|refine ⟨⟨by kernel_rfl,by kernel_rfl⟩,?_⟩|refine ⟨by decide,?_⟩|apply τt|apply τf))
        refine back (i + 1, some nx2, nx2 + 1) ⟨by dsimp only; omega, (fun h => by cases h)⟩ (by dsimp only; omega) (ele_tell (pm := [((0, nx2), (i + 1) * 4)]) _ _ rfl rfl (List.Sublist.refl _) (List.Sublist.refl _) ⟨rfl, ⟨AVle.refl _, AVle.refl _, AVle.refl _, (AVle.os_fun (appF_one (fun k hk => rfl) ?_)).trans (AVle.os_nm rfl), trivial⟩, rfl, OwnLe.refl _, rfl, OwnLe.refl _, trivial⟩ ⟨rfl, rfl, trivial⟩ ⟨AVle.refl _, AVle.refl _, AVle.refl _, le_int (wrap_succ (by dsimp only; omega)), trivial⟩)
        rfl

set_option maxHeartbeats 1000000 in
theorem oft_l17 (k n : Int) (rs : List Rul) (hl : rs.length ≤ 1000000) (hc : ∀ r ∈ rs, r.conds.length ≤ 1000000) : Tells Tryz.prog 13 [.ag [int k, int n, boolA true, ruls rs]] (.ag [int k, int n, boolA true, ruls rs]) := by
  refine tells_of_aw Tryz.func13 rfl rfl fun nx => ?_
  (repeat((conv=>whnf);first|apply ω0|apply ω1|apply ω2|refine τ3 rfl ?_|refine τ4 rfl ?_|refine ⟨rfl,?_⟩|apply τa|refine τb rfl ?_|refine ⟨⟨by kernel_rfl,by kernel_rfl⟩,?_⟩|refine ⟨by decide,?_⟩|apply τt|apply τf))
  refine aw_loop (fun s : Nat × Option Nat × Nat => mk 34 [(1, .bp (0, nx) 0), (2, .bp (1, nx + 1) 0), (3, .bp (2, nx + 2) 0), (4, int s.1)] ⟨[((2, nx + 2), .c [int k, int n, boolA true, .os 4 s.1 (fun j => rulA (rs.getD j rul0)) (nmd s.2.1)]), ((1, nx + 1), .c [int 0, int 0, boolA false, .os 0 0 (fun _ => .any) none]), ((0, nx), .c [int k, int n, boolA true, ruls rs])], pmOf (nmd s.2.1) (s.1 * 4), s.2.2, 3⟩) (fun s => s.1 ≤ rs.length ∧ (s.2.1 = none → s.1 = 0)) (fun s => rs.length - s.1) ?_ ?_
  · exact ⟨(0, none, nx + 3), ⟨Nat.zero_le _, fun _ => rfl⟩, ele_tell (pm := []) _ [] rfl rfl (List.Sublist.refl _) (List.Sublist.refl _) ⟨rfl, ⟨AVle.refl _, AVle.refl _, AVle.refl _, AVle.os_nil, trivial⟩, rfl, OwnLe.refl _, rfl, OwnLe.refl _, trivial⟩ trivial ⟨AVle.refl _, AVle.refl _, AVle.refl _, AVle.refl _, trivial⟩⟩
  · rintro ⟨i, oi, nx2⟩ ⟨h3, h4⟩
    dsimp only at h3 h4
    (repeat((conv=>whnf);first|apply ω0|apply ω1|apply ω2|refine τ3 rfl ?_|refine τ4 rfl ?_|refine ⟨rfl,?_⟩|apply τa|refine τb rfl ?_|refine ⟨⟨by kernel_rfl,by kernel_rfl⟩,?_⟩|refine ⟨by decide,?_⟩|apply τt|apply τf))
    intro c h5; cases c
    · have h6 := not_of h5
      dsimp only at h6
      obtain rfl : i = rs.length := by omega
      (repeat((conv=>whnf);first|apply ω0|apply ω1|apply ω2|refine τ3 rfl ?_|refine τ4 rfl ?_|refine ⟨rfl,?_⟩|apply τa|refine τb rfl ?_|refine ⟨⟨by kernel_rfl,by kernel_rfl⟩,?_⟩|refine ⟨by decide,?_⟩|apply τt|apply τf))
      exact ret_tells_all rfl ⟨rfl, trivial⟩ (AVle.ags ⟨AVle.refl _, AVle.refl _, AVle.refl _, AVle.os_sl, trivial⟩)
    · have h6 := yes_of h5
      dsimp only at h6
      have hi : i < rs.length := by omega
      have hcall := rule_l17 (rs.getD i rul0).name (rs.getD i rul0).act.1 (rs.getD i rul0).act.2 (rs.getD i rul0).conds (hc _ (by simp [List.getD, hi]))
      (repeat((conv=>whnf);first|apply ω0|apply ω1|apply ω2|refine τ3 rfl ?_|refine τ4 rfl ?_|refine ⟨rfl,?_⟩|apply τa|refine τb rfl ?_|refine ⟨⟨by kernel_rfl,by kernel_rfl⟩,?_⟩|refine ⟨by decide,?_⟩|apply τt|apply τf))
      refine aw_mixN 11 [((2, nx + 2), .c [int k, int n, boolA true, .os 4 i (fun j => rulA (rs.getD j rul0)) (nmd oi)]), ((1, nx + 1), .c [int 0, int 0, boolA false, .os 0 0 (fun _ => .any) none]), ((0, nx), .c [int k, int n, boolA true, ruls rs])] (fun i => match i with | 9 => true | _ => false) (fun i => match i with | 7 => true | _ => false) [0, 1, 2, 3, 4, 5, 6, 7, 8, 9, 10] (by kernel_rfl) (by kernel_rfl) (HB.refl _) ?_
      (repeat((conv=>whnf);first|apply ω0|apply ω1|apply ω2|refine τ3 rfl ?_|refine τ4 rfl ?_|refine ⟨rfl,?_⟩|apply τa|refine τb rfl ?_|refine ⟨⟨by kernel_rfl,by kernel_rfl⟩,?_⟩|refine ⟨by decide,?_⟩|apply τt|apply τf))
      refine ⟨⟨by dsimp only; omega, by dsimp only; omega⟩, ?_⟩
      (repeat((conv=>whnf);first|apply ω0|apply ω1|apply ω2|refine τ3 rfl ?_|refine τ4 rfl ?_|refine ⟨rfl,?_⟩|apply τa|refine τb rfl ?_|refine ⟨⟨by kernel_rfl,by kernel_rfl⟩,?_⟩|refine ⟨by decide,?_⟩|apply τt|apply τf))
      refine ⟨_, pure_tells rfl rfl rfl hcall ⟨AVle.refl _, trivial⟩ (noid_rul17 (rs.getD i rul0)), ?_⟩
      (repeat((conv=>whnf);first|apply ω0|apply ω1|apply ω2|refine τ3 rfl ?_|refine τ4 rfl ?_|refine ⟨rfl,?_⟩|apply τa|refine τb rfl ?_|refine ⟨⟨by kernel_rfl,by kernel_rfl⟩,?_⟩|refine ⟨by decide,?_⟩|apply τt|apply τf))
      rcases oi with _ | id
      · obtain rfl := h4 rfl
        refine ⟨_, eff_append1 (e := 85) (c := 4) (pm := []) (n := 0) (oi := none) (sz := 4) (f := fun j => rulA (rs.getD j rul0)) (HB.refl _) rfl rfl rfl (.inr ⟨_, rfl⟩) (by kernel_rfl) (by kernel_rfl) (by kernel_rfl) (.inr rfl) (by kernel_rfl) (List.append_nil _).symm (oneRow_one rfl) (by rw [bytes_rul_l17]; omega) (by omega), fun r h' hr => ?_⟩
        obtain ⟨rfl, rfl⟩ := hr
        (repeat((conv=>whnf);first|apply ω0|apply ω1|apply ω2|refine τ3 rfl ?_|refine τ4 rfl ?_|refine ⟨rfl,?_⟩|apply τa|refine τb rfl ?_|refine ⟨⟨by kernel_rfl,by kernel_rfl⟩,?_⟩|refine ⟨by decide,?_⟩|apply τt|apply τf))
        refine back (0 + 1, some nx2, nx2 + 1) ⟨by dsimp only; omega, (fun h => by cases h)⟩ (by dsimp only; omega) (ele_tell (pm := [((0, nx2), (0 + 1) * 4)]) _ _ rfl rfl (List.Sublist.refl _) (List.Sublist.refl _) ⟨rfl, ⟨AVle.refl _, AVle.refl _, AVle.refl _, (AVle.os_fun (appF_one (fun k h => absurd h (Nat.not_lt_zero k)) ?_)).trans (AVle.os_nm rfl), trivial⟩, rfl, OwnLe.refl _, rfl, OwnLe.refl _, trivial⟩ ⟨rfl, rfl, trivial⟩ ⟨AVle.refl _, AVle.refl _, AVle.refl _, le_int (wrap_succ (by dsimp only; omega)), trivial⟩)
        rfl
      · refine ⟨_, eff_append1 (e := 85) (c := 4) (pm := []) (n := i) (oi := some (0, id)) (sz := 4) (f := fun j => rulA (rs.getD j rul0)) (HB.refl _) rfl rfl rfl (.inr ⟨_, rfl⟩) (by kernel_rfl) (by kernel_rfl) (by kernel_rfl) (.inr rfl) (by kernel_rfl) (List.append_nil _).symm (oneRow_one rfl) (by rw [bytes_rul_l17]; omega) (by omega), fun r h' hr => ?_⟩
        obtain ⟨rfl, rfl⟩ := hr
        (repeat((conv=>whnf);first|apply ω0|apply ω1|apply ω2|refine τ3 rfl ?_|refine τ4 rfl ?_|refine ⟨rfl,?_⟩|apply τa|refine τb rfl ?_|refine ⟨⟨by kernel_rfl,by kernel_rfl⟩,?_⟩|refine ⟨by decide,?_⟩|apply τt|apply τf))
        refine back (i + 1, some nx2, nx2 + 1) ⟨by dsimp only; omega, (fun h => by cases h)⟩ (by dsimp only; omega) (ele_tell (pm := [((0, nx2), (i + 1) * 4)]) _ _ rfl rfl (List.Sublist.refl _) (List.Sublist.refl _) ⟨rfl, ⟨AVle.refl _, AVle.refl _, AVle.refl _, (AVle.os_fun (appF_one (fun k hk => rfl) ?_)).trans (AVle.os_nm rfl), trivial⟩, rfl, OwnLe.refl _, rfl, OwnLe.refl _, trivial⟩ ⟨rfl, rfl, trivial⟩ ⟨AVle.refl _, AVle.refl _, AVle.refl _, le_int (wrap_succ (by dsimp only; omega)), trivial⟩)
        rfl

set_option maxHeartbeats 1000000 in
theorem off_l17 (k n : Int) (rs : List Rul) (hl : rs.length ≤ 1000000) (hc : ∀ r ∈ rs, r.conds.length ≤ 1000000) : Tells Tryz.prog 13 [.ag [int k, int n, boolA false, ruls rs]] (.ag [int k, int n, boolA false, ruls rs]) := by
  refine tells_of_aw Tryz.func13 rfl rfl fun nx => ?_
  (repeat((conv=>whnf);first|apply ω0|apply ω1|apply ω2|refine τ3 rfl ?_|refine τ4 rfl ?_|refine ⟨rfl,?_⟩|apply τa|refine τb rfl ?_|refine ⟨⟨by kernel_rfl,by kernel_rfl⟩,?_⟩|refine ⟨by decide,?_⟩|apply τt|apply τf))
  refine aw_loop (fun s : Nat × Option Nat × Nat => mk 34 [(1, .bp (0, nx) 0), (2, .bp (1, nx + 1) 0), (3, .bp (2, nx + 2) 0), (4, int s.1)] ⟨[((2, nx + 2), .c [int k, int n, boolA false, .os 4 s.1 (fun j => rulA (rs.getD j rul0)) (nmd s.2.1)]), ((1, nx + 1), .c [int 0, int 0, boolA false, .os 0 0 (fun _ => .any) none]), ((0, nx), .c [int k, int n, boolA false, ruls rs])], pmOf (nmd s.2.1) (s.1 * 4), s.2.2, 3⟩) (fun s => s.1 ≤ rs.length ∧ (s.2.1 = none → s.1 = 0)) (fun s => rs.length - s.1) ?_ ?_
  · exact ⟨(0, none, nx + 3), ⟨Nat.zero_le _, fun _ => rfl⟩, ele_tell (pm := []) _ [] rfl rfl (List.Sublist.refl _) (List.Sublist.refl _) ⟨rfl, ⟨AVle.refl _, AVle.refl _, AVle.refl _, AVle.os_nil, trivial⟩, rfl, OwnLe.refl _, rfl, OwnLe.refl _, trivial⟩ trivial ⟨AVle.refl _, AVle.refl _, AVle.refl _, AVle.refl _, trivial⟩⟩
  · rintro ⟨i, oi, nx2⟩ ⟨h3, h4⟩
    dsimp only at h3 h4
    (repeat((conv=>whnf);first|apply ω0|apply ω1|apply ω2|refine τ3 rfl ?_|refine τ4 rfl ?_|refine ⟨rfl,?_⟩|apply τa|refine τb rfl ?_|refine ⟨⟨by kernel_rfl,by kernel_rfl⟩,?_⟩|refine ⟨by decide,?_⟩|apply τt|apply τf))
    intro c h5; cases c
    · have h6 := not_of h5
      dsimp only at h6
      obtain rfl : i = rs.length := by omega
      (repeat((conv=>whnf);first|apply ω0|apply ω1|apply ω2|refine τ3 rfl ?_|refine τ4 rfl ?_|refine ⟨rfl,?_⟩|apply τa|refine τb rfl ?_|refine ⟨⟨by kernel_rfl,by kernel_rfl⟩,?_⟩|refine ⟨by decide,?_⟩|apply τt|apply τf))
      exact ret_tells_all rfl ⟨rfl, trivial⟩ (AVle.ags ⟨AVle.refl _, AVle.refl _, AVle.refl _, AVle.os_sl, trivial⟩)
    · have h6 := yes_of h5
      dsimp only at h6
      have hi : i < rs.length := by omega
      have hcall := rule_l17 (rs.getD i rul0).name (rs.getD i rul0).act.1 (rs.getD i rul0).act.2 (rs.getD i rul0).conds (hc _ (by simp [List.getD, hi]))
      (repeat((conv=>whnf);first|apply ω0|apply ω1|apply ω2|refine τ3 rfl ?_|refine τ4 rfl ?_|refine ⟨rfl,?_⟩|apply τa|refine τb rfl ?_|refine ⟨⟨by kernel_rfl,by kernel_rfl⟩,?_⟩|refine ⟨by decide,?_⟩|apply τt|apply τf))
      refine aw_mixN 11 [((2, nx + 2), .c [int k, int n, boolA false, .os 4 i (fun j => rulA (rs.getD j rul0)) (nmd oi)]), ((1, nx + 1), .c [int 0, int 0, boolA false, .os 0 0 (fun _ => .any) none]), ((0, nx), .c [int k, int n, boolA false, ruls rs])] (fun i => match i with | 9 => true | _ => false) (fun i => match i with | 7 => true | _ => false) [0, 1, 2, 3, 4, 5, 6, 7, 8, 9, 10] (by kernel_rfl) (by kernel_rfl) (HB.refl _) ?_
      (repeat((conv=>whnf);first|apply ω0|apply ω1|apply ω2|refine τ3 rfl ?_|refine τ4 rfl ?_|refine ⟨rfl,?_⟩|apply τa|refine τb rfl ?_|refine ⟨⟨by kernel_rfl,by kernel_rfl⟩,?_⟩|refine ⟨by decide,?_⟩|apply τt|apply τf))
      refine ⟨⟨by dsimp only; omega, by dsimp only; omega⟩, ?_⟩
      (repeat((conv=>whnf);first|apply ω0|apply ω1|apply ω2|refine τ3 rfl ?_|refine τ4 rfl ?_|refine ⟨rfl,?_⟩|apply τa|refine τb rfl ?_|refine ⟨⟨by kernel_rfl,by kernel_rfl⟩,?_⟩|refine ⟨by decide,?_⟩|apply τt|apply τf))
      refine ⟨_, pure_tells rfl rfl rfl hcall ⟨AVle.refl _, trivial⟩ (noid_rul17 (rs.getD i rul0)), ?_⟩
      (repeat((conv=>whnf);first|apply ω0|apply ω1|apply ω2|refine τ3 rfl ?_|refine τ4 rfl ?_|refine ⟨rfl,?_⟩|apply τa|refine τb rfl ?_|refine ⟨⟨by kernel_rfl,by kernel_rfl⟩,?_⟩|refine ⟨by decide,?_⟩|apply τt|apply τf))
      rcases oi with _ | id
      · obtain rfl := h4 rfl
        refine ⟨_, eff_append1 (e := 85) (c := 4) (pm := []) (n := 0) (oi := none) (sz := 4) (f := fun j => rulA (rs.getD j rul0)) (HB.refl _) rfl rfl rfl (.inr ⟨_, rfl⟩) (by kernel_rfl) (by kernel_rfl) (by kernel_rfl) (.inr rfl) (by kernel_rfl) (List.append_nil _).symm (oneRow_one rfl) (by rw [bytes_rul_l17]; omega) (by omega), fun r h' hr => ?_⟩
        obtain ⟨rfl, rfl⟩ := hr
        (repeat((conv=>whnf);first|apply ω0|apply ω1|apply ω2|refine τ3 rfl ?_|refine τ4 rfl ?_|refine ⟨rfl,?_⟩|apply τa|refine τb rfl ?_|refine ⟨⟨by kernel_rfl,by kernel_rfl⟩,?_⟩|refine ⟨by decide,?_⟩|apply τt|apply τf))
        refine back (0 + 1, some nx2, nx2 + 1) ⟨by dsimp only; omega, (fun h => by cases h)⟩ (by dsimp only; omega) (ele_tell (pm := [((0, nx2), (0 + 1) * 4)]) _ _ rfl rfl (List.Sublist.refl _) (List.Sublist.refl _) ⟨rfl, ⟨AVle.refl _, AVle.refl _, AVle.refl _, (AVle.os_fun (appF_one (fun k h => absurd h (Nat.not_lt_zero k)) ?_)).trans (AVle.os_nm rfl), trivial⟩, rfl, OwnLe.refl _, rfl, OwnLe.refl _, trivial⟩ ⟨rfl, rfl, trivial⟩ ⟨AVle.refl _, AVle.refl _, AVle.refl _, le_int (wrap_succ (by dsimp only; omega)), trivial⟩)
        rfl
      · refine ⟨_, eff_append1 (e := 85) (c := 4) (pm := []) (n := i) (oi := some (0, id)) (sz := 4) (f := fun j => rulA (rs.getD j rul0)) (HB.refl _) rfl rfl rfl (.inr ⟨_, rfl⟩) (by kernel_rfl) (by kernel_rfl) (by kernel_rfl) (.inr rfl) (by kernel_rfl) (List.append_nil _).symm (oneRow_one rfl) (by rw [bytes_rul_l17]; omega) (by omega), fun r h' hr => ?_⟩
        obtain ⟨rfl, rfl⟩ := hr
        (repeat((conv=>whnf);first|apply ω0|apply ω1|apply ω2|refine τ3 rfl ?_|refine τ4 rfl ?_|refine ⟨rfl,?_⟩|apply τa|refine τb rfl ?_|refine ⟨⟨by kernel_rfl,by kernel_rfl⟩,?_⟩|refine ⟨by decide,?_⟩|apply τt|apply τf))
        refine back (i + 1, some nx2, nx2 + 1) ⟨by dsimp only; omega, (fun h => by cases h)⟩ (by dsimp only; omega) (ele_tell (pm := [((0, nx2), (i + 1) * 4)]) _ _ rfl rfl (List.Sublist.refl _) (List.Sublist.refl _) ⟨rfl, ⟨AVle.refl _, AVle.refl _, AVle.refl _, (AVle.os_fun (appF_one (fun k hk => rfl) ?_)).trans (AVle.os_nm rfl), trivial⟩, rfl, OwnLe.refl _, rfl, OwnLe.refl _, trivial⟩ ⟨rfl, rfl, trivial⟩ ⟨AVle.refl _, AVle.refl _, AVle.refl _, le_int (wrap_succ (by dsimp only; omega)), trivial⟩)
        rfl
theorem pol_l17 (p : Pol) (hl : p.rules.length ≤ 1000000) (hc : ∀ r ∈ p.rules, r.conds.length ≤ 1000000) : Tells Tryz.prog 13 [polA p] (polA p) := by
  obtain ⟨⟨k, n⟩, x, rs⟩ := p
  cases x
  · exact off_l17 k n rs hl hc
  · exact oft_l17 k n rs hl hc
end Go.Proofs.W

namespace Go.Proofs.W
open Go.Vl
set_option maxRecDepth 100000

theorem light_l17 (p : Pol) (hl : p.rules.length ≤ maxLen) : Tells Tryz.prog 9 [polA p] (boolA (lightP p)) := by
  obtain ⟨⟨k, n⟩, x, rs⟩ := p
  dsimp only at hl
  refine tells_of_aw Tryz.func9 rfl rfl fun nx => ?_
  (repeat((conv=>whnf);first|apply ω0|apply ω1|apply ω2|refine τ3 rfl ?_|refine τ4 rfl ?_|refine ⟨rfl,?_⟩|apply τa|refine τb rfl ?_|refine ⟨⟨by kernel_rfl,by kernel_rfl⟩,?_⟩|refine ⟨by decide,?_⟩|apply τt|apply τf))
  intro c g1; cases c
  rotate_left
  · (repeat((conv=>whnf);first|apply ω0|apply ω1|apply ω2|refine τ3 rfl ?_|refine τ4 rfl ?_|refine ⟨rfl,?_⟩|apply τa|refine τb rfl ?_|refine ⟨⟨by kernel_rfl,by kernel_rfl⟩,?_⟩|refine ⟨by decide,?_⟩|apply τt|apply τf))
    have g1 : ((rs.length : Nat) : Int) > 40 := yes_of g1
    exact ret_tells rfl (le_bool (by show false = (decide (rs.length ≤ 40) && _); rw [decide_eq_false (by omega)]; rfl))
  have g1 : ¬ ((rs.length : Nat) : Int) > 40 := not_of g1
  have h40 : rs.length ≤ 40 := by omega
  (repeat((conv=>whnf);first|apply ω0|apply ω1|apply ω2|refine τ3 rfl ?_|refine τ4 rfl ?_|refine ⟨rfl,?_⟩|apply τa|refine τb rfl ?_|refine ⟨⟨by kernel_rfl,by kernel_rfl⟩,?_⟩|refine ⟨by decide,?_⟩|apply τt|apply τf))
  refine aw_loop (fun s : Nat × Nat => mk 33 [(1, .bp (0, nx) 0), (3, int s.1)] ⟨[((0, nx), .c [int k, int n, boolA x, ruls rs])], [], s.2, 1⟩) (fun s => s.1 ≤ rs.length ∧ ∀ j, j < s.1 → lightR (rs.getD j rul0) = true) (fun s => rs.length - s.1) ?_ ?_
  · exact ⟨(0, nx + 1), ⟨Nat.zero_le _, fun j h => absurd h (Nat.not_lt_zero _)⟩, ele_tell (pm := []) _ [] rfl rfl (List.Sublist.refl _) (List.Sublist.refl _) ⟨rfl, OwnLe.refl _, trivial⟩ trivial ⟨AVle.refl _, AVle.refl _, trivial⟩⟩
  · rintro ⟨i, nx2⟩ ⟨h3, h4⟩
    dsimp only at h3 h4
    (repeat((conv=>whnf);first|apply ω0|apply ω1|apply ω2|refine τ3 rfl ?_|refine τ4 rfl ?_|refine ⟨rfl,?_⟩|apply τa|refine τb rfl ?_|refine ⟨⟨by kernel_rfl,by kernel_rfl⟩,?_⟩|refine ⟨by decide,?_⟩|apply τt|apply τf))
    intro c h5; cases c
    · have h6 := not_of h5
      dsimp only at h6
      obtain rfl : i = rs.length := by omega
      (repeat((conv=>whnf);first|apply ω0|apply ω1|apply ω2|refine τ3 rfl ?_|refine τ4 rfl ?_|refine ⟨rfl,?_⟩|apply τa|refine τb rfl ?_|refine ⟨⟨by kernel_rfl,by kernel_rfl⟩,?_⟩|refine ⟨by decide,?_⟩|apply τt|apply τf))
      refine ret_tells rfl (le_bool ?_)
      show true = (decide (rs.length ≤ 40) && rs.all lightR)
      rw [decide_eq_true h40, Bool.true_and, eq_comm, List.all_eq_true]
      intro r hr
      obtain ⟨j, hj, rfl⟩ := List.getElem_of_mem hr
      have := h4 j hj
      simpa [List.getD, hj] using this
    · have h6 := yes_of h5
      dsimp only at h6
      have hi : i < rs.length := by omega
      have hbad : ∀ b : Bool, lightR (rs.getD i rul0) = false → false = lightP ⟨(k, n), x, rs⟩ := fun b hb => by
        show false = (decide (rs.length ≤ 40) && rs.all lightR)
        rw [decide_eq_true h40, Bool.true_and, eq_comm, List.all_eq_false]
        exact ⟨rs.getD i rul0, by simp [List.getD, hi], by rw [hb]; decide⟩
      (repeat((conv=>whnf);first|apply ω0|apply ω1|apply ω2|refine τ3 rfl ?_|refine τ4 rfl ?_|refine ⟨rfl,?_⟩|apply τa|refine τb rfl ?_|refine ⟨⟨by kernel_rfl,by kernel_rfl⟩,?_⟩|refine ⟨by decide,?_⟩|apply τt|apply τf))
      refine ⟨⟨by dsimp only; omega, by dsimp only; omega⟩, ?_⟩
      (repeat((conv=>whnf);first|apply ω0|apply ω1|apply ω2|refine τ3 rfl ?_|refine τ4 rfl ?_|refine ⟨rfl,?_⟩|apply τa|refine τb rfl ?_|refine ⟨⟨by kernel_rfl,by kernel_rfl⟩,?_⟩|refine ⟨by decide,?_⟩|apply τt|apply τf))
      intro c t1; cases c
      · have t1 : ¬ (((rs.getD i rul0).name.size : Nat) : Int) > 60 := not_of t1
        (repeat((conv=>whnf);first|apply ω0|apply ω1|apply ω2|refine τ3 rfl ?_|refine τ4 rfl ?_|refine ⟨rfl,?_⟩|apply τa|refine τb rfl ?_|refine ⟨⟨by kernel_rfl,by kernel_rfl⟩,?_⟩|refine ⟨by decide,?_⟩|apply τt|apply τf))
        refine ⟨⟨by dsimp only; omega, by dsimp only; omega⟩, ?_⟩
        (repeat((conv=>whnf);first|apply ω0|apply ω1|apply ω2|refine τ3 rfl ?_|refine τ4 rfl ?_|refine ⟨rfl,?_⟩|apply τa|refine τb rfl ?_|refine ⟨⟨by kernel_rfl,by kernel_rfl⟩,?_⟩|refine ⟨by decide,?_⟩|apply τt|apply τf))
        intro c t2; cases c
        · have t2 : ¬ (((rs.getD i rul0).conds.length : Nat) : Int) > 12 := not_of t2
          (repeat((conv=>whnf);first|apply ω0|apply ω1|apply ω2|refine τ3 rfl ?_|refine τ4 rfl ?_|refine ⟨rfl,?_⟩|apply τa|refine τb rfl ?_|refine ⟨⟨by kernel_rfl,by kernel_rfl⟩,?_⟩|refine ⟨by decide,?_⟩|apply τt|apply τf))
          refine back (i + 1, nx2) ⟨by dsimp only; omega, fun j hj => ?_⟩ (by dsimp only; omega) (ele_tell (pm := []) _ [] rfl rfl (List.Sublist.refl _) (List.Sublist.refl _) ⟨rfl, OwnLe.refl _, trivial⟩ trivial ⟨AVle.refl _, le_int (wrap_succ (by dsimp only; omega)), trivial⟩)
          dsimp only at hj
          rcases Nat.lt_or_ge j i with h | h
          · exact h4 j h
          · obtain rfl : j = i := by omega
            unfold lightR
            rw [decide_eq_true (by omega), decide_eq_true (by omega)]; rfl
        · have t2 : (((rs.getD i rul0).conds.length : Nat) : Int) > 12 := yes_of t2
          (repeat((conv=>whnf);first|apply ω0|apply ω1|apply ω2|refine τ3 rfl ?_|refine τ4 rfl ?_|refine ⟨rfl,?_⟩|apply τa|refine τb rfl ?_|refine ⟨⟨by kernel_rfl,by kernel_rfl⟩,?_⟩|refine ⟨by decide,?_⟩|apply τt|apply τf))
          exact ret_tells rfl (le_bool (hbad true (by unfold lightR; rw [decide_eq_false (p := (rs.getD i rul0).conds.length ≤ 12) (by omega), Bool.and_false])))
      · have t1 : (((rs.getD i rul0).name.size : Nat) : Int) > 60 := yes_of t1
        (repeat((conv=>whnf);first|apply ω0|apply ω1|apply ω2|refine τ3 rfl ?_|refine τ4 rfl ?_|refine ⟨rfl,?_⟩|apply τa|refine τb rfl ?_|refine ⟨⟨by kernel_rfl,by kernel_rfl⟩,?_⟩|refine ⟨by decide,?_⟩|apply τt|apply τf))
        exact ret_tells rfl (le_bool (hbad true (by unfold lightR; rw [decide_eq_false (p := (rs.getD i rul0).name.size ≤ 60) (by omega), Bool.false_and])))
end Go.Proofs.W

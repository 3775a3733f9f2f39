import Derived.Test.YtmipfkagmedcnaaGreatDoorG
import Derived.Test.YtmipfkagmedcnaaGreatDoorE
import Derived.LaidSub
import Derived.MakeChecks
import Derived.Test.YtmipfkagmedcnaaGreatDoorRows
import Derived.OpenShut
import Derived.Deep.DeepHandedRow
import Derived.Lib.LaidTab
import Derived.Test.YtmipfkagmedcnaaGreatDoorD
import Derived.ProofKit
set_option linter.unusedVariables false
set_option linter.unusedSimpArgs false
namespace Go.Proofs.YtmipfkagmedcnaaGreatDoor
open Go.ChangeShapes Go.WideShapes Go.ChangeAt Go.RowKit Go.Vl Go.Proofs.W
theorem Tryz.own:ownKnob Tryz.prog.godebug=none:=by kernel_rfl
theorem Tryz.laidOut:laidOutB Tryz.prog=true:=by kernel_rfl
theorem JiT {P:Program} {d:Nat} {t:TypeId} {α β:Type} {e:α→AV} {e':β→AV} {ok:α→Prop} {ok':β→Prop} (h:Cov P d t e ok) (f:α→β) (he:∀x,ok x→e x=e' (f x)) (ho:∀x,ok x→ok' (f x)):Cov P d t e' ok':=
 ⟨fun cs hw=> let ⟨x,h1,h2,h3⟩:=h.h cs hw;⟨f x,ho x h1,by rw [← he x h1];exact h2,by rw [← he x h1];exact h3⟩⟩
theorem Jge {n:Int} (h:(Lit.int .u64 n).wf=true):0≤n∧n < 18446744073709551616:=by simp [Lit.wf,IntKind.min,IntKind.max,IntKind.signed,IntKind.bits] at h;omega
theorem JuU:Cov Tryz.prog 3 85 JL Cnd.ok:=
 JiT (Cov.struct Tryz.underlying85 rfl (CovP.cons (Cov.int Tryz.underlying3) (CovP.cons (Cov.int Tryz.underlying3) (CovP.cons (Cov.int Tryz.underlying29) (CovP.cons (Cov.int Tryz.underlying29) CovP.nil)))))
  (fun p:Int×Int×Int×Int×Unit=> (⟨p.1,p.2.1,p.2.2.1.toNat,p.2.2.2.1.toNat⟩:Cnd))
  (fun p h=> by
    obtain ⟨a,b,c,d,_⟩:=p
    obtain ⟨h1,h2,h3,h4,_⟩:=h
    have g3:0≤c∧c < 18446744073709551616:=Jge h3;have g4:0≤d∧d < 18446744073709551616:=Jge h4
    show AV.ag [.v (.int .i64 a), .v (.int .i64 b), .v (.int .u64 c), .v (.int .u64 d)]=AV.ag [.v (.int .i64 a), .v (.int .i64 b), .v (.int .u64 (c.toNat:Int)), .v (.int .u64 (d.toNat:Int))]
    rw [Int.toNat_of_nonneg (by omega),Int.toNat_of_nonneg (by omega)])
  (fun p h=> by
    obtain ⟨a,b,c,d,_⟩:=p
    obtain ⟨h1,h2,h3,h4,_⟩:=h
    have g3:0≤c∧c < 18446744073709551616:=Jge h3;have g4:0≤d∧d < 18446744073709551616:=Jge h4
    exact ⟨by dsimp only;omega,by dsimp only;omega⟩)
theorem JuV {d:Nat}:Cov Tryz.prog (d+1) 29 (fun n:Nat=> u64 n) (fun n=> n < 18446744073709551616):=
 JiT (Cov.int (d:=d) Tryz.underlying29) Int.toNat (fun n h=> by have:=Jge h;show AV.v _=AV.v _;rw [Int.toNat_of_nonneg (by omega)]) (fun n h=> by have:=Jge h;omega)
theorem JuW {d:Nat}:Cov Tryz.prog (d+2) 30 Jki (fun x=> ∀i,x i < 18446744073709551616):=
 JiT (Cov.array Tryz.underlying30 (JuV (d:=d))) (fun (l:List Nat) i=> l.getD i 0)
  (fun l h=> by
    obtain ⟨hl,_⟩:=h
    match l,hl with
    | [a,b,c,d,e,f],_=> rfl)
  (fun l h i=> by
    obtain ⟨hl,hx⟩:=h
    show l.getD i 0 < _
    rcases Nat.lt_or_ge i l.length with hi | hi
    ·rw [List.getD_eq_getElem?_getD,List.getElem?_eq_getElem hi];exact hx _ (List.getElem_mem hi)
    ·rw [List.getD_eq_getElem?_getD,List.getElem?_eq_none hi];exact (by decide:(0:Nat) < 18446744073709551616))
set_option maxRecDepth 100000 in
theorem JuX {W:World} (h:laidMetH Tryz.prog Rows.resolveNarrowsRow.laid W):Kn W none2:=by
 have h1 := h.filter (fun x => x.1 == "internal/strconv.uint64pow10")
 rw [show (Rows.resolveNarrowsRow.laid.filter fun x => x.1 == "internal/strconv.uint64pow10") = [("internal/strconv.uint64pow10", Lib.tabData .u64 Lib.pow10Tab)] from by kernel_rfl, MakeChecks.laidMetH_plain _ _ _ (by kernel_rfl)] at h1
 exact Jr2 (Lib.tabIs_of_head (g:=1) (t:=457) (e:=29) (n:=20) (by kernel_rfl) (by kernel_rfl) Tryz.underlying457 Tryz.underlying29 (by kernel_rfl) (by kernel_rfl) h1)
set_option maxRecDepth 100000 in
theorem JiU (H:Type) (enc:TypeId×Value→H) (W:World) (base:Nat) (args:Array Value) (ds gs:List (DataW H)) (before:List MemPlace)
 (hval:∀(j:Nat) t v,Tryz.f7.params[j]? =some t→args[j]? =some v→Value.okWide Tryz.prog W .any base t v)
 (hW:DataW.Whole enc Tryz.prog Tryz.f7.params.toList Rows.resolveNarrowsSpec.vars false W args.toList ds gs before) (hkn:Kn W none2):
 Calls Tryz.prog 7 args W fun e W'=> ∃v,e= .returned v∧Rows.resolveNarrowsSpec.post enc Tryz.prog Tryz.f7 false true false false W args v W':=by
 have hW':=hW
 obtain ⟨p,q,hA0,hV,rfl,hfz,hnd⟩:=hW
 have hA:DataW.TrodAll enc Tryz.prog W 0 (fun _=> true) true Tryz.f7.params.toList args.toList ds p:=hA0
 refine (Jq0 (f:=7) (fn:=Tryz.f7) (d:=3) (by kernel_rfl) hval hA (Jpm JuU (JuW (d:=1)) fun a b ha hb=> Jkg (Jhu a b ha)) hkn).mono fun e W' ⟨he,hb⟩=> ?_
 subst he
 exact ⟨_,rfl,JsI rfl rfl Tryz.underlying4 (fun ds hd=> match ds,hd with | [a,b],_=> ⟨rfl,rfl,rfl⟩) hW' Tryz.laidOut (JsJ (by kernel_rfl)) hb⟩
noncomputable def JiV (cs:Array Value):Obj→Obj
 | .cells _ t frozen=> .cells cs t frozen
 | o=> o
noncomputable def low:Nat:=(World.holding Tryz.prog default ⟨#[], #[], []⟩).heap.size
abbrev JvE:ByteArray:= { data:= #[118,97,108,117,101,32,111,117,116,32,111,102,32,114,97,110,103,101]}
abbrev JuY:ByteArray:= { data:= #[105,110,118,97,108,105,100,32,115,121,110,116,97,120]}
noncomputable def Jhv (os:Os):World:=
 let w0:=World.holding Tryz.prog os ⟨#[.cells #[.string JvE] 488, .cells #[.string JuY] 488], #[], []⟩
 { w0 with heap:=w0.heap
   |>.modify 2 (JiV (Go.Pinned.utf8FirstZ.map fun n : Nat => Value.int .u8 (n : Int)).toArray)
   |>.modify 1 (JiV (([1, 10, 100, 1000, 10000, 100000, 1000000, 10000000, 100000000, 1000000000, 10000000000, 100000000000, 1000000000000, 10000000000000, 100000000000000, 1000000000000000, 10000000000000000, 100000000000000000, 1000000000000000000, 10000000000000000000] : List Int).map fun n => Value.int .u64 n).toArray)
   |>.modify 3 (JiV (([128, 191, 160, 191, 128, 159, 144, 191, 128, 143, 0, 0, 0, 0, 0, 0, 0, 0, 0, 0, 0, 0, 0, 0, 0, 0, 0, 0, 0, 0, 0, 0] : List Int).map fun n => Value.int .u8 n).toArray)
   |>.modify 4 (JiV (([0, 1, 28, 2, 29, 14, 24, 3, 30, 22, 20, 15, 25, 17, 4, 8, 31, 27, 13, 23, 21, 19, 16, 7, 26, 12, 18, 6, 11, 5, 10, 9] : List Int).map fun n => Value.int .u8 n).toArray)
   |>.modify 5 (JiV (([0, 1, 56, 2, 57, 49, 28, 3, 61, 58, 42, 50, 38, 29, 17, 4, 62, 47, 59, 36, 45, 43, 51, 22, 53, 39, 33, 30, 24, 18, 12, 5, 63, 55, 48, 27, 60, 41, 37, 16, 46, 35, 44, 21, 52, 32, 23, 11, 54, 26, 40, 15, 34, 20, 31, 10, 25, 14, 19, 9, 13, 8, 7, 6] : List Int).map fun n => Value.int .u8 n).toArray)
   |>.modify 7 (JiV #[.iface 486 (.pointer (some ⟨low, 0, none⟩))])
   |>.modify 6 (JiV #[.iface 486 (.pointer (some ⟨low + 1, 0, none⟩))]) }
noncomputable def JhZ:Value:= .agg #[.int .u64 0, .int .u64 0, .int .u64 0, .int .u64 0, .int .u64 0, .int .u64 0]
set_option maxRecDepth 100000 in
theorem JtL (os:Os):laidMet Tryz.prog Rows.resolveNarrowsRow.laid ((Jhv os).forCall (fun _ _=> 0) ⟨#[], #[.agg #[.int .i64 0, .int .i64 0, .int .u64 0, .int .u64 0],JhZ], []⟩).memory:=
 laidMet_of_run' 8 (by kernel_rfl) (by kernel_rfl)
theorem Jwh (os:Os) {H:Type} (enc:TypeId×Value→H):∃places,DataW.whole enc Tryz.prog ((Jhv os).forCall (fun _ _=> 0) ⟨#[], #[.agg #[.int .i64 0, .int .i64 0, .int .u64 0, .int .u64 0],JhZ], []⟩).memory Tryz.f7.params.toList Rows.resolveNarrowsSpec.vars false #[.agg #[.int .i64 0, .int .i64 0, .int .u64 0, .int .u64 0],JhZ].toList 8=some ([.agg [.lit (.int .i64 0), .lit (.int .i64 0), .lit (.int .u64 0), .lit (.int .u64 0)], .agg [.lit (.int .u64 0), .lit (.int .u64 0), .lit (.int .u64 0), .lit (.int .u64 0), .lit (.int .u64 0), .lit (.int .u64 0)]], [],places):=
 ⟨[],by kernel_rfl⟩
set_option maxRecDepth 100000 in
theorem JvF (os:Os) (started:os.Started) (H:Type) (enc:TypeId×Value→H) (F:Stop.Interp):
 ReturnsInHanded {} Tryz.checked os 7 .any ((OpenSpec.ofChange Rows.resolveNarrowsSpec).preRow enc Tryz.prog Tryz.f7 Rows.resolveNarrowsRow.domain false Rows.resolveNarrowsRow.laid) (((OpenSpec.ofChange Rows.resolveNarrowsSpec).at F).post enc Tryz.prog Tryz.f7 false true false false):=by
 obtain ⟨places,hx⟩:=Jwh os enc
 refine returnsInHanded_of_row (C:=Tryz.checked) (s:=OpenSpec.ofChange Rows.resolveNarrowsSpec) Tryz.own started (by kernel_rfl) Tryz.func7
  (witness_row_at (enc:=enc) (C:=Tryz.checked) false (Jhv os) #[.agg #[.int .i64 0, .int .i64 0, .int .u64 0, .int .u64 0],JhZ] rfl (by kernel_rfl) (by kernel_rfl) (by kernel_rfl)
    (OpenSpec.preRow_of_cond 8 hx (by kernel_rfl) (fun k hk=> by cases hk) (by kernel_rfl) (JtL os))) ?_
 intro W base args ds gs before hval hW _ _ _ hlaid _ _
 exact JiU H enc W base args ds gs before hval hW (JuX hlaid)
set_option maxRecDepth 100000 in
theorem k1:(Rows.resolveNarrowsRow.inPlace ==Tryz.pinned.checked.prog.inPlace 7)=true:=by kernel_rfl
set_option maxRecDepth 100000 in
theorem k2:(Rows.resolveNarrowsRow.unfollowed ==Tryz.pinned.checked.prog.unfollowed 7)=true:=by kernel_rfl
set_option maxRecDepth 100000 in
theorem k3:(Rows.resolveNarrowsRow.recurses ==Tryz.pinned.checked.prog.recurses 7)=true:=by kernel_rfl
set_option maxRecDepth 100000 in
theorem k4:(Rows.resolveNarrowsRow.named ==Tryz.pinned.checked.prog.varsNamed 7)=true:=by kernel_rfl
end Go.Proofs.YtmipfkagmedcnaaGreatDoor

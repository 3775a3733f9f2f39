import Derived.Test.YtmipfkagmedcnaaGreatDoorPG
import Derived.Test.YtmipfkagmedcnaaGreatDoorPE
import Derived.LaidSub
import Derived.MakeChecks
import Derived.Test.YtmipfkagmedcnaaGreatDoorRows
import Derived.OpenShut
import Derived.Deep.DeepHandedRow
import Derived.Lib.LaidTab
import Derived.Test.YtmipfkagmedcnaaGreatDoorPD
import Derived.ProofKit
set_option linter.unusedVariables false
set_option linter.unusedSimpArgs false
namespace Go.Proofs.YtmipfkagmedcnaaGreatDoor
open Go.ChangeShapes Go.WideShapes Go.ChangeAt Go.RowKit Go.Vl Go.Proofs.W
theorem Tryz.own:ownKnob Tryz.prog.godebug=none:=by kernel_rfl
theorem Tryz.laidOut:laidOutB Tryz.prog=true:=by kernel_rfl
theorem Jgp {P:Program} {d:Nat} {t:TypeId} {α β:Type} {e:α→AV} {e':β→AV} {ok:α→Prop} {ok':β→Prop} (h:Cov P d t e ok) (f:α→β) (he:∀x,ok x→e x=e' (f x)) (ho:∀x,ok x→ok' (f x)):Cov P d t e' ok':=
 ⟨fun cs hw=> let ⟨x,h1,h2,h3⟩:=h.h cs hw;⟨f x,ho x h1,by rw [← he x h1];exact h2,by rw [← he x h1];exact h3⟩⟩
theorem Jk4 {n:Int} (h:(Lit.int .u64 n).wf=true):0≤n∧n < 18446744073709551616:=by simp [Lit.wf,IntKind.min,IntKind.max,IntKind.signed,IntKind.bits] at h;omega
theorem Jxn:Cov Tryz.prog 3 85 JD Cnd.ok:=
 Jgp (Cov.struct Tryz.underlying85 rfl (CovP.cons (Cov.int Tryz.underlying3) (CovP.cons (Cov.int Tryz.underlying3) (CovP.cons (Cov.int Tryz.underlying29) (CovP.cons (Cov.int Tryz.underlying29) CovP.nil)))))
  (fun p:Int×Int×Int×Int×Unit=> (⟨p.1,p.2.1,p.2.2.1.toNat,p.2.2.2.1.toNat⟩:Cnd))
  (fun p h=> by
    obtain ⟨a,b,c,d,_⟩:=p
    obtain ⟨h1,h2,h3,h4,_⟩:=h
    have g3:0≤c∧c < 18446744073709551616:=Jk4 h3;have g4:0≤d∧d < 18446744073709551616:=Jk4 h4
    show AV.ag [.v (.int .i64 a), .v (.int .i64 b), .v (.int .u64 c), .v (.int .u64 d)]=AV.ag [.v (.int .i64 a), .v (.int .i64 b), .v (.int .u64 (c.toNat:Int)), .v (.int .u64 (d.toNat:Int))]
    rw [Int.toNat_of_nonneg (by omega),Int.toNat_of_nonneg (by omega)])
  (fun p h=> by
    obtain ⟨a,b,c,d,_⟩:=p
    obtain ⟨h1,h2,h3,h4,_⟩:=h
    have g3:0≤c∧c < 18446744073709551616:=Jk4 h3;have g4:0≤d∧d < 18446744073709551616:=Jk4 h4
    exact ⟨by dsimp only;omega,by dsimp only;omega⟩)
theorem cells_cnd:Tryz.prog.cellsOf 85=4:=by kernel_rfl
theorem Jv2:Cov Tryz.prog 4 98 JW (fun l=> l.length≤maxLen∧∀x∈l,x.ok):=by
 have h:=Cov.slice cnd0 Tryz.underlying98 Jxn (fun _=> cells_cnd.symm)
 rw [cells_cnd] at h
 exact h
theorem JqS {d:Nat}:Cov Tryz.prog (d+2) 23 Joh (fun _=> True):=
 Jgp (Cov.struct Tryz.underlying23 rfl (CovP.cons (Cov.int Tryz.underlying3) (CovP.cons (Cov.int Tryz.underlying3) CovP.nil)))
  (fun p:Int×Int×Unit=> (p.1,p.2.1)) (fun p h=> rfl) (fun p h=> trivial)
theorem Jxo:Cov Tryz.prog 5 100 Jaj Rul.ok:=
 Jgp (Cov.struct Tryz.underlying100 rfl (CovP.cons (Cov.str Tryz.underlying9) (CovP.cons JqS (CovP.cons Jv2 CovP.nil))))
  (fun p:ByteArray×A2×List Cnd×Unit=> (⟨p.1,p.2.1,p.2.2.1⟩:Rul)) (fun p h=> rfl) (fun p h=> ⟨h.1,h.2.2.1.1,h.2.2.1.2⟩)
theorem cells_rul:Tryz.prog.cellsOf 100=4:=by kernel_rfl
theorem Jv3:Cov Tryz.prog 6 24 Ji (fun l=> l.length≤maxLen∧∀x∈l,x.ok):=by
 have h:=Cov.slice rul0 Tryz.underlying24 Jxo (fun _=> cells_rul.symm)
 rw [cells_rul] at h
 exact h
theorem Jxp:Cov Tryz.prog 7 26 JaL Pol.ok:=
 Jgp (Cov.struct Tryz.underlying26 rfl (CovP.cons JqS (CovP.cons (Cov.bool Tryz.underlying4) (CovP.cons Jv3 CovP.nil))))
  (fun p:A2×Bool×List Rul×Unit=> (⟨p.1,p.2.1,p.2.2.1⟩:Pol)) (fun p h=> rfl) (fun p h=> h.2.2.1)
theorem Jxq {d:Nat}:Cov Tryz.prog (d+3) 75 Jq (fun r=> r.name.size≤maxLen):=
 Jgp (Cov.struct Tryz.underlying75 rfl (CovP.cons (Cov.str Tryz.underlying9) (CovP.cons (Cov.array Tryz.underlying73 (Cov.int (d:=d) Tryz.underlying3)) (CovP.cons (Cov.int Tryz.underlying3) (CovP.cons (Cov.int Tryz.underlying3) CovP.nil)))))
  (fun p:ByteArray×List Int×Int×Int×Unit=> (⟨p.1,p.2.1.getD 0 0,p.2.1.getD 1 0,p.2.1.getD 2 0,p.2.1.getD 3 0,p.2.1.getD 4 0,p.2.2.1,p.2.2.2.1⟩:TRow))
  (fun p h=> by
    obtain ⟨s,l,m,u,_⟩:=p
    obtain ⟨_,⟨hl,_⟩,_⟩:=h
    match l,hl with
    | [a,b,c,d,e],_=> rfl)
  (fun p h=> h.1)
theorem cells_row:Tryz.prog.cellsOf 75=8:=by kernel_rfl
theorem Jv4 {d:Nat}:Cov Tryz.prog (d+4) 27 Jv (fun l=> l.length≤maxLen∧∀x∈l,x.name.size≤maxLen):=by
 have h:=Cov.slice (d:=d+3) trow0 Tryz.underlying27 Jxq (fun _=> cells_row.symm)
 rw [cells_row] at h
 exact h
set_option maxRecDepth 100000 in
theorem Jxr {W:World} (h:laidMetH Tryz.prog Rows.resolvePlansRow.laid W):Kn W none2:=by
 have h1 := h.filter (fun x => x.1 == "internal/strconv.uint64pow10")
 rw [show (Rows.resolvePlansRow.laid.filter fun x => x.1 == "internal/strconv.uint64pow10") = [("internal/strconv.uint64pow10", Lib.tabData .u64 Lib.pow10Tab)] from by kernel_rfl, MakeChecks.laidMetH_plain _ _ _ (by kernel_rfl)] at h1
 exact JtQ (Lib.tabIs_of_head (g:=1) (t:=457) (e:=29) (n:=20) (by kernel_rfl) (by kernel_rfl) Tryz.underlying457 Tryz.underlying29 (by kernel_rfl) (by kernel_rfl) h1)
set_option maxRecDepth 100000 in
theorem JjU (H:Type) (enc:TypeId×Value→H) (W:World) (base:Nat) (args:Array Value) (ds gs:List (DataW H)) (before:List MemPlace)
 (hval:∀(j:Nat) t v,Tryz.f5.params[j]? =some t→args[j]? =some v→Value.okWide Tryz.prog W .any base t v)
 (hW:DataW.Whole enc Tryz.prog Tryz.f5.params.toList Rows.resolvePlansSpec.vars false W args.toList ds gs before) (hkn:Kn W none2):
 Calls Tryz.prog 5 args W fun e W'=> ∃v,e= .returned v∧Rows.resolvePlansSpec.post enc Tryz.prog Tryz.f5 false true false false W args v W':=by
 have hW':=hW
 obtain ⟨p,q,hA0,hV,rfl,hfz,hnd⟩:=hW
 have hA:DataW.TrodAll enc Tryz.prog W 0 (fun _=> true) true Tryz.f5.params.toList args.toList ds p:=hA0
 refine (JsK (f:=5) (fn:=Tryz.f5) (d:=7) (by kernel_rfl) hval hA (JqY Jxp (Jv4 (d:=3)) fun a b ha hb=> Jli (JjT a b ha hb.1 hb.2)) hkn).mono fun e W' ⟨he,hb⟩=> ?_
 subst he
 exact ⟨_,rfl,JuJ rfl rfl Tryz.underlying4 (fun ds hd=> match ds,hd with | [a,b],_=> ⟨rfl,rfl,rfl⟩) hW' Tryz.laidOut (JuK (by kernel_rfl)) hb⟩
noncomputable def JbF (cs:Array Value):Obj→Obj
 | .cells _ t frozen=> .cells cs t frozen
 | o=> o
noncomputable def low:Nat:=(World.holding Tryz.prog default ⟨#[], #[], []⟩).heap.size
abbrev Jx8:ByteArray:= { data:= #[118,97,108,117,101,32,111,117,116,32,111,102,32,114,97,110,103,101]}
abbrev Jxs:ByteArray:= { data:= #[105,110,118,97,108,105,100,32,115,121,110,116,97,120]}
noncomputable def Jiv (os:Os):World:=
 let w0:=World.holding Tryz.prog os ⟨#[.cells #[.string Jx8] 488, .cells #[.string Jxs] 488], #[], []⟩
 { w0 with heap:=w0.heap
   |>.modify 2 (JbF (Go.Pinned.utf8FirstZ.map fun n : Nat => Value.int .u8 (n : Int)).toArray)
   |>.modify 1 (JbF (([1, 10, 100, 1000, 10000, 100000, 1000000, 10000000, 100000000, 1000000000, 10000000000, 100000000000, 1000000000000, 10000000000000, 100000000000000, 1000000000000000, 10000000000000000, 100000000000000000, 1000000000000000000, 10000000000000000000] : List Int).map fun n => Value.int .u64 n).toArray)
   |>.modify 3 (JbF (([128, 191, 160, 191, 128, 159, 144, 191, 128, 143, 0, 0, 0, 0, 0, 0, 0, 0, 0, 0, 0, 0, 0, 0, 0, 0, 0, 0, 0, 0, 0, 0] : List Int).map fun n => Value.int .u8 n).toArray)
   |>.modify 4 (JbF (([0, 1, 28, 2, 29, 14, 24, 3, 30, 22, 20, 15, 25, 17, 4, 8, 31, 27, 13, 23, 21, 19, 16, 7, 26, 12, 18, 6, 11, 5, 10, 9] : List Int).map fun n => Value.int .u8 n).toArray)
   |>.modify 5 (JbF (([0, 1, 56, 2, 57, 49, 28, 3, 61, 58, 42, 50, 38, 29, 17, 4, 62, 47, 59, 36, 45, 43, 51, 22, 53, 39, 33, 30, 24, 18, 12, 5, 63, 55, 48, 27, 60, 41, 37, 16, 46, 35, 44, 21, 52, 32, 23, 11, 54, 26, 40, 15, 34, 20, 31, 10, 25, 14, 19, 9, 13, 8, 7, 6] : List Int).map fun n => Value.int .u8 n).toArray)
   |>.modify 7 (JbF #[.iface 486 (.pointer (some ⟨low, 0, none⟩))])
   |>.modify 6 (JbF #[.iface 486 (.pointer (some ⟨low + 1, 0, none⟩))]) }
noncomputable def JiX:Value:= .agg #[.int .i64 0, .int .i64 0, .bool false, .slice none 0 0]
set_option maxRecDepth 100000 in
theorem Jv5 (os:Os):laidMet Tryz.prog Rows.resolvePlansRow.laid ((Jiv os).forCall (fun _ _=> 0) ⟨#[], #[JiX, .slice none 0 0], []⟩).memory:=
 laidMet_of_run' 8 (by kernel_rfl) (by kernel_rfl)
theorem Jyz (os:Os) {H:Type} (enc:TypeId×Value→H):∃places,DataW.whole enc Tryz.prog ((Jiv os).forCall (fun _ _=> 0) ⟨#[], #[JiX, .slice none 0 0], []⟩).memory Tryz.f5.params.toList Rows.resolvePlansSpec.vars false #[JiX, .slice none 0 0].toList 8=some ([.agg [.agg [.lit (.int .i64 0), .lit (.int .i64 0)], .lit (.bool false), .nil], .nil], [],places):=
 ⟨[],by kernel_rfl⟩
set_option maxRecDepth 100000 in
theorem Jx9 (os:Os) (started:os.Started) (H:Type) (enc:TypeId×Value→H) (F:Stop.Interp):
 ReturnsInHanded {} Tryz.checked os 5 .any ((OpenSpec.ofChange Rows.resolvePlansSpec).preRow enc Tryz.prog Tryz.f5 Rows.resolvePlansRow.domain false Rows.resolvePlansRow.laid) (((OpenSpec.ofChange Rows.resolvePlansSpec).at F).post enc Tryz.prog Tryz.f5 false true false false):=by
 obtain ⟨places,hx⟩:=Jyz os enc
 refine returnsInHanded_of_row (C:=Tryz.checked) (s:=OpenSpec.ofChange Rows.resolvePlansSpec) Tryz.own started (by kernel_rfl) Tryz.func5
  (witness_row_at (enc:=enc) (C:=Tryz.checked) false (Jiv os) #[JiX, .slice none 0 0] rfl (by kernel_rfl) (by kernel_rfl) (by kernel_rfl)
    (OpenSpec.preRow_of_cond 8 hx (by kernel_rfl) (fun k hk=> by cases hk) (by kernel_rfl) (Jv5 os))) ?_
 intro W base args ds gs before hval hW _ _ _ hlaid _ _
 exact JjU H enc W base args ds gs before hval hW (Jxr hlaid)
set_option maxRecDepth 100000 in
theorem k1:(Rows.resolvePlansRow.inPlace ==Tryz.pinned.checked.prog.inPlace 5)=true:=by kernel_rfl
set_option maxRecDepth 100000 in
theorem k2:(Rows.resolvePlansRow.unfollowed ==Tryz.pinned.checked.prog.unfollowed 5)=true:=by kernel_rfl
set_option maxRecDepth 100000 in
theorem k3:(Rows.resolvePlansRow.recurses ==Tryz.pinned.checked.prog.recurses 5)=true:=by kernel_rfl
set_option maxRecDepth 100000 in
theorem k4:(Rows.resolvePlansRow.named ==Tryz.pinned.checked.prog.varsNamed 5)=true:=by kernel_rfl
end Go.Proofs.YtmipfkagmedcnaaGreatDoor

import Derived.Test.YtmipfkagmedcnaaGreatDoorXG
import Derived.Test.YtmipfkagmedcnaaGreatDoorXE
import Derived.LaidSub
import Derived.MakeChecks
import Derived.Test.YtmipfkagmedcnaaGreatDoorRows
import Derived.OpenShut
import Derived.Deep.DeepHandedRow
import Derived.Lib.LaidTab
import Derived.Test.YtmipfkagmedcnaaGreatDoorXD
import Derived.ProofKit
set_option linter.unusedVariables false
set_option linter.unusedSimpArgs false
namespace Go.Proofs.YtmipfkagmedcnaaGreatDoor
open Go.ChangeShapes Go.WideShapes Go.ChangeAt Go.RowKit Go.Vl Go.Proofs.W
theorem Tryz.own:ownKnob Tryz.prog.godebug=none:=by kernel_rfl
theorem Tryz.laidOut:laidOutB Tryz.prog=true:=by kernel_rfl
theorem JfQ {P:Program} {d:Nat} {t:TypeId} {α β:Type} {e:α→AV} {e':β→AV} {ok:α→Prop} {ok':β→Prop} (h:Cov P d t e ok) (f:α→β) (he:∀x,ok x→e x=e' (f x)) (ho:∀x,ok x→ok' (f x)):Cov P d t e' ok':=
 ⟨fun cs hw=> let ⟨x,h1,h2,h3⟩:=h.h cs hw;⟨f x,ho x h1,by rw [← he x h1];exact h2,by rw [← he x h1];exact h3⟩⟩
theorem Jkd {n:Int} (h:(Lit.int .u64 n).wf=true):0≤n∧n < 18446744073709551616:=by simp [Lit.wf,IntKind.min,IntKind.max,IntKind.signed,IntKind.bits] at h;omega
theorem Jvf:Cov Tryz.prog 3 85 JZ Cnd.ok:=
 JfQ (Cov.struct Tryz.underlying85 rfl (CovP.cons (Cov.int Tryz.underlying3) (CovP.cons (Cov.int Tryz.underlying3) (CovP.cons (Cov.int Tryz.underlying29) (CovP.cons (Cov.int Tryz.underlying29) CovP.nil)))))
  (fun p:Int×Int×Int×Int×Unit=> (⟨p.1,p.2.1,p.2.2.1.toNat,p.2.2.2.1.toNat⟩:Cnd))
  (fun p h=> by
    obtain ⟨a,b,c,d,_⟩:=p
    obtain ⟨h1,h2,h3,h4,_⟩:=h
    have g3:0≤c∧c < 18446744073709551616:=Jkd h3;have g4:0≤d∧d < 18446744073709551616:=Jkd h4
    show AV.ag [.v (.int .i64 a), .v (.int .i64 b), .v (.int .u64 c), .v (.int .u64 d)]=AV.ag [.v (.int .i64 a), .v (.int .i64 b), .v (.int .u64 (c.toNat:Int)), .v (.int .u64 (d.toNat:Int))]
    rw [Int.toNat_of_nonneg (by omega),Int.toNat_of_nonneg (by omega)])
  (fun p h=> by
    obtain ⟨a,b,c,d,_⟩:=p
    obtain ⟨h1,h2,h3,h4,_⟩:=h
    have g3:0≤c∧c < 18446744073709551616:=Jkd h3;have g4:0≤d∧d < 18446744073709551616:=Jkd h4
    exact ⟨by dsimp only;omega,by dsimp only;omega⟩)
theorem cells_cnd:Tryz.prog.cellsOf 85=4:=by kernel_rfl
theorem Jt3:Cov Tryz.prog 4 98 JaS (fun l=> l.length≤maxLen∧∀x∈l,x.ok):=by
 have h:=Cov.slice cnd0 Tryz.underlying98 Jvf (fun _=> cells_cnd.symm)
 rw [cells_cnd] at h
 exact h
theorem Jpr {d:Nat}:Cov Tryz.prog (d+2) 23 Jtj (fun _=> True):=
 JfQ (Cov.struct Tryz.underlying23 rfl (CovP.cons (Cov.int Tryz.underlying3) (CovP.cons (Cov.int Tryz.underlying3) CovP.nil)))
  (fun p:Int×Int×Unit=> (p.1,p.2.1)) (fun p h=> rfl) (fun p h=> trivial)
theorem Jvg:Cov Tryz.prog 5 100 Jaf Rul.ok:=
 JfQ (Cov.struct Tryz.underlying100 rfl (CovP.cons (Cov.str Tryz.underlying9) (CovP.cons Jpr (CovP.cons Jt3 CovP.nil))))
  (fun p:ByteArray×A2×List Cnd×Unit=> (⟨p.1,p.2.1,p.2.2.1⟩:Rul)) (fun p h=> rfl) (fun p h=> ⟨h.1,h.2.2.1.1,h.2.2.1.2⟩)
theorem cells_rul:Tryz.prog.cellsOf 100=4:=by kernel_rfl
theorem Jt4:Cov Tryz.prog 6 24 Ji (fun l=> l.length≤maxLen∧∀x∈l,x.ok):=by
 have h:=Cov.slice Jl Tryz.underlying24 Jvg (fun _=> cells_rul.symm)
 rw [cells_rul] at h
 exact h
theorem Jvh:Cov Tryz.prog 7 26 JbN Pol.ok:=
 JfQ (Cov.struct Tryz.underlying26 rfl (CovP.cons Jpr (CovP.cons (Cov.bool Tryz.underlying4) (CovP.cons Jt4 CovP.nil))))
  (fun p:A2×Bool×List Rul×Unit=> (⟨p.1,p.2.1,p.2.2.1⟩:Pol)) (fun p h=> rfl) (fun p h=> h.2.2.1)
theorem Jvi {d:Nat}:Cov Tryz.prog (d+3) 75 Jp (fun r=> r.name.size≤maxLen):=
 JfQ (Cov.struct Tryz.underlying75 rfl (CovP.cons (Cov.str Tryz.underlying9) (CovP.cons (Cov.array Tryz.underlying73 (Cov.int (d:=d) Tryz.underlying3)) (CovP.cons (Cov.int Tryz.underlying3) (CovP.cons (Cov.int Tryz.underlying3) CovP.nil)))))
  (fun p:ByteArray×List Int×Int×Int×Unit=> (⟨p.1,p.2.1.getD 0 0,p.2.1.getD 1 0,p.2.1.getD 2 0,p.2.1.getD 3 0,p.2.1.getD 4 0,p.2.2.1,p.2.2.2.1⟩:TRow))
  (fun p h=> by
    obtain ⟨s,l,m,u,_⟩:=p
    obtain ⟨_,⟨hl,_⟩,_⟩:=h
    match l,hl with
    | [a,b,c,d,e],_=> rfl)
  (fun p h=> h.1)
theorem cells_row:Tryz.prog.cellsOf 75=8:=by kernel_rfl
theorem Jt5 {d:Nat}:Cov Tryz.prog (d+4) 27 JN (fun l=> l.length≤maxLen∧∀x∈l,x.name.size≤maxLen):=by
 have h:=Cov.slice (d:=d+3) Jh Tryz.underlying27 Jvi (fun _=> cells_row.symm)
 rw [cells_row] at h
 exact h
set_option maxRecDepth 100000 in
theorem Jvj {W:World} (h:laidMetH Tryz.prog Rows.resolveX32Row.laid W):Kn W none2:=by
 have h1 := h.filter (fun x => x.1 == "internal/strconv.uint64pow10")
 rw [show (Rows.resolveX32Row.laid.filter fun x => x.1 == "internal/strconv.uint64pow10") = [("internal/strconv.uint64pow10", Lib.tabData .u64 Lib.pow10Tab)] from by kernel_rfl, MakeChecks.laidMetH_plain _ _ _ (by kernel_rfl)] at h1
 exact Jr8 (Lib.tabIs_of_head (g:=1) (t:=457) (e:=29) (n:=20) (by kernel_rfl) (by kernel_rfl) Tryz.underlying457 Tryz.underlying29 (by kernel_rfl) (by kernel_rfl) h1)
set_option maxRecDepth 100000 in
theorem Ji8 (H:Type) (enc:TypeId×Value→H) (W:World) (base:Nat) (args:Array Value) (ds gs:List (DataW H)) (before:List MemPlace)
 (hval:∀(j:Nat) t v,Tryz.f6.params[j]? =some t→args[j]? =some v→Value.okWide Tryz.prog W .any base t v)
 (hW:DataW.Whole enc Tryz.prog Tryz.f6.params.toList Rows.resolveX32Spec.vars false W args.toList ds gs before) (hkn:Kn W none2):
 Calls Tryz.prog 6 args W fun e W'=> ∃v,e= .returned v∧Rows.resolveX32Spec.post enc Tryz.prog Tryz.f6 false true false false W args v W':=by
 have hW':=hW
 obtain ⟨p,q,hA0,hV,rfl,hfz,hnd⟩:=hW
 have hA:DataW.TrodAll enc Tryz.prog W 0 (fun _=> true) true Tryz.f6.params.toList args.toList ds p:=hA0
 refine (Jq7 (f:=6) (fn:=Tryz.f6) (d:=7) (by kernel_rfl) hval hA (Jpw Jvh (Jt5 (d:=3)) fun a b ha hb=> Jkt (JkX a b ha hb.1 hb.2)) hkn).mono fun e W' ⟨he,hb⟩=> ?_
 subst he
 exact ⟨_,rfl,JsT rfl rfl Tryz.underlying4 (fun ds hd=> match ds,hd with | [a,b],_=> ⟨rfl,rfl,rfl⟩) hW' Tryz.laidOut (JsU (by kernel_rfl)) hb⟩
noncomputable def Ji9 (cs:Array Value):Obj→Obj
 | .cells _ t frozen=> .cells cs t frozen
 | o=> o
noncomputable def low:Nat:=(World.holding Tryz.prog default ⟨#[], #[], []⟩).heap.size
abbrev Jv1:ByteArray:= { data:= #[118,97,108,117,101,32,111,117,116,32,111,102,32,114,97,110,103,101]}
abbrev Jvk:ByteArray:= { data:= #[105,110,118,97,108,105,100,32,115,121,110,116,97,120]}
noncomputable def JhI (os:Os):World:=
 let w0:=World.holding Tryz.prog os ⟨#[.cells #[.string Jv1] 488, .cells #[.string Jvk] 488], #[], []⟩
 { w0 with heap:=w0.heap
   |>.modify 2 (Ji9 (Go.Pinned.utf8FirstZ.map fun n : Nat => Value.int .u8 (n : Int)).toArray)
   |>.modify 1 (Ji9 (([1, 10, 100, 1000, 10000, 100000, 1000000, 10000000, 100000000, 1000000000, 10000000000, 100000000000, 1000000000000, 10000000000000, 100000000000000, 1000000000000000, 10000000000000000, 100000000000000000, 1000000000000000000, 10000000000000000000] : List Int).map fun n => Value.int .u64 n).toArray)
   |>.modify 3 (Ji9 (([128, 191, 160, 191, 128, 159, 144, 191, 128, 143, 0, 0, 0, 0, 0, 0, 0, 0, 0, 0, 0, 0, 0, 0, 0, 0, 0, 0, 0, 0, 0, 0] : List Int).map fun n => Value.int .u8 n).toArray)
   |>.modify 4 (Ji9 (([0, 1, 28, 2, 29, 14, 24, 3, 30, 22, 20, 15, 25, 17, 4, 8, 31, 27, 13, 23, 21, 19, 16, 7, 26, 12, 18, 6, 11, 5, 10, 9] : List Int).map fun n => Value.int .u8 n).toArray)
   |>.modify 5 (Ji9 (([0, 1, 56, 2, 57, 49, 28, 3, 61, 58, 42, 50, 38, 29, 17, 4, 62, 47, 59, 36, 45, 43, 51, 22, 53, 39, 33, 30, 24, 18, 12, 5, 63, 55, 48, 27, 60, 41, 37, 16, 46, 35, 44, 21, 52, 32, 23, 11, 54, 26, 40, 15, 34, 20, 31, 10, 25, 14, 19, 9, 13, 8, 7, 6] : List Int).map fun n => Value.int .u8 n).toArray)
   |>.modify 7 (Ji9 #[.iface 486 (.pointer (some ⟨low, 0, none⟩))])
   |>.modify 6 (Ji9 #[.iface 486 (.pointer (some ⟨low + 1, 0, none⟩))]) }
noncomputable def Jic:Value:= .agg #[.int .i64 0, .int .i64 0, .bool false, .slice none 0 0]
set_option maxRecDepth 100000 in
theorem Jt6 (os:Os):laidMet Tryz.prog Rows.resolveX32Row.laid ((JhI os).forCall (fun _ _=> 0) ⟨#[], #[Jic, .slice none 0 0], []⟩).memory:=
 laidMet_of_run' 8 (by kernel_rfl) (by kernel_rfl)
theorem JwG (os:Os) {H:Type} (enc:TypeId×Value→H):∃places,DataW.whole enc Tryz.prog ((JhI os).forCall (fun _ _=> 0) ⟨#[], #[Jic, .slice none 0 0], []⟩).memory Tryz.f6.params.toList Rows.resolveX32Spec.vars false #[Jic, .slice none 0 0].toList 8=some ([.agg [.agg [.lit (.int .i64 0), .lit (.int .i64 0)], .lit (.bool false), .nil], .nil], [],places):=
 ⟨[],by kernel_rfl⟩
set_option maxRecDepth 100000 in
theorem Jv2 (os:Os) (started:os.Started) (H:Type) (enc:TypeId×Value→H) (F:Stop.Interp):
 ReturnsInHanded {} Tryz.checked os 6 .any ((OpenSpec.ofChange Rows.resolveX32Spec).preRow enc Tryz.prog Tryz.f6 Rows.resolveX32Row.domain false Rows.resolveX32Row.laid) (((OpenSpec.ofChange Rows.resolveX32Spec).at F).post enc Tryz.prog Tryz.f6 false true false false):=by
 obtain ⟨places,hx⟩:=JwG os enc
 refine returnsInHanded_of_row (C:=Tryz.checked) (s:=OpenSpec.ofChange Rows.resolveX32Spec) Tryz.own started (by kernel_rfl) Tryz.func6
  (witness_row_at (enc:=enc) (C:=Tryz.checked) false (JhI os) #[Jic, .slice none 0 0] rfl (by kernel_rfl) (by kernel_rfl) (by kernel_rfl)
    (OpenSpec.preRow_of_cond 8 hx (by kernel_rfl) (fun k hk=> by cases hk) (by kernel_rfl) (Jt6 os))) ?_
 intro W base args ds gs before hval hW _ _ _ hlaid _ _
 exact Ji8 H enc W base args ds gs before hval hW (Jvj hlaid)
set_option maxRecDepth 100000 in
theorem k1:(Rows.resolveX32Row.inPlace ==Tryz.pinned.checked.prog.inPlace 6)=true:=by kernel_rfl
set_option maxRecDepth 100000 in
theorem k2:(Rows.resolveX32Row.unfollowed ==Tryz.pinned.checked.prog.unfollowed 6)=true:=by kernel_rfl
set_option maxRecDepth 100000 in
theorem k3:(Rows.resolveX32Row.recurses ==Tryz.pinned.checked.prog.recurses 6)=true:=by kernel_rfl
set_option maxRecDepth 100000 in
theorem k4:(Rows.resolveX32Row.named ==Tryz.pinned.checked.prog.varsNamed 6)=true:=by kernel_rfl
end Go.Proofs.YtmipfkagmedcnaaGreatDoor

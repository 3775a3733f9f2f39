import Derived.Test.YtokhkmgefndbaaaGreatDoorQH
import Derived.Test.YtokhkmgefndbaaaGreatDoorQE
import Derived.LaidSub
import Derived.MakeChecks
import Derived.Test.YtokhkmgefndbaaaGreatDoorRows
import Derived.OpenShut
import Derived.Deep.DeepHandedRow
import Derived.Lib.LaidTab
import Derived.Test.YtokhkmgefndbaaaGreatDoorQD
import Derived.ProofKit
set_option linter.unusedVariables false
set_option linter.unusedSimpArgs false
set_option maxHeartbeats 16000000
namespace Go.Proofs.YtokhkmgefndbaaaGreatDoor
open Go.ChangeShapes Go.WideShapes Go.ChangeAt Go.RowKit Go.Vl Go.Proofs.W
theorem Tryz.own:ownKnob Tryz.prog.godebug=none:=by kernel_rfl
theorem Tryz.laidOut:laidOutB Tryz.prog=true:=by kernel_rfl
theorem JeK {P:Program} {d:Nat} {t:TypeId} {α β:Type} {e:α→AV} {e':β→AV} {ok:α→Prop} {ok':β→Prop} (h:Cov P d t e ok) (f:α→β) (he:∀x,ok x→e x=e' (f x)) (ho:∀x,ok x→ok' (f x)):Cov P d t e' ok':=
 ⟨fun cs hw=> let ⟨x,h1,h2,h3⟩:=h.h cs hw;⟨f x,ho x h1,by rw [← he x h1];exact h2,by rw [← he x h1];exact h3⟩⟩
theorem JiM {n:Int} (h:(Lit.int .u64 n).wf=true):0≤n∧n < 18446744073709551616:=by simp [Lit.wf,IntKind.min,IntKind.max,IntKind.signed,IntKind.bits] at h;omega
theorem JDa:Cov Tryz.prog 3 182 JZ Cnd.ok:=
 JeK (Cov.struct Tryz.underlying182 rfl (CovP.cons (Cov.int Tryz.underlying3) (CovP.cons (Cov.int Tryz.underlying3) (CovP.cons (Cov.int Tryz.underlying29) (CovP.cons (Cov.int Tryz.underlying29) CovP.nil)))))
  (fun p:Int×Int×Int×Int×Unit=> (⟨p.1,p.2.1,p.2.2.1.toNat,p.2.2.2.1.toNat⟩:Cnd))
  (fun p h=> by
    obtain ⟨a,b,c,d,_⟩:=p;obtain ⟨h1,h2,h3,h4,_⟩:=h;have g3:0≤c∧c < 18446744073709551616:=JiM h3;have g4:0≤d∧d < 18446744073709551616:=JiM h4;show AV.ag [.v (.int .i64 a), .v (.int .i64 b), .v (.int .u64 c), .v (.int .u64 d)]=AV.ag [.v (.int .i64 a), .v (.int .i64 b), .v (.int .u64 (c.toNat:Int)), .v (.int .u64 (d.toNat:Int))];rw [Int.toNat_of_nonneg Om,Int.toNat_of_nonneg Om])
  (fun p h=> by
    obtain ⟨a,b,c,d,_⟩:=p;obtain ⟨h1,h2,h3,h4,_⟩:=h;have g3:0≤c∧c < 18446744073709551616:=JiM h3;have g4:0≤d∧d < 18446744073709551616:=JiM h4;exact ⟨by dsimp only;omega,by dsimp only;omega⟩)
theorem cells_cnd:Tryz.prog.cellsOf 182=4:=by kernel_rfl
theorem JBo:Cov Tryz.prog 4 67 Jaz (fun l=> l.length≤maxLen∧∀x∈l,x.ok):=by
 have h:=Cov.slice cnd0 Tryz.underlying67 JDa (fun _=> cells_cnd.symm)
 rw [cells_cnd] at h
 exact h
theorem Jvn {d:Nat}:Cov Tryz.prog (d+2) 23 Jn4 (fun _=> True):=
 JeK (Cov.struct Tryz.underlying23 rfl (CovP.cons (Cov.int Tryz.underlying3) (CovP.cons (Cov.int Tryz.underlying3) CovP.nil)))
  (fun p:Int×Int×Unit=> (p.1,p.2.1)) (fun p h=> rfl) (fun p h=> trivial)
theorem JDb:Cov Tryz.prog 5 69 JaS Rul.ok:=
 JeK (Cov.struct Tryz.underlying69 rfl (CovP.cons (Cov.str Tryz.underlying9) (CovP.cons Jvn (CovP.cons JBo CovP.nil))))
  (fun p:ByteArray×A2×List Cnd×Unit=> (⟨p.1,p.2.1,p.2.2.1⟩:Rul)) (fun p h=> rfl) (fun p h=> ⟨h.1,h.2.2.1.1,h.2.2.1.2⟩)
theorem cells_rul:Tryz.prog.cellsOf 69=4:=by kernel_rfl
theorem JBp:Cov Tryz.prog 6 24 Jak (fun l=> l.length≤maxLen∧∀x∈l,x.ok):=by
 have h:=Cov.slice Jn Tryz.underlying24 JDb (fun _=> cells_rul.symm)
 rw [cells_rul] at h
 exact h
theorem JDc:Cov Tryz.prog 7 26 JcT Pol.ok:=
 JeK (Cov.struct Tryz.underlying26 rfl (CovP.cons Jvn (CovP.cons (Cov.bool Tryz.underlying4) (CovP.cons JBp CovP.nil))))
  (fun p:A2×Bool×List Rul×Unit=> (⟨p.1,p.2.1,p.2.2.1⟩:Pol)) (fun p h=> rfl) (fun p h=> h.2.2.1)
theorem Jzs {n:Int} (h:(Lit.int .u32 n).wf=true):0≤n∧n < 4294967296:=by simp [Lit.wf,IntKind.min,IntKind.max,IntKind.signed,IntKind.bits] at h;omega
theorem Jvo {d:Nat}:Cov Tryz.prog (d+1) 29 (fun n:Nat=> u64 n) (fun n=> n < 18446744073709551616):=
 JeK (Cov.int (d:=d) Tryz.underlying29) Int.toNat (fun n h=> by have:=JiM h;show AV.v _=AV.v _;rw [Int.toNat_of_nonneg Om]) (fun n h=> by have:=JiM h;omega)
theorem Jvp {d:Nat}:Cov Tryz.prog (d+1) 28 (fun n:Nat=> u32 n) (fun n=> n < 4294967296):=
 JeK (Cov.int (d:=d) Tryz.underlying28) Int.toNat (fun n h=> by have:=Jzs h;show AV.v _=AV.v _;rw [Int.toNat_of_nonneg Om]) (fun n h=> by have:=Jzs h;omega)
theorem JDd {d:Nat}:Cov Tryz.prog (d+3) 72 Jfd (fun r=> r.name.size≤maxLen):=
 JeK (Cov.struct Tryz.underlying72 rfl (CovP.cons (Cov.str Tryz.underlying9) (CovP.cons (Cov.array Tryz.underlying70 (Cov.int (d:=d) Tryz.underlying3)) (CovP.cons (Cov.int Tryz.underlying3) (CovP.cons (Cov.int Tryz.underlying3) CovP.nil)))))
  (fun p:ByteArray×List Int×Int×Int×Unit=> (⟨p.1,p.2.1.getD 0 0,p.2.1.getD 1 0,p.2.1.getD 2 0,p.2.1.getD 3 0,p.2.1.getD 4 0,p.2.2.1,p.2.2.2.1⟩:TRow))
  (fun p h=> by
    obtain ⟨s,l,m,u,_⟩:=p;obtain ⟨_,⟨hl,_⟩,_⟩:=h
    match l,hl with
    | [a,b,c,d,e],_=> rfl)
  (fun p h=> h.1)
theorem JDe {d:Nat}:Cov Tryz.prog (d+3) 32 Jja Rec.ok:=
 JeK (Cov.struct Tryz.underlying32 rfl (CovP.cons Jvp (CovP.cons Jvp (CovP.cons Jvo (CovP.cons (Cov.array Tryz.underlying30 Jvo) CovP.nil)))))
  (fun p:Nat×Nat×Nat×List Nat×Unit=> (⟨p.1,p.2.1,p.2.2.1,p.2.2.2.1.getD 0 0,p.2.2.2.1.getD 1 0,p.2.2.2.1.getD 2 0,p.2.2.2.1.getD 3 0,p.2.2.2.1.getD 4 0,p.2.2.2.1.getD 5 0⟩:Rec))
  (fun p h=> by
    obtain ⟨s,m,u,l,_⟩:=p;obtain ⟨_,_,_,⟨hl,_⟩,_⟩:=h
    match l,hl with
    | [a,b,c,d,e,f],_=> rfl)
  (fun p h=> by
    obtain ⟨s,m,u,l,_⟩:=p;obtain ⟨h1,h2,h3,⟨hl,hx⟩,_⟩:=h
    match l,hl,hx with
    | [a,b,c,d,e,f],_,hx=> exact ⟨h1,h2,h3,hx a Si,hx b Si,hx c Si,hx d Si,hx e Si,hx f Si⟩)
theorem cells_row:Tryz.prog.cellsOf 72=8:=by kernel_rfl
theorem JBq {d:Nat}:Cov Tryz.prog (d+4) 27 JS (fun l=> l.length≤maxLen∧∀x∈l,x.name.size≤maxLen):=by
 have h:=Cov.slice (d:=d+3) Jd Tryz.underlying27 JDd (fun _=> cells_row.symm)
 rw [cells_row] at h
 exact h
set_option maxRecDepth 100000 in
theorem JDf {W:World} (h:laidMetH Tryz.prog Rows.genJudgesRow.laid W):Kn W none2:=by
 have h1 := h.filter (fun x => x.1 == "internal/strconv.uint64pow10")
 rw [show (Rows.genJudgesRow.laid.filter fun x => x.1 == "internal/strconv.uint64pow10") = [("internal/strconv.uint64pow10", Lib.tabData .u64 Lib.pow10Tab)] from by kernel_rfl, MakeChecks.laidMetH_plain _ _ _ (by kernel_rfl)] at h1
 exact Jyl (Lib.tabIs_of_head (g:=3) (t:=380) (e:=29) (n:=20) (by kernel_rfl) (by kernel_rfl) Tryz.underlying380 Tryz.underlying29 (by kernel_rfl) (by kernel_rfl) h1)
set_option maxRecDepth 100000 in
theorem Jmt (H:Type) (enc:TypeId×Value→H) (W:World) (base:Nat) (args:Array Value) (ds gs:List (DataW H)) (before:List MemPlace)
 (hval:∀(j:Nat) t v,Tryz.f3.params[j]? =some t→args[j]? =some v→Value.okWide Tryz.prog W .any base t v)
 (hW:DataW.Whole enc Tryz.prog Tryz.f3.params.toList Rows.genJudgesSpec.vars false W args.toList ds gs before) (hkn:Kn W none2):
 Calls Tryz.prog 3 args W fun e W'=> ∃v,e= .returned v∧Rows.genJudgesSpec.post enc Tryz.prog Tryz.f3 false true false false W args v W':=by
 have hW':=hW
 obtain ⟨p,q,hA0,hV,rfl,hfz,hnd⟩:=hW
 have hA:DataW.TrodAll enc Tryz.prog W 0 (fun _=> true) true Tryz.f3.params.toList args.toList ds p:=hA0
 refine (Jw6 (f:=3) (fn:=Tryz.f3) (d:=7) (by kernel_rfl) hval hA (JqZ JDc (JBq (d:=3)) (JDe (d:=4)) fun a b c ha hb hc=> Jn2 (Jqn a b c ha hb.1 hb.2 hc)) hkn).mono fun e W' ⟨he,hb⟩=> ?_
 subst he
 exact ⟨_,rfl,JzG rfl rfl Tryz.underlying4 (fun ds hd=> match ds,hd with | [a,b,c],_=> ⟨rfl,rfl,rfl⟩) hW' Tryz.laidOut (JzH (by kernel_rfl)) hb⟩
noncomputable def Jtd (cs:Array Value):Obj→Obj
 | .cells _ t frozen=> .cells cs t frozen
 | o=> o
noncomputable def JkL (os:Os):World:=
 let w0:=World.holding Tryz.prog os ⟨#[], #[], []⟩
 { w0 with heap:=w0.heap
   |>.modify 1 (Jtd (Go.Pinned.utf8FirstZ.map fun n : Nat => Value.int .u8 (n : Int)).toArray)
   |>.modify 3 (Jtd (([1, 10, 100, 1000, 10000, 100000, 1000000, 10000000, 100000000, 1000000000, 10000000000, 100000000000, 1000000000000, 10000000000000, 100000000000000, 1000000000000000, 10000000000000000, 100000000000000000, 1000000000000000000, 10000000000000000000] : List Int).map fun n => Value.int .u64 n).toArray)
   |>.modify 2 (Jtd (([128, 191, 160, 191, 128, 159, 144, 191, 128, 143, 0, 0, 0, 0, 0, 0, 0, 0, 0, 0, 0, 0, 0, 0, 0, 0, 0, 0, 0, 0, 0, 0] : List Int).map fun n => Value.int .u8 n).toArray)
   |>.modify 4 (Jtd (([0, 1, 28, 2, 29, 14, 24, 3, 30, 22, 20, 15, 25, 17, 4, 8, 31, 27, 13, 23, 21, 19, 16, 7, 26, 12, 18, 6, 11, 5, 10, 9] : List Int).map fun n => Value.int .u8 n).toArray)
   |>.modify 5 (Jtd (([0, 1, 56, 2, 57, 49, 28, 3, 61, 58, 42, 50, 38, 29, 17, 4, 62, 47, 59, 36, 45, 43, 51, 22, 53, 39, 33, 30, 24, 18, 12, 5, 63, 55, 48, 27, 60, 41, 37, 16, 46, 35, 44, 21, 52, 32, 23, 11, 54, 26, 40, 15, 34, 20, 31, 10, 25, 14, 19, 9, 13, 8, 7, 6] : List Int).map fun n => Value.int .u8 n).toArray) }
noncomputable def Jla:Value:= .agg #[.int .i64 0, .int .i64 0, .bool false, .slice none 0 0]
set_option maxRecDepth 100000 in
theorem JBr (os:Os):laidMet Tryz.prog Rows.genJudgesRow.laid ((JkL os).forCall (fun _ _=> 0) ⟨#[], #[Jla, .slice none 0 0, .agg #[.int .u32 0, .int .u32 0, .int .u64 0, .int .u64 0, .int .u64 0, .int .u64 0, .int .u64 0, .int .u64 0, .int .u64 0]], []⟩).memory:=
 laidMet_of_run' 8 (by kernel_rfl) (by kernel_rfl)
theorem JBF (os:Os) {H:Type} (enc:TypeId×Value→H):∃places,DataW.whole enc Tryz.prog ((JkL os).forCall (fun _ _=> 0) ⟨#[], #[Jla, .slice none 0 0, .agg #[.int .u32 0, .int .u32 0, .int .u64 0, .int .u64 0, .int .u64 0, .int .u64 0, .int .u64 0, .int .u64 0, .int .u64 0]], []⟩).memory Tryz.f3.params.toList Rows.genJudgesSpec.vars false #[Jla, .slice none 0 0, .agg #[.int .u32 0, .int .u32 0, .int .u64 0, .int .u64 0, .int .u64 0, .int .u64 0, .int .u64 0, .int .u64 0, .int .u64 0]].toList 8=some ([.agg [.agg [.lit (.int .i64 0), .lit (.int .i64 0)], .lit (.bool false), .nil], .nil, .agg [.lit (.int .u32 0), .lit (.int .u32 0), .lit (.int .u64 0), .agg [.lit (.int .u64 0), .lit (.int .u64 0), .lit (.int .u64 0), .lit (.int .u64 0), .lit (.int .u64 0), .lit (.int .u64 0)]]], [],places):=
 ⟨[],by kernel_rfl⟩
set_option maxRecDepth 100000 in
theorem JEh (os:Os) (started:os.Started) (H:Type) (enc:TypeId×Value→H) (F:Stop.Interp):
 ReturnsInHanded {} Tryz.checked os 3 .any ((OpenSpec.ofChange Rows.genJudgesSpec).preRow enc Tryz.prog Tryz.f3 Rows.genJudgesRow.domain false Rows.genJudgesRow.laid) (((OpenSpec.ofChange Rows.genJudgesSpec).at F).post enc Tryz.prog Tryz.f3 false true false false):=by
 obtain ⟨places,hx⟩:=JBF os enc
 refine returnsInHanded_of_row (C:=Tryz.checked) (s:=OpenSpec.ofChange Rows.genJudgesSpec) Tryz.own started (by kernel_rfl) Tryz.func3
  (witness_row_at (enc:=enc) (C:=Tryz.checked) false (JkL os) #[Jla, .slice none 0 0, .agg #[.int .u32 0, .int .u32 0, .int .u64 0, .int .u64 0, .int .u64 0, .int .u64 0, .int .u64 0, .int .u64 0, .int .u64 0]] rfl (by kernel_rfl) (by kernel_rfl) (by kernel_rfl)
    (OpenSpec.preRow_of_cond 8 hx (by kernel_rfl) (fun k hk=> by cases hk) (by kernel_rfl) (JBr os))) ?_
 intro W base args ds gs before hval hW _ _ _ hlaid _ _
 exact Jmt H enc W base args ds gs before hval hW (JDf hlaid)
set_option maxRecDepth 100000 in
theorem k1:(Rows.genJudgesRow.inPlace ==Tryz.pinned.checked.prog.inPlace 3)=true:=by kernel_rfl
set_option maxRecDepth 100000 in
theorem k2:(Rows.genJudgesRow.unfollowed ==Tryz.pinned.checked.prog.unfollowed 3)=true:=by kernel_rfl
set_option maxRecDepth 100000 in
theorem k3:(Rows.genJudgesRow.recurses ==Tryz.pinned.checked.prog.recurses 3)=true:=by kernel_rfl
set_option maxRecDepth 100000 in
theorem k4:(Rows.genJudgesRow.named ==Tryz.pinned.checked.prog.varsNamed 3)=true:=by kernel_rfl
end Go.Proofs.YtokhkmgefndbaaaGreatDoor

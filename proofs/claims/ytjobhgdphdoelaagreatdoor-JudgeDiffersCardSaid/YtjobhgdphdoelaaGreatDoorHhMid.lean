import Derived.Test.YtjobhgdphdoelaaGreatDoorQG
import Derived.LaidSub
import Derived.MakeChecks
import Derived.Test.YtjobhgdphdoelaaGreatDoorRows
import Derived.OpenShut
import Derived.Deep.DeepHandedRow
import Derived.Lib.LaidTab
import Derived.Test.YtjobhgdphdoelaaGreatDoorQD
import Derived.ProofKit
set_option linter.unusedVariables false
set_option linter.unusedSimpArgs false
namespace Go.Proofs.YtjobhgdphdoelaaGreatDoor
open Go.ChangeShapes Go.WideShapes Go.ChangeAt Go.RowKit Go.Vl Go.Proofs.W
theorem Tryz.own:ownKnob Tryz.prog.godebug=none:=by kernel_rfl
theorem Tryz.laidOut:laidOutB Tryz.prog=true:=by kernel_rfl
theorem Jcj {P:Program} {d:Nat} {t:TypeId} {α β:Type} {e:α→AV} {e':β→AV} {ok:α→Prop} {ok':β→Prop} (h:Cov P d t e ok) (f:α→β) (he:∀x,ok x→e x=e' (f x)) (ho:∀x,ok x→ok' (f x)):Cov P d t e' ok':=
 ⟨fun cs hw=> let ⟨x,h1,h2,h3⟩:=h.h cs hw;⟨f x,ho x h1,by rw [← he x h1];exact h2,by rw [← he x h1];exact h3⟩⟩
theorem Jga {n:Int} (h:(Lit.int .u64 n).wf=true):0≤n∧n < 18446744073709551616:=by simp [Lit.wf,IntKind.min,IntKind.max,IntKind.signed,IntKind.bits] at h;omega
theorem Jvf:Cov Tryz.prog 3 106 J6 Cnd.ok:=
 Jcj (Cov.struct Tryz.underlying106 rfl (CovP.cons (Cov.int Tryz.underlying3) (CovP.cons (Cov.int Tryz.underlying3) (CovP.cons (Cov.int Tryz.underlying36) (CovP.cons (Cov.int Tryz.underlying36) CovP.nil)))))
  (fun p:Int×Int×Int×Int×Unit=> (⟨p.1,p.2.1,p.2.2.1.toNat,p.2.2.2.1.toNat⟩:Cnd))
  (fun p h=> by
    obtain ⟨a,b,c,d,_⟩:=p
    obtain ⟨h1,h2,h3,h4,_⟩:=h
    have g3:0≤c∧c < 18446744073709551616:=Jga h3;have g4:0≤d∧d < 18446744073709551616:=Jga h4
    show AV.ag [.v (.int .i64 a), .v (.int .i64 b), .v (.int .u64 c), .v (.int .u64 d)]=AV.ag [.v (.int .i64 a), .v (.int .i64 b), .v (.int .u64 (c.toNat:Int)), .v (.int .u64 (d.toNat:Int))]
    rw [Int.toNat_of_nonneg (by omega),Int.toNat_of_nonneg (by omega)])
  (fun p h=> by
    obtain ⟨a,b,c,d,_⟩:=p
    obtain ⟨h1,h2,h3,h4,_⟩:=h
    have g3:0≤c∧c < 18446744073709551616:=Jga h3;have g4:0≤d∧d < 18446744073709551616:=Jga h4
    exact ⟨by dsimp only;omega,by dsimp only;omega⟩)
theorem cells_cnd:Tryz.prog.cellsOf 106=4:=by kernel_rfl
theorem JtX:Cov Tryz.prog 4 65 JaU (fun l=> l.length≤maxLen∧∀x∈l,x.ok):=by
 have h:=Cov.slice cnd0 Tryz.underlying65 Jvf (fun _=> cells_cnd.symm)
 rw [cells_cnd] at h
 exact h
theorem JoY {d:Nat}:Cov Tryz.prog (d+2) 24 JeP (fun _=> True):=
 Jcj (Cov.struct Tryz.underlying24 rfl (CovP.cons (Cov.int Tryz.underlying3) (CovP.cons (Cov.int Tryz.underlying3) CovP.nil)))
  (fun p:Int×Int×Unit=> (p.1,p.2.1)) (fun p h=> rfl) (fun p h=> trivial)
theorem Jvg:Cov Tryz.prog 5 67 Jau Rul.ok:=
 Jcj (Cov.struct Tryz.underlying67 rfl (CovP.cons (Cov.str Tryz.underlying9) (CovP.cons JoY (CovP.cons JtX CovP.nil))))
  (fun p:ByteArray×A2×List Cnd×Unit=> (⟨p.1,p.2.1,p.2.2.1⟩:Rul)) (fun p h=> rfl) (fun p h=> ⟨h.1,h.2.2.1.1,h.2.2.1.2⟩)
theorem cells_rul:Tryz.prog.cellsOf 67=4:=by kernel_rfl
theorem JtY:Cov Tryz.prog 6 25 J8 (fun l=> l.length≤maxLen∧∀x∈l,x.ok):=by
 have h:=Cov.slice Ju Tryz.underlying25 Jvg (fun _=> cells_rul.symm)
 rw [cells_rul] at h
 exact h
theorem Jvh:Cov Tryz.prog 7 27 Jar Pol.ok:=
 Jcj (Cov.struct Tryz.underlying27 rfl (CovP.cons JoY (CovP.cons (Cov.bool Tryz.underlying4) (CovP.cons JtY CovP.nil))))
  (fun p:A2×Bool×List Rul×Unit=> (⟨p.1,p.2.1,p.2.2.1⟩:Pol)) (fun p h=> rfl) (fun p h=> h.2.2.1)
theorem JjS {n:Int} (h:(Lit.int .u32 n).wf=true):0≤n∧n < 4294967296:=by simp [Lit.wf,IntKind.min,IntKind.max,IntKind.signed,IntKind.bits] at h;omega
theorem JoZ {d:Nat}:Cov Tryz.prog (d+1) 36 (fun n:Nat=> u64 n) (fun n=> n < 18446744073709551616):=
 Jcj (Cov.int (d:=d) Tryz.underlying36) Int.toNat (fun n h=> by have:=Jga h;show AV.v _=AV.v _;rw [Int.toNat_of_nonneg (by omega)]) (fun n h=> by have:=Jga h;omega)
theorem Jo0 {d:Nat}:Cov Tryz.prog (d+1) 35 (fun n:Nat=> u32 n) (fun n=> n < 4294967296):=
 Jcj (Cov.int (d:=d) Tryz.underlying35) Int.toNat (fun n h=> by have:=JjS h;show AV.v _=AV.v _;rw [Int.toNat_of_nonneg (by omega)]) (fun n h=> by have:=JjS h;omega)
theorem Jvi {d:Nat}:Cov Tryz.prog (d+3) 70 Jo (fun r=> r.name.size≤maxLen):=
 Jcj (Cov.struct Tryz.underlying70 rfl (CovP.cons (Cov.str Tryz.underlying9) (CovP.cons (Cov.array Tryz.underlying68 (Cov.int (d:=d) Tryz.underlying3)) (CovP.cons (Cov.int Tryz.underlying3) (CovP.cons (Cov.int Tryz.underlying3) CovP.nil)))))
  (fun p:ByteArray×List Int×Int×Int×Unit=> (⟨p.1,p.2.1.getD 0 0,p.2.1.getD 1 0,p.2.1.getD 2 0,p.2.1.getD 3 0,p.2.1.getD 4 0,p.2.2.1,p.2.2.2.1⟩:TRow))
  (fun p h=> by
    obtain ⟨s,l,m,u,_⟩:=p
    obtain ⟨_,⟨hl,_⟩,_⟩:=h
    match l,hl with
    | [a,b,c,d,e],_=> rfl)
  (fun p h=> h.1)
theorem Jvj {d:Nat}:Cov Tryz.prog (d+3) 41 Jag Rec.ok:=
 Jcj (Cov.struct Tryz.underlying41 rfl (CovP.cons Jo0 (CovP.cons Jo0 (CovP.cons JoZ (CovP.cons (Cov.array Tryz.underlying37 JoZ) CovP.nil)))))
  (fun p:Nat×Nat×Nat×List Nat×Unit=> (⟨p.1,p.2.1,p.2.2.1,p.2.2.2.1.getD 0 0,p.2.2.2.1.getD 1 0,p.2.2.2.1.getD 2 0,p.2.2.2.1.getD 3 0,p.2.2.2.1.getD 4 0,p.2.2.2.1.getD 5 0⟩:Rec))
  (fun p h=> by
    obtain ⟨s,m,u,l,_⟩:=p
    obtain ⟨_,_,_,⟨hl,_⟩,_⟩:=h
    match l,hl with
    | [a,b,c,d,e,f],_=> rfl)
  (fun p h=> by
    obtain ⟨s,m,u,l,_⟩:=p
    obtain ⟨h1,h2,h3,⟨hl,hx⟩,_⟩:=h
    match l,hl,hx with
    | [a,b,c,d,e,f],_,hx=> exact ⟨h1,h2,h3,hx a (by simp),hx b (by simp),hx c (by simp),hx d (by simp),hx e (by simp),hx f (by simp)⟩)
theorem cells_row:Tryz.prog.cellsOf 70=8:=by kernel_rfl
theorem cells_rec:Tryz.prog.cellsOf 41=9:=by kernel_rfl
theorem JtZ {d:Nat}:Cov Tryz.prog (d+4) 28 Js (fun l=> l.length≤maxLen∧∀x∈l,x.name.size≤maxLen):=by
 have h:=Cov.slice (d:=d+3) Jf Tryz.underlying28 Jvi (fun _=> cells_row.symm)
 rw [cells_row] at h
 exact h
theorem Jsq {n:Int} (h:(Lit.int .u16 n).wf=true):0≤n∧n < 65536:=by simp [Lit.wf,IntKind.min,IntKind.max,IntKind.signed,IntKind.bits] at h;omega
theorem JlO {n:Int} (h:(Lit.int .u8 n).wf=true):0≤n∧n < 256:=by simp [Lit.wf,IntKind.min,IntKind.max,IntKind.signed,IntKind.bits] at h;omega
theorem Jvk {d:Nat}:Cov Tryz.prog (d+2) 84 JfP Ins.ok:=
 Jcj (Cov.struct Tryz.underlying84 rfl (CovP.cons (Cov.int Tryz.underlying82) (CovP.cons (Cov.int Tryz.underlying5) (CovP.cons (Cov.int Tryz.underlying5) (CovP.cons (Cov.int Tryz.underlying35) CovP.nil)))))
  (fun p:Int×Int×Int×Int×Unit=> (⟨p.1.toNat,p.2.1.toNat,p.2.2.1.toNat,p.2.2.2.1.toNat⟩:Ins))
  (fun p h=> by
    obtain ⟨a,b,c,d,_⟩:=p
    obtain ⟨h1,h2,h3,h4,_⟩:=h
    have g1:0≤a∧a < 65536:=Jsq h1;have g2:0≤b∧b < 256:=JlO h2;have g3:0≤c∧c < 256:=JlO h3;have g4:0≤d∧d < 4294967296:=JjS h4
    show AV.ag [.v (.int .u16 a), .v (.int .u8 b), .v (.int .u8 c), .v (.int .u32 d)]=AV.ag [.v (.int .u16 (a.toNat:Int)), .v (.int .u8 (b.toNat:Int)), .v (.int .u8 (c.toNat:Int)), .v (.int .u32 (d.toNat:Int))]
    rw [Int.toNat_of_nonneg (by omega),Int.toNat_of_nonneg (by omega),Int.toNat_of_nonneg (by omega),Int.toNat_of_nonneg (by omega)])
  (fun p h=> by
    obtain ⟨a,b,c,d,_⟩:=p
    obtain ⟨h1,h2,h3,h4,_⟩:=h
    have g1:0≤a∧a < 65536:=Jsq h1;have g2:0≤b∧b < 256:=JlO h2;have g3:0≤c∧c < 256:=JlO h3;have g4:0≤d∧d < 4294967296:=JjS h4
    exact ⟨by dsimp only;omega,by dsimp only;omega,by dsimp only;omega,by dsimp only;omega⟩)
theorem cells_inst:Tryz.prog.cellsOf 84=4:=by kernel_rfl
theorem Jt0:Cov Tryz.prog 7 22 Jan (fun l=> l.length≤maxLen∧∀x∈l,x.ok):=by
 have h:=Cov.slice (d:=6) ins0 Tryz.underlying22 Jvk (fun _=> cells_inst.symm)
 rw [cells_inst] at h
 exact h
theorem Jt1:Cov Tryz.prog 7 29 JeQ (fun l=> l.length≤maxLen∧∀x∈l,x.ok):=by
 have h:=Cov.slice (d:=6) JaF Tryz.underlying29 Jvj (fun _=> cells_rec.symm)
 rw [cells_rec] at h
 exact h
theorem Jt2:Cov Tryz.prog 8 31 (fun p:List Ins×Pol×List TRow×List Rec×Unit=> .ag (Je3 p.1 p.2.1 p.2.2.1 p.2.2.2.1)) (fun p=> (p.1.length≤maxLen∧∀x∈p.1,x.ok)∧p.2.1.ok∧(p.2.2.1.length≤maxLen∧∀x∈p.2.2.1,x.name.size≤maxLen)∧p.2.2.2.1.length≤maxLen∧∀x∈p.2.2.2.1,x.ok):=
 Jcj (Cov.struct Tryz.underlying31 rfl (CovP.cons Jt0 (CovP.cons Jvh (CovP.cons (JtZ (d:=3)) (CovP.cons Jt1 CovP.nil)))))
  id (fun p h=> rfl) (fun p h=> ⟨h.1,h.2.1,h.2.2.1,h.2.2.2.1⟩)
set_option maxRecDepth 100000 in
theorem Jvl {W:World} (h:laidMetH Tryz.prog Rows.judgeDiffersRow.laid W):Kn W none2:=by
 have h1 := h.filter (fun x => x.1 == "internal/strconv.uint64pow10")
 rw [show (Rows.judgeDiffersRow.laid.filter fun x => x.1 == "internal/strconv.uint64pow10") = [("internal/strconv.uint64pow10", Lib.tabData .u64 Lib.pow10Tab)] from by kernel_rfl, MakeChecks.laidMetH_plain _ _ _ (by kernel_rfl)] at h1
 exact Jsi (Lib.tabIs_of_head (g:=0) (t:=322) (e:=36) (n:=20) (by kernel_rfl) (by kernel_rfl) Tryz.underlying322 Tryz.underlying36 (by kernel_rfl) (by kernel_rfl) h1)
set_option maxRecDepth 100000 in
theorem JiT (H:Type) (enc:TypeId×Value→H) (W:World) (base:Nat) (args:Array Value) (ds gs:List (DataW H)) (before:List MemPlace)
 (hval:∀(j:Nat) t v,Tryz.f3.params[j]? =some t→args[j]? =some v→Value.okWide Tryz.prog W .any base t v)
 (hW:DataW.Whole enc Tryz.prog Tryz.f3.params.toList Rows.judgeDiffersSpec.vars false W args.toList ds gs before) (hkn:Kn W none2):
 Calls Tryz.prog 3 args W fun e W'=> ∃v,e= .returned v∧Rows.judgeDiffersSpec.post enc Tryz.prog Tryz.f3 false true false false W args v W':=by
 have hW':=hW
 obtain ⟨p,q,hA0,hV,rfl,hfz,hnd⟩:=hW
 have hA:DataW.TrodAll enc Tryz.prog W 0 (fun _=> true) true Tryz.f3.params.toList args.toList ds p:=hA0
 refine (JqP (f:=3) (fn:=Tryz.f3) (d:=8) (by kernel_rfl) hval hA (Jo5 Jt2 fun a ha=> Jj9 (JiS a.1 a.2.1 a.2.2.1 a.2.2.2.1 ha.1.2 ha.1.1 ha.2.1 ha.2.2.1.1 ha.2.2.1.2 ha.2.2.2.2 ha.2.2.2.1)) hkn).mono fun e W' ⟨he,hb⟩=> ?_
 subst he
 exact ⟨_,rfl,JsE rfl rfl Tryz.underlying4 (fun ds hd=> match ds,hd with | [a],_=> ⟨rfl,rfl,rfl⟩) hW' Tryz.laidOut (JsF (by kernel_rfl)) hb⟩
noncomputable def JiU (cs:Array Value):Obj→Obj
 | .cells _ t frozen=> .cells cs t frozen
 | o=> o
noncomputable def low:Nat:=(World.holding Tryz.prog default ⟨#[], #[], []⟩).heap.size
abbrev Jv3:ByteArray:= { data:= #[118,97,108,117,101,32,111,117,116,32,111,102,32,114,97,110,103,101]}
abbrev Jvm:ByteArray:= { data:= #[105,110,118,97,108,105,100,32,115,121,110,116,97,120]}
noncomputable def JhC (os:Os):World:=
 let w0:=World.holding Tryz.prog os ⟨#[.cells #[.string Jv3] 352, .cells #[.string Jvm] 352], #[], []⟩
 { w0 with heap:=w0.heap
   |>.modify 2 (JiU (Go.Pinned.utf8FirstZ.map fun n : Nat => Value.int .u8 (n : Int)).toArray)
   |>.modify 0 (JiU (([1, 10, 100, 1000, 10000, 100000, 1000000, 10000000, 100000000, 1000000000, 10000000000, 100000000000, 1000000000000, 10000000000000, 100000000000000, 1000000000000000, 10000000000000000, 100000000000000000, 1000000000000000000, 10000000000000000000] : List Int).map fun n => Value.int .u64 n).toArray)
   |>.modify 3 (JiU (([128, 191, 160, 191, 128, 159, 144, 191, 128, 143, 0, 0, 0, 0, 0, 0, 0, 0, 0, 0, 0, 0, 0, 0, 0, 0, 0, 0, 0, 0, 0, 0] : List Int).map fun n => Value.int .u8 n).toArray)
   |>.modify 4 (JiU (([0, 1, 28, 2, 29, 14, 24, 3, 30, 22, 20, 15, 25, 17, 4, 8, 31, 27, 13, 23, 21, 19, 16, 7, 26, 12, 18, 6, 11, 5, 10, 9] : List Int).map fun n => Value.int .u8 n).toArray)
   |>.modify 5 (JiU (([0, 1, 56, 2, 57, 49, 28, 3, 61, 58, 42, 50, 38, 29, 17, 4, 62, 47, 59, 36, 45, 43, 51, 22, 53, 39, 33, 30, 24, 18, 12, 5, 63, 55, 48, 27, 60, 41, 37, 16, 46, 35, 44, 21, 52, 32, 23, 11, 54, 26, 40, 15, 34, 20, 31, 10, 25, 14, 19, 9, 13, 8, 7, 6] : List Int).map fun n => Value.int .u8 n).toArray)
   |>.modify 7 (JiU #[.iface 350 (.pointer (some ⟨low, 0, none⟩))])
   |>.modify 6 (JiU #[.iface 350 (.pointer (some ⟨low + 1, 0, none⟩))]) }
noncomputable def JgJ:Value:= .agg #[.slice none 0 0, .int .i64 0, .int .i64 0, .bool false, .slice none 0 0, .slice none 0 0, .slice none 0 0]
set_option maxRecDepth 100000 in
theorem Jt3 (os:Os):laidMet Tryz.prog Rows.judgeDiffersRow.laid ((JhC os).forCall (fun _ _=> 0) ⟨#[], #[JgJ], []⟩).memory:=
 laidMet_of_run' 8 (by kernel_rfl) (by kernel_rfl)
theorem JwQ (os:Os) {H:Type} (enc:TypeId×Value→H):∃places,DataW.whole enc Tryz.prog ((JhC os).forCall (fun _ _=> 0) ⟨#[], #[JgJ], []⟩).memory Tryz.f3.params.toList Rows.judgeDiffersSpec.vars false #[JgJ].toList 8=some ([.agg [.nil, .agg [.agg [.lit (.int .i64 0), .lit (.int .i64 0)], .lit (.bool false), .nil], .nil, .nil]], [],places):=
 ⟨[],by kernel_rfl⟩
set_option maxRecDepth 100000 in
theorem Jv4 (os:Os) (started:os.Started) (H:Type) (enc:TypeId×Value→H) (F:Stop.Interp):
 ReturnsInHanded {} Tryz.checked os 3 .any ((OpenSpec.ofChange Rows.judgeDiffersSpec).preRow enc Tryz.prog Tryz.f3 Rows.judgeDiffersRow.domain false Rows.judgeDiffersRow.laid) (((OpenSpec.ofChange Rows.judgeDiffersSpec).at F).post enc Tryz.prog Tryz.f3 false true false false):=by
 obtain ⟨places,hx⟩:=JwQ os enc
 refine returnsInHanded_of_row (C:=Tryz.checked) (s:=OpenSpec.ofChange Rows.judgeDiffersSpec) Tryz.own started (by kernel_rfl) Tryz.func3
  (witness_row_at (enc:=enc) (C:=Tryz.checked) false (JhC os) #[JgJ] rfl (by kernel_rfl) (by kernel_rfl) (by kernel_rfl)
    (OpenSpec.preRow_of_cond 8 hx (by kernel_rfl) (fun k hk=> by cases hk) (by kernel_rfl) (Jt3 os))) ?_
 intro W base args ds gs before hval hW _ _ _ hlaid _ _
 exact JiT H enc W base args ds gs before hval hW (Jvl hlaid)
set_option maxRecDepth 100000 in
theorem k1:(Rows.judgeDiffersRow.inPlace ==Tryz.pinned.checked.prog.inPlace 3)=true:=by kernel_rfl
set_option maxRecDepth 100000 in
theorem k2:(Rows.judgeDiffersRow.unfollowed ==Tryz.pinned.checked.prog.unfollowed 3)=true:=by kernel_rfl
set_option maxRecDepth 100000 in
theorem k3:(Rows.judgeDiffersRow.recurses ==Tryz.pinned.checked.prog.recurses 3)=true:=by kernel_rfl
set_option maxRecDepth 100000 in
theorem k4:(Rows.judgeDiffersRow.named ==Tryz.pinned.checked.prog.varsNamed 3)=true:=by kernel_rfl
end Go.Proofs.YtjobhgdphdoelaaGreatDoor

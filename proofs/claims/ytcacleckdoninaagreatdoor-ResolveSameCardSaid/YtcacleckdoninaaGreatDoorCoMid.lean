import Derived.Test.YtcacleckdoninaaGreatDoorQG
import Derived.Test.YtcacleckdoninaaGreatDoorQD
import Derived.LaidSub
import Derived.MakeChecks
import Derived.Test.YtcacleckdoninaaGreatDoorRows
import Derived.OpenShut
import Derived.Deep.DeepHandedRow
import Derived.Lib.LaidTab
import Derived.ProofKit
set_option linter.unusedVariables false
set_option linter.unusedSimpArgs false
set_option maxHeartbeats 16000000
namespace Go.Proofs.YtcacleckdoninaaGreatDoor
open Go.ChangeShapes Go.WideShapes Go.ChangeAt Go.RowKit Go.Vl Go.Proofs.W
theorem Tryz.own:ownKnob Tryz.prog.godebug=none:=by kernel_rfl
theorem Tryz.laidOut:laidOutB Tryz.prog=true:=by kernel_rfl
theorem Jc5 {P:Program} {d:Nat} {t:TypeId} {α β:Type} {e:α→AV} {e':β→AV} {ok:α→Prop} {ok':β→Prop} (h:Cov P d t e ok) (f:α→β) (he:∀x,ok x→e x=e' (f x)) (ho:∀x,ok x→ok' (f x)):Cov P d t e' ok':=
 ⟨fun cs hw=> let ⟨x,h1,h2,h3⟩:=h.h cs hw;⟨f x,ho x h1,by rw [← he x h1];exact h2,by rw [← he x h1];exact h3⟩⟩
theorem Jhl {n:Int} (h:(Lit.int .u64 n).wf=true):0≤n∧n < 18446744073709551616:=by simp [Lit.wf,IntKind.min,IntKind.max,IntKind.signed,IntKind.bits] at h;omega
theorem JzG:Cov Tryz.prog 3 158 Jt Cnd.ok:=
 Jc5 (Cov.struct Tryz.underlying158 rfl (CovP.cons (Cov.int Tryz.underlying3) (CovP.cons (Cov.int Tryz.underlying3) (CovP.cons (Cov.int Tryz.underlying29) (CovP.cons (Cov.int Tryz.underlying29) CovP.nil)))))
  (fun p:Int×Int×Int×Int×Unit=> (⟨p.1,p.2.1,p.2.2.1.toNat,p.2.2.2.1.toNat⟩:Cnd))
  (fun p h=> by
    obtain ⟨a,b,c,d,_⟩:=p;obtain ⟨h1,h2,h3,h4,_⟩:=h;have g3:0≤c∧c < 18446744073709551616:=Jhl h3;have g4:0≤d∧d < 18446744073709551616:=Jhl h4;show AV.ag [.v (.int .i64 a), .v (.int .i64 b), .v (.int .u64 c), .v (.int .u64 d)]=AV.ag [.v (.int .i64 a), .v (.int .i64 b), .v (.int .u64 (c.toNat:Int)), .v (.int .u64 (d.toNat:Int))];rw [Int.toNat_of_nonneg Om,Int.toNat_of_nonneg Om])
  (fun p h=> by
    obtain ⟨a,b,c,d,_⟩:=p;obtain ⟨h1,h2,h3,h4,_⟩:=h;have g3:0≤c∧c < 18446744073709551616:=Jhl h3;have g4:0≤d∧d < 18446744073709551616:=Jhl h4;exact ⟨by dsimp only;omega,by dsimp only;omega⟩)
theorem cells_cnd:Tryz.prog.cellsOf 158=4:=by kernel_rfl
theorem Jyp:Cov Tryz.prog 4 37 JaT (fun l=> l.length≤maxLen∧∀x∈l,x.ok):=by
 have h:=Cov.slice cnd0 Tryz.underlying37 JzG (fun _=> cells_cnd.symm)
 rw [cells_cnd] at h
 exact h
theorem JsB {d:Nat}:Cov Tryz.prog (d+2) 23 Jw9 (fun _=> True):=
 Jc5 (Cov.struct Tryz.underlying23 rfl (CovP.cons (Cov.int Tryz.underlying3) (CovP.cons (Cov.int Tryz.underlying3) CovP.nil)))
  (fun p:Int×Int×Unit=> (p.1,p.2.1)) (fun p h=> rfl) (fun p h=> trivial)
theorem JzH:Cov Tryz.prog 5 39 J7 Rul.ok:=
 Jc5 (Cov.struct Tryz.underlying39 rfl (CovP.cons (Cov.str Tryz.underlying9) (CovP.cons JsB (CovP.cons Jyp CovP.nil))))
  (fun p:ByteArray×A2×List Cnd×Unit=> (⟨p.1,p.2.1,p.2.2.1⟩:Rul)) (fun p h=> rfl) (fun p h=> ⟨h.1,h.2.2.1.1,h.2.2.1.2⟩)
theorem cells_rul:Tryz.prog.cellsOf 39=4:=by kernel_rfl
theorem Jyq:Cov Tryz.prog 6 24 JW (fun l=> l.length≤maxLen∧∀x∈l,x.ok):=by
 have h:=Cov.slice Jg Tryz.underlying24 JzH (fun _=> cells_rul.symm)
 rw [cells_rul] at h
 exact h
theorem JzI:Cov Tryz.prog 7 26 polA Pol.ok:=
 Jc5 (Cov.struct Tryz.underlying26 rfl (CovP.cons JsB (CovP.cons (Cov.bool Tryz.underlying4) (CovP.cons Jyq CovP.nil))))
  (fun p:A2×Bool×List Rul×Unit=> (⟨p.1,p.2.1,p.2.2.1⟩:Pol)) (fun p h=> rfl) (fun p h=> h.2.2.1)
theorem JwB {n:Int} (h:(Lit.int .u32 n).wf=true):0≤n∧n < 4294967296:=by simp [Lit.wf,IntKind.min,IntKind.max,IntKind.signed,IntKind.bits] at h;omega
theorem JsC {d:Nat}:Cov Tryz.prog (d+1) 29 (fun n:Nat=> u64 n) (fun n=> n < 18446744073709551616):=
 Jc5 (Cov.int (d:=d) Tryz.underlying29) Int.toNat (fun n h=> by have:=Jhl h;show AV.v _=AV.v _;rw [Int.toNat_of_nonneg Om]) (fun n h=> by have:=Jhl h;omega)
theorem JsD {d:Nat}:Cov Tryz.prog (d+1) 28 (fun n:Nat=> u32 n) (fun n=> n < 4294967296):=
 Jc5 (Cov.int (d:=d) Tryz.underlying28) Int.toNat (fun n h=> by have:=JwB h;show AV.v _=AV.v _;rw [Int.toNat_of_nonneg Om]) (fun n h=> by have:=JwB h;omega)
theorem JzJ {d:Nat}:Cov Tryz.prog (d+3) 65 Jj (fun r=> r.name.size≤maxLen):=
 Jc5 (Cov.struct Tryz.underlying65 rfl (CovP.cons (Cov.str Tryz.underlying9) (CovP.cons (Cov.array Tryz.underlying63 (Cov.int (d:=d) Tryz.underlying3)) (CovP.cons (Cov.int Tryz.underlying3) (CovP.cons (Cov.int Tryz.underlying3) CovP.nil)))))
  (fun p:ByteArray×List Int×Int×Int×Unit=> (⟨p.1,p.2.1.getD 0 0,p.2.1.getD 1 0,p.2.1.getD 2 0,p.2.1.getD 3 0,p.2.1.getD 4 0,p.2.2.1,p.2.2.2.1⟩:TRow))
  (fun p h=> by
    obtain ⟨s,l,m,u,_⟩:=p;obtain ⟨_,⟨hl,_⟩,_⟩:=h
    match l,hl with
    | [a,b,c,d,e],_=> rfl)
  (fun p h=> h.1)
theorem JzK {d:Nat}:Cov Tryz.prog (d+3) 32 recA Rec.ok:=
 Jc5 (Cov.struct Tryz.underlying32 rfl (CovP.cons JsD (CovP.cons JsD (CovP.cons JsC (CovP.cons (Cov.array Tryz.underlying30 JsC) CovP.nil)))))
  (fun p:Nat×Nat×Nat×List Nat×Unit=> (⟨p.1,p.2.1,p.2.2.1,p.2.2.2.1.getD 0 0,p.2.2.2.1.getD 1 0,p.2.2.2.1.getD 2 0,p.2.2.2.1.getD 3 0,p.2.2.2.1.getD 4 0,p.2.2.2.1.getD 5 0⟩:Rec))
  (fun p h=> by
    obtain ⟨s,m,u,l,_⟩:=p;obtain ⟨_,_,_,⟨hl,_⟩,_⟩:=h
    match l,hl with
    | [a,b,c,d,e,f],_=> rfl)
  (fun p h=> by
    obtain ⟨s,m,u,l,_⟩:=p;obtain ⟨h1,h2,h3,⟨hl,hx⟩,_⟩:=h
    match l,hl,hx with
    | [a,b,c,d,e,f],_,hx=> exact ⟨h1,h2,h3,hx a Si,hx b Si,hx c Si,hx d Si,hx e Si,hx f Si⟩)
theorem cells_row:Tryz.prog.cellsOf 65=8:=by kernel_rfl
theorem Jyr {d:Nat}:Cov Tryz.prog (d+4) 27 trows (fun l=> l.length≤maxLen∧∀x∈l,x.name.size≤maxLen):=by
 have h:=Cov.slice (d:=d+3) Jd Tryz.underlying27 JzJ (fun _=> cells_row.symm)
 rw [cells_row] at h
 exact h
theorem JzL {d:Nat}:Cov Tryz.prog (d+1) 9 strA (fun s=> s.size≤maxLen):=Cov.str Tryz.underlying9
theorem JwC:Cov Tryz.prog 8 34 (fun p:Pol×List TRow×ByteArray×Rec×Unit=> .ag (JlK p.1 p.2.1 p.2.2.1 p.2.2.2.1)) (fun p=> p.1.ok∧(p.2.1.length≤maxLen∧∀x∈p.2.1,x.name.size≤maxLen)∧p.2.2.1.size≤maxLen∧p.2.2.2.1.ok):=
 Jc5 (Cov.struct Tryz.underlying34 rfl (CovP.cons JzI (CovP.cons (Jyr (d:=3)) (CovP.cons (JzL (d:=6)) (CovP.cons (JzK (d:=4)) CovP.nil)))))
  id (fun p h=> rfl) (fun p h=> ⟨h.1,h.2.1,h.2.2.1,h.2.2.2.1⟩)
set_option maxRecDepth 100000 in
theorem JzM {W:World} (h:laidMetH Tryz.prog Rows.resolveSameRow.laid W):Kn W none2:=by
 have h1 := h.filter (fun x => x.1 == "internal/strconv.uint64pow10")
 rw [show (Rows.resolveSameRow.laid.filter fun x => x.1 == "internal/strconv.uint64pow10") = [("internal/strconv.uint64pow10", Lib.tabData .u64 Lib.pow10Tab)] from by kernel_rfl, MakeChecks.laidMetH_plain _ _ _ (by kernel_rfl)] at h1
 exact Ju4 (Lib.tabIs_of_head (g:=1) (t:=318) (e:=29) (n:=20) (by kernel_rfl) (by kernel_rfl) Tryz.underlying318 Tryz.underlying29 (by kernel_rfl) (by kernel_rfl) h1)
set_option maxRecDepth 100000 in
theorem Jkp (H:Type) (enc:TypeId×Value→H) (W:World) (base:Nat) (args:Array Value) (ds gs:List (DataW H)) (before:List MemPlace)
 (hval:∀(j:Nat) t v,Tryz.f3.params[j]? =some t→args[j]? =some v→Value.okWide Tryz.prog W .any base t v)
 (hW:DataW.Whole enc Tryz.prog Tryz.f3.params.toList Rows.resolveSameSpec.vars false W args.toList ds gs before) (hkn:Kn W none2):
 Calls Tryz.prog 3 args W fun e W'=> ∃v,e= .returned v∧Rows.resolveSameSpec.post enc Tryz.prog Tryz.f3 false true false false W args v W':=by
 have hW':=hW
 obtain ⟨p,q,hA0,hV,rfl,hfz,hnd⟩:=hW
 have hA:DataW.TrodAll enc Tryz.prog W 0 (fun _=> true) true Tryz.f3.params.toList args.toList ds p:=hA0
 refine (JuE (f:=3) (fn:=Tryz.f3) (d:=8) (by kernel_rfl) hval hA (JsI JwC fun a ha=> Jl1 (JlM a.1 a.2.1 a.2.2.1 a.2.2.2.1 ha.1 ha.2.1.1 ha.2.1.2 ha.2.2.1 ha.2.2.2)) hkn).mono fun e W' ⟨he,hb⟩=> ?_
 subst he
 exact ⟨_,rfl,JwQ rfl rfl Tryz.underlying4 (fun ds hd=> match ds,hd with | [a],_=> ⟨rfl,rfl,rfl⟩) hW' Tryz.laidOut (JwR (by kernel_rfl)) hb⟩
noncomputable def Jkq (cs:Array Value):Obj→Obj
 | .cells _ t frozen=> .cells cs t frozen
 | o=> o
noncomputable def low:Nat:=(World.holding Tryz.prog default ⟨#[], #[], []⟩).heap.size
abbrev JAs:ByteArray:= { data:= #[118,97,108,117,101,32,111,117,116,32,111,102,32,114,97,110,103,101]}
abbrev JzN:ByteArray:= { data:= #[105,110,118,97,108,105,100,32,115,121,110,116,97,120]}
noncomputable def JiY (os:Os):World:=
 let w0:=World.holding Tryz.prog os ⟨#[.cells #[.string JAs] 349, .cells #[.string JzN] 349], #[], []⟩
 { w0 with heap:=w0.heap
   |>.modify 2 (Jkq (Go.Pinned.utf8FirstZ.map fun n : Nat => Value.int .u8 (n : Int)).toArray)
   |>.modify 1 (Jkq (([1, 10, 100, 1000, 10000, 100000, 1000000, 10000000, 100000000, 1000000000, 10000000000, 100000000000, 1000000000000, 10000000000000, 100000000000000, 1000000000000000, 10000000000000000, 100000000000000000, 1000000000000000000, 10000000000000000000] : List Int).map fun n => Value.int .u64 n).toArray)
   |>.modify 3 (Jkq (([128, 191, 160, 191, 128, 159, 144, 191, 128, 143, 0, 0, 0, 0, 0, 0, 0, 0, 0, 0, 0, 0, 0, 0, 0, 0, 0, 0, 0, 0, 0, 0] : List Int).map fun n => Value.int .u8 n).toArray)
   |>.modify 4 (Jkq (([0, 1, 28, 2, 29, 14, 24, 3, 30, 22, 20, 15, 25, 17, 4, 8, 31, 27, 13, 23, 21, 19, 16, 7, 26, 12, 18, 6, 11, 5, 10, 9] : List Int).map fun n => Value.int .u8 n).toArray)
   |>.modify 5 (Jkq (([0, 1, 56, 2, 57, 49, 28, 3, 61, 58, 42, 50, 38, 29, 17, 4, 62, 47, 59, 36, 45, 43, 51, 22, 53, 39, 33, 30, 24, 18, 12, 5, 63, 55, 48, 27, 60, 41, 37, 16, 46, 35, 44, 21, 52, 32, 23, 11, 54, 26, 40, 15, 34, 20, 31, 10, 25, 14, 19, 9, 13, 8, 7, 6] : List Int).map fun n => Value.int .u8 n).toArray)
   |>.modify 7 (Jkq #[.iface 347 (.pointer (some ⟨low, 0, none⟩))])
   |>.modify 6 (Jkq #[.iface 347 (.pointer (some ⟨low + 1, 0, none⟩))]) }
noncomputable def JgJ:Value:= .agg #[.int .i64 0, .int .i64 0, .bool false, .slice none 0 0, .slice none 0 0, .string .empty, .int .u32 0, .int .u32 0, .int .u64 0, .int .u64 0, .int .u64 0, .int .u64 0, .int .u64 0, .int .u64 0, .int .u64 0]
set_option maxRecDepth 100000 in
theorem Jys (os:Os):laidMet Tryz.prog Rows.resolveSameRow.laid ((JiY os).forCall (fun _ _=> 0) ⟨#[], #[JgJ], []⟩).memory:=
 laidMet_of_run' 8 (by kernel_rfl) (by kernel_rfl)
theorem JAW (os:Os) {H:Type} (enc:TypeId×Value→H):∃places,DataW.whole enc Tryz.prog ((JiY os).forCall (fun _ _=> 0) ⟨#[], #[JgJ], []⟩).memory Tryz.f3.params.toList Rows.resolveSameSpec.vars false #[JgJ].toList 8=some ([.agg [.agg [.agg [.lit (.int .i64 0), .lit (.int .i64 0)], .lit (.bool false), .nil], .nil, .lit (.string []), .agg [.lit (.int .u32 0), .lit (.int .u32 0), .lit (.int .u64 0), .agg [.lit (.int .u64 0), .lit (.int .u64 0), .lit (.int .u64 0), .lit (.int .u64 0), .lit (.int .u64 0), .lit (.int .u64 0)]]]], [],places):=
 ⟨[],by kernel_rfl⟩
set_option maxRecDepth 100000 in
theorem JAt (os:Os) (started:os.Started) (H:Type) (enc:TypeId×Value→H) (F:Stop.Interp):
 ReturnsInHanded {} Tryz.checked os 3 .any ((OpenSpec.ofChange Rows.resolveSameSpec).preRow enc Tryz.prog Tryz.f3 Rows.resolveSameRow.domain false Rows.resolveSameRow.laid) (((OpenSpec.ofChange Rows.resolveSameSpec).at F).post enc Tryz.prog Tryz.f3 false true false false):=by
 obtain ⟨places,hx⟩:=JAW os enc
 refine returnsInHanded_of_row (C:=Tryz.checked) (s:=OpenSpec.ofChange Rows.resolveSameSpec) Tryz.own started (by kernel_rfl) Tryz.func3
  (witness_row_at (enc:=enc) (C:=Tryz.checked) false (JiY os) #[JgJ] rfl (by kernel_rfl) (by kernel_rfl) (by kernel_rfl)
    (OpenSpec.preRow_of_cond 8 hx (by kernel_rfl) (fun k hk=> by cases hk) (by kernel_rfl) (Jys os))) ?_
 intro W base args ds gs before hval hW _ _ _ hlaid _ _
 exact Jkp H enc W base args ds gs before hval hW (JzM hlaid)
set_option maxRecDepth 100000 in
theorem k1:(Rows.resolveSameRow.inPlace ==Tryz.pinned.checked.prog.inPlace 3)=true:=by kernel_rfl
set_option maxRecDepth 100000 in
theorem k2:(Rows.resolveSameRow.unfollowed ==Tryz.pinned.checked.prog.unfollowed 3)=true:=by kernel_rfl
set_option maxRecDepth 100000 in
theorem k3:(Rows.resolveSameRow.recurses ==Tryz.pinned.checked.prog.recurses 3)=true:=by kernel_rfl
set_option maxRecDepth 100000 in
theorem k4:(Rows.resolveSameRow.named ==Tryz.pinned.checked.prog.varsNamed 3)=true:=by kernel_rfl
end Go.Proofs.YtcacleckdoninaaGreatDoor

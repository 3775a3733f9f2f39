import Derived.Test.YtmipfkagmedcnaaGreatDoorNlMid
import Derived.Test.YtmipfkagmedcnaaGreatDoorPE
import Derived.LaidSub
import Derived.MakeChecks
import Derived.Test.YtmipfkagmedcnaaGreatDoorCards
import Derived.Test.YtmipfkagmedcnaaGreatDoorTie
import Derived.OpenShut
import Derived.Deep.DeepHandedRow
import Derived.Lib.LaidTab
import Derived.Test.YtmipfkagmedcnaaGreatDoorPD
import Derived.ProofKit
set_option linter.unusedVariables false
set_option linter.unusedSimpArgs false
namespace Go.Proofs.YtmipfkagmedcnaaGreatDoor
open Go.ChangeShapes Go.WideShapes Go.ChangeAt Go.RowKit Go.Vl Go.Proofs.W
set_option maxRecDepth 100000 in
theorem Jya:joinedFacts Tryz.pinned.checked.prog 5 Tryz.f5 (OpenSpec.ofChange Rows.resolvePlansSpec).bare Rows.resolvePlansRow=true:=by
 unfold joinedFacts
 rw [k1,k2,k3,k4]
 kernel_rfl
set_option maxRecDepth 100000 in
theorem Jy0:Rows.ResolvePlansSaid:=
 OpenClaim.holds_of_cond 5 Tryz.f5 rfl rfl rfl rfl rfl rfl rfl ⟨rfl,rfl,rfl,rfl,rfl⟩ rfl rfl rfl rfl rfl (by kernel_rfl) Tryz.func5 Jya
  (of_decide_eq_true (by kernel_rfl)) (by unfold Func.isWrapper;first | (rw [if_pos (by decide+kernel)];kernel_rfl) | (rw [if_neg (by decide+kernel)];exact ⟨rfl,rfl⟩))
  (fun os started H enc _ F=> by rw [OpenClaim.pre_eq_preRow];exact Jx9 os started H enc F)
theorem Jwg (f : FuncId) (fn : Func) (hf : Tryz.pinned.checked.prog.funcNamed "strainer/strainerlaw18.ResolvePlans" = some f) (hfn : Tryz.pinned.checked.prog.funcs[f]? = some fn) :
 true=Tryz.pinned.checked.prog.looks []∧∀(j:Nat) t,fn.params[j]? =some t→Tryz.pinned.checked.prog.wantsStandIn t=false:=by
 obtain rfl : f = 5 := Option.some.inj ((show Tryz.prog.funcNamed "strainer/strainerlaw18.ResolvePlans" = some 5 by kernel_rfl).symm.trans hf) |>.symm
 obtain rfl:fn=Tryz.f5:=(Option.some.inj (Tryz.func5.symm.trans hfn)).symm
 refine ⟨by kernel_rfl,fun j t ht=> ?_⟩
 rw [Tryz.params5] at ht
 have hm:=Array.mem_of_getElem? ht
 simp only [List.mem_toArray,List.mem_cons,List.mem_nil_iff,or_false] at hm
 rcases hm with rfl | rfl
 ·exact (show Tryz.prog.wantsStandIn 26=false by kernel_rfl)
 ·exact (show Tryz.prog.wantsStandIn 27=false by kernel_rfl)
end Go.Proofs.YtmipfkagmedcnaaGreatDoor

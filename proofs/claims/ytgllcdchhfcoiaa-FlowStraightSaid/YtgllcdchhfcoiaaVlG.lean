/- Small words for proofs of functions. -/
import Derived.Test.YtgllcdchhfcoiaaVlF
import Derived.IntWalk
namespace Go.Vl
open Go.RowKit
variable {P : Program}

theorem ret_all {fn : Func} {Q : AV → Heap → Prop} {E : Env} {cs : List Prop} {r : AV} (h : ares P fn E = some (cs, r)) (hc : allP cs) (hq : Q r E.h) : resQ P fn Q E := by
  rw [resQ_eq, h]; exact ⟨hc, hq⟩
theorem ret_is {fn : Func} {Q : AV → Heap → Prop} {E : Env} {r : AV} (h : ares P fn E = some ([], r)) (hq : Q r E.h) : resQ P fn Q E := ret_all h trivial hq
theorem ret_int {fn : Func} {E : Env} {k : IntKind} {a b : Int} (h : ares P fn E = some ([], .v (.int k a))) (hq : a = b) : resQ P fn (fun r _ => r = .v (.int k b)) E :=
  ret_is h (by rw [hq])
theorem ret_bool {fn : Func} {E : Env} {a b : Bool} (h : ares P fn E = some ([], .v (.bool a))) (hq : a = b) : resQ P fn (fun r _ => r = .v (.bool b)) E :=
  ret_is h (by rw [hq])
theorem ret_le {fn : Func} {E : Env} {r s : AV} (h : ares P fn E = some ([], r)) (hq : AVle r s) : resQ P fn (fun r _ => AVle r s) E := ret_is h hq
theorem le_int {k : IntKind} {a b : Int} (h : a = b) : AVle (.v (.int k a)) (.v (.int k b)) := h ▸ AVle.refl _
theorem le_bool {a b : Bool} (h : a = b) : AVle (.v (.bool a)) (.v (.bool b)) := h ▸ AVle.refl _
theorem le_str {a b : ByteArray} (h : a = b) : AVle (.v (.string a)) (.v (.string b)) := h ▸ AVle.refl _
theorem back {α : Type} {env : α → Env} {I : α → Prop} {m : α → Nat} {x : α} {E : Env} (x' : α) (h1 : I x') (h2 : m x' < m x) (h3 : ELe E (env x')) : LoopBack env I m x E := by
  unfold LoopBack; exact ⟨x', h1, h2, h3⟩

theorem wrap_succ {i : Nat} (h : i < 9223372036854775807) : IntKind.i64.wrap ((i : Int) + 1) = ((i + 1 : Nat) : Int) := by
  rw [IntWalk.i64_in _ ⟨by omega, by omega⟩]; omega
theorem wrap_id {n : Int} (h1 : -9223372036854775808 ≤ n) (h2 : n ≤ 9223372036854775807) : IntKind.i64.wrap n = n := IntWalk.i64_in n ⟨h1, h2⟩

/-- A row of data. -/
def slOf {α : Type} (sz : Nat) (e : α → AV) (d : α) (l : List α) : AV := .sl sz l.length (fun k => e (l.getD k d))

end Go.Vl

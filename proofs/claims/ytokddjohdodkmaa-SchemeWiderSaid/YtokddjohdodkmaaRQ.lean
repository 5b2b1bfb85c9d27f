/- Calls that return one value in every world that has grown out of another. -/
import Derived.Test.YtokddjohdodkmaaRows
import Derived.Test.YtokddjohdodkmaaMem
namespace Go.Proofs.Ytokddjohdodkmaa.Mm
open Go.RowKit

/-- In every world that has grown out of w a call returns v. -/
def RC (f : FuncId) (args : Array Value) (w : World) (v : Value) : Prop := ∀ x, Calls Try.prog f args (ext w x) fun e w'' => e = .returned v ∧ ∃ y, w'' = ext w y
theorem RC.call {f : FuncId} {args : Array Value} {w : World} {v : Value} (h : RC f args w v) (x : Ex) : Calls Try.prog f args (ext w x) fun e w'' => e = .returned v ∧ ∃ y, w'' = ext w y := h x
theorem RC.of {f : FuncId} {args : Array Value} {w : World} {v : Value} (h : ∀ W, Below w.heap.size w W → Calls Try.prog f args W fun e w' => e = .returned v ∧ Below W.heap.size W w') : RC f args w v := fun x => calls_ext (h _ (ext_below w x))
theorem RC.same {f : FuncId} {args : Array Value} {w : World} {v : Value} (h : ∀ W, Below w.heap.size w W → Calls Try.prog f args W fun e w' => e = .returned v ∧ W = w') : RC f args w v := fun x => calls_same (h _ (ext_below w x))
end Go.Proofs.Ytokddjohdodkmaa.Mm

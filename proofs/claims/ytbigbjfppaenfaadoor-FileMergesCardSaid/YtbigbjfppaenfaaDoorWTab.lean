/- Lemmas that the claim's texts use (WTab), pruned. -/
import Derived.Test.YtbigbjfppaenfaaDoorWLast
import Derived.Test.YtbigbjfppaenfaaDoorWWords
/-! ### 50. A region's order in a table, made once a region: each step asks the table (numbers alone), not the operations -/
namespace Go.Proofs.YtbigbjfppaenfaaDoorW.PrintLast
open Go.Proofs.YtbigbjfppaenfaaDoorW.PrintWords (Aside0)
section
variable {md : Region.Mode} {ops : Array Oper} {T : Bool × List (List Nat × List Nat)} {l l' li lj lk : Array Bool} {ds : List Nat} {i j k : Nat}
end
end Go.Proofs.YtbigbjfppaenfaaDoorW.PrintLast

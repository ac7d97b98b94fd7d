/- Contracts of the document's product: of any number and any float. -/
import Derived.Test.YtdemonageoagiaaProdF
set_option linter.unusedSimpArgs false
set_option linter.unusedVariables false
namespace Go.Proofs.Ytdemonageoagiaa
open Go.RowKit Mo
theorem rproduct_any (n : Int) (b : Nat) (up : Bool) (w : World) (n1 : -9223372036854775808 ≤ n) (n2 : n ≤ 9223372036854775807) (hb : b < 18446744073709551616) :
    Calls Try.prog 21 #[.int .i64 n, .float .f64 b, .bool up] w fun e w' => e = .returned (.tuple #[.int .i64 (prodV n b up), .int .i64 (prodE n b up)]) ∧ Below w.heap.size w w' := by
  rcases (show 9218868437227405312 ≤ rung b ∨ rung b < 9218868437227405312 by omega) with h | h
  · exact rproduct_none n b up w hb h
  · exact rproduct_fin n b up w n1 n2 hb h
end Go.Proofs.Ytdemonageoagiaa

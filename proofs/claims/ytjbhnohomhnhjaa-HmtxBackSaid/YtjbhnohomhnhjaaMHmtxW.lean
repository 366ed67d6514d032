/- The closed row of chapter 06, told. -/
import Derived.Test.YtjbhnohomhnhjaaPFVinculumlaw06Wide
namespace Go.Proofs.Ytjbhnohomhnhjaa.P
open Go.RowKit Go.Proofs.YtjbhnohomhnhjaaW.PrintWords Go.Proofs.YtjbhnohomhnhjaaW.PrintLast Go.Proofs.YtjbhnohomhnhjaaW.PrintMore
set_option linter.unusedSimpArgs false
set_option linter.unusedVariables false
theorem wide_told (k : Nat) (hk : 8 ≤ k) : vinculumlaw06_wide.f k = some true :=
  at_rounds (g := fun k => vinculumlaw06_wide.f k) (fun k => vinculumlaw06_wide.mono k) hk (by decide +kernel)
end Go.Proofs.Ytjbhnohomhnhjaa.P

/- Plain laws of tallies: votes of the workers 0, 1, 2 ..; what has more than f. -/
import Derived.Test.YtaajcpjhcckecaaTUc
namespace Go.Proofs.Ytaajcpjhcckecaa.Pure
open Go.WG Go.Proofs.Ytaajcpjhcckecaa
set_option linter.unusedSimpArgs false
set_option linter.unusedVariables false
/-- A vote more, or an error. -/
def castV (l : List TCast) (c : TCast) : List TCast × Int :=
  if c.Worker < 0 then ([], 1) else if (c.Value.length : Int) > 32 then ([], 42) else if ∃ d ∈ l, d.Worker = c.Worker then ([], 190) else (l ++ [c], 0)
end Go.Proofs.Ytaajcpjhcckecaa.Pure

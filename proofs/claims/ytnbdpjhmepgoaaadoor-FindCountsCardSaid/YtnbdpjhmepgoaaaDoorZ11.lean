/-
  Texts of this claim, put together.
-/
import Derived.Test.YtnbdpjhmepgoaaaDoorProg
import Derived.KernelRfl
import Derived.Test.YtnbdpjhmepgoaaaDoorZ10
namespace Go.Proofs.YtnbdpjhmepgoaaaDoor
set_option maxRecDepth 100000
end Go.Proofs.YtnbdpjhmepgoaaaDoor

/-
  Texts of this claim, put together.
-/
import Derived.Test.YtphmakopjfbmnaaDoorProg
import Derived.KernelRfl
import Derived.Test.YtphmakopjfbmnaaDoorZ9
namespace Go.Proofs.YtphmakopjfbmnaaDoor
set_option maxRecDepth 100000
end Go.Proofs.YtphmakopjfbmnaaDoor

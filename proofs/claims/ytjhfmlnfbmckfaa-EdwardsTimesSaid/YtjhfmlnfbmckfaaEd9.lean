/- The laws of the curve's points, and what comes in. -/
import Derived.Test.YtjhfmlnfbmckfaaEd8
import Derived.Test.YtjhfmlnfbmckfaaStr
namespace Go.Proofs.Ytjhfmlnfbmckfaa
end Go.Proofs.Ytjhfmlnfbmckfaa

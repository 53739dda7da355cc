/- Of chapter 05: all that its laws share. -/
import Derived.Test.YtjfbiabgeickjaaK1
import Derived.Test.YtjfbiabgeickjaaK2
import Derived.Test.YtjfbiabgeickjaaK3
namespace Go.Proofs.Ytjfbiabgeickjaa
end Go.Proofs.Ytjfbiabgeickjaa

/- The complement of a number of 32 bits, and a slice converted to its own type, as the walk meets them. No condition. -/
import Derived.Test.YtacbaiflblngfaaProg
import Derived.KernelRfl
namespace Go.Proofs.Ytacbaiflblngfaa
theorem u32_signed : IntKind.u32.signed = false := rfl
theorem u32_max : IntKind.u32.max = 4294967295 := rfl
end Go.Proofs.Ytacbaiflblngfaa

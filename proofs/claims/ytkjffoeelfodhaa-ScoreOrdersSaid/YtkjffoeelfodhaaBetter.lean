/- Better stands beside Join. No condition. -/
import Derived.Test.YtkjffoeelfodhaaJoin

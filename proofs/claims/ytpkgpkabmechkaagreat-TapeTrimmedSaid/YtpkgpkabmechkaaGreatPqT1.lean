/- Parts of the proof. -/
import Derived.Test.YtpkgpkabmechkaaGreatPqW1
/- The tapes' seat with all of the intervals: T1's contracts are W1's. -/

/- The tapes' seat with all of the intervals: T1's contracts are W1's. -/
import Derived.Test.YtpkgpkabmechkaaW1

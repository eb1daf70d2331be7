/- What bits.TrailingZeros comes to, told of data. -/
import Derived.Test.YtimnecbhjgllmaaDoorSym19
import Derived.Lib.TrailingZeros
namespace Go.Sy
open Go
/-- how many zeros stand at a number's end -/
def tzI (n : Int) : Int := ((Lib.ctz 64 n.toNat : Nat) : Int)
def fTz (n : Int) : Option (Int × Unit) := cond (decide (0 ≤ n) && decide (n < 18446744073709551616)) (some (tzI n, ())) none
end Go.Sy

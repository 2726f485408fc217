/- How many bytes of a number are meant. -/
import Derived.Test.YtdmmjckhpagibaaGreatDoorBytes
namespace Go.Proofs.YtdmmjckhpagibaaGreatDoor
def cnt (n : Int) : Nat := if n < 0 then 0 else if 8 < n then 8 else n.toNat
theorem cnt_le (n : Int) : cnt n ≤ 8 := by unfold cnt; split; omega; split <;> omega
end Go.Proofs.YtdmmjckhpagibaaGreatDoor

/- What all contracts of this seat stand on. -/
import Derived.Test.YtlfdmdhkbillpaaDoorEng18
import Derived.Test.YtlfdmdhkbillpaaDoorChecked
namespace Go.Eng.YtlfdmdhkbillpaaDoor
open Go Go.Eng Go.Proofs
theorem drawOk (W : World) : DrawOk Tryd.prog W (D1 Tryd.prog W) := D1_ok (by decide)
theorem wrap_i64 {n : Int} (h1 : -9223372036854775808 ≤ n) (h2 : n ≤ 9223372036854775807) : IntKind.i64.wrap n = n := by rw [IntKind.wrap_i64]; omega
theorem wrap_i32 {n : Int} (h1 : -2147483648 ≤ n) (h2 : n ≤ 2147483647) : IntKind.i32.wrap n = n := by rw [IntKind.wrap_i32]; omega
theorem wrap_u8 {n : Int} (h1 : 0 ≤ n) (h2 : n ≤ 255) : IntKind.u8.wrap n = n := by rw [IntKind.wrap_u8]; omega
/-- A list of numbers. -/
def ints (l : List Int) : List PV := l.map (PV.int .i64)
theorem ints_len (l : List Int) : (ints l).length = l.length := by simp [ints]
end Go.Eng.YtlfdmdhkbillpaaDoor

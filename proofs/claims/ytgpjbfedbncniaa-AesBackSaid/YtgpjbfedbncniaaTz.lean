/- Zero values, elements of slices, functions: written by program off the translation; checked by the kernel. -/
import Derived.Test.YtgpjbfedbncniaaTy
import Derived.Test.YtgpjbfedbncniaaVe
namespace Go.Proofs.Ytgpjbfedbncniaa
open Go.RowKit Go.Vc
theorem follows : tb.P.follows .mixedOrders = true := by kernel_rfl
theorem zero22 : ZeroIs tb 22 (row (zeros 16)) := ⟨(.agg (row (zeros 16)).toArray), rfl, fun w => by kernel_rfl⟩
theorem zero25 : ZeroIs tb 25 (row (zeros 176)) := ⟨(.agg (row (zeros 176)).toArray), rfl, fun w => by kernel_rfl⟩
theorem zero28 : ZeroIs tb 28 (row (zeros 8)) := ⟨(.agg (row (zeros 8)).toArray), rfl, fun w => by kernel_rfl⟩
theorem zero29 : ZeroIs tb 29 ([.slice none 0 0]) := ⟨.slice none 0 0, rfl, fun w => by kernel_rfl⟩
theorem zero39 : ZeroIs tb 39 (row (zeros 256)) := ⟨(.agg (row (zeros 256)).toArray), rfl, fun w => by kernel_rfl⟩
theorem zero52 : ZeroIs tb 52 (row (zeros 4)) := ⟨(.agg (row (zeros 4)).toArray), rfl, fun w => by kernel_rfl⟩
def ty5 : Ty := ⟨.int .u8, 1, false⟩
theorem elem5 : ElemIs tb 5 ty5 1 ([.int .u8 0]) := elem_of (.int .u8 0) (by kernel_rfl) rfl
theorem fun3 : Fun tb 3 := Try.call3
theorem fun4 : Fun tb 4 := Try.call4
theorem fun5 : Fun tb 5 := Try.call5
theorem fun6 : Fun tb 6 := Try.call6
theorem fun7 : Fun tb 7 := Try.call7
theorem fun8 : Fun tb 8 := Try.call8
theorem fun9 : Fun tb 9 := Try.call9
theorem fun10 : Fun tb 10 := Try.call10
theorem fun11 : Fun tb 11 := Try.call11
theorem fun12 : Fun tb 12 := Try.call12
theorem fun13 : Fun tb 13 := Try.call13
theorem fun14 : Fun tb 14 := Try.call14
theorem fun15 : Fun tb 15 := Try.call15
theorem fun16 : Fun tb 16 := Try.call16
theorem fun17 : Fun tb 17 := Try.call17
theorem fun18 : Fun tb 18 := Try.call18
theorem fun19 : Fun tb 19 := Try.call19
theorem fun20 : Fun tb 20 := Try.call20
theorem fun21 : Fun tb 21 := Try.call21
theorem fun22 : Fun tb 22 := Try.call22
theorem fun23 : Fun tb 23 := Try.call23
theorem fun24 : Fun tb 24 := Try.call24
end Go.Proofs.Ytgpjbfedbncniaa

/- What the rows of this seat share. -/
import Derived.Test.YtgpjbfedbncniaaVf
import Derived.Test.YtgpjbfedbncniaaRows
namespace Go.Proofs.Ytgpjbfedbncniaa
open Go.RowKit Go.Vc
theorem own : ownKnob Try.prog.godebug = none := by kernel_rfl
theorem laidOut : laidOutB Try.prog = true := by kernel_rfl
theorem arr22 : Go.WideMaps.ArrKey Try.prog 22 5 16 := ⟨Try.underlying22, by kernel_rfl, by kernel_rfl, by kernel_rfl⟩
theorem arr28 : Go.WideMaps.ArrKey Try.prog 28 5 8 := ⟨Try.underlying28, by kernel_rfl, by kernel_rfl, by kernel_rfl⟩
end Go.Proofs.Ytgpjbfedbncniaa

/- Zero values, elements of slices, functions: written by program off the translation; checked by the kernel. -/
import Derived.Test.YtadginombcjbeaaTy
import Derived.Test.YtadginombcjbeaaVe
namespace Go.Proofs.Ytadginombcjbeaa
open Go.RowKit Go.Vc
theorem follows : tb.P.follows .mixedOrders = true := by kernel_rfl
theorem zero23 : ZeroIs tb 23 ([.int .i64 0, .int .i64 0, .int .i64 0]) := ⟨(.agg ([.int .i64 0, .int .i64 0, .int .i64 0]).toArray), rfl, fun w => by kernel_rfl⟩
theorem zero26 : ZeroIs tb 26 ([.int .i64 0, .int .i64 0, .bool false, .int .i64 0, .int .i64 0, .int .i64 0, .int .i64 0, .int .i64 0, .int .i64 0, .int .i64 0, .int .i64 0, .int .i64 0]) := ⟨(.agg ([.int .i64 0, .int .i64 0, .bool false, .int .i64 0, .int .i64 0, .int .i64 0, .int .i64 0, .int .i64 0, .int .i64 0, .int .i64 0, .int .i64 0, .int .i64 0]).toArray), rfl, fun w => by kernel_rfl⟩
theorem zero28 : ZeroIs tb 28 ([.int .i64 0, .int .i64 0, .int .i64 0, .bool false, .int .i64 0, .int .i64 0, .int .i64 0, .int .i64 0, .int .i64 0, .int .i64 0, .int .i64 0, .int .i64 0, .int .i64 0]) := ⟨(.agg ([.int .i64 0, .int .i64 0, .int .i64 0, .bool false, .int .i64 0, .int .i64 0, .int .i64 0, .int .i64 0, .int .i64 0, .int .i64 0, .int .i64 0, .int .i64 0, .int .i64 0]).toArray), rfl, fun w => by kernel_rfl⟩
theorem zero30 : ZeroIs tb 30 ([.int .i64 0, .int .i64 0, .int .i64 0]) := ⟨(.agg ([.int .i64 0, .int .i64 0, .int .i64 0]).toArray), rfl, fun w => by kernel_rfl⟩
theorem zero32 : ZeroIs tb 32 ([.int .i64 0, .int .i64 0, .slice none 0 0, .int .i64 0, .int .i64 0, .int .i64 0, .int .i64 0, .int .i64 0, .bool false, .bool false, .bool false, .bool false, .int .i64 0, .int .i64 0, .int .i64 0, .slice none 0 0]) := ⟨(.agg ([.int .i64 0, .int .i64 0, .slice none 0 0, .int .i64 0, .int .i64 0, .int .i64 0, .int .i64 0, .int .i64 0, .bool false, .bool false, .bool false, .bool false, .int .i64 0, .int .i64 0, .int .i64 0, .slice none 0 0]).toArray), rfl, fun w => by kernel_rfl⟩
theorem zero34 : ZeroIs tb 34 ([.int .i64 0, .int .i64 0, .int .i64 0, .int .i64 0, .int .i64 0, .int .i64 0, .bool false, .int .i64 0, .int .i64 0, .int .i64 0, .int .i64 0, .int .i64 0, .int .i64 0, .int .i64 0, .int .i64 0, .int .i64 0, .int .i64 0, .int .i64 0, .slice none 0 0, .int .i64 0, .int .i64 0, .int .i64 0, .int .i64 0, .int .i64 0, .bool false, .bool false, .bool false, .bool false, .int .i64 0, .int .i64 0, .int .i64 0, .slice none 0 0]) := ⟨(.agg ([.int .i64 0, .int .i64 0, .int .i64 0, .int .i64 0, .int .i64 0, .int .i64 0, .bool false, .int .i64 0, .int .i64 0, .int .i64 0, .int .i64 0, .int .i64 0, .int .i64 0, .int .i64 0, .int .i64 0, .int .i64 0, .int .i64 0, .int .i64 0, .slice none 0 0, .int .i64 0, .int .i64 0, .int .i64 0, .int .i64 0, .int .i64 0, .bool false, .bool false, .bool false, .bool false, .int .i64 0, .int .i64 0, .int .i64 0, .slice none 0 0]).toArray), rfl, fun w => by kernel_rfl⟩
theorem zero48 : ZeroIs tb 48 ([.int .i64 0, .int .i64 0]) := ⟨(.agg ([.int .i64 0, .int .i64 0]).toArray), rfl, fun w => by kernel_rfl⟩
theorem zero72 : ZeroIs tb 72 ([.int .i64 0, .int .i64 0, .slice none 0 0, .int .i64 0, .int .i64 0, .int .i64 0, .int .i64 0, .int .i64 0, .bool false, .bool false, .bool false, .bool false, .int .i64 0, .int .i64 0, .int .i64 0, .slice none 0 0]) := ⟨(.agg ([.int .i64 0, .int .i64 0, .slice none 0 0, .int .i64 0, .int .i64 0, .int .i64 0, .int .i64 0, .int .i64 0, .bool false, .bool false, .bool false, .bool false, .int .i64 0, .int .i64 0, .int .i64 0, .slice none 0 0]).toArray), rfl, fun w => by kernel_rfl⟩
theorem zero94 : ZeroIs tb 94 ([.int .i64 0, .int .i64 0, .int .i64 0, .bool false, .int .i64 0, .int .i64 0, .int .i64 0, .int .i64 0, .int .i64 0, .int .i64 0, .int .i64 0, .int .i64 0, .int .i64 0]) := ⟨(.agg ([.int .i64 0, .int .i64 0, .int .i64 0, .bool false, .int .i64 0, .int .i64 0, .int .i64 0, .int .i64 0, .int .i64 0, .int .i64 0, .int .i64 0, .int .i64 0, .int .i64 0]).toArray), rfl, fun w => by kernel_rfl⟩
theorem zero98 : ZeroIs tb 98 ([.nilFunc, .nilFunc, .nilFunc, .nilFunc]) := ⟨(.agg ([.nilFunc, .nilFunc, .nilFunc, .nilFunc]).toArray), rfl, fun w => by kernel_rfl⟩
def ty3 : Ty := ⟨.int .i64, 1, false⟩
theorem elem3 : ElemIs tb 3 ty3 8 ([.int .i64 0]) := elem_of (.int .i64 0) (by kernel_rfl) rfl
def ty5 : Ty := ⟨.int .u8, 1, false⟩
theorem elem5 : ElemIs tb 5 ty5 1 ([.int .u8 0]) := elem_of (.int .u8 0) (by kernel_rfl) rfl
def ty26 : Ty := ⟨.struct #[fd 3 0, fd 3 1, fd 4 2, fd 3 3, fd 24 4], 12, true⟩
theorem elem26 : ElemIs tb 26 ty26 96 ([.int .i64 0, .int .i64 0, .bool false, .int .i64 0, .int .i64 0, .int .i64 0, .int .i64 0, .int .i64 0, .int .i64 0, .int .i64 0, .int .i64 0, .int .i64 0]) := elem_of (.agg ([.int .i64 0, .int .i64 0, .bool false, .int .i64 0, .int .i64 0, .int .i64 0, .int .i64 0, .int .i64 0, .int .i64 0, .int .i64 0, .int .i64 0, .int .i64 0]).toArray) (by kernel_rfl) rfl
def ty48 : Ty := ⟨.struct #[fd 3 0, fd 3 1], 2, true⟩
theorem elem48 : ElemIs tb 48 ty48 16 ([.int .i64 0, .int .i64 0]) := elem_of (.agg ([.int .i64 0, .int .i64 0]).toArray) (by kernel_rfl) rfl
theorem fun3 : Fun tb 3 := Try.call3
theorem fun4 : Fun tb 4 := Try.call4
theorem fun5 : Fun tb 5 := Try.call5
theorem fun6 : Fun tb 6 := Try.call6
theorem fun7 : Fun tb 7 := Try.call7
theorem fun8 : Fun tb 8 := Try.call8
theorem fun9 : Fun tb 9 := Try.call9
theorem fun10 : Fun tb 10 := Try.call10
theorem fun11 : Fun tb 11 := Try.call11
theorem fun12 : Fun tb 12 := Try.call12
theorem fun13 : Fun tb 13 := Try.call13
theorem fun14 : Fun tb 14 := Try.call14
theorem fun15 : Fun tb 15 := Try.call15
theorem fun16 : Fun tb 16 := Try.call16
theorem fun17 : Fun tb 17 := Try.call17
theorem fun18 : Fun tb 18 := Try.call18
theorem fun19 : Fun tb 19 := Try.call19
theorem fun20 : Fun tb 20 := Try.call20
theorem fun21 : Fun tb 21 := Try.call21
theorem fun22 : Fun tb 22 := Try.call22
theorem fun23 : Fun tb 23 := Try.call23
theorem fun24 : Fun tb 24 := Try.call24
theorem fun25 : Fun tb 25 := Try.call25
theorem fun26 : Fun tb 26 := Try.call26
theorem fun27 : Fun tb 27 := Try.call27
theorem fun28 : Fun tb 28 := Try.call28
theorem fun29 : Fun tb 29 := Try.call29
theorem fun30 : Fun tb 30 := Try.call30
theorem fun31 : Fun tb 31 := Try.call31
theorem fun32 : Fun tb 32 := Try.call32
theorem fun33 : Fun tb 33 := Try.call33
theorem fun34 : Fun tb 34 := Try.call34
theorem fun35 : Fun tb 35 := Try.call35
theorem fun36 : Fun tb 36 := Try.call36
theorem fun37 : Fun tb 37 := Try.call37
theorem fun38 : Fun tb 38 := Try.call38
theorem fun39 : Fun tb 39 := Try.call39
theorem fun40 : Fun tb 40 := Try.call40
theorem fun41 : Fun tb 41 := Try.call41
theorem fun42 : Fun tb 42 := Try.call42
theorem fun43 : Fun tb 43 := Try.call43
theorem fun44 : Fun tb 44 := Try.call44
theorem fun45 : Fun tb 45 := Try.call45
theorem fun46 : Fun tb 46 := Try.call46
theorem fun47 : Fun tb 47 := Try.call47
theorem fun48 : Fun tb 48 := Try.call48
theorem fun49 : Fun tb 49 := Try.call49
theorem fun50 : Fun tb 50 := Try.call50
theorem fun51 : Fun tb 51 := Try.call51
theorem fun52 : Fun tb 52 := Try.call52
theorem fun53 : Fun tb 53 := Try.call53
theorem fun54 : Fun tb 54 := Try.call54
theorem fun55 : Fun tb 55 := Try.call55
theorem fun56 : Fun tb 56 := Try.call56
theorem fun57 : Fun tb 57 := Try.call57
theorem fun58 : Fun tb 58 := Try.call58
theorem fun59 : Fun tb 59 := Try.call59
theorem fun60 : Fun tb 60 := Try.call60
theorem fun61 : Fun tb 61 := Try.call61
theorem fun62 : Fun tb 62 := Try.call62
theorem fun63 : Fun tb 63 := Try.call63
theorem fun64 : Fun tb 64 := Try.call64
theorem fun65 : Fun tb 65 := Try.call65
theorem fun66 : Fun tb 66 := Try.call66
theorem fun67 : Fun tb 67 := Try.call67
theorem fun68 : Fun tb 68 := Try.call68
theorem fun69 : Fun tb 69 := Try.call69
theorem fun70 : Fun tb 70 := Try.call70
theorem fun71 : Fun tb 71 := Try.call71
theorem fun72 : Fun tb 72 := Try.call72
theorem fun73 : Fun tb 73 := Try.call73
theorem fun74 : Fun tb 74 := Try.call74
theorem fun75 : Fun tb 75 := Try.call75
theorem fun76 : Fun tb 76 := Try.call76
theorem fun77 : Fun tb 77 := Try.call77
theorem fun78 : Fun tb 78 := Try.call78
theorem fun79 : Fun tb 79 := Try.call79
theorem fun80 : Fun tb 80 := Try.call80
theorem fun81 : Fun tb 81 := Try.call81
theorem fun82 : Fun tb 82 := Try.call82
theorem fun83 : Fun tb 83 := Try.call83
theorem fun84 : Fun tb 84 := Try.call84
theorem fun85 : Fun tb 85 := Try.call85
theorem fun86 : Fun tb 86 := Try.call86
theorem fun87 : Fun tb 87 := Try.call87
theorem fun88 : Fun tb 88 := Try.call88
theorem fun89 : Fun tb 89 := Try.call89
theorem fun90 : Fun tb 90 := Try.call90
theorem fun91 : Fun tb 91 := Try.call91
theorem fun92 : Fun tb 92 := Try.call92
theorem fun93 : Fun tb 93 := Try.call93
theorem fun94 : Fun tb 94 := Try.call94
theorem fun95 : Fun tb 95 := Try.call95
end Go.Proofs.Ytadginombcjbeaa

/- Contracts of the program's functions, for every argument that meets the conditions that each theorem names. -/
import Derived.Test.YtecfkfgaejmdfaaAm4
import Derived.Test.YtecfkfgaejmdfaaProg
section
set_option maxRecDepth 100000
namespace Go.Am
open Go.Proofs
/- tidegate/tidegatelaw34.SequenceReceives -/
def Tryc3 : ACode :=
  (.seq (.reg [
    ⟨some 2, .box (.t 0), [], none⟩,
    ⟨some 4, .mv (.c (.val (.bool false))), [], none⟩])
  (.seq (.seq (.reg [
    ⟨some 11, .ld 4 true (.t 2), [], none⟩,
    ⟨some 12, .call 10 [(.t 11)], [0], none⟩,
    ⟨some 13, .un .not (.t 12), [1], none⟩])
  (.cond (.t 13)
    (.seq (.reg [
      ⟨some 14, .call 11 [], [], none⟩,
      ⟨some 4, .mv (.t 14), [0, 0, 0], none⟩])
    .ret)
    .skip))
  (.seq (.reg [
    ⟨some 16, .ld 4 true (.t 2), [], none⟩,
    ⟨some 17, .mv (.t 1), [], none⟩,
    ⟨some 18, .call 12 [(.t 16), (.t 17)], [0, 1], none⟩,
    ⟨some 15, .mv (.t 18), [2], none⟩,
    ⟨some 19, .ext (.t 15) 0, [3], none⟩,
    ⟨some 20, .ext (.t 15) 1, [3], none⟩,
    ⟨some 21, .ext (.t 15) 2, [3], none⟩,
    ⟨some 5, .box (.c (.agg [(.val (.int .i64 0)), (.val (.slice none 0 0)), (.val (.slice none 0 0)), (.val (.int .i64 0))])), [], none⟩,
    ⟨none, .st 4 (.t 5) (.t 19), [7, 4, 2, 0, 1, 2, 3, 4, 7], none⟩,
    ⟨some 6, .mv (.t 20), [5, 8, 0, 1, 2, 3, 4, 5, 7, 8], none⟩,
    ⟨some 7, .mv (.t 21), [6, 9, 0, 1, 2, 3, 4, 5, 6, 7, 8, 9], none⟩])
  (.seq (.reg [
    ⟨some 23, .ld 4 true (.t 2), [], none⟩,
    ⟨some 24, .mv (.t 1), [], none⟩,
    ⟨some 25, .call 13 [(.t 23), (.t 24)], [0, 1], none⟩,
    ⟨some 22, .mv (.t 25), [2], none⟩,
    ⟨some 26, .ext (.t 22) 0, [3], none⟩,
    ⟨some 27, .ext (.t 22) 1, [3], none⟩,
    ⟨some 28, .ext (.t 22) 2, [3], none⟩,
    ⟨some 8, .box (.c (.agg [(.val (.int .i64 0)), (.val (.slice none 0 0)), (.val (.slice none 0 0)), (.val (.int .i64 0))])), [], none⟩,
    ⟨none, .st 4 (.t 8) (.t 26), [7, 4, 2, 0, 1, 2, 3, 4, 7], none⟩,
    ⟨some 9, .mv (.t 27), [5, 8, 0, 1, 2, 3, 4, 5, 7, 8], none⟩,
    ⟨some 10, .mv (.t 28), [6, 9, 0, 1, 2, 3, 4, 5, 6, 7, 8, 9], none⟩])
  (.seq (.draw [
    ⟨some 29, .call 11 [], [], none⟩,
    ⟨some 30, .mv (.t 29), [0, 0], none⟩,
    ⟨some 31, .ld 4 true (.t 5), [1], some (30, true)⟩,
    ⟨some 32, .ld 4 true (.t 8), [1], some (30, true)⟩,
    ⟨some 33, .call 14 [(.t 31), (.t 32)], [2, 3, 1, 1], some (30, true)⟩,
    ⟨some 34, .pick (.t 30) (.t 33) (.c (.val (.bool false))), [1, 4], none⟩,
    ⟨some 35, .mv (.t 34), [5, 4], none⟩,
    ⟨some 36, .mv (.t 6), [6], some (35, true)⟩,
    ⟨some 37, .mv (.t 9), [6], some (35, true)⟩,
    ⟨some 38, .eqb false (.t 36) (.t 37), [7, 8, 6], some (35, true)⟩,
    ⟨some 39, .pick (.t 35) (.t 38) (.c (.val (.bool false))), [6, 9], none⟩,
    ⟨some 40, .mv (.t 39), [10, 6], none⟩,
    ⟨some 41, .mv (.t 7), [11], some (40, true)⟩,
    ⟨some 42, .mv (.t 10), [11], some (40, true)⟩,
    ⟨some 43, .bin .eql (.t 41) (.t 42), [12, 13, 11], some (40, true)⟩,
    ⟨some 44, .pick (.t 40) (.t 43) (.c (.val (.bool false))), [11, 14], none⟩,
    ⟨some 45, .mv (.t 44), [15, 11], none⟩,
    ⟨some 46, .ld 4 true (.t 2), [16], some (45, true)⟩,
    ⟨some 47, .call 15 [(.t 46)], [17, 16, 16], some (45, true)⟩,
    ⟨some 48, .ld 4 true (.t 2), [16], some (45, true)⟩,
    ⟨some 49, .call 16 [(.t 48)], [19, 18, 16], some (45, true)⟩,
    ⟨some 50, .bin .eql (.t 47) (.t 49), [18, 20, 16], some (45, true)⟩,
    ⟨some 51, .pick (.t 45) (.t 50) (.c (.val (.bool false))), [16, 21], none⟩,
    ⟨some 52, .mv (.t 51), [22, 20], none⟩,
    ⟨some 53, .call 17 [], [23, 23], some (52, true)⟩,
    ⟨some 54, .call 18 [], [24, 23], some (52, true)⟩,
    ⟨some 55, .call 14 [(.t 53), (.t 54)], [24, 25, 25, 23], some (52, true)⟩,
    ⟨some 56, .pick (.t 52) (.t 55) (.c (.val (.bool false))), [23, 26], none⟩,
    ⟨some 4, .mv (.t 56), [27, 26, 0, 1, 2, 3, 4, 5, 6, 7, 8, 9, 10, 11, 12, 13, 14, 15, 16, 17, 18, 19, 20, 21, 22, 23, 24, 25, 26, 27], none⟩])
  .ret)))))
theorem Tryp3 : (Try.f3.body.map (prep Try.prog 57)) = some Tryc3 := by kernel_rfl

/- tidegate/tidegatelaw34.SequenceGaps -/
def Tryc4 : ACode :=
  (.seq (.reg [
    ⟨some 1, .box (.t 0), [], none⟩,
    ⟨some 2, .mv (.c (.val (.bool false))), [], none⟩])
  (.seq (.seq (.reg [
    ⟨some 7, .ld 4 true (.t 1), [], none⟩,
    ⟨some 8, .call 10 [(.t 7)], [0], none⟩,
    ⟨some 9, .un .not (.t 8), [1], none⟩])
  (.cond (.t 9)
    (.seq (.reg [
      ⟨some 10, .call 11 [], [], none⟩,
      ⟨some 2, .mv (.t 10), [0, 0, 0], none⟩])
    .ret)
    .skip))
  (.seq (.reg [
    ⟨some 12, .ld 4 true (.t 1), [], none⟩,
    ⟨some 13, .call 19 [(.t 12)], [0], none⟩,
    ⟨some 11, .mv (.t 13), [1], none⟩,
    ⟨some 14, .ext (.t 11) 0, [2], none⟩,
    ⟨some 15, .ext (.t 11) 1, [2], none⟩,
    ⟨some 3, .mv (.t 14), [3, 1, 0, 1, 2, 3], none⟩,
    ⟨some 4, .mv (.t 15), [4, 5, 0, 1, 2, 3, 4, 5], none⟩])
  (.seq (.reg [
    ⟨some 17, .ld 4 true (.t 1), [], none⟩,
    ⟨some 18, .call 20 [(.t 17)], [0], none⟩,
    ⟨some 16, .mv (.t 18), [1], none⟩,
    ⟨some 19, .ext (.t 16) 0, [2], none⟩,
    ⟨some 20, .ext (.t 16) 1, [2], none⟩,
    ⟨some 5, .mv (.t 19), [3, 1, 0, 1, 2, 3], none⟩,
    ⟨some 6, .mv (.t 20), [4, 5, 0, 1, 2, 3, 4, 5], none⟩])
  (.seq (.reg [
    ⟨some 21, .call 11 [], [], none⟩,
    ⟨some 22, .mv (.t 21), [0, 0], none⟩,
    ⟨some 23, .mv (.t 3), [1], some (22, true)⟩,
    ⟨some 24, .mv (.t 5), [1], some (22, true)⟩,
    ⟨some 25, .call 21 [(.t 23), (.t 24)], [2, 3, 1, 1], some (22, true)⟩,
    ⟨some 26, .pick (.t 22) (.t 25) (.c (.val (.bool false))), [1, 4], none⟩,
    ⟨some 27, .mv (.t 26), [5, 4], none⟩,
    ⟨some 28, .mv (.t 4), [6], some (27, true)⟩,
    ⟨some 29, .mv (.t 6), [6], some (27, true)⟩,
    ⟨some 30, .bin .eql (.t 28) (.t 29), [7, 8, 6], some (27, true)⟩,
    ⟨some 31, .pick (.t 27) (.t 30) (.c (.val (.bool false))), [6, 9], none⟩,
    ⟨some 2, .mv (.t 31), [10, 6, 0, 1, 2, 3, 4, 5, 6, 7, 8, 9, 10], none⟩])
  .ret)))))
theorem Tryp4 : (Try.f4.body.map (prep Try.prog 32)) = some Tryc4 := by kernel_rfl

/- tidegate/tidegatelaw34.SequenceMerges -/
def Tryc5 : ACode :=
  (.seq (.reg [
    ⟨some 2, .box (.t 0), [], none⟩,
    ⟨some 3, .box (.t 1), [], none⟩,
    ⟨some 4, .mv (.c (.val (.bool false))), [], none⟩])
  (.seq (.seq (.reg [
    ⟨some 9, .ld 4 true (.t 2), [], none⟩,
    ⟨some 10, .call 10 [(.t 9)], [0], none⟩,
    ⟨some 11, .un .not (.t 10), [1], none⟩,
    ⟨some 12, .mv (.t 11), [2, 1], none⟩,
    ⟨some 13, .ld 4 true (.t 3), [3], some (12, false)⟩,
    ⟨some 14, .call 10 [(.t 13)], [4, 3, 3], some (12, false)⟩,
    ⟨some 15, .un .not (.t 14), [5, 3], some (12, false)⟩,
    ⟨some 16, .pick (.t 12) (.c (.val (.bool true))) (.t 15), [3, 6], none⟩])
  (.cond (.t 16)
    (.seq (.reg [
      ⟨some 17, .call 11 [], [], none⟩,
      ⟨some 4, .mv (.t 17), [0, 0, 0], none⟩])
    .ret)
    .skip))
  (.seq (.reg [
    ⟨some 19, .ld 4 true (.t 2), [], none⟩,
    ⟨some 20, .ld 4 true (.t 3), [], none⟩,
    ⟨some 21, .call 22 [(.t 19), (.t 20)], [0, 1], none⟩,
    ⟨some 18, .mv (.t 21), [2], none⟩,
    ⟨some 22, .ext (.t 18) 0, [3], none⟩,
    ⟨some 23, .ext (.t 18) 1, [3], none⟩,
    ⟨some 5, .box (.c (.agg [(.val (.int .i64 0)), (.val (.slice none 0 0)), (.val (.slice none 0 0)), (.val (.int .i64 0))])), [], none⟩,
    ⟨none, .st 4 (.t 5) (.t 22), [6, 4, 2, 0, 1, 2, 3, 4, 6], none⟩,
    ⟨some 6, .mv (.t 23), [5, 7, 0, 1, 2, 3, 4, 5, 6, 7], none⟩])
  (.seq (.reg [
    ⟨some 25, .ld 4 true (.t 2), [], none⟩,
    ⟨some 26, .ld 4 true (.t 3), [], none⟩,
    ⟨some 27, .call 23 [(.t 25), (.t 26)], [0, 1], none⟩,
    ⟨some 24, .mv (.t 27), [2], none⟩,
    ⟨some 28, .ext (.t 24) 0, [3], none⟩,
    ⟨some 29, .ext (.t 24) 1, [3], none⟩,
    ⟨some 7, .box (.c (.agg [(.val (.int .i64 0)), (.val (.slice none 0 0)), (.val (.slice none 0 0)), (.val (.int .i64 0))])), [], none⟩,
    ⟨none, .st 4 (.t 7) (.t 28), [6, 4, 2, 0, 1, 2, 3, 4, 6], none⟩,
    ⟨some 8, .mv (.t 29), [5, 7, 0, 1, 2, 3, 4, 5, 6, 7], none⟩])
  (.seq (.reg [
    ⟨some 30, .call 11 [], [], none⟩,
    ⟨some 31, .mv (.t 30), [0, 0], none⟩,
    ⟨some 32, .ld 4 true (.t 5), [1], some (31, true)⟩,
    ⟨some 33, .ld 4 true (.t 7), [1], some (31, true)⟩,
    ⟨some 34, .call 14 [(.t 32), (.t 33)], [2, 3, 1, 1], some (31, true)⟩,
    ⟨some 35, .pick (.t 31) (.t 34) (.c (.val (.bool false))), [1, 4], none⟩,
    ⟨some 36, .mv (.t 35), [5, 4], none⟩,
    ⟨some 37, .mv (.t 6), [6], some (36, true)⟩,
    ⟨some 38, .mv (.t 8), [6], some (36, true)⟩,
    ⟨some 39, .bin .eql (.t 37) (.t 38), [7, 8, 6], some (36, true)⟩,
    ⟨some 40, .pick (.t 36) (.t 39) (.c (.val (.bool false))), [6, 9], none⟩,
    ⟨some 4, .mv (.t 40), [10, 6, 0, 1, 2, 3, 4, 5, 6, 7, 8, 9, 10], none⟩])
  .ret)))))
theorem Tryp5 : (Try.f5.body.map (prep Try.prog 41)) = some Tryc5 := by kernel_rfl

/- tidegate/tidegatelaw34.SequenceUnites -/
def Tryc6 : ACode :=
  (.seq (.reg [
    ⟨some 1, .box (.t 0), [], none⟩,
    ⟨some 2, .mv (.c (.val (.bool false))), [], none⟩])
  (.seq (.seq (.reg [
    ⟨some 15, .iaA 1 2 (.t 1) (.c (.val (.int .i64 0))), [], none⟩,
    ⟨some 16, .ld 1 false (.t 15), [0], none⟩,
    ⟨some 17, .len (.t 16), [1], none⟩,
    ⟨some 18, .bin .gtr (.t 17) (.c (.val (.int .i64 30))), [2], none⟩,
    ⟨some 19, .mv (.t 18), [3], none⟩,
    ⟨some 20, .iaA 1 2 (.t 1) (.c (.val (.int .i64 1))), [4], some (19, false)⟩,
    ⟨some 21, .ld 1 false (.t 20), [5, 4], some (19, false)⟩,
    ⟨some 22, .len (.t 21), [6, 4], some (19, false)⟩,
    ⟨some 23, .bin .gtr (.t 22) (.c (.val (.int .i64 30))), [7, 4], some (19, false)⟩,
    ⟨some 24, .pick (.t 19) (.c (.val (.bool true))) (.t 23), [4, 8], none⟩])
  (.cond (.t 24)
    (.seq (.reg [
      ⟨some 25, .call 11 [], [], none⟩,
      ⟨some 2, .mv (.t 25), [0, 0, 0], none⟩])
    .ret)
    .skip))
  (.seq (.reg [
    ⟨some 27, .iaA 1 2 (.t 1) (.c (.val (.int .i64 0))), [], none⟩,
    ⟨some 28, .ld 1 false (.t 27), [0], none⟩,
    ⟨some 29, .call 25 [(.t 28)], [1], none⟩,
    ⟨some 30, .call 24 [(.t 29)], [2, 2], none⟩,
    ⟨some 26, .mv (.t 30), [3], none⟩,
    ⟨some 31, .ext (.t 26) 0, [4], none⟩,
    ⟨some 32, .ext (.t 26) 1, [4], none⟩,
    ⟨some 3, .box (.c (.agg [(.val (.int .i64 0)), (.val (.slice none 0 0)), (.val (.slice none 0 0)), (.val (.int .i64 0))])), [], none⟩,
    ⟨none, .st 4 (.t 3) (.t 31), [7, 5, 3, 0, 1, 2, 3, 4, 5, 7], none⟩,
    ⟨some 4, .mv (.t 32), [6, 8, 0, 1, 2, 3, 4, 5, 6, 7, 8], none⟩])
  (.seq (.reg [
    ⟨some 34, .iaA 1 2 (.t 1) (.c (.val (.int .i64 1))), [], none⟩,
    ⟨some 35, .ld 1 false (.t 34), [0], none⟩,
    ⟨some 36, .call 25 [(.t 35)], [1], none⟩,
    ⟨some 37, .call 24 [(.t 36)], [2, 2], none⟩,
    ⟨some 33, .mv (.t 37), [3], none⟩,
    ⟨some 38, .ext (.t 33) 0, [4], none⟩,
    ⟨some 39, .ext (.t 33) 1, [4], none⟩,
    ⟨some 5, .box (.c (.agg [(.val (.int .i64 0)), (.val (.slice none 0 0)), (.val (.slice none 0 0)), (.val (.int .i64 0))])), [], none⟩,
    ⟨none, .st 4 (.t 5) (.t 38), [7, 5, 3, 0, 1, 2, 3, 4, 5, 7], none⟩,
    ⟨some 6, .mv (.t 39), [6, 8, 0, 1, 2, 3, 4, 5, 6, 7, 8], none⟩])
  (.seq (.draw [
    ⟨some 41, .iaA 1 2 (.t 1) (.c (.val (.int .i64 0))), [], none⟩,
    ⟨some 42, .ld 1 false (.t 41), [0], none⟩,
    ⟨some 43, .call 25 [(.t 42)], [1], none⟩,
    ⟨some 44, .iaA 1 2 (.t 1) (.c (.val (.int .i64 1))), [], none⟩,
    ⟨some 45, .ld 1 false (.t 44), [3], none⟩,
    ⟨some 46, .call 25 [(.t 45)], [4, 2], none⟩,
    ⟨some 47, .app 1 8 (.t 43) (.t 46), [2, 5, 5], none⟩,
    ⟨some 48, .call 24 [(.t 47)], [6, 6], none⟩,
    ⟨some 40, .mv (.t 48), [7], none⟩,
    ⟨some 49, .ext (.t 40) 0, [8], none⟩,
    ⟨some 50, .ext (.t 40) 1, [8], none⟩,
    ⟨some 7, .box (.c (.agg [(.val (.int .i64 0)), (.val (.slice none 0 0)), (.val (.slice none 0 0)), (.val (.int .i64 0))])), [], none⟩,
    ⟨none, .st 4 (.t 7) (.t 49), [11, 9, 7, 0, 1, 2, 3, 4, 5, 6, 7, 8, 9, 11], none⟩,
    ⟨some 8, .mv (.t 50), [10, 12, 0, 1, 2, 3, 4, 5, 6, 7, 8, 9, 10, 11, 12], none⟩])
  (.seq (.reg [
    ⟨some 52, .ld 4 true (.t 3), [], none⟩,
    ⟨some 53, .ld 4 true (.t 5), [], none⟩,
    ⟨some 54, .call 22 [(.t 52), (.t 53)], [0, 1], none⟩,
    ⟨some 51, .mv (.t 54), [2], none⟩,
    ⟨some 55, .ext (.t 51) 0, [3], none⟩,
    ⟨some 56, .ext (.t 51) 1, [3], none⟩,
    ⟨some 9, .box (.c (.agg [(.val (.int .i64 0)), (.val (.slice none 0 0)), (.val (.slice none 0 0)), (.val (.int .i64 0))])), [], none⟩,
    ⟨none, .st 4 (.t 9) (.t 55), [6, 4, 2, 0, 1, 2, 3, 4, 6], none⟩,
    ⟨some 10, .mv (.t 56), [5, 7, 0, 1, 2, 3, 4, 5, 6, 7], none⟩])
  (.seq (.reg [
    ⟨some 58, .ld 4 true (.t 5), [], none⟩,
    ⟨some 59, .ld 4 true (.t 3), [], none⟩,
    ⟨some 60, .call 22 [(.t 58), (.t 59)], [0, 1], none⟩,
    ⟨some 57, .mv (.t 60), [2], none⟩,
    ⟨some 61, .ext (.t 57) 0, [3], none⟩,
    ⟨some 62, .ext (.t 57) 1, [3], none⟩,
    ⟨some 11, .box (.c (.agg [(.val (.int .i64 0)), (.val (.slice none 0 0)), (.val (.slice none 0 0)), (.val (.int .i64 0))])), [], none⟩,
    ⟨none, .st 4 (.t 11) (.t 61), [6, 4, 2, 0, 1, 2, 3, 4, 6], none⟩,
    ⟨some 12, .mv (.t 62), [5, 7, 0, 1, 2, 3, 4, 5, 6, 7], none⟩])
  (.seq (.reg [
    ⟨some 64, .ld 4 true (.t 3), [], none⟩,
    ⟨some 65, .ld 4 true (.t 3), [], none⟩,
    ⟨some 66, .call 22 [(.t 64), (.t 65)], [0, 1], none⟩,
    ⟨some 63, .mv (.t 66), [2], none⟩,
    ⟨some 67, .ext (.t 63) 0, [3], none⟩,
    ⟨some 68, .ext (.t 63) 1, [3], none⟩,
    ⟨some 13, .box (.c (.agg [(.val (.int .i64 0)), (.val (.slice none 0 0)), (.val (.slice none 0 0)), (.val (.int .i64 0))])), [], none⟩,
    ⟨none, .st 4 (.t 13) (.t 67), [6, 4, 2, 0, 1, 2, 3, 4, 6], none⟩,
    ⟨some 14, .mv (.t 68), [5, 7, 0, 1, 2, 3, 4, 5, 6, 7], none⟩])
  (.seq (.reg [
    ⟨some 69, .call 11 [], [], none⟩,
    ⟨some 70, .mv (.t 69), [0, 0], none⟩,
    ⟨some 71, .mv (.t 4), [1], some (70, true)⟩,
    ⟨some 72, .pick (.t 70) (.t 71) (.c (.val (.bool false))), [1, 2], none⟩,
    ⟨some 73, .mv (.t 72), [3, 1], none⟩,
    ⟨some 74, .mv (.t 6), [4], some (73, true)⟩,
    ⟨some 75, .pick (.t 73) (.t 74) (.c (.val (.bool false))), [4, 5], none⟩,
    ⟨some 76, .mv (.t 75), [6, 4], none⟩,
    ⟨some 77, .mv (.t 8), [7], some (76, true)⟩,
    ⟨some 78, .pick (.t 76) (.t 77) (.c (.val (.bool false))), [7, 8], none⟩,
    ⟨some 79, .mv (.t 78), [9, 7], none⟩,
    ⟨some 80, .mv (.t 10), [10], some (79, true)⟩,
    ⟨some 81, .bin .eql (.t 80) (.c (.val (.int .i64 0))), [11, 10], some (79, true)⟩,
    ⟨some 82, .pick (.t 79) (.t 81) (.c (.val (.bool false))), [10, 12], none⟩,
    ⟨some 83, .mv (.t 82), [13, 10], none⟩,
    ⟨some 84, .mv (.t 12), [14], some (83, true)⟩,
    ⟨some 85, .bin .eql (.t 84) (.c (.val (.int .i64 0))), [15, 14], some (83, true)⟩,
    ⟨some 86, .pick (.t 83) (.t 85) (.c (.val (.bool false))), [14, 16], none⟩,
    ⟨some 87, .mv (.t 86), [17, 14], none⟩,
    ⟨some 88, .mv (.t 14), [18], some (87, true)⟩,
    ⟨some 89, .bin .eql (.t 88) (.c (.val (.int .i64 0))), [19, 18], some (87, true)⟩,
    ⟨some 90, .pick (.t 87) (.t 89) (.c (.val (.bool false))), [18, 20], none⟩,
    ⟨some 91, .mv (.t 90), [21, 18], none⟩,
    ⟨some 92, .ld 4 true (.t 9), [22], some (91, true)⟩,
    ⟨some 93, .ld 4 true (.t 7), [22], some (91, true)⟩,
    ⟨some 94, .call 14 [(.t 92), (.t 93)], [23, 24, 22, 22], some (91, true)⟩,
    ⟨some 95, .pick (.t 91) (.t 94) (.c (.val (.bool false))), [22, 25], none⟩,
    ⟨some 96, .mv (.t 95), [26, 25], none⟩,
    ⟨some 97, .ld 4 true (.t 11), [27], some (96, true)⟩,
    ⟨some 98, .ld 4 true (.t 7), [27], some (96, true)⟩,
    ⟨some 99, .call 14 [(.t 97), (.t 98)], [28, 29, 27, 27], some (96, true)⟩,
    ⟨some 100, .pick (.t 96) (.t 99) (.c (.val (.bool false))), [27, 30], none⟩,
    ⟨some 101, .mv (.t 100), [31, 30], none⟩,
    ⟨some 102, .ld 4 true (.t 13), [32], some (101, true)⟩,
    ⟨some 103, .ld 4 true (.t 3), [32], some (101, true)⟩,
    ⟨some 104, .call 14 [(.t 102), (.t 103)], [33, 34, 32, 32], some (101, true)⟩,
    ⟨some 105, .pick (.t 101) (.t 104) (.c (.val (.bool false))), [32, 35], none⟩,
    ⟨some 2, .mv (.t 105), [36, 35, 0, 1, 2, 3, 4, 5, 6, 7, 8, 9, 10, 11, 12, 13, 14, 15, 16, 17, 18, 19, 20, 21, 22, 23, 24, 25, 26, 27, 28, 29, 30, 31, 32, 33, 34, 35, 36], none⟩])
  .ret)))))))))
theorem Tryp6 : (Try.f6.body.map (prep Try.prog 106)) = some Tryc6 := by kernel_rfl

/- tidegate/tidegatelaw34.SequenceFinds -/
def Tryc7 : ACode :=
  (.seq (.reg [
    ⟨some 2, .box (.t 0), [], none⟩,
    ⟨some 4, .mv (.c (.val (.bool false))), [], none⟩])
  (.seq (.seq (.reg [
    ⟨some 13, .ld 4 true (.t 2), [], none⟩,
    ⟨some 14, .call 10 [(.t 13)], [0], none⟩,
    ⟨some 15, .un .not (.t 14), [1], none⟩])
  (.cond (.t 15)
    (.seq (.reg [
      ⟨some 16, .call 11 [], [], none⟩,
      ⟨some 4, .mv (.t 16), [0, 0, 0], none⟩])
    .ret)
    .skip))
  (.seq (.reg [
    ⟨some 18, .ld 4 true (.t 2), [], none⟩,
    ⟨some 19, .mv (.t 1), [], none⟩,
    ⟨some 20, .call 26 [(.t 18), (.t 19)], [0, 1], none⟩,
    ⟨some 17, .mv (.t 20), [2], none⟩,
    ⟨some 21, .ext (.t 17) 0, [3], none⟩,
    ⟨some 22, .ext (.t 17) 1, [3], none⟩,
    ⟨some 5, .mv (.t 21), [4, 2, 0, 1, 2, 3, 4], none⟩,
    ⟨some 6, .mv (.t 22), [5, 6, 0, 1, 2, 3, 4, 5, 6], none⟩])
  (.seq (.reg [
    ⟨some 24, .ld 4 true (.t 2), [], none⟩,
    ⟨some 25, .mv (.t 1), [], none⟩,
    ⟨some 26, .call 27 [(.t 24), (.t 25)], [0, 1], none⟩,
    ⟨some 23, .mv (.t 26), [2], none⟩,
    ⟨some 27, .ext (.t 23) 0, [3], none⟩,
    ⟨some 28, .ext (.t 23) 1, [3], none⟩,
    ⟨some 7, .mv (.t 27), [4, 2, 0, 1, 2, 3, 4], none⟩,
    ⟨some 8, .mv (.t 28), [5, 6, 0, 1, 2, 3, 4, 5, 6], none⟩])
  (.seq (.reg [
    ⟨some 30, .ld 4 true (.t 2), [], none⟩,
    ⟨some 31, .mv (.t 1), [], none⟩,
    ⟨some 32, .call 28 [(.t 30), (.t 31)], [0, 1], none⟩,
    ⟨some 29, .mv (.t 32), [2], none⟩,
    ⟨some 33, .ext (.t 29) 0, [3], none⟩,
    ⟨some 34, .ext (.t 29) 1, [3], none⟩,
    ⟨some 9, .mv (.t 33), [4, 2, 0, 1, 2, 3, 4], none⟩,
    ⟨some 10, .mv (.t 34), [5, 6, 0, 1, 2, 3, 4, 5, 6], none⟩])
  (.seq (.reg [
    ⟨some 36, .ld 4 true (.t 2), [], none⟩,
    ⟨some 37, .mv (.t 1), [], none⟩,
    ⟨some 38, .call 29 [(.t 36), (.t 37)], [0, 1], none⟩,
    ⟨some 35, .mv (.t 38), [2], none⟩,
    ⟨some 39, .ext (.t 35) 0, [3], none⟩,
    ⟨some 40, .ext (.t 35) 1, [3], none⟩,
    ⟨some 11, .mv (.t 39), [4, 2, 0, 1, 2, 3, 4], none⟩,
    ⟨some 12, .mv (.t 40), [5, 6, 0, 1, 2, 3, 4, 5, 6], none⟩])
  (.seq (.reg [
    ⟨some 41, .call 11 [], [], none⟩,
    ⟨some 42, .mv (.t 41), [0, 0], none⟩,
    ⟨some 43, .mv (.t 5), [1], some (42, true)⟩,
    ⟨some 44, .mv (.t 7), [1], some (42, true)⟩,
    ⟨some 45, .eqb false (.t 43) (.t 44), [2, 3, 1], some (42, true)⟩,
    ⟨some 46, .pick (.t 42) (.t 45) (.c (.val (.bool false))), [1, 4], none⟩,
    ⟨some 47, .mv (.t 46), [5, 1], none⟩,
    ⟨some 48, .mv (.t 6), [6], some (47, true)⟩,
    ⟨some 49, .mv (.t 8), [6], some (47, true)⟩,
    ⟨some 50, .bin .eql (.t 48) (.t 49), [7, 8, 6], some (47, true)⟩,
    ⟨some 51, .pick (.t 47) (.t 50) (.c (.val (.bool false))), [6, 9], none⟩,
    ⟨some 52, .mv (.t 51), [10, 6], none⟩,
    ⟨some 53, .mv (.t 9), [11], some (52, true)⟩,
    ⟨some 54, .mv (.t 11), [11], some (52, true)⟩,
    ⟨some 55, .bin .eql (.t 53) (.t 54), [12, 13, 11], some (52, true)⟩,
    ⟨some 56, .pick (.t 52) (.t 55) (.c (.val (.bool false))), [11, 14], none⟩,
    ⟨some 57, .mv (.t 56), [15, 11], none⟩,
    ⟨some 58, .mv (.t 10), [16], some (57, true)⟩,
    ⟨some 59, .mv (.t 12), [16], some (57, true)⟩,
    ⟨some 60, .bin .eql (.t 58) (.t 59), [17, 18, 16], some (57, true)⟩,
    ⟨some 61, .pick (.t 57) (.t 60) (.c (.val (.bool false))), [16, 19], none⟩,
    ⟨some 4, .mv (.t 61), [20, 16, 0, 1, 2, 3, 4, 5, 6, 7, 8, 9, 10, 11, 12, 13, 14, 15, 16, 17, 18, 19, 20], none⟩])
  .ret)))))))
theorem Tryp7 : (Try.f7.body.map (prep Try.prog 62)) = some Tryc7 := by kernel_rfl

/- tidegate/tidegatelaw34.SequenceForgets -/
def Tryc8 : ACode :=
  (.seq (.reg [
    ⟨some 2, .mv (.c (.val (.bool false))), [], none⟩])
  (.seq (.seq (.reg [
    ⟨some 20, .mv (.t 0), [], none⟩,
    ⟨some 21, .len (.t 20), [0], none⟩,
    ⟨some 22, .bin .gtr (.t 21) (.c (.val (.int .i64 30))), [1], none⟩])
  (.cond (.t 22)
    (.seq (.reg [
      ⟨some 23, .call 11 [], [], none⟩,
      ⟨some 2, .mv (.t 23), [0, 0, 0], none⟩])
    .ret)
    .skip))
  (.seq (.reg [
    ⟨some 24, .mv (.t 0), [], none⟩,
    ⟨some 25, .call 25 [(.t 24)], [0], none⟩,
    ⟨some 3, .mv (.t 25), [1, 1, 0, 1], none⟩])
  (.seq (.reg [
    ⟨some 4, .mv (.c (.val (.slice none 0 0))), [], none⟩])
  (.seq (.seq (.reg [
    ⟨some 26, .mv (.t 3), [], none⟩,
    ⟨some 27, .len (.t 26), [0], none⟩,
    ⟨some 28, .bin .sub (.t 27) (.c (.val (.int .i64 1))), [1], none⟩,
    ⟨some 5, .mv (.t 28), [2, 0, 1, 2], none⟩])
  (.block 0
    (.loop
      (.seq (.seq (.reg [
        ⟨some 29, .mv (.t 5), [], none⟩,
        ⟨some 30, .bin .geq (.t 29) (.c (.val (.int .i64 0))), [0], none⟩])
      (.cond (.t 30)
        .skip
        (.exit 0)))
      (.seq (.block 1
        (.draw [
          ⟨some 33, .mv (.t 4), [], none⟩,
          ⟨some 34, .mv (.t 3), [], none⟩,
          ⟨some 35, .mv (.t 5), [], none⟩,
          ⟨some 36, .ia 1 (.t 34) (.t 35), [1, 2], none⟩,
          ⟨some 37, .ld 1 false (.t 36), [3], none⟩,
          ⟨some 38, .mv (.t 3), [], none⟩,
          ⟨some 39, .mv (.t 3), [], none⟩,
          ⟨some 40, .len (.t 39), [6], none⟩,
          ⟨some 41, .bin .sub (.t 40) (.c (.val (.int .i64 1))), [7], none⟩,
          ⟨some 42, .mv (.t 5), [], none⟩,
          ⟨some 43, .bin .sub (.t 41) (.t 42), [8, 9], none⟩,
          ⟨some 44, .ia 1 (.t 38) (.t 43), [5, 10], none⟩,
          ⟨some 45, .ld 1 false (.t 44), [11], none⟩,
          ⟨some 46, .bslice 1 [(.t 37), (.t 45)], [4, 12], none⟩,
          ⟨some 47, .app 1 8 (.t 33) (.t 46), [0, 13], none⟩,
          ⟨some 4, .mv (.t 47), [14, 14, 0, 1, 2, 3, 4, 5, 6, 7, 8, 9, 10, 11, 12, 13, 14], none⟩]))
      (.reg [
        ⟨some 31, .mv (.t 5), [], none⟩,
        ⟨some 32, .bin .sub (.t 31) (.c (.val (.int .i64 1))), [0], none⟩,
        ⟨some 5, .mv (.t 32), [1, 0, 1], none⟩]))))))
  (.seq (.reg [
    ⟨some 49, .mv (.t 3), [], none⟩,
    ⟨some 50, .call 24 [(.t 49)], [0], none⟩,
    ⟨some 48, .mv (.t 50), [1], none⟩,
    ⟨some 51, .ext (.t 48) 0, [2], none⟩,
    ⟨some 52, .ext (.t 48) 1, [2], none⟩,
    ⟨some 6, .box (.c (.agg [(.val (.int .i64 0)), (.val (.slice none 0 0)), (.val (.slice none 0 0)), (.val (.int .i64 0))])), [], none⟩,
    ⟨none, .st 4 (.t 6) (.t 51), [5, 3, 1, 0, 1, 2, 3, 5], none⟩,
    ⟨some 7, .mv (.t 52), [4, 6, 0, 1, 2, 3, 4, 5, 6], none⟩])
  (.seq (.reg [
    ⟨some 54, .mv (.t 4), [], none⟩,
    ⟨some 55, .call 24 [(.t 54)], [0], none⟩,
    ⟨some 53, .mv (.t 55), [1], none⟩,
    ⟨some 56, .ext (.t 53) 0, [2], none⟩,
    ⟨some 57, .ext (.t 53) 1, [2], none⟩,
    ⟨some 8, .box (.c (.agg [(.val (.int .i64 0)), (.val (.slice none 0 0)), (.val (.slice none 0 0)), (.val (.int .i64 0))])), [], none⟩,
    ⟨none, .st 4 (.t 8) (.t 56), [5, 3, 1, 0, 1, 2, 3, 5], none⟩,
    ⟨some 9, .mv (.t 57), [4, 6, 0, 1, 2, 3, 4, 5, 6], none⟩])
  (.seq (.seq (.reg [
    ⟨some 58, .mv (.t 7), [], none⟩,
    ⟨some 59, .un .not (.t 58), [0], none⟩,
    ⟨some 60, .mv (.t 59), [1], none⟩,
    ⟨some 61, .mv (.t 9), [2], some (60, false)⟩,
    ⟨some 62, .un .not (.t 61), [3, 2], some (60, false)⟩,
    ⟨some 63, .pick (.t 60) (.c (.val (.bool true))) (.t 62), [2, 4], none⟩,
    ⟨some 64, .mv (.t 63), [5, 2], none⟩,
    ⟨some 65, .ld 4 true (.t 6), [6], some (64, false)⟩,
    ⟨some 66, .ld 4 true (.t 8), [6], some (64, false)⟩,
    ⟨some 67, .call 14 [(.t 65), (.t 66)], [7, 8, 6, 6], some (64, false)⟩,
    ⟨some 68, .un .not (.t 67), [9, 6], some (64, false)⟩,
    ⟨some 69, .pick (.t 64) (.c (.val (.bool true))) (.t 68), [6, 10], none⟩])
  (.cond (.t 69)
    (.seq (.reg [
      ⟨some 2, .mv (.c (.val (.bool false))), [], none⟩])
    .ret)
    .skip))
  (.seq (.reg [
    ⟨some 70, .call 17 [], [], none⟩,
    ⟨some 10, .box (.c (.agg [(.val (.int .i64 0)), (.val (.slice none 0 0)), (.val (.slice none 0 0)), (.val (.int .i64 0))])), [], none⟩,
    ⟨none, .st 4 (.t 10) (.t 70), [1, 0, 0, 0, 1], none⟩,
    ⟨some 11, .mv (.c (.val (.int .i64 0))), [2, 0, 1, 2], none⟩])
  (.seq (.reg [
    ⟨some 71, .mkslice 1 1 (.val (.bool false)) (.c (.val (.int .i64 20))) (.c (.val (.int .i64 20))), [], none⟩,
    ⟨some 12, .mv (.t 71), [0, 0], none⟩])
  (.seq (.seq (.reg [
    ⟨some 13, .mv (.c (.val (.int .i64 0))), [], none⟩])
  (.block 2
    (.loop
      (.seq (.seq (.reg [
        ⟨some 72, .mv (.t 13), [], none⟩,
        ⟨some 73, .mv (.t 3), [], none⟩,
        ⟨some 74, .len (.t 73), [1], none⟩,
        ⟨some 75, .bin .lss (.t 72) (.t 74), [0, 2], none⟩])
      (.cond (.t 75)
        .skip
        (.exit 2)))
      (.seq (.block 3
        (.seq (.draw [
          ⟨some 79, .ld 4 true (.t 10), [], none⟩,
          ⟨some 80, .mv (.t 3), [], none⟩,
          ⟨some 81, .mv (.t 13), [], none⟩,
          ⟨some 82, .ia 1 (.t 80) (.t 81), [1, 2], none⟩,
          ⟨some 83, .ld 1 false (.t 82), [3], none⟩,
          ⟨some 84, .call 12 [(.t 79), (.t 83)], [0, 4], none⟩,
          ⟨some 78, .mv (.t 84), [5], none⟩,
          ⟨some 85, .ext (.t 78) 0, [6], none⟩,
          ⟨some 86, .ext (.t 78) 1, [6], none⟩,
          ⟨some 87, .ext (.t 78) 2, [6], none⟩,
          ⟨some 14, .box (.c (.agg [(.val (.int .i64 0)), (.val (.slice none 0 0)), (.val (.slice none 0 0)), (.val (.int .i64 0))])), [], none⟩,
          ⟨none, .st 4 (.t 14) (.t 85), [10, 7, 5, 0, 1, 2, 3, 4, 5, 6, 7, 10], none⟩,
          ⟨some 15, .mv (.t 86), [8, 11, 0, 1, 2, 3, 4, 5, 6, 7, 8, 10, 11], none⟩,
          ⟨some 16, .mv (.t 87), [9, 12, 0, 1, 2, 3, 4, 5, 6, 7, 8, 9, 10, 11, 12], none⟩])
        (.seq (.seq (.reg [
          ⟨some 88, .mv (.t 16), [], none⟩,
          ⟨some 89, .bin .neq (.t 88) (.c (.val (.int .i64 0))), [0], none⟩,
          ⟨some 90, .mv (.t 89), [1], none⟩,
          ⟨some 91, .mv (.t 15), [2], some (90, false)⟩,
          ⟨some 92, .mv (.t 12), [2], some (90, false)⟩,
          ⟨some 93, .mv (.t 3), [2], some (90, false)⟩,
          ⟨some 94, .mv (.t 13), [2], some (90, false)⟩,
          ⟨some 95, .ia 1 (.t 93) (.t 94), [5, 6, 2], some (90, false)⟩,
          ⟨some 96, .ld 1 false (.t 95), [7, 2], some (90, false)⟩,
          ⟨some 97, .ia 1 (.t 92) (.t 96), [4, 8, 2], some (90, false)⟩,
          ⟨some 98, .ld 1 false (.t 97), [9, 2], some (90, false)⟩,
          ⟨some 99, .eqb false (.t 91) (.t 98), [3, 10, 2], some (90, false)⟩,
          ⟨some 100, .pick (.t 90) (.c (.val (.bool true))) (.t 99), [2, 11], none⟩])
        (.cond (.t 100)
          (.seq (.reg [
            ⟨some 2, .mv (.c (.val (.bool false))), [], none⟩])
          .ret)
          .skip))
        (.seq (.seq (.reg [
          ⟨some 101, .mv (.t 15), [], none⟩])
        (.cond (.t 101)
          (.reg [
            ⟨some 102, .mv (.t 11), [], none⟩,
            ⟨some 103, .bin .add (.t 102) (.c (.val (.int .i64 1))), [0], none⟩,
            ⟨some 11, .mv (.t 103), [1, 0, 1], none⟩])
          .skip))
        (.draw [
          ⟨some 104, .mv (.t 12), [], none⟩,
          ⟨some 105, .mv (.t 3), [], none⟩,
          ⟨some 106, .mv (.t 13), [], none⟩,
          ⟨some 107, .ia 1 (.t 105) (.t 106), [1, 2], none⟩,
          ⟨some 108, .ld 1 false (.t 107), [3], none⟩,
          ⟨some 109, .ld 4 true (.t 14), [], none⟩,
          ⟨some 110, .ia 1 (.t 104) (.t 108), [0, 4, 0, 1, 2, 3, 4], none⟩,
          ⟨none, .st 1 (.t 110) (.c (.val (.bool true))), [6, 0, 1, 2, 3, 4], none⟩,
          ⟨none, .st 4 (.t 10) (.t 109), [5, 7, 0, 1, 2, 3, 4, 5, 6, 7], none⟩])))))
      (.reg [
        ⟨some 76, .mv (.t 13), [], none⟩,
        ⟨some 77, .bin .add (.t 76) (.c (.val (.int .i64 1))), [0], none⟩,
        ⟨some 13, .mv (.t 77), [1, 0, 1], none⟩]))))))
  (.seq (.seq (.reg [
    ⟨some 17, .mv (.c (.val (.int .i64 0))), [], none⟩])
  (.block 4
    (.loop
      (.seq (.seq (.reg [
        ⟨some 111, .mv (.t 17), [], none⟩,
        ⟨some 112, .bin .lss (.t 111) (.c (.val (.int .i64 20))), [0], none⟩])
      (.cond (.t 112)
        .skip
        (.exit 4)))
      (.seq (.block 5
        (.seq (.reg [
          ⟨some 116, .ld 4 true (.t 10), [], none⟩,
          ⟨some 117, .mv (.t 17), [], none⟩,
          ⟨some 118, .call 26 [(.t 116), (.t 117)], [0, 1], none⟩,
          ⟨some 115, .mv (.t 118), [2], none⟩,
          ⟨some 119, .ext (.t 115) 0, [3], none⟩,
          ⟨some 120, .ext (.t 115) 1, [3], none⟩,
          ⟨some 18, .mv (.t 119), [4, 2, 0, 1, 2, 3, 4], none⟩,
          ⟨some 19, .mv (.t 120), [5, 6, 0, 1, 2, 3, 4, 5, 6], none⟩])
        (.seq (.seq (.reg [
          ⟨some 121, .mv (.t 19), [], none⟩,
          ⟨some 122, .bin .neq (.t 121) (.c (.val (.int .i64 0))), [0], none⟩,
          ⟨some 123, .mv (.t 122), [1], none⟩,
          ⟨some 124, .mv (.t 18), [2], some (123, false)⟩,
          ⟨some 125, .mv (.t 12), [2], some (123, false)⟩,
          ⟨some 126, .mv (.t 17), [2], some (123, false)⟩,
          ⟨some 127, .ia 1 (.t 125) (.t 126), [4, 5, 2], some (123, false)⟩,
          ⟨some 128, .ld 1 false (.t 127), [6, 2], some (123, false)⟩,
          ⟨some 129, .eqb true (.t 124) (.t 128), [3, 7, 2], some (123, false)⟩,
          ⟨some 130, .pick (.t 123) (.c (.val (.bool true))) (.t 129), [2, 8], none⟩])
        (.cond (.t 130)
          (.seq (.reg [
            ⟨some 2, .mv (.c (.val (.bool false))), [], none⟩])
          .ret)
          .skip))
        (.seq (.reg [
          ⟨some 131, .mv (.t 18), [], none⟩])
        (.cond (.t 131)
          (.reg [
            ⟨some 132, .mv (.t 11), [], none⟩,
            ⟨some 133, .bin .sub (.t 132) (.c (.val (.int .i64 1))), [0], none⟩,
            ⟨some 11, .mv (.t 133), [1, 0, 1], none⟩])
          .skip)))))
      (.reg [
        ⟨some 113, .mv (.t 17), [], none⟩,
        ⟨some 114, .bin .add (.t 113) (.c (.val (.int .i64 1))), [0], none⟩,
        ⟨some 17, .mv (.t 114), [1, 0, 1], none⟩]))))))
  (.seq (.reg [
    ⟨some 134, .call 11 [], [], none⟩,
    ⟨some 135, .mv (.t 134), [0, 0], none⟩,
    ⟨some 136, .mv (.t 11), [1], some (135, true)⟩,
    ⟨some 137, .bin .eql (.t 136) (.c (.val (.int .i64 0))), [2, 1], some (135, true)⟩,
    ⟨some 138, .pick (.t 135) (.t 137) (.c (.val (.bool false))), [1, 3], none⟩,
    ⟨some 2, .mv (.t 138), [4, 1, 0, 1, 2, 3, 4], none⟩])
  .ret)))))))))))))
theorem Tryp8 : (Try.f8.body.map (prep Try.prog 139)) = some Tryc8 := by kernel_rfl

/- tidegate/tidegatelaw34.SequenceCovers -/
def Tryc9 : ACode :=
  (.seq (.reg [
    ⟨some 2, .mv (.c (.val (.bool false))), [], none⟩])
  (.seq (.seq (.reg [
    ⟨some 19, .mv (.t 0), [], none⟩,
    ⟨some 20, .len (.t 19), [0], none⟩,
    ⟨some 21, .bin .gtr (.t 20) (.c (.val (.int .i64 30))), [1], none⟩])
  (.cond (.t 21)
    (.seq (.reg [
      ⟨some 22, .call 11 [], [], none⟩,
      ⟨some 2, .mv (.t 22), [0, 0, 0], none⟩])
    .ret)
    .skip))
  (.seq (.reg [
    ⟨some 24, .mv (.t 0), [], none⟩,
    ⟨some 25, .call 25 [(.t 24)], [0], none⟩,
    ⟨some 26, .call 24 [(.t 25)], [1, 1], none⟩,
    ⟨some 23, .mv (.t 26), [2], none⟩,
    ⟨some 27, .ext (.t 23) 0, [3], none⟩,
    ⟨some 28, .ext (.t 23) 1, [3], none⟩,
    ⟨some 3, .box (.c (.agg [(.val (.int .i64 0)), (.val (.slice none 0 0)), (.val (.slice none 0 0)), (.val (.int .i64 0))])), [], none⟩,
    ⟨none, .st 4 (.t 3) (.t 27), [6, 4, 2, 0, 1, 2, 3, 4, 6], none⟩,
    ⟨some 4, .mv (.t 28), [5, 7, 0, 1, 2, 3, 4, 5, 6, 7], none⟩])
  (.seq (.reg [
    ⟨some 30, .ld 4 true (.t 3), [], none⟩,
    ⟨some 31, .call 19 [(.t 30)], [0], none⟩,
    ⟨some 29, .mv (.t 31), [1], none⟩,
    ⟨some 32, .ext (.t 29) 0, [2], none⟩,
    ⟨some 33, .ext (.t 29) 1, [2], none⟩,
    ⟨some 5, .mv (.t 32), [3, 1, 0, 1, 2, 3], none⟩,
    ⟨some 6, .mv (.t 33), [4, 5, 0, 1, 2, 3, 4, 5], none⟩])
  (.seq (.seq (.reg [
    ⟨some 34, .mv (.t 4), [], none⟩,
    ⟨some 35, .un .not (.t 34), [0], none⟩,
    ⟨some 36, .mv (.t 35), [1], none⟩,
    ⟨some 37, .mv (.t 6), [2], some (36, false)⟩,
    ⟨some 38, .bin .neq (.t 37) (.c (.val (.int .i64 0))), [3, 2], some (36, false)⟩,
    ⟨some 39, .pick (.t 36) (.c (.val (.bool true))) (.t 38), [2, 4], none⟩,
    ⟨some 40, .mv (.t 39), [5, 2], none⟩,
    ⟨some 41, .mv (.t 5), [6], some (40, false)⟩,
    ⟨some 42, .len (.t 41), [7, 6], some (40, false)⟩,
    ⟨some 43, .bin .gtr (.t 42) (.c (.val (.int .i64 20))), [8, 6], some (40, false)⟩,
    ⟨some 44, .pick (.t 40) (.c (.val (.bool true))) (.t 43), [6, 9], none⟩])
  (.cond (.t 44)
    (.seq (.reg [
      ⟨some 2, .mv (.c (.val (.bool false))), [], none⟩])
    .ret)
    .skip))
  (.seq (.reg [
    ⟨some 45, .fa 0 (.t 3), [], none⟩,
    ⟨some 46, .ld 1 false (.t 45), [0], none⟩,
    ⟨some 7, .mv (.t 46), [1, 0, 1], none⟩])
  (.seq (.seq (.reg [
    ⟨some 47, .fa 1 (.t 3), [], none⟩,
    ⟨some 48, .ld 1 false (.t 47), [0], none⟩,
    ⟨some 49, .len (.t 48), [1], none⟩,
    ⟨some 8, .mv (.t 49), [2, 0, 1, 2], none⟩])
  (.seq (.reg [
    ⟨some 50, .mv (.t 8), [], none⟩,
    ⟨some 51, .bin .gtr (.t 50) (.c (.val (.int .i64 0))), [0], none⟩])
  (.cond (.t 51)
    (.reg [
      ⟨some 52, .fa 1 (.t 3), [], none⟩,
      ⟨some 53, .ld 1 false (.t 52), [0], none⟩,
      ⟨some 54, .mv (.t 8), [], none⟩,
      ⟨some 55, .bin .sub (.t 54) (.c (.val (.int .i64 1))), [2], none⟩,
      ⟨some 56, .ia 1 (.t 53) (.t 55), [1, 3], none⟩,
      ⟨some 57, .ld 1 false (.t 56), [4], none⟩,
      ⟨some 7, .mv (.t 57), [5, 0, 1, 2, 3, 4, 5], none⟩])
    .skip)))
  (.seq (.reg [
    ⟨some 9, .mv (.c (.val (.int .i64 0))), [], none⟩])
  (.seq (.seq (.reg [
    ⟨some 10, .mv (.c (.val (.int .i64 0))), [], none⟩])
  (.block 0
    (.loop
      (.seq (.seq (.reg [
        ⟨some 58, .mv (.t 10), [], none⟩,
        ⟨some 59, .bin .lss (.t 58) (.c (.val (.int .i64 25))), [0], none⟩])
      (.cond (.t 59)
        .skip
        (.exit 0)))
      (.seq (.block 1
        (.seq (.reg [
          ⟨some 11, .mv (.c (.val (.int .i64 0))), [], none⟩])
        (.seq (.seq (.reg [
          ⟨some 12, .mv (.c (.val (.int .i64 0))), [], none⟩])
        (.block 2
          (.loop
            (.seq (.seq (.reg [
              ⟨some 62, .mv (.t 12), [], none⟩,
              ⟨some 63, .mv (.t 5), [], none⟩,
              ⟨some 64, .len (.t 63), [1], none⟩,
              ⟨some 65, .bin .lss (.t 62) (.t 64), [0, 2], none⟩])
            (.cond (.t 65)
              .skip
              (.exit 2)))
            (.seq (.block 3
              (.seq (.seq (.reg [
                ⟨some 68, .mv (.t 5), [], none⟩,
                ⟨some 69, .mv (.t 12), [], none⟩,
                ⟨some 70, .ia 2 (.t 68) (.t 69), [0, 1], none⟩,
                ⟨some 71, .fa 0 (.t 70), [2], none⟩,
                ⟨some 72, .ld 1 false (.t 71), [3], none⟩,
                ⟨some 73, .mv (.t 10), [], none⟩,
                ⟨some 74, .bin .leq (.t 72) (.t 73), [4, 5], none⟩,
                ⟨some 75, .mv (.t 74), [6], none⟩,
                ⟨some 76, .mv (.t 10), [7], some (75, true)⟩,
                ⟨some 77, .mv (.t 5), [7], some (75, true)⟩,
                ⟨some 78, .mv (.t 12), [7], some (75, true)⟩,
                ⟨some 79, .ia 2 (.t 77) (.t 78), [9, 10, 7], some (75, true)⟩,
                ⟨some 80, .fa 1 (.t 79), [11, 7], some (75, true)⟩,
                ⟨some 81, .ld 1 false (.t 80), [12, 7], some (75, true)⟩,
                ⟨some 82, .bin .leq (.t 76) (.t 81), [8, 13, 7], some (75, true)⟩,
                ⟨some 83, .pick (.t 75) (.t 82) (.c (.val (.bool false))), [7, 14], none⟩])
              (.cond (.t 83)
                (.reg [
                  ⟨some 84, .mv (.t 11), [], none⟩,
                  ⟨some 85, .bin .add (.t 84) (.c (.val (.int .i64 1))), [0], none⟩,
                  ⟨some 11, .mv (.t 85), [1, 0, 1], none⟩])
                .skip))
              (.seq (.draw [
                ⟨some 86, .mv (.t 5), [], none⟩,
                ⟨some 87, .mv (.t 12), [], none⟩,
                ⟨some 88, .ia 2 (.t 86) (.t 87), [0, 1], none⟩,
                ⟨some 89, .fa 0 (.t 88), [2], none⟩,
                ⟨some 90, .ld 1 false (.t 89), [3], none⟩,
                ⟨some 91, .mv (.t 5), [], none⟩,
                ⟨some 92, .mv (.t 12), [], none⟩,
                ⟨some 93, .ia 2 (.t 91) (.t 92), [5, 6], none⟩,
                ⟨some 94, .fa 1 (.t 93), [7], none⟩,
                ⟨some 95, .ld 1 false (.t 94), [8], none⟩,
                ⟨some 96, .bin .gtr (.t 90) (.t 95), [4, 9], none⟩,
                ⟨some 97, .mv (.t 96), [10], none⟩,
                ⟨some 98, .mv (.t 12), [11], some (97, false)⟩,
                ⟨some 99, .bin .gtr (.t 98) (.c (.val (.int .i64 0))), [12, 11], some (97, false)⟩,
                ⟨some 100, .mv (.t 99), [13, 11, 11], some (97, false)⟩,
                ⟨some 101, .mv (.t 5), [14], some (100, true)⟩,
                ⟨some 102, .mv (.t 12), [14], some (100, true)⟩,
                ⟨some 103, .ia 2 (.t 101) (.t 102), [15, 16, 14], some (100, true)⟩,
                ⟨some 104, .fa 0 (.t 103), [17, 14], some (100, true)⟩,
                ⟨some 105, .ld 1 false (.t 104), [18, 14], some (100, true)⟩,
                ⟨some 106, .mv (.t 5), [14], some (100, true)⟩,
                ⟨some 107, .mv (.t 12), [14], some (100, true)⟩,
                ⟨some 108, .bin .sub (.t 107) (.c (.val (.int .i64 1))), [21, 14], some (100, true)⟩,
                ⟨some 109, .ia 2 (.t 106) (.t 108), [20, 22, 14], some (100, true)⟩,
                ⟨some 110, .fa 1 (.t 109), [23, 14], some (100, true)⟩,
                ⟨some 111, .ld 1 false (.t 110), [24, 14], some (100, true)⟩,
                ⟨some 112, .bin .add (.t 111) (.c (.val (.int .i64 1))), [25, 14], some (100, true)⟩,
                ⟨some 113, .bin .leq (.t 105) (.t 112), [19, 26, 14], some (100, true)⟩,
                ⟨some 114, .pick (.t 100) (.t 113) (.c (.val (.bool false))), [14, 27, 11], some (97, false)⟩,
                ⟨some 115, .pick (.t 97) (.c (.val (.bool true))) (.t 114), [11, 28], none⟩])
              (.cond (.t 115)
                (.seq (.reg [
                  ⟨some 2, .mv (.c (.val (.bool false))), [], none⟩])
                .ret)
                .skip))))
            (.reg [
              ⟨some 66, .mv (.t 12), [], none⟩,
              ⟨some 67, .bin .add (.t 66) (.c (.val (.int .i64 1))), [0], none⟩,
              ⟨some 12, .mv (.t 67), [1, 0, 1], none⟩]))))))
        (.seq (.reg [
          ⟨some 117, .ld 4 true (.t 3), [], none⟩,
          ⟨some 118, .mv (.t 10), [], none⟩,
          ⟨some 119, .call 26 [(.t 117), (.t 118)], [0, 1], none⟩,
          ⟨some 116, .mv (.t 119), [2], none⟩,
          ⟨some 120, .ext (.t 116) 0, [3], none⟩,
          ⟨some 121, .ext (.t 116) 1, [3], none⟩,
          ⟨some 13, .mv (.t 120), [4, 2, 0, 1, 2, 3, 4], none⟩,
          ⟨some 14, .mv (.t 121), [5, 6, 0, 1, 2, 3, 4, 5, 6], none⟩])
        (.seq (.reg [
          ⟨some 123, .ld 4 true (.t 3), [], none⟩,
          ⟨some 124, .mv (.t 10), [], none⟩,
          ⟨some 125, .call 28 [(.t 123), (.t 124)], [0, 1], none⟩,
          ⟨some 122, .mv (.t 125), [2], none⟩,
          ⟨some 126, .ext (.t 122) 0, [3], none⟩,
          ⟨some 127, .ext (.t 122) 1, [3], none⟩,
          ⟨some 15, .mv (.t 126), [4, 2, 0, 1, 2, 3, 4], none⟩,
          ⟨some 16, .mv (.t 127), [5, 6, 0, 1, 2, 3, 4, 5, 6], none⟩])
        (.seq (.seq (.reg [
          ⟨some 128, .mv (.t 14), [], none⟩,
          ⟨some 129, .bin .neq (.t 128) (.c (.val (.int .i64 0))), [0], none⟩,
          ⟨some 130, .mv (.t 129), [1], none⟩,
          ⟨some 131, .mv (.t 16), [2], some (130, false)⟩,
          ⟨some 132, .bin .neq (.t 131) (.c (.val (.int .i64 0))), [3, 2], some (130, false)⟩,
          ⟨some 133, .pick (.t 130) (.c (.val (.bool true))) (.t 132), [2, 4], none⟩,
          ⟨some 134, .mv (.t 133), [5, 2], none⟩,
          ⟨some 135, .mv (.t 15), [6], some (134, false)⟩,
          ⟨some 136, .mv (.t 9), [6], some (134, false)⟩,
          ⟨some 137, .bin .neq (.t 135) (.t 136), [7, 8, 6], some (134, false)⟩,
          ⟨some 138, .pick (.t 134) (.c (.val (.bool true))) (.t 137), [6, 9], none⟩,
          ⟨some 139, .mv (.t 138), [10, 6], none⟩,
          ⟨some 140, .mv (.t 11), [11], some (139, false)⟩,
          ⟨some 141, .bin .neq (.t 140) (.c (.val (.int .i64 0))), [12, 11], some (139, false)⟩,
          ⟨some 142, .mv (.t 141), [13, 11, 11], some (139, false)⟩,
          ⟨some 143, .mv (.t 13), [14], some (142, true)⟩,
          ⟨some 144, .pick (.t 142) (.t 143) (.c (.val (.bool false))), [14, 15, 11], some (139, false)⟩,
          ⟨some 145, .pick (.t 139) (.c (.val (.bool true))) (.t 144), [11, 16], none⟩,
          ⟨some 146, .mv (.t 145), [17, 14], none⟩,
          ⟨some 147, .mv (.t 11), [18], some (146, false)⟩,
          ⟨some 148, .bin .eql (.t 147) (.c (.val (.int .i64 0))), [19, 18], some (146, false)⟩,
          ⟨some 149, .mv (.t 148), [20, 18, 18], some (146, false)⟩,
          ⟨some 150, .mv (.t 13), [21], some (149, true)⟩,
          ⟨some 151, .un .not (.t 150), [22, 21], some (149, true)⟩,
          ⟨some 152, .pick (.t 149) (.t 151) (.c (.val (.bool false))), [21, 23, 18], some (146, false)⟩,
          ⟨some 153, .mv (.t 152), [24, 21, 18], some (146, false)⟩,
          ⟨some 154, .mv (.t 10), [25], some (153, true)⟩,
          ⟨some 155, .mv (.t 7), [25], some (153, true)⟩,
          ⟨some 156, .bin .lss (.t 154) (.t 155), [26, 27, 25], some (153, true)⟩,
          ⟨some 157, .pick (.t 153) (.t 156) (.c (.val (.bool false))), [25, 28, 18], some (146, false)⟩,
          ⟨some 158, .pick (.t 146) (.c (.val (.bool true))) (.t 157), [18, 29], none⟩,
          ⟨some 159, .mv (.t 158), [30, 25], none⟩,
          ⟨some 160, .mv (.t 11), [31], some (159, false)⟩,
          ⟨some 161, .bin .neq (.t 160) (.c (.val (.int .i64 0))), [32, 31], some (159, false)⟩,
          ⟨some 162, .mv (.t 161), [33, 31, 31], some (159, false)⟩,
          ⟨some 163, .mv (.t 10), [34], some (162, true)⟩,
          ⟨some 164, .mv (.t 7), [34], some (162, true)⟩,
          ⟨some 165, .bin .geq (.t 163) (.t 164), [35, 36, 34], some (162, true)⟩,
          ⟨some 166, .pick (.t 162) (.t 165) (.c (.val (.bool false))), [34, 37, 31], some (159, false)⟩,
          ⟨some 167, .pick (.t 159) (.c (.val (.bool true))) (.t 166), [31, 38], none⟩])
        (.cond (.t 167)
          (.seq (.reg [
            ⟨some 2, .mv (.c (.val (.bool false))), [], none⟩])
          .ret)
          .skip))
        (.seq (.reg [
          ⟨some 168, .mv (.t 13), [], none⟩,
          ⟨some 169, .un .not (.t 168), [0], none⟩])
        (.cond (.t 169)
          (.reg [
            ⟨some 170, .mv (.t 9), [], none⟩,
            ⟨some 171, .bin .add (.t 170) (.c (.val (.int .i64 1))), [0], none⟩,
            ⟨some 9, .mv (.t 171), [1, 0, 1], none⟩])
          .skip))))))))
      (.reg [
        ⟨some 60, .mv (.t 10), [], none⟩,
        ⟨some 61, .bin .add (.t 60) (.c (.val (.int .i64 1))), [0], none⟩,
        ⟨some 10, .mv (.t 61), [1, 0, 1], none⟩]))))))
  (.seq (.reg [
    ⟨some 173, .ld 4 true (.t 3), [], none⟩,
    ⟨some 174, .fa 0 (.t 3), [], none⟩,
    ⟨some 175, .ld 1 false (.t 174), [1], none⟩,
    ⟨some 176, .call 28 [(.t 173), (.t 175)], [0, 2], none⟩,
    ⟨some 172, .mv (.t 176), [3], none⟩,
    ⟨some 177, .ext (.t 172) 0, [4], none⟩,
    ⟨some 178, .ext (.t 172) 1, [4], none⟩,
    ⟨some 17, .mv (.t 177), [5, 3, 0, 1, 2, 3, 4, 5], none⟩,
    ⟨some 18, .mv (.t 178), [6, 7, 0, 1, 2, 3, 4, 5, 6, 7], none⟩])
  (.seq (.reg [
    ⟨some 179, .call 11 [], [], none⟩,
    ⟨some 180, .mv (.t 179), [0, 0], none⟩,
    ⟨some 181, .mv (.t 18), [1], some (180, true)⟩,
    ⟨some 182, .bin .eql (.t 181) (.c (.val (.int .i64 0))), [2, 1], some (180, true)⟩,
    ⟨some 183, .pick (.t 180) (.t 182) (.c (.val (.bool false))), [1, 3], none⟩,
    ⟨some 184, .mv (.t 183), [4, 1], none⟩,
    ⟨some 185, .mv (.t 17), [5], some (184, true)⟩,
    ⟨some 186, .bin .eql (.t 185) (.c (.val (.int .i64 0))), [6, 5], some (184, true)⟩,
    ⟨some 187, .pick (.t 184) (.t 186) (.c (.val (.bool false))), [5, 7], none⟩,
    ⟨some 2, .mv (.t 187), [8, 5, 0, 1, 2, 3, 4, 5, 6, 7, 8], none⟩])
  .ret)))))))))))
theorem Tryp9 : (Try.f9.body.map (prep Try.prog 188)) = some Tryc9 := by kernel_rfl

/- tidegate/tidegateref34.Few -/
def Tryc10 : ACode :=
  (.seq (.reg [
    ⟨some 1, .box (.t 0), [], none⟩,
    ⟨some 2, .mv (.c (.val (.bool false))), [], none⟩])
  (.seq (.reg [
    ⟨some 3, .fa 1 (.t 1), [], none⟩,
    ⟨some 4, .ld 1 false (.t 3), [0], none⟩,
    ⟨some 5, .len (.t 4), [1], none⟩,
    ⟨some 6, .bin .leq (.t 5) (.c (.val (.int .i64 300))), [2], none⟩,
    ⟨some 7, .mv (.t 6), [3], none⟩,
    ⟨some 8, .fa 2 (.t 1), [4], some (7, true)⟩,
    ⟨some 9, .ld 1 false (.t 8), [5, 4], some (7, true)⟩,
    ⟨some 10, .len (.t 9), [6, 4], some (7, true)⟩,
    ⟨some 11, .bin .leq (.t 10) (.c (.val (.int .i64 300))), [7, 4], some (7, true)⟩,
    ⟨some 12, .pick (.t 7) (.t 11) (.c (.val (.bool false))), [4, 8], none⟩,
    ⟨some 2, .mv (.t 12), [9, 4, 0, 1, 2, 3, 4, 5, 6, 7, 8, 9], none⟩])
  .ret))
theorem Tryp10 : (Try.f10.body.map (prep Try.prog 13)) = some Tryc10 := by kernel_rfl

/- tidegate/tidegatelaw34.awake -/
def Tryc11 : ACode :=
  (.seq (.reg [
    ⟨some 0, .mv (.c (.val (.bool false))), [], none⟩])
  (.seq (.reg [
    ⟨some 13, .bslice 1 [(.c (.val (.int .i64 0))), (.c (.val (.int .i64 2))), (.c (.val (.int .i64 5))), (.c (.val (.int .i64 1)))], [], none⟩,
    ⟨some 14, .call 24 [(.t 13)], [0], none⟩,
    ⟨some 12, .mv (.t 14), [1], none⟩,
    ⟨some 15, .ext (.t 12) 0, [2], none⟩,
    ⟨some 16, .ext (.t 12) 1, [2], none⟩,
    ⟨some 1, .box (.c (.agg [(.val (.int .i64 0)), (.val (.slice none 0 0)), (.val (.slice none 0 0)), (.val (.int .i64 0))])), [], none⟩,
    ⟨none, .st 4 (.t 1) (.t 15), [5, 3, 1, 0, 1, 2, 3, 5], none⟩,
    ⟨some 2, .mv (.t 16), [4, 6, 0, 1, 2, 3, 4, 5, 6], none⟩])
  (.seq (.reg [
    ⟨some 18, .ld 4 true (.t 1), [], none⟩,
    ⟨some 19, .call 19 [(.t 18)], [0], none⟩,
    ⟨some 17, .mv (.t 19), [1], none⟩,
    ⟨some 20, .ext (.t 17) 0, [2], none⟩,
    ⟨some 21, .ext (.t 17) 1, [2], none⟩,
    ⟨some 3, .mv (.t 20), [3, 1, 0, 1, 2, 3], none⟩,
    ⟨some 4, .mv (.t 21), [4, 5, 0, 1, 2, 3, 4, 5], none⟩])
  (.seq (.reg [
    ⟨some 23, .ld 4 true (.t 1), [], none⟩,
    ⟨some 24, .call 12 [(.t 23), (.c (.val (.int .i64 2)))], [0], none⟩,
    ⟨some 22, .mv (.t 24), [1], none⟩,
    ⟨some 25, .ext (.t 22) 0, [2], none⟩,
    ⟨some 26, .ext (.t 22) 1, [2], none⟩,
    ⟨some 27, .ext (.t 22) 2, [2], none⟩,
    ⟨some 5, .box (.c (.agg [(.val (.int .i64 0)), (.val (.slice none 0 0)), (.val (.slice none 0 0)), (.val (.int .i64 0))])), [], none⟩,
    ⟨none, .st 4 (.t 5) (.t 25), [6, 3, 1, 0, 1, 2, 3, 6], none⟩,
    ⟨some 6, .mv (.t 26), [4, 7, 0, 1, 2, 3, 4, 6, 7], none⟩,
    ⟨some 7, .mv (.t 27), [5, 8, 0, 1, 2, 3, 4, 5, 6, 7, 8], none⟩])
  (.seq (.reg [
    ⟨some 29, .ld 4 true (.t 1), [], none⟩,
    ⟨some 30, .call 28 [(.t 29), (.c (.val (.int .i64 6)))], [0], none⟩,
    ⟨some 28, .mv (.t 30), [1], none⟩,
    ⟨some 31, .ext (.t 28) 0, [2], none⟩,
    ⟨some 32, .ext (.t 28) 1, [2], none⟩,
    ⟨some 8, .mv (.t 31), [3, 1, 0, 1, 2, 3], none⟩,
    ⟨some 9, .mv (.t 32), [4, 5, 0, 1, 2, 3, 4, 5], none⟩])
  (.seq (.reg [
    ⟨some 34, .bslice 1 [(.c (.val (.int .i64 3))), (.c (.val (.int .i64 4)))], [], none⟩,
    ⟨some 35, .build [(.val (.int .i64 0)), (.val (.slice none 0 0)), (.val (.slice none 0 0)), (.val (.int .i64 0))] [(0, 1, (.c (.val (.int .i64 1)))), (1, 1, (.t 34))], [0], none⟩,
    ⟨some 36, .bslice 1 [(.c (.val (.int .i64 1))), (.c (.val (.int .i64 2)))], [], none⟩,
    ⟨some 37, .build [(.val (.int .i64 0)), (.val (.slice none 0 0)), (.val (.slice none 0 0)), (.val (.int .i64 0))] [(1, 1, (.t 36))], [2], none⟩,
    ⟨some 38, .call 22 [(.t 35), (.t 37)], [1, 3], none⟩,
    ⟨some 33, .mv (.t 38), [4], none⟩,
    ⟨some 39, .ext (.t 33) 0, [5], none⟩,
    ⟨some 40, .ext (.t 33) 1, [5], none⟩,
    ⟨some 10, .box (.c (.agg [(.val (.int .i64 0)), (.val (.slice none 0 0)), (.val (.slice none 0 0)), (.val (.int .i64 0))])), [], none⟩,
    ⟨none, .st 4 (.t 10) (.t 39), [8, 6, 4, 0, 1, 2, 3, 4, 5, 6, 8], none⟩,
    ⟨some 11, .mv (.t 40), [7, 9, 0, 1, 2, 3, 4, 5, 6, 7, 8, 9], none⟩])
  (.seq (.seq (.reg [
    ⟨some 41, .mv (.t 2), [], none⟩,
    ⟨some 42, .un .not (.t 41), [0], none⟩,
    ⟨some 43, .mv (.t 42), [1], none⟩,
    ⟨some 44, .mv (.t 4), [2], some (43, false)⟩,
    ⟨some 45, .bin .neq (.t 44) (.c (.val (.int .i64 0))), [3, 2], some (43, false)⟩,
    ⟨some 46, .pick (.t 43) (.c (.val (.bool true))) (.t 45), [2, 4], none⟩,
    ⟨some 47, .mv (.t 46), [5, 2], none⟩,
    ⟨some 48, .mv (.t 7), [6], some (47, false)⟩,
    ⟨some 49, .bin .neq (.t 48) (.c (.val (.int .i64 0))), [7, 6], some (47, false)⟩,
    ⟨some 50, .pick (.t 47) (.c (.val (.bool true))) (.t 49), [6, 8], none⟩,
    ⟨some 51, .mv (.t 50), [9, 6], none⟩,
    ⟨some 52, .mv (.t 9), [10], some (51, false)⟩,
    ⟨some 53, .bin .neq (.t 52) (.c (.val (.int .i64 0))), [11, 10], some (51, false)⟩,
    ⟨some 54, .pick (.t 51) (.c (.val (.bool true))) (.t 53), [10, 12], none⟩,
    ⟨some 55, .mv (.t 54), [13, 10], none⟩,
    ⟨some 56, .mv (.t 11), [14], some (55, false)⟩,
    ⟨some 57, .bin .neq (.t 56) (.c (.val (.int .i64 0))), [15, 14], some (55, false)⟩,
    ⟨some 58, .pick (.t 55) (.c (.val (.bool true))) (.t 57), [14, 16], none⟩,
    ⟨some 59, .mv (.t 58), [17, 14], none⟩,
    ⟨some 60, .mv (.t 6), [18], some (59, false)⟩,
    ⟨some 61, .pick (.t 59) (.c (.val (.bool true))) (.t 60), [18, 19], none⟩,
    ⟨some 62, .mv (.t 61), [20, 18], none⟩,
    ⟨some 63, .mv (.t 8), [21], some (62, false)⟩,
    ⟨some 64, .bin .neq (.t 63) (.c (.val (.int .i64 2))), [22, 21], some (62, false)⟩,
    ⟨some 65, .pick (.t 62) (.c (.val (.bool true))) (.t 64), [21, 23], none⟩,
    ⟨some 66, .mv (.t 65), [24, 21], none⟩,
    ⟨some 67, .fa 0 (.t 10), [25], some (66, false)⟩,
    ⟨some 68, .ld 1 false (.t 67), [26, 25], some (66, false)⟩,
    ⟨some 69, .bin .neq (.t 68) (.c (.val (.int .i64 5))), [27, 25], some (66, false)⟩,
    ⟨some 70, .pick (.t 66) (.c (.val (.bool true))) (.t 69), [25, 28], none⟩,
    ⟨some 71, .mv (.t 70), [29, 25], none⟩,
    ⟨some 72, .fa 1 (.t 10), [30], some (71, false)⟩,
    ⟨some 73, .ld 1 false (.t 72), [31, 30], some (71, false)⟩,
    ⟨some 74, .len (.t 73), [32, 30], some (71, false)⟩,
    ⟨some 75, .bin .neq (.t 74) (.c (.val (.int .i64 0))), [33, 30], some (71, false)⟩,
    ⟨some 76, .pick (.t 71) (.c (.val (.bool true))) (.t 75), [30, 34], none⟩])
  (.cond (.t 76)
    (.seq (.reg [
      ⟨some 0, .mv (.c (.val (.bool false))), [], none⟩])
    .ret)
    .skip))
  (.seq (.reg [
    ⟨some 77, .fa 0 (.t 1), [], none⟩,
    ⟨some 78, .ld 1 false (.t 77), [0], none⟩,
    ⟨some 79, .bin .eql (.t 78) (.c (.val (.int .i64 3))), [1], none⟩,
    ⟨some 80, .mv (.t 79), [2], none⟩,
    ⟨some 81, .fa 1 (.t 1), [3], some (80, true)⟩,
    ⟨some 82, .ld 1 false (.t 81), [4, 3], some (80, true)⟩,
    ⟨some 83, .bslice 1 [(.c (.val (.int .i64 5)))], [3], some (80, true)⟩,
    ⟨some 84, .call 30 [(.t 82), (.t 83)], [5, 6, 3, 3], some (80, true)⟩,
    ⟨some 85, .pick (.t 80) (.t 84) (.c (.val (.bool false))), [3, 7], none⟩,
    ⟨some 86, .mv (.t 85), [8, 7], none⟩,
    ⟨some 87, .mv (.t 3), [9], some (86, true)⟩,
    ⟨some 88, .build [(.val (.int .i64 0)), (.val (.int .i64 0))] [(0, 1, (.c (.val (.int .i64 3)))), (1, 1, (.c (.val (.int .i64 4))))], [9], some (86, true)⟩,
    ⟨some 89, .bslice 2 [(.t 88)], [11, 9], some (86, true)⟩,
    ⟨some 90, .call 21 [(.t 87), (.t 89)], [10, 12, 9, 9], some (86, true)⟩,
    ⟨some 91, .pick (.t 86) (.t 90) (.c (.val (.bool false))), [9, 13], none⟩,
    ⟨some 92, .mv (.t 91), [14, 13], none⟩,
    ⟨some 93, .ld 4 true (.t 1), [15], some (92, true)⟩,
    ⟨some 94, .ld 4 true (.t 5), [15], some (92, true)⟩,
    ⟨some 95, .call 14 [(.t 93), (.t 94)], [16, 17, 15, 15], some (92, true)⟩,
    ⟨some 96, .pick (.t 92) (.t 95) (.c (.val (.bool false))), [15, 18], none⟩,
    ⟨some 97, .mv (.t 96), [19, 18], none⟩,
    ⟨some 98, .fa 3 (.t 1), [20], some (97, true)⟩,
    ⟨some 99, .ld 1 false (.t 98), [21, 20], some (97, true)⟩,
    ⟨some 100, .bin .eql (.t 99) (.c (.val (.int .i64 (-1)))), [22, 20], some (97, true)⟩,
    ⟨some 101, .pick (.t 97) (.t 100) (.c (.val (.bool false))), [20, 23], none⟩,
    ⟨some 0, .mv (.t 101), [24, 20, 0, 1, 2, 3, 4, 5, 6, 7, 8, 9, 10, 11, 12, 13, 14, 15, 16, 17, 18, 19, 20, 21, 22, 23, 24], none⟩])
  .ret))))))))
theorem Tryp11 : (Try.f11.body.map (prep Try.prog 102)) = some Tryc11 := by kernel_rfl

/- tidegate/sequence.Receive -/
def Tryc12 : ACode :=
  (.seq (.reg [
    ⟨some 2, .box (.t 0), [], none⟩,
    ⟨some 4, .box (.c (.agg [(.val (.int .i64 0)), (.val (.slice none 0 0)), (.val (.slice none 0 0)), (.val (.int .i64 0))])), [], none⟩,
    ⟨some 5, .mv (.c (.val (.bool false))), [], none⟩,
    ⟨some 6, .mv (.c (.val (.int .i64 0))), [2], none⟩])
  (.seq (.seq (.reg [
    ⟨some 9, .ld 4 true (.t 2), [], none⟩,
    ⟨some 10, .call 15 [(.t 9)], [0], none⟩,
    ⟨some 7, .mv (.t 10), [1, 1, 0, 1], none⟩])
  (.seq (.reg [
    ⟨some 11, .mv (.t 7), [], none⟩,
    ⟨some 12, .bin .neq (.t 11) (.c (.val (.int .i64 0))), [0], none⟩])
  (.cond (.t 12)
    (.seq (.reg [
      ⟨some 13, .build [(.val (.int .i64 0)), (.val (.slice none 0 0)), (.val (.slice none 0 0)), (.val (.int .i64 0))] [], [], none⟩,
      ⟨some 14, .mv (.t 7), [], none⟩,
      ⟨none, .st 4 (.t 4) (.t 13), [0, 0], none⟩,
      ⟨some 5, .mv (.c (.val (.bool false))), [2, 0, 2], none⟩,
      ⟨some 6, .mv (.t 14), [1, 3, 0, 1, 2, 3], none⟩])
    .ret)
    .skip)))
  (.seq (.seq (.reg [
    ⟨some 15, .mv (.t 1), [], none⟩,
    ⟨some 16, .bin .lss (.t 15) (.c (.val (.int .i64 0))), [0], none⟩,
    ⟨some 17, .mv (.t 16), [1], none⟩,
    ⟨some 18, .mv (.t 1), [2], some (17, false)⟩,
    ⟨some 19, .bin .gtr (.t 18) (.c (.val (.int .i64 1099511627776))), [3, 2], some (17, false)⟩,
    ⟨some 20, .pick (.t 17) (.c (.val (.bool true))) (.t 19), [2, 4], none⟩])
  (.cond (.t 20)
    (.seq (.reg [
      ⟨some 21, .build [(.val (.int .i64 0)), (.val (.slice none 0 0)), (.val (.slice none 0 0)), (.val (.int .i64 0))] [], [], none⟩,
      ⟨none, .st 4 (.t 4) (.t 21), [0, 0], none⟩,
      ⟨some 5, .mv (.c (.val (.bool false))), [1, 0, 1], none⟩,
      ⟨some 6, .mv (.c (.val (.int .i64 2))), [2, 0, 1, 2], none⟩])
    .ret)
    .skip))
  (.seq (.seq (.reg [
    ⟨some 22, .ld 4 true (.t 2), [], none⟩,
    ⟨some 23, .mv (.t 1), [], none⟩,
    ⟨some 24, .call 31 [(.t 22), (.t 23)], [0, 1], none⟩])
  (.cond (.t 24)
    (.seq (.draw [
      ⟨some 25, .fa 1 (.t 2), [], none⟩,
      ⟨some 26, .ld 1 false (.t 25), [0], none⟩,
      ⟨some 27, .call 32 [(.t 26)], [1], none⟩,
      ⟨some 28, .fa 2 (.t 2), [], none⟩,
      ⟨some 29, .ld 1 false (.t 28), [3], none⟩,
      ⟨some 30, .call 33 [(.t 29)], [4, 2], none⟩,
      ⟨some 31, .fa 1 (.t 2), [0, 1, 2, 3, 4], none⟩,
      ⟨none, .st 1 (.t 31) (.t 27), [6, 2, 5, 0, 1, 2, 3, 4], none⟩,
      ⟨some 32, .fa 2 (.t 2), [0, 1, 2, 3, 4, 5, 6, 7], none⟩,
      ⟨none, .st 1 (.t 32) (.t 30), [8, 5, 7, 0, 1, 2, 3, 4, 5, 6, 7], none⟩])
    (.seq (.reg [
      ⟨some 33, .ld 4 true (.t 2), [], none⟩,
      ⟨none, .st 4 (.t 4) (.t 33), [0, 0], none⟩,
      ⟨some 5, .mv (.c (.val (.bool false))), [1, 0, 1], none⟩,
      ⟨some 6, .mv (.c (.val (.int .i64 0))), [2, 0, 1, 2], none⟩])
    .ret))
    .skip))
  (.seq (.reg [
    ⟨some 34, .ld 4 true (.t 2), [], none⟩,
    ⟨some 35, .mv (.t 1), [], none⟩,
    ⟨some 36, .call 34 [(.t 34), (.t 35)], [0, 1], none⟩,
    ⟨some 8, .box (.c (.agg [(.val (.int .i64 0)), (.val (.slice none 0 0)), (.val (.slice none 0 0)), (.val (.int .i64 0))])), [], none⟩,
    ⟨none, .st 4 (.t 8) (.t 36), [3, 2, 2, 0, 1, 2, 3], none⟩])
  (.seq (.seq (.reg [
    ⟨some 37, .fa 1 (.t 8), [], none⟩,
    ⟨some 38, .ld 1 false (.t 37), [0], none⟩,
    ⟨some 39, .len (.t 38), [1], none⟩,
    ⟨some 40, .bin .gtr (.t 39) (.c (.val (.int .i64 256))), [2], none⟩])
  (.cond (.t 40)
    (.seq (.reg [
      ⟨some 41, .build [(.val (.int .i64 0)), (.val (.slice none 0 0)), (.val (.slice none 0 0)), (.val (.int .i64 0))] [], [], none⟩,
      ⟨none, .st 4 (.t 4) (.t 41), [0, 0], none⟩,
      ⟨some 5, .mv (.c (.val (.bool false))), [1, 0, 1], none⟩,
      ⟨some 6, .mv (.c (.val (.int .i64 5))), [2, 0, 1, 2], none⟩])
    .ret)
    .skip))
  (.seq (.reg [
    ⟨some 42, .ld 4 true (.t 8), [], none⟩,
    ⟨none, .st 4 (.t 4) (.t 42), [0, 0], none⟩,
    ⟨some 5, .mv (.c (.val (.bool true))), [1, 0, 1], none⟩,
    ⟨some 6, .mv (.c (.val (.int .i64 0))), [2, 0, 1, 2], none⟩])
  .ret)))))))
theorem Tryp12 : (Try.f12.body.map (prep Try.prog 43)) = some Tryc12 := by kernel_rfl

/- tidegate/tidegateref34.Receive -/
def Tryc13 : ACode :=
  (.seq (.reg [
    ⟨some 2, .box (.t 0), [], none⟩,
    ⟨some 4, .box (.c (.agg [(.val (.int .i64 0)), (.val (.slice none 0 0)), (.val (.slice none 0 0)), (.val (.int .i64 0))])), [], none⟩,
    ⟨some 5, .mv (.c (.val (.bool false))), [], none⟩,
    ⟨some 6, .mv (.c (.val (.int .i64 0))), [2], none⟩])
  (.seq (.seq (.reg [
    ⟨some 9, .ld 4 true (.t 2), [], none⟩,
    ⟨some 10, .call 16 [(.t 9)], [0], none⟩,
    ⟨some 7, .mv (.t 10), [1, 1, 0, 1], none⟩])
  (.seq (.reg [
    ⟨some 11, .mv (.t 7), [], none⟩,
    ⟨some 12, .bin .neq (.t 11) (.c (.val (.int .i64 0))), [0], none⟩])
  (.cond (.t 12)
    (.seq (.reg [
      ⟨some 13, .build [(.val (.int .i64 0)), (.val (.slice none 0 0)), (.val (.slice none 0 0)), (.val (.int .i64 0))] [], [], none⟩,
      ⟨some 14, .mv (.t 7), [], none⟩,
      ⟨none, .st 4 (.t 4) (.t 13), [0, 0], none⟩,
      ⟨some 5, .mv (.c (.val (.bool false))), [2, 0, 2], none⟩,
      ⟨some 6, .mv (.t 14), [1, 3, 0, 1, 2, 3], none⟩])
    .ret)
    .skip)))
  (.seq (.seq (.reg [
    ⟨some 15, .mv (.t 1), [], none⟩,
    ⟨some 16, .bin .lss (.t 15) (.c (.val (.int .i64 0))), [0], none⟩,
    ⟨some 17, .mv (.t 16), [1], none⟩,
    ⟨some 18, .mv (.t 1), [2], some (17, false)⟩,
    ⟨some 19, .bin .gtr (.t 18) (.c (.val (.int .i64 1099511627776))), [3, 2], some (17, false)⟩,
    ⟨some 20, .pick (.t 17) (.c (.val (.bool true))) (.t 19), [2, 4], none⟩])
  (.cond (.t 20)
    (.seq (.reg [
      ⟨some 21, .build [(.val (.int .i64 0)), (.val (.slice none 0 0)), (.val (.slice none 0 0)), (.val (.int .i64 0))] [], [], none⟩,
      ⟨none, .st 4 (.t 4) (.t 21), [0, 0], none⟩,
      ⟨some 5, .mv (.c (.val (.bool false))), [1, 0, 1], none⟩,
      ⟨some 6, .mv (.c (.val (.int .i64 2))), [2, 0, 1, 2], none⟩])
    .ret)
    .skip))
  (.seq (.seq (.reg [
    ⟨some 22, .ld 4 true (.t 2), [], none⟩,
    ⟨some 23, .mv (.t 1), [], none⟩,
    ⟨some 24, .call 35 [(.t 22), (.t 23)], [0, 1], none⟩])
  (.cond (.t 24)
    (.seq (.reg [
      ⟨some 25, .ld 4 true (.t 2), [], none⟩,
      ⟨none, .st 4 (.t 4) (.t 25), [0, 0], none⟩,
      ⟨some 5, .mv (.c (.val (.bool false))), [1, 0, 1], none⟩,
      ⟨some 6, .mv (.c (.val (.int .i64 0))), [2, 0, 1, 2], none⟩])
    .ret)
    .skip))
  (.seq (.reg [
    ⟨some 26, .ld 4 true (.t 2), [], none⟩,
    ⟨some 27, .mv (.t 1), [], none⟩,
    ⟨some 28, .call 36 [(.t 26), (.t 27)], [0, 1], none⟩,
    ⟨some 8, .box (.c (.agg [(.val (.int .i64 0)), (.val (.slice none 0 0)), (.val (.slice none 0 0)), (.val (.int .i64 0))])), [], none⟩,
    ⟨none, .st 4 (.t 8) (.t 28), [3, 2, 2, 0, 1, 2, 3], none⟩])
  (.seq (.seq (.reg [
    ⟨some 29, .fa 1 (.t 8), [], none⟩,
    ⟨some 30, .ld 1 false (.t 29), [0], none⟩,
    ⟨some 31, .len (.t 30), [1], none⟩,
    ⟨some 32, .bin .gtr (.t 31) (.c (.val (.int .i64 256))), [2], none⟩])
  (.cond (.t 32)
    (.seq (.reg [
      ⟨some 33, .build [(.val (.int .i64 0)), (.val (.slice none 0 0)), (.val (.slice none 0 0)), (.val (.int .i64 0))] [], [], none⟩,
      ⟨none, .st 4 (.t 4) (.t 33), [0, 0], none⟩,
      ⟨some 5, .mv (.c (.val (.bool false))), [1, 0, 1], none⟩,
      ⟨some 6, .mv (.c (.val (.int .i64 5))), [2, 0, 1, 2], none⟩])
    .ret)
    .skip))
  (.seq (.reg [
    ⟨some 34, .ld 4 true (.t 8), [], none⟩,
    ⟨none, .st 4 (.t 4) (.t 34), [0, 0], none⟩,
    ⟨some 5, .mv (.c (.val (.bool true))), [1, 0, 1], none⟩,
    ⟨some 6, .mv (.c (.val (.int .i64 0))), [2, 0, 1, 2], none⟩])
  .ret)))))))
theorem Tryp13 : (Try.f13.body.map (prep Try.prog 35)) = some Tryc13 := by kernel_rfl

/- tidegate/tidegateref34.Same -/
def Tryc14 : ACode :=
  (.seq (.reg [
    ⟨some 2, .box (.t 0), [], none⟩,
    ⟨some 3, .box (.t 1), [], none⟩,
    ⟨some 4, .mv (.c (.val (.bool false))), [], none⟩])
  (.seq (.seq (.reg [
    ⟨some 6, .fa 0 (.t 2), [], none⟩,
    ⟨some 7, .ld 1 false (.t 6), [0], none⟩,
    ⟨some 8, .fa 0 (.t 3), [], none⟩,
    ⟨some 9, .ld 1 false (.t 8), [2], none⟩,
    ⟨some 10, .bin .neq (.t 7) (.t 9), [1, 3], none⟩,
    ⟨some 11, .mv (.t 10), [4], none⟩,
    ⟨some 12, .fa 3 (.t 2), [5], some (11, false)⟩,
    ⟨some 13, .ld 1 false (.t 12), [6, 5], some (11, false)⟩,
    ⟨some 14, .fa 3 (.t 3), [5], some (11, false)⟩,
    ⟨some 15, .ld 1 false (.t 14), [8, 5], some (11, false)⟩,
    ⟨some 16, .bin .neq (.t 13) (.t 15), [7, 9, 5], some (11, false)⟩,
    ⟨some 17, .pick (.t 11) (.c (.val (.bool true))) (.t 16), [5, 10], none⟩,
    ⟨some 18, .mv (.t 17), [11, 5], none⟩,
    ⟨some 19, .fa 2 (.t 2), [12], some (18, false)⟩,
    ⟨some 20, .ld 1 false (.t 19), [13, 12], some (18, false)⟩,
    ⟨some 21, .len (.t 20), [14, 12], some (18, false)⟩,
    ⟨some 22, .fa 2 (.t 3), [12], some (18, false)⟩,
    ⟨some 23, .ld 1 false (.t 22), [16, 12], some (18, false)⟩,
    ⟨some 24, .len (.t 23), [17, 12], some (18, false)⟩,
    ⟨some 25, .bin .neq (.t 21) (.t 24), [15, 18, 12], some (18, false)⟩,
    ⟨some 26, .pick (.t 18) (.c (.val (.bool true))) (.t 25), [12, 19], none⟩,
    ⟨some 27, .mv (.t 26), [20, 12], none⟩,
    ⟨some 28, .fa 1 (.t 2), [21], some (27, false)⟩,
    ⟨some 29, .ld 1 false (.t 28), [22, 21], some (27, false)⟩,
    ⟨some 30, .fa 1 (.t 3), [21], some (27, false)⟩,
    ⟨some 31, .ld 1 false (.t 30), [24, 21], some (27, false)⟩,
    ⟨some 32, .call 30 [(.t 29), (.t 31)], [23, 25, 21, 21], some (27, false)⟩,
    ⟨some 33, .un .not (.t 32), [26, 21], some (27, false)⟩,
    ⟨some 34, .pick (.t 27) (.c (.val (.bool true))) (.t 33), [21, 27], none⟩])
  (.cond (.t 34)
    (.seq (.reg [
      ⟨some 4, .mv (.c (.val (.bool false))), [], none⟩])
    .ret)
    .skip))
  (.seq (.seq (.reg [
    ⟨some 5, .mv (.c (.val (.int .i64 0))), [], none⟩])
  (.block 0
    (.loop
      (.seq (.seq (.reg [
        ⟨some 35, .mv (.t 5), [], none⟩,
        ⟨some 36, .fa 2 (.t 2), [], none⟩,
        ⟨some 37, .ld 1 false (.t 36), [1], none⟩,
        ⟨some 38, .len (.t 37), [2], none⟩,
        ⟨some 39, .bin .lss (.t 35) (.t 38), [0, 3], none⟩])
      (.cond (.t 39)
        .skip
        (.exit 0)))
      (.seq (.block 1
        (.seq (.draw [
          ⟨some 42, .fa 2 (.t 2), [], none⟩,
          ⟨some 43, .ld 1 false (.t 42), [0], none⟩,
          ⟨some 44, .mv (.t 5), [], none⟩,
          ⟨some 45, .ia 2 (.t 43) (.t 44), [1, 2], none⟩,
          ⟨some 46, .ld 2 true (.t 45), [3], none⟩,
          ⟨some 47, .fa 2 (.t 3), [], none⟩,
          ⟨some 48, .ld 1 false (.t 47), [5], none⟩,
          ⟨some 49, .mv (.t 5), [], none⟩,
          ⟨some 50, .ia 2 (.t 48) (.t 49), [6, 7], none⟩,
          ⟨some 51, .ld 2 true (.t 50), [8], none⟩,
          ⟨some 52, .eqst true [.int, .int] (.t 46) (.t 51), [4, 9], none⟩])
        (.cond (.t 52)
          (.seq (.reg [
            ⟨some 4, .mv (.c (.val (.bool false))), [], none⟩])
          .ret)
          .skip)))
      (.reg [
        ⟨some 40, .mv (.t 5), [], none⟩,
        ⟨some 41, .bin .add (.t 40) (.c (.val (.int .i64 1))), [0], none⟩,
        ⟨some 5, .mv (.t 41), [1, 0, 1], none⟩]))))))
  (.seq (.reg [
    ⟨some 4, .mv (.c (.val (.bool true))), [], none⟩])
  .ret))))
theorem Tryp14 : (Try.f14.body.map (prep Try.prog 53)) = some Tryc14 := by kernel_rfl

/- tidegate/sequence.Check -/
def Tryc15 : ACode :=
  (.seq (.reg [
    ⟨some 1, .box (.t 0), [], none⟩,
    ⟨some 2, .mv (.c (.val (.int .i64 0))), [], none⟩])
  (.seq (.block 0
    (.seq (.reg [
      ⟨some 7, .fa 0 (.t 1), [], none⟩,
      ⟨some 8, .ld 1 false (.t 7), [0], none⟩,
      ⟨some 9, .bin .lss (.t 8) (.c (.val (.int .i64 0))), [1], none⟩,
      ⟨some 10, .mv (.t 9), [2], none⟩,
      ⟨some 11, .fa 0 (.t 1), [3], some (10, false)⟩,
      ⟨some 12, .ld 1 false (.t 11), [4, 3], some (10, false)⟩,
      ⟨some 13, .bin .gtr (.t 12) (.c (.val (.int .i64 1099511627777))), [5, 3], some (10, false)⟩,
      ⟨some 14, .pick (.t 10) (.c (.val (.bool true))) (.t 13), [3, 6], none⟩,
      ⟨some 6, .mv (.t 14), [7, 3], none⟩])
    (.cond (.t 6)
      (.seq (.reg [
        ⟨some 2, .mv (.c (.val (.int .i64 2))), [], none⟩])
      .ret)
      (.seq (.reg [
        ⟨some 16, .fa 1 (.t 1), [], none⟩,
        ⟨some 17, .ld 1 false (.t 16), [0], none⟩,
        ⟨some 18, .len (.t 17), [1], none⟩,
        ⟨some 19, .bin .gtr (.t 18) (.c (.val (.int .i64 256))), [2], none⟩,
        ⟨some 15, .mv (.t 19), [3], none⟩])
      (.cond (.t 15)
        (.seq (.reg [
          ⟨some 2, .mv (.c (.val (.int .i64 5))), [], none⟩])
        .ret)
        .skip)))))
  (.seq (.reg [
    ⟨some 20, .fa 0 (.t 1), [], none⟩,
    ⟨some 21, .ld 1 false (.t 20), [0], none⟩,
    ⟨some 3, .mv (.t 21), [1, 0, 1], none⟩])
  (.seq (.seq (.reg [
    ⟨some 22, .fa 1 (.t 1), [], none⟩,
    ⟨some 23, .ld 1 false (.t 22), [0], none⟩,
    ⟨some 24, .len (.t 23), [1], none⟩,
    ⟨some 25, .mv (.c (.val (.int .i64 0))), [], none⟩])
  (.block 1
    (.loop
      (.seq (.reg [
        ⟨some 26, .bin .lss (.t 25) (.t 24), [], none⟩])
      (.seq (.cond (.t 26)
        .skip
        (.exit 1))
      (.seq (.block 2
        (.seq (.reg [
          ⟨some 27, .ia 1 (.t 23) (.t 25), [], none⟩,
          ⟨some 28, .ld 1 false (.t 27), [0], none⟩,
          ⟨some 5, .mv (.t 28), [1, 0, 1], none⟩])
        (.seq (.block 3
          (.seq (.reg [
            ⟨some 30, .mv (.t 5), [], none⟩,
            ⟨some 31, .bin .lss (.t 30) (.c (.val (.int .i64 0))), [0], none⟩,
            ⟨some 32, .mv (.t 31), [1], none⟩,
            ⟨some 33, .mv (.t 5), [2], some (32, false)⟩,
            ⟨some 34, .bin .gtr (.t 33) (.c (.val (.int .i64 1099511627776))), [3, 2], some (32, false)⟩,
            ⟨some 35, .pick (.t 32) (.c (.val (.bool true))) (.t 34), [2, 4], none⟩,
            ⟨some 29, .mv (.t 35), [5, 2], none⟩])
          (.cond (.t 29)
            (.seq (.reg [
              ⟨some 2, .mv (.c (.val (.int .i64 2))), [], none⟩])
            .ret)
            (.seq (.reg [
              ⟨some 37, .mv (.t 5), [], none⟩,
              ⟨some 38, .mv (.t 3), [], none⟩,
              ⟨some 39, .bin .leq (.t 37) (.t 38), [0, 1], none⟩,
              ⟨some 36, .mv (.t 39), [2], none⟩])
            (.cond (.t 36)
              (.seq (.reg [
                ⟨some 2, .mv (.c (.val (.int .i64 14))), [], none⟩])
              .ret)
              .skip)))))
        (.reg [
          ⟨some 40, .mv (.t 5), [], none⟩,
          ⟨some 3, .mv (.t 40), [0, 0], none⟩]))))
      (.reg [
        ⟨some 41, .bin .add (.t 25) (.c (.val (.int .i64 1))), [], none⟩,
        ⟨some 25, .mv (.t 41), [0], none⟩])))))))
  (.seq (.reg [
    ⟨some 2, .mv (.c (.val (.int .i64 0))), [], none⟩])
  .ret)))))
theorem Tryp15 : (Try.f15.body.map (prep Try.prog 42)) = some Tryc15 := by kernel_rfl

/- tidegate/tidegateref34.Check -/
def Tryc16 : ACode :=
  (.seq (.reg [
    ⟨some 1, .box (.t 0), [], none⟩,
    ⟨some 2, .mv (.c (.val (.int .i64 0))), [], none⟩])
  (.seq (.seq (.reg [
    ⟨some 6, .fa 0 (.t 1), [], none⟩,
    ⟨some 7, .ld 1 false (.t 6), [0], none⟩,
    ⟨some 8, .bin .lss (.t 7) (.c (.val (.int .i64 0))), [1], none⟩,
    ⟨some 9, .mv (.t 8), [2], none⟩,
    ⟨some 10, .fa 0 (.t 1), [3], some (9, false)⟩,
    ⟨some 11, .ld 1 false (.t 10), [4, 3], some (9, false)⟩,
    ⟨some 12, .bin .gtr (.t 11) (.c (.val (.int .i64 1099511627777))), [5, 3], some (9, false)⟩,
    ⟨some 13, .pick (.t 9) (.c (.val (.bool true))) (.t 12), [3, 6], none⟩])
  (.cond (.t 13)
    (.seq (.reg [
      ⟨some 2, .mv (.c (.val (.int .i64 2))), [], none⟩])
    .ret)
    .skip))
  (.seq (.seq (.reg [
    ⟨some 14, .fa 1 (.t 1), [], none⟩,
    ⟨some 15, .ld 1 false (.t 14), [0], none⟩,
    ⟨some 16, .len (.t 15), [1], none⟩,
    ⟨some 17, .bin .gtr (.t 16) (.c (.val (.int .i64 256))), [2], none⟩])
  (.cond (.t 17)
    (.seq (.reg [
      ⟨some 2, .mv (.c (.val (.int .i64 5))), [], none⟩])
    .ret)
    .skip))
  (.seq (.reg [
    ⟨some 18, .fa 0 (.t 1), [], none⟩,
    ⟨some 19, .ld 1 false (.t 18), [0], none⟩,
    ⟨some 3, .mv (.t 19), [1, 0, 1], none⟩])
  (.seq (.seq (.reg [
    ⟨some 4, .mv (.c (.val (.int .i64 0))), [], none⟩])
  (.block 0
    (.loop
      (.seq (.seq (.reg [
        ⟨some 20, .mv (.t 4), [], none⟩,
        ⟨some 21, .fa 1 (.t 1), [], none⟩,
        ⟨some 22, .ld 1 false (.t 21), [1], none⟩,
        ⟨some 23, .len (.t 22), [2], none⟩,
        ⟨some 24, .bin .lss (.t 20) (.t 23), [0, 3], none⟩])
      (.cond (.t 24)
        .skip
        (.exit 0)))
      (.seq (.block 1
        (.seq (.reg [
          ⟨some 27, .fa 1 (.t 1), [], none⟩,
          ⟨some 28, .ld 1 false (.t 27), [0], none⟩,
          ⟨some 29, .mv (.t 4), [], none⟩,
          ⟨some 30, .ia 1 (.t 28) (.t 29), [1, 2], none⟩,
          ⟨some 31, .ld 1 false (.t 30), [3], none⟩,
          ⟨some 5, .mv (.t 31), [4, 0, 1, 2, 3, 4], none⟩])
        (.seq (.seq (.reg [
          ⟨some 32, .mv (.t 5), [], none⟩,
          ⟨some 33, .bin .lss (.t 32) (.c (.val (.int .i64 0))), [0], none⟩,
          ⟨some 34, .mv (.t 33), [1], none⟩,
          ⟨some 35, .mv (.t 5), [2], some (34, false)⟩,
          ⟨some 36, .bin .gtr (.t 35) (.c (.val (.int .i64 1099511627776))), [3, 2], some (34, false)⟩,
          ⟨some 37, .pick (.t 34) (.c (.val (.bool true))) (.t 36), [2, 4], none⟩])
        (.cond (.t 37)
          (.seq (.reg [
            ⟨some 2, .mv (.c (.val (.int .i64 2))), [], none⟩])
          .ret)
          .skip))
        (.seq (.seq (.reg [
          ⟨some 38, .mv (.t 5), [], none⟩,
          ⟨some 39, .mv (.t 3), [], none⟩,
          ⟨some 40, .bin .leq (.t 38) (.t 39), [0, 1], none⟩])
        (.cond (.t 40)
          (.seq (.reg [
            ⟨some 2, .mv (.c (.val (.int .i64 14))), [], none⟩])
          .ret)
          .skip))
        (.reg [
          ⟨some 41, .mv (.t 5), [], none⟩,
          ⟨some 3, .mv (.t 41), [0, 0], none⟩])))))
      (.reg [
        ⟨some 25, .mv (.t 4), [], none⟩,
        ⟨some 26, .bin .add (.t 25) (.c (.val (.int .i64 1))), [0], none⟩,
        ⟨some 4, .mv (.t 26), [1, 0, 1], none⟩]))))))
  (.seq (.reg [
    ⟨some 2, .mv (.c (.val (.int .i64 0))), [], none⟩])
  .ret))))))
theorem Tryp16 : (Try.f16.body.map (prep Try.prog 42)) = some Tryc16 := by kernel_rfl

/- tidegate/sequence.Begin -/
def Tryc17 : ACode :=
  (.seq (.reg [
    ⟨some 0, .box (.c (.agg [(.val (.int .i64 0)), (.val (.slice none 0 0)), (.val (.slice none 0 0)), (.val (.int .i64 0))])), [], none⟩])
  (.seq (.reg [
    ⟨some 1, .build [(.val (.int .i64 0)), (.val (.slice none 0 0)), (.val (.slice none 0 0)), (.val (.int .i64 0))] [(3, 1, (.c (.val (.int .i64 (-1)))))], [], none⟩,
    ⟨none, .st 4 (.t 0) (.t 1), [0, 0], none⟩])
  .ret))
theorem Tryp17 : (Try.f17.body.map (prep Try.prog 2)) = some Tryc17 := by kernel_rfl

/- tidegate/tidegateref34.Begin -/
def Tryc18 : ACode :=
  (.seq (.reg [
    ⟨some 0, .box (.c (.agg [(.val (.int .i64 0)), (.val (.slice none 0 0)), (.val (.slice none 0 0)), (.val (.int .i64 0))])), [], none⟩])
  (.seq (.reg [
    ⟨some 1, .build [(.val (.int .i64 0)), (.val (.slice none 0 0)), (.val (.slice none 0 0)), (.val (.int .i64 0))] [(3, 1, (.c (.val (.int .i64 (-1)))))], [], none⟩,
    ⟨none, .st 4 (.t 0) (.t 1), [0, 0], none⟩])
  .ret))
theorem Tryp18 : (Try.f18.body.map (prep Try.prog 2)) = some Tryc18 := by kernel_rfl

/- tidegate/sequence.Gaps -/
def Tryc19 : ACode :=
  (.seq (.reg [
    ⟨some 1, .box (.t 0), [], none⟩,
    ⟨some 2, .mv (.c (.val (.slice none 0 0))), [], none⟩,
    ⟨some 3, .mv (.c (.val (.int .i64 0))), [1], none⟩])
  (.seq (.seq (.reg [
    ⟨some 5, .ld 4 true (.t 1), [], none⟩,
    ⟨some 6, .call 15 [(.t 5)], [0], none⟩,
    ⟨some 4, .mv (.t 6), [1, 1, 0, 1], none⟩])
  (.seq (.reg [
    ⟨some 7, .mv (.t 4), [], none⟩,
    ⟨some 8, .bin .neq (.t 7) (.c (.val (.int .i64 0))), [0], none⟩])
  (.cond (.t 8)
    (.seq (.reg [
      ⟨some 9, .mv (.t 4), [], none⟩,
      ⟨some 2, .mv (.c (.val (.slice none 0 0))), [], none⟩,
      ⟨some 3, .mv (.t 9), [0, 1, 0, 1], none⟩])
    .ret)
    .skip)))
  (.seq (.reg [
    ⟨some 10, .ld 4 true (.t 1), [], none⟩,
    ⟨some 11, .call 38 [(.t 10)], [0], none⟩,
    ⟨some 12, .call 37 [(.t 11)], [1, 1], none⟩,
    ⟨some 2, .mv (.t 12), [2, 2, 0, 1, 2], none⟩,
    ⟨some 3, .mv (.c (.val (.int .i64 0))), [3, 0, 1, 2, 3], none⟩])
  .ret)))
theorem Tryp19 : (Try.f19.body.map (prep Try.prog 13)) = some Tryc19 := by kernel_rfl

/- tidegate/tidegateref34.Gaps -/
def Tryc20 : ACode :=
  (.seq (.reg [
    ⟨some 1, .box (.t 0), [], none⟩,
    ⟨some 2, .mv (.c (.val (.slice none 0 0))), [], none⟩,
    ⟨some 3, .mv (.c (.val (.int .i64 0))), [1], none⟩])
  (.seq (.seq (.reg [
    ⟨some 5, .ld 4 true (.t 1), [], none⟩,
    ⟨some 6, .call 16 [(.t 5)], [0], none⟩,
    ⟨some 4, .mv (.t 6), [1, 1, 0, 1], none⟩])
  (.seq (.reg [
    ⟨some 7, .mv (.t 4), [], none⟩,
    ⟨some 8, .bin .neq (.t 7) (.c (.val (.int .i64 0))), [0], none⟩])
  (.cond (.t 8)
    (.seq (.reg [
      ⟨some 9, .mv (.t 4), [], none⟩,
      ⟨some 2, .mv (.c (.val (.slice none 0 0))), [], none⟩,
      ⟨some 3, .mv (.t 9), [0, 1, 0, 1], none⟩])
    .ret)
    .skip)))
  (.seq (.reg [
    ⟨some 10, .ld 4 true (.t 1), [], none⟩,
    ⟨some 11, .call 39 [(.t 10)], [0], none⟩,
    ⟨some 2, .mv (.t 11), [1, 1, 0, 1], none⟩,
    ⟨some 3, .mv (.c (.val (.int .i64 0))), [2, 0, 1, 2], none⟩])
  .ret)))
theorem Tryp20 : (Try.f20.body.map (prep Try.prog 12)) = some Tryc20 := by kernel_rfl

/- tidegate/tidegateref34.SameGaps -/
def Tryc21 : ACode :=
  (.seq (.reg [
    ⟨some 4, .mv (.c (.val (.bool false))), [], none⟩])
  (.seq (.seq (.reg [
    ⟨some 6, .mv (.t 0), [], none⟩,
    ⟨some 7, .len (.t 6), [0], none⟩,
    ⟨some 8, .mv (.t 1), [], none⟩,
    ⟨some 9, .len (.t 8), [2], none⟩,
    ⟨some 10, .bin .neq (.t 7) (.t 9), [1, 3], none⟩])
  (.cond (.t 10)
    (.seq (.reg [
      ⟨some 4, .mv (.c (.val (.bool false))), [], none⟩])
    .ret)
    .skip))
  (.seq (.seq (.reg [
    ⟨some 5, .mv (.c (.val (.int .i64 0))), [], none⟩])
  (.block 0
    (.loop
      (.seq (.seq (.reg [
        ⟨some 11, .mv (.t 5), [], none⟩,
        ⟨some 12, .mv (.t 0), [], none⟩,
        ⟨some 13, .len (.t 12), [1], none⟩,
        ⟨some 14, .bin .lss (.t 11) (.t 13), [0, 2], none⟩])
      (.cond (.t 14)
        .skip
        (.exit 0)))
      (.seq (.block 1
        (.seq (.draw [
          ⟨some 17, .mv (.t 0), [], none⟩,
          ⟨some 18, .mv (.t 5), [], none⟩,
          ⟨some 19, .ia 2 (.t 17) (.t 18), [0, 1], none⟩,
          ⟨some 20, .ld 2 true (.t 19), [2], none⟩,
          ⟨some 21, .mv (.t 1), [], none⟩,
          ⟨some 22, .mv (.t 5), [], none⟩,
          ⟨some 23, .ia 2 (.t 21) (.t 22), [4, 5], none⟩,
          ⟨some 24, .ld 2 true (.t 23), [6], none⟩,
          ⟨some 25, .eqst true [.int, .int] (.t 20) (.t 24), [3, 7], none⟩])
        (.cond (.t 25)
          (.seq (.reg [
            ⟨some 4, .mv (.c (.val (.bool false))), [], none⟩])
          .ret)
          .skip)))
      (.reg [
        ⟨some 15, .mv (.t 5), [], none⟩,
        ⟨some 16, .bin .add (.t 15) (.c (.val (.int .i64 1))), [0], none⟩,
        ⟨some 5, .mv (.t 16), [1, 0, 1], none⟩]))))))
  (.seq (.reg [
    ⟨some 4, .mv (.c (.val (.bool true))), [], none⟩])
  .ret))))
theorem Tryp21 : (Try.f21.body.map (prep Try.prog 26)) = some Tryc21 := by kernel_rfl

/- tidegate/sequence.Merge -/
def Tryc22 : ACode :=
  (.seq (.reg [
    ⟨some 2, .box (.t 0), [], none⟩,
    ⟨some 3, .box (.t 1), [], none⟩,
    ⟨some 4, .box (.c (.agg [(.val (.int .i64 0)), (.val (.slice none 0 0)), (.val (.slice none 0 0)), (.val (.int .i64 0))])), [], none⟩,
    ⟨some 5, .mv (.c (.val (.int .i64 0))), [], none⟩])
  (.seq (.seq (.reg [
    ⟨some 13, .ld 4 true (.t 2), [], none⟩,
    ⟨some 14, .ld 4 true (.t 3), [], none⟩,
    ⟨some 15, .bslice 4 [(.t 13), (.t 14)], [0, 1], none⟩,
    ⟨some 16, .len (.t 15), [2], none⟩,
    ⟨some 17, .mv (.c (.val (.int .i64 0))), [], none⟩])
  (.block 0
    (.loop
      (.seq (.reg [
        ⟨some 18, .bin .lss (.t 17) (.t 16), [], none⟩])
      (.seq (.cond (.t 18)
        .skip
        (.exit 0))
      (.seq (.block 1
        (.seq (.reg [
          ⟨some 19, .ia 4 (.t 15) (.t 17), [], none⟩,
          ⟨some 20, .ld 4 true (.t 19), [0], none⟩,
          ⟨some 7, .box (.c (.agg [(.val (.int .i64 0)), (.val (.slice none 0 0)), (.val (.slice none 0 0)), (.val (.int .i64 0))])), [], none⟩,
          ⟨none, .st 4 (.t 7) (.t 20), [2, 1, 0, 1, 2], none⟩])
        (.seq (.reg [
          ⟨some 21, .ld 4 true (.t 7), [], none⟩,
          ⟨some 22, .call 15 [(.t 21)], [0], none⟩,
          ⟨some 8, .mv (.t 22), [1, 1, 0, 1], none⟩])
        (.seq (.reg [
          ⟨some 23, .mv (.t 8), [], none⟩,
          ⟨some 24, .bin .neq (.t 23) (.c (.val (.int .i64 0))), [0], none⟩])
        (.cond (.t 24)
          (.seq (.reg [
            ⟨some 25, .build [(.val (.int .i64 0)), (.val (.slice none 0 0)), (.val (.slice none 0 0)), (.val (.int .i64 0))] [], [], none⟩,
            ⟨some 26, .mv (.t 8), [], none⟩,
            ⟨none, .st 4 (.t 4) (.t 25), [0, 0], none⟩,
            ⟨some 5, .mv (.t 26), [1, 2, 0, 1, 2], none⟩])
          .ret)
          .skip)))))
      (.reg [
        ⟨some 27, .bin .add (.t 17) (.c (.val (.int .i64 1))), [], none⟩,
        ⟨some 17, .mv (.t 27), [0], none⟩])))))))
  (.seq (.draw [
    ⟨some 28, .fa 1 (.t 2), [], none⟩,
    ⟨some 29, .ld 1 false (.t 28), [0], none⟩,
    ⟨some 30, .call 32 [(.t 29)], [1], none⟩,
    ⟨some 31, .fa 1 (.t 3), [], none⟩,
    ⟨some 32, .ld 1 false (.t 31), [3], none⟩,
    ⟨some 33, .app 1 8 (.t 30) (.t 32), [2, 4, 2], none⟩,
    ⟨some 9, .mv (.t 33), [5, 5, 0, 1, 2, 3, 4, 5], none⟩])
  (.seq (.reg [
    ⟨some 34, .mv (.t 9), [], none⟩,
    ⟨some 35, .call 40 [(.t 34)], [0], none⟩])
  (.seq (.reg [
    ⟨some 36, .ld 4 true (.t 2), [], none⟩,
    ⟨some 10, .box (.c (.agg [(.val (.int .i64 0)), (.val (.slice none 0 0)), (.val (.slice none 0 0)), (.val (.int .i64 0))])), [], none⟩,
    ⟨none, .st 4 (.t 10) (.t 36), [1, 0, 0, 1], none⟩])
  (.seq (.draw [
    ⟨some 37, .fa 0 (.t 2), [], none⟩,
    ⟨some 38, .ld 1 false (.t 37), [0], none⟩,
    ⟨some 39, .fa 0 (.t 3), [], none⟩,
    ⟨some 40, .ld 1 false (.t 39), [2], none⟩,
    ⟨some 41, .mx [(.t 38), (.t 40)], [1, 3], none⟩,
    ⟨some 42, .fa 2 (.t 2), [], none⟩,
    ⟨some 43, .ld 1 false (.t 42), [5], none⟩,
    ⟨some 44, .call 33 [(.t 43)], [6], none⟩,
    ⟨some 45, .fa 0 (.t 10), [0, 1, 2, 3, 4], none⟩,
    ⟨none, .st 1 (.t 45) (.t 41), [8, 4, 7, 0, 1, 2, 3, 4], none⟩,
    ⟨some 46, .fa 1 (.t 10), [0, 1, 2, 3, 4, 8, 9], none⟩,
    ⟨none, .st 1 (.t 46) (.c (.val (.slice none 0 0))), [10, 9, 0, 1, 2, 3, 4, 8, 9], none⟩,
    ⟨some 47, .fa 2 (.t 10), [0, 1, 2, 3, 4, 5, 6, 7, 8, 9, 10, 11], none⟩,
    ⟨none, .st 1 (.t 47) (.t 44), [12, 7, 11, 0, 1, 2, 3, 4, 5, 6, 7, 8, 9, 10, 11], none⟩])
  (.seq (.seq (.reg [
    ⟨some 48, .mv (.t 9), [], none⟩,
    ⟨some 49, .call 41 [(.t 48)], [0], none⟩,
    ⟨some 50, .len (.t 49), [1], none⟩,
    ⟨some 51, .mv (.c (.val (.int .i64 0))), [], none⟩])
  (.block 2
    (.loop
      (.seq (.reg [
        ⟨some 52, .bin .lss (.t 51) (.t 50), [], none⟩])
      (.seq (.cond (.t 52)
        .skip
        (.exit 2))
      (.seq (.block 3
        (.seq (.reg [
          ⟨some 53, .ia 1 (.t 49) (.t 51), [], none⟩,
          ⟨some 54, .ld 1 false (.t 53), [0], none⟩,
          ⟨some 12, .mv (.t 54), [1, 0, 1], none⟩])
        (.block 4
          (.seq (.reg [
            ⟨some 56, .mv (.t 12), [], none⟩,
            ⟨some 57, .fa 0 (.t 10), [], none⟩,
            ⟨some 58, .ld 1 false (.t 57), [1], none⟩,
            ⟨some 59, .bin .eql (.t 56) (.t 58), [0, 2], none⟩,
            ⟨some 55, .mv (.t 59), [3], none⟩])
          (.cond (.t 55)
            (.reg [
              ⟨some 60, .fa 0 (.t 10), [], none⟩,
              ⟨some 61, .ld 1 false (.t 60), [0], none⟩,
              ⟨some 62, .bin .add (.t 61) (.c (.val (.int .i64 1))), [1], none⟩,
              ⟨some 63, .fa 0 (.t 10), [0, 1, 2], none⟩,
              ⟨none, .st 1 (.t 63) (.t 62), [3, 2, 0, 1, 2], none⟩])
            (.seq (.reg [
              ⟨some 65, .mv (.t 12), [], none⟩,
              ⟨some 66, .fa 0 (.t 10), [], none⟩,
              ⟨some 67, .ld 1 false (.t 66), [1], none⟩,
              ⟨some 68, .bin .gtr (.t 65) (.t 67), [0, 2], none⟩,
              ⟨some 64, .mv (.t 68), [3], none⟩])
            (.cond (.t 64)
              (.reg [
                ⟨some 69, .fa 1 (.t 10), [], none⟩,
                ⟨some 70, .ld 1 false (.t 69), [0], none⟩,
                ⟨some 71, .mv (.t 12), [], none⟩,
                ⟨some 72, .bslice 1 [(.t 71)], [2], none⟩,
                ⟨some 73, .app 1 8 (.t 70) (.t 72), [1, 3], none⟩,
                ⟨some 74, .fa 1 (.t 10), [0, 1, 2, 3, 4], none⟩,
                ⟨none, .st 1 (.t 74) (.t 73), [5, 4, 4, 0, 1, 2, 3, 4], none⟩])
              .skip)))))))
      (.reg [
        ⟨some 75, .bin .add (.t 51) (.c (.val (.int .i64 1))), [], none⟩,
        ⟨some 51, .mv (.t 75), [0], none⟩])))))))
  (.seq (.seq (.reg [
    ⟨some 76, .fa 1 (.t 10), [], none⟩,
    ⟨some 77, .ld 1 false (.t 76), [0], none⟩,
    ⟨some 78, .len (.t 77), [1], none⟩,
    ⟨some 79, .bin .gtr (.t 78) (.c (.val (.int .i64 256))), [2], none⟩])
  (.cond (.t 79)
    (.seq (.reg [
      ⟨some 80, .build [(.val (.int .i64 0)), (.val (.slice none 0 0)), (.val (.slice none 0 0)), (.val (.int .i64 0))] [], [], none⟩,
      ⟨none, .st 4 (.t 4) (.t 80), [0, 0], none⟩,
      ⟨some 5, .mv (.c (.val (.int .i64 5))), [1, 0, 1], none⟩])
    .ret)
    .skip))
  (.seq (.reg [
    ⟨some 81, .ld 4 true (.t 10), [], none⟩,
    ⟨none, .st 4 (.t 4) (.t 81), [0, 0], none⟩,
    ⟨some 5, .mv (.c (.val (.int .i64 0))), [1, 0, 1], none⟩])
  .ret)))))))))
theorem Tryp22 : (Try.f22.body.map (prep Try.prog 82)) = some Tryc22 := by kernel_rfl

/- tidegate/tidegateref34.Merge -/
def Tryc23 : ACode :=
  (.seq (.reg [
    ⟨some 2, .box (.t 0), [], none⟩,
    ⟨some 3, .box (.t 1), [], none⟩,
    ⟨some 4, .box (.c (.agg [(.val (.int .i64 0)), (.val (.slice none 0 0)), (.val (.slice none 0 0)), (.val (.int .i64 0))])), [], none⟩,
    ⟨some 5, .mv (.c (.val (.int .i64 0))), [], none⟩])
  (.seq (.seq (.reg [
    ⟨some 11, .ld 4 true (.t 2), [], none⟩,
    ⟨some 12, .call 16 [(.t 11)], [0], none⟩,
    ⟨some 6, .mv (.t 12), [1, 1, 0, 1], none⟩])
  (.seq (.reg [
    ⟨some 13, .mv (.t 6), [], none⟩,
    ⟨some 14, .bin .neq (.t 13) (.c (.val (.int .i64 0))), [0], none⟩])
  (.cond (.t 14)
    (.seq (.reg [
      ⟨some 15, .build [(.val (.int .i64 0)), (.val (.slice none 0 0)), (.val (.slice none 0 0)), (.val (.int .i64 0))] [], [], none⟩,
      ⟨some 16, .mv (.t 6), [], none⟩,
      ⟨none, .st 4 (.t 4) (.t 15), [0, 0], none⟩,
      ⟨some 5, .mv (.t 16), [1, 2, 0, 1, 2], none⟩])
    .ret)
    .skip)))
  (.seq (.seq (.reg [
    ⟨some 17, .ld 4 true (.t 3), [], none⟩,
    ⟨some 18, .call 16 [(.t 17)], [0], none⟩,
    ⟨some 7, .mv (.t 18), [1, 1, 0, 1], none⟩])
  (.seq (.reg [
    ⟨some 19, .mv (.t 7), [], none⟩,
    ⟨some 20, .bin .neq (.t 19) (.c (.val (.int .i64 0))), [0], none⟩])
  (.cond (.t 20)
    (.seq (.reg [
      ⟨some 21, .build [(.val (.int .i64 0)), (.val (.slice none 0 0)), (.val (.slice none 0 0)), (.val (.int .i64 0))] [], [], none⟩,
      ⟨some 22, .mv (.t 7), [], none⟩,
      ⟨none, .st 4 (.t 4) (.t 21), [0, 0], none⟩,
      ⟨some 5, .mv (.t 22), [1, 2, 0, 1, 2], none⟩])
    .ret)
    .skip)))
  (.seq (.reg [
    ⟨some 23, .ld 4 true (.t 2), [], none⟩,
    ⟨some 8, .box (.c (.agg [(.val (.int .i64 0)), (.val (.slice none 0 0)), (.val (.slice none 0 0)), (.val (.int .i64 0))])), [], none⟩,
    ⟨none, .st 4 (.t 8) (.t 23), [1, 0, 0, 1], none⟩])
  (.seq (.seq (.reg [
    ⟨some 24, .fa 0 (.t 3), [], none⟩,
    ⟨some 25, .ld 1 false (.t 24), [0], none⟩,
    ⟨some 26, .fa 0 (.t 8), [], none⟩,
    ⟨some 27, .ld 1 false (.t 26), [2], none⟩,
    ⟨some 28, .bin .gtr (.t 25) (.t 27), [1, 3], none⟩])
  (.cond (.t 28)
    (.seq (.reg [
      ⟨some 29, .fa 0 (.t 3), [], none⟩,
      ⟨some 30, .ld 1 false (.t 29), [0], none⟩,
      ⟨some 31, .fa 0 (.t 8), [0, 1], none⟩,
      ⟨none, .st 1 (.t 31) (.t 30), [2, 1, 0, 1], none⟩,
      ⟨some 32, .fa 1 (.t 8), [0, 1, 2, 3], none⟩,
      ⟨none, .st 1 (.t 32) (.c (.val (.slice none 0 0))), [4, 3, 0, 1, 2, 3], none⟩])
    (.seq (.seq (.reg [
      ⟨some 9, .mv (.c (.val (.int .i64 0))), [], none⟩])
    (.block 0
      (.loop
        (.seq (.seq (.reg [
          ⟨some 33, .mv (.t 9), [], none⟩,
          ⟨some 34, .fa 1 (.t 2), [], none⟩,
          ⟨some 35, .ld 1 false (.t 34), [1], none⟩,
          ⟨some 36, .len (.t 35), [2], none⟩,
          ⟨some 37, .bin .lss (.t 33) (.t 36), [0, 3], none⟩])
        (.cond (.t 37)
          .skip
          (.exit 0)))
        (.seq (.block 1
          (.seq (.draw [
            ⟨some 40, .fa 1 (.t 2), [], none⟩,
            ⟨some 41, .ld 1 false (.t 40), [0], none⟩,
            ⟨some 42, .mv (.t 9), [], none⟩,
            ⟨some 43, .ia 1 (.t 41) (.t 42), [1, 2], none⟩,
            ⟨some 44, .ld 1 false (.t 43), [3], none⟩,
            ⟨some 45, .fa 0 (.t 3), [], none⟩,
            ⟨some 46, .ld 1 false (.t 45), [5], none⟩,
            ⟨some 47, .bin .geq (.t 44) (.t 46), [4, 6], none⟩])
          (.cond (.t 47)
            (.draw [
              ⟨some 48, .fa 1 (.t 8), [], none⟩,
              ⟨some 49, .ld 1 false (.t 48), [0], none⟩,
              ⟨some 50, .fa 1 (.t 2), [], none⟩,
              ⟨some 51, .ld 1 false (.t 50), [2], none⟩,
              ⟨some 52, .mv (.t 9), [], none⟩,
              ⟨some 53, .ia 1 (.t 51) (.t 52), [3, 4], none⟩,
              ⟨some 54, .ld 1 false (.t 53), [5], none⟩,
              ⟨some 55, .bslice 1 [(.t 54)], [6], none⟩,
              ⟨some 56, .app 1 8 (.t 49) (.t 55), [1, 7], none⟩,
              ⟨some 57, .fa 1 (.t 8), [0, 1, 2, 3, 4, 5, 6, 7, 8], none⟩,
              ⟨none, .st 1 (.t 57) (.t 56), [9, 8, 8, 0, 1, 2, 3, 4, 5, 6, 7, 8], none⟩])
            .skip)))
        (.reg [
          ⟨some 38, .mv (.t 9), [], none⟩,
          ⟨some 39, .bin .add (.t 38) (.c (.val (.int .i64 1))), [0], none⟩,
          ⟨some 9, .mv (.t 39), [1, 0, 1], none⟩]))))))
    (.block 2
      (.loop
        (.seq (.seq (.draw [
          ⟨some 58, .fa 1 (.t 8), [], none⟩,
          ⟨some 59, .ld 1 false (.t 58), [0], none⟩,
          ⟨some 60, .len (.t 59), [1], none⟩,
          ⟨some 61, .bin .gtr (.t 60) (.c (.val (.int .i64 0))), [2], none⟩,
          ⟨some 62, .mv (.t 61), [3], none⟩,
          ⟨some 63, .fa 1 (.t 8), [4], some (62, true)⟩,
          ⟨some 64, .ld 1 false (.t 63), [5, 4], some (62, true)⟩,
          ⟨some 65, .ia 1 (.t 64) (.c (.val (.int .i64 0))), [6, 4], some (62, true)⟩,
          ⟨some 66, .ld 1 false (.t 65), [7, 4], some (62, true)⟩,
          ⟨some 67, .fa 0 (.t 8), [4], some (62, true)⟩,
          ⟨some 68, .ld 1 false (.t 67), [9, 4], some (62, true)⟩,
          ⟨some 69, .bin .eql (.t 66) (.t 68), [8, 10, 4], some (62, true)⟩,
          ⟨some 70, .pick (.t 62) (.t 69) (.c (.val (.bool false))), [4, 11], none⟩])
        (.cond (.t 70)
          .skip
          (.exit 2)))
        (.block 3
          (.draw [
            ⟨some 71, .fa 0 (.t 8), [], none⟩,
            ⟨some 72, .ld 1 false (.t 71), [0], none⟩,
            ⟨some 73, .bin .add (.t 72) (.c (.val (.int .i64 1))), [1], none⟩,
            ⟨some 74, .fa 1 (.t 8), [], none⟩,
            ⟨some 75, .ld 1 false (.t 74), [3], none⟩,
            ⟨some 76, .slc 1 (.t 75) (some (.c (.val (.int .i64 1)))) none, [4], none⟩,
            ⟨some 77, .fa 0 (.t 8), [0, 1, 2, 3, 4], none⟩,
            ⟨none, .st 1 (.t 77) (.t 73), [6, 2, 0, 1, 2, 3, 4], none⟩,
            ⟨some 78, .fa 1 (.t 8), [0, 1, 2, 3, 4, 5, 6, 7], none⟩,
            ⟨none, .st 1 (.t 78) (.t 76), [8, 5, 7, 0, 1, 2, 3, 4, 5, 6, 7], none⟩])))))))
    .skip))
  (.seq (.seq (.reg [
    ⟨some 10, .mv (.c (.val (.int .i64 0))), [], none⟩])
  (.block 4
    (.loop
      (.seq (.seq (.reg [
        ⟨some 79, .mv (.t 10), [], none⟩,
        ⟨some 80, .fa 1 (.t 3), [], none⟩,
        ⟨some 81, .ld 1 false (.t 80), [1], none⟩,
        ⟨some 82, .len (.t 81), [2], none⟩,
        ⟨some 83, .bin .lss (.t 79) (.t 82), [0, 3], none⟩])
      (.cond (.t 83)
        .skip
        (.exit 4)))
      (.seq (.block 5
        (.draw [
          ⟨some 86, .ld 4 true (.t 8), [], none⟩,
          ⟨some 87, .fa 1 (.t 3), [], none⟩,
          ⟨some 88, .ld 1 false (.t 87), [1], none⟩,
          ⟨some 89, .mv (.t 10), [], none⟩,
          ⟨some 90, .ia 1 (.t 88) (.t 89), [2, 3], none⟩,
          ⟨some 91, .ld 1 false (.t 90), [4], none⟩,
          ⟨some 92, .call 36 [(.t 86), (.t 91)], [0, 5], none⟩,
          ⟨none, .st 4 (.t 8) (.t 92), [6, 6, 0, 1, 2, 3, 4, 5, 6], none⟩]))
      (.reg [
        ⟨some 84, .mv (.t 10), [], none⟩,
        ⟨some 85, .bin .add (.t 84) (.c (.val (.int .i64 1))), [0], none⟩,
        ⟨some 10, .mv (.t 85), [1, 0, 1], none⟩]))))))
  (.seq (.seq (.reg [
    ⟨some 93, .fa 1 (.t 8), [], none⟩,
    ⟨some 94, .ld 1 false (.t 93), [0], none⟩,
    ⟨some 95, .len (.t 94), [1], none⟩,
    ⟨some 96, .bin .gtr (.t 95) (.c (.val (.int .i64 256))), [2], none⟩])
  (.cond (.t 96)
    (.seq (.reg [
      ⟨some 97, .build [(.val (.int .i64 0)), (.val (.slice none 0 0)), (.val (.slice none 0 0)), (.val (.int .i64 0))] [], [], none⟩,
      ⟨none, .st 4 (.t 4) (.t 97), [0, 0], none⟩,
      ⟨some 5, .mv (.c (.val (.int .i64 5))), [1, 0, 1], none⟩])
    .ret)
    .skip))
  (.seq (.reg [
    ⟨some 98, .ld 4 true (.t 8), [], none⟩,
    ⟨none, .st 4 (.t 4) (.t 98), [0, 0], none⟩,
    ⟨some 5, .mv (.c (.val (.int .i64 0))), [1, 0, 1], none⟩])
  .ret))))))))
theorem Tryp23 : (Try.f23.body.map (prep Try.prog 99)) = some Tryc23 := by kernel_rfl

/- tidegate/tidegatelaw34.all -/
def Tryc24 : ACode :=
  (.seq (.reg [
    ⟨some 2, .box (.c (.agg [(.val (.int .i64 0)), (.val (.slice none 0 0)), (.val (.slice none 0 0)), (.val (.int .i64 0))])), [], none⟩,
    ⟨some 3, .mv (.c (.val (.bool false))), [], none⟩])
  (.seq (.reg [
    ⟨some 9, .call 17 [], [], none⟩,
    ⟨some 4, .box (.c (.agg [(.val (.int .i64 0)), (.val (.slice none 0 0)), (.val (.slice none 0 0)), (.val (.int .i64 0))])), [], none⟩,
    ⟨none, .st 4 (.t 4) (.t 9), [1, 0, 0, 0, 1], none⟩])
  (.seq (.seq (.reg [
    ⟨some 5, .mv (.c (.val (.int .i64 0))), [], none⟩])
  (.block 0
    (.loop
      (.seq (.seq (.reg [
        ⟨some 10, .mv (.t 5), [], none⟩,
        ⟨some 11, .mv (.t 0), [], none⟩,
        ⟨some 12, .len (.t 11), [1], none⟩,
        ⟨some 13, .bin .lss (.t 10) (.t 12), [0, 2], none⟩])
      (.cond (.t 13)
        .skip
        (.exit 0)))
      (.seq (.block 1
        (.seq (.draw [
          ⟨some 17, .ld 4 true (.t 4), [], none⟩,
          ⟨some 18, .mv (.t 0), [], none⟩,
          ⟨some 19, .mv (.t 5), [], none⟩,
          ⟨some 20, .ia 1 (.t 18) (.t 19), [1, 2], none⟩,
          ⟨some 21, .ld 1 false (.t 20), [3], none⟩,
          ⟨some 22, .call 12 [(.t 17), (.t 21)], [0, 4], none⟩,
          ⟨some 16, .mv (.t 22), [5], none⟩,
          ⟨some 23, .ext (.t 16) 0, [6], none⟩,
          ⟨some 24, .ext (.t 16) 1, [6], none⟩,
          ⟨some 25, .ext (.t 16) 2, [6], none⟩,
          ⟨some 6, .box (.c (.agg [(.val (.int .i64 0)), (.val (.slice none 0 0)), (.val (.slice none 0 0)), (.val (.int .i64 0))])), [], none⟩,
          ⟨none, .st 4 (.t 6) (.t 23), [10, 7, 5, 0, 1, 2, 3, 4, 5, 6, 7, 10], none⟩,
          ⟨some 7, .mv (.t 24), [8, 11, 0, 1, 2, 3, 4, 5, 6, 7, 8, 10, 11], none⟩,
          ⟨some 8, .mv (.t 25), [9, 12, 0, 1, 2, 3, 4, 5, 6, 7, 8, 9, 10, 11, 12], none⟩])
        (.seq (.seq (.reg [
          ⟨some 26, .mv (.t 8), [], none⟩,
          ⟨some 27, .bin .neq (.t 26) (.c (.val (.int .i64 0))), [0], none⟩])
        (.cond (.t 27)
          (.seq (.reg [
            ⟨some 28, .ld 4 true (.t 4), [], none⟩,
            ⟨none, .st 4 (.t 2) (.t 28), [0, 0], none⟩,
            ⟨some 3, .mv (.c (.val (.bool false))), [1, 0, 1], none⟩])
          .ret)
          .skip))
        (.reg [
          ⟨some 29, .ld 4 true (.t 6), [], none⟩,
          ⟨none, .st 4 (.t 4) (.t 29), [0, 0], none⟩]))))
      (.reg [
        ⟨some 14, .mv (.t 5), [], none⟩,
        ⟨some 15, .bin .add (.t 14) (.c (.val (.int .i64 1))), [0], none⟩,
        ⟨some 5, .mv (.t 15), [1, 0, 1], none⟩]))))))
  (.seq (.reg [
    ⟨some 30, .ld 4 true (.t 4), [], none⟩,
    ⟨none, .st 4 (.t 2) (.t 30), [0, 0], none⟩,
    ⟨some 3, .mv (.c (.val (.bool true))), [1, 0, 1], none⟩])
  .ret))))
theorem Tryp24 : (Try.f24.body.map (prep Try.prog 31)) = some Tryc24 := by kernel_rfl

/- tidegate/tidegatelaw34.small -/
def Tryc25 : ACode :=
  (.seq (.reg [
    ⟨some 2, .mv (.c (.val (.slice none 0 0))), [], none⟩])
  (.seq (.reg [
    ⟨some 3, .mv (.c (.val (.slice none 0 0))), [], none⟩])
  (.seq (.seq (.reg [
    ⟨some 4, .mv (.c (.val (.int .i64 0))), [], none⟩])
  (.block 0
    (.loop
      (.seq (.seq (.reg [
        ⟨some 5, .mv (.t 4), [], none⟩,
        ⟨some 6, .mv (.t 0), [], none⟩,
        ⟨some 7, .len (.t 6), [1], none⟩,
        ⟨some 8, .bin .lss (.t 5) (.t 7), [0, 2], none⟩])
      (.cond (.t 8)
        .skip
        (.exit 0)))
      (.seq (.block 1
        (.reg [
          ⟨some 11, .mv (.t 3), [], none⟩,
          ⟨some 12, .mv (.t 0), [], none⟩,
          ⟨some 13, .mv (.t 4), [], none⟩,
          ⟨some 14, .ia 1 (.t 12) (.t 13), [1, 2], none⟩,
          ⟨some 15, .ld 1 false (.t 14), [3], none⟩,
          ⟨some 16, .bin .rem (.t 15) (.c (.val (.int .u8 20))), [4], none⟩,
          ⟨some 17, .cvi .i64 (.t 16), [5], none⟩,
          ⟨some 18, .bslice 1 [(.t 17)], [6], none⟩,
          ⟨some 19, .app 1 8 (.t 11) (.t 18), [0, 7], none⟩,
          ⟨some 3, .mv (.t 19), [8, 8, 0, 1, 2, 3, 4, 5, 6, 7, 8], none⟩]))
      (.reg [
        ⟨some 9, .mv (.t 4), [], none⟩,
        ⟨some 10, .bin .add (.t 9) (.c (.val (.int .i64 1))), [0], none⟩,
        ⟨some 4, .mv (.t 10), [1, 0, 1], none⟩]))))))
  (.seq (.reg [
    ⟨some 20, .mv (.t 3), [], none⟩,
    ⟨some 2, .mv (.t 20), [0, 0], none⟩])
  .ret))))
theorem Tryp25 : (Try.f25.body.map (prep Try.prog 21)) = some Tryc25 := by kernel_rfl

/- tidegate/sequence.Has -/
def Tryc26 : ACode :=
  (.seq (.reg [
    ⟨some 2, .box (.t 0), [], none⟩,
    ⟨some 4, .mv (.c (.val (.bool false))), [], none⟩,
    ⟨some 5, .mv (.c (.val (.int .i64 0))), [1], none⟩])
  (.seq (.seq (.reg [
    ⟨some 7, .ld 4 true (.t 2), [], none⟩,
    ⟨some 8, .call 15 [(.t 7)], [0], none⟩,
    ⟨some 6, .mv (.t 8), [1, 1, 0, 1], none⟩])
  (.seq (.reg [
    ⟨some 9, .mv (.t 6), [], none⟩,
    ⟨some 10, .bin .neq (.t 9) (.c (.val (.int .i64 0))), [0], none⟩])
  (.cond (.t 10)
    (.seq (.reg [
      ⟨some 11, .mv (.t 6), [], none⟩,
      ⟨some 4, .mv (.c (.val (.bool false))), [], none⟩,
      ⟨some 5, .mv (.t 11), [0, 1, 0, 1], none⟩])
    .ret)
    .skip)))
  (.seq (.reg [
    ⟨some 12, .ld 4 true (.t 2), [], none⟩,
    ⟨some 13, .mv (.t 1), [], none⟩,
    ⟨some 14, .call 31 [(.t 12), (.t 13)], [0, 1], none⟩,
    ⟨some 4, .mv (.t 14), [2, 2, 0, 1, 2], none⟩,
    ⟨some 5, .mv (.c (.val (.int .i64 0))), [3, 0, 1, 2, 3], none⟩])
  .ret)))
theorem Tryp26 : (Try.f26.body.map (prep Try.prog 15)) = some Tryc26 := by kernel_rfl

/- tidegate/tidegateref34.Has -/
def Tryc27 : ACode :=
  (.seq (.reg [
    ⟨some 2, .box (.t 0), [], none⟩,
    ⟨some 4, .mv (.c (.val (.bool false))), [], none⟩,
    ⟨some 5, .mv (.c (.val (.int .i64 0))), [1], none⟩])
  (.seq (.seq (.reg [
    ⟨some 7, .ld 4 true (.t 2), [], none⟩,
    ⟨some 8, .call 16 [(.t 7)], [0], none⟩,
    ⟨some 6, .mv (.t 8), [1, 1, 0, 1], none⟩])
  (.seq (.reg [
    ⟨some 9, .mv (.t 6), [], none⟩,
    ⟨some 10, .bin .neq (.t 9) (.c (.val (.int .i64 0))), [0], none⟩])
  (.cond (.t 10)
    (.seq (.reg [
      ⟨some 11, .mv (.t 6), [], none⟩,
      ⟨some 4, .mv (.c (.val (.bool false))), [], none⟩,
      ⟨some 5, .mv (.t 11), [0, 1, 0, 1], none⟩])
    .ret)
    .skip)))
  (.seq (.reg [
    ⟨some 12, .ld 4 true (.t 2), [], none⟩,
    ⟨some 13, .mv (.t 1), [], none⟩,
    ⟨some 14, .call 35 [(.t 12), (.t 13)], [0, 1], none⟩,
    ⟨some 4, .mv (.t 14), [2, 2, 0, 1, 2], none⟩,
    ⟨some 5, .mv (.c (.val (.int .i64 0))), [3, 0, 1, 2, 3], none⟩])
  .ret)))
theorem Tryp27 : (Try.f27.body.map (prep Try.prog 15)) = some Tryc27 := by kernel_rfl

/- tidegate/sequence.Missing -/
def Tryc28 : ACode :=
  (.seq (.reg [
    ⟨some 2, .box (.t 0), [], none⟩,
    ⟨some 4, .mv (.c (.val (.int .i64 0))), [], none⟩,
    ⟨some 5, .mv (.c (.val (.int .i64 0))), [1], none⟩])
  (.seq (.seq (.reg [
    ⟨some 7, .ld 4 true (.t 2), [], none⟩,
    ⟨some 8, .call 15 [(.t 7)], [0], none⟩,
    ⟨some 6, .mv (.t 8), [1, 1, 0, 1], none⟩])
  (.seq (.reg [
    ⟨some 9, .mv (.t 6), [], none⟩,
    ⟨some 10, .bin .neq (.t 9) (.c (.val (.int .i64 0))), [0], none⟩])
  (.cond (.t 10)
    (.seq (.reg [
      ⟨some 11, .mv (.t 6), [], none⟩,
      ⟨some 4, .mv (.c (.val (.int .i64 0))), [], none⟩,
      ⟨some 5, .mv (.t 11), [0, 1, 0, 1], none⟩])
    .ret)
    .skip)))
  (.seq (.seq (.reg [
    ⟨some 12, .mv (.t 1), [], none⟩,
    ⟨some 13, .bin .lss (.t 12) (.c (.val (.int .i64 0))), [0], none⟩,
    ⟨some 14, .mv (.t 13), [1], none⟩,
    ⟨some 15, .mv (.t 1), [2], some (14, false)⟩,
    ⟨some 16, .bin .gtr (.t 15) (.c (.val (.int .i64 1099511627777))), [3, 2], some (14, false)⟩,
    ⟨some 17, .pick (.t 14) (.c (.val (.bool true))) (.t 16), [2, 4], none⟩])
  (.cond (.t 17)
    (.seq (.reg [
      ⟨some 4, .mv (.c (.val (.int .i64 0))), [], none⟩,
      ⟨some 5, .mv (.c (.val (.int .i64 2))), [0, 0], none⟩])
    .ret)
    .skip))
  (.seq (.draw [
    ⟨some 18, .mv (.t 1), [], none⟩,
    ⟨some 19, .fa 0 (.t 2), [], none⟩,
    ⟨some 20, .ld 1 false (.t 19), [1], none⟩,
    ⟨some 21, .bin .sub (.t 18) (.t 20), [0, 2], none⟩,
    ⟨some 22, .fa 1 (.t 2), [], none⟩,
    ⟨some 23, .ld 1 false (.t 22), [4], none⟩,
    ⟨some 24, .mv (.t 1), [], none⟩,
    ⟨some 25, .call 42 [(.t 23), (.t 24)], [5, 6], none⟩,
    ⟨some 26, .bin .sub (.t 21) (.t 25), [3, 7], none⟩,
    ⟨some 27, .mx [(.t 26), (.c (.val (.int .i64 0)))], [8], none⟩,
    ⟨some 4, .mv (.t 27), [9, 7, 0, 1, 2, 3, 4, 5, 6, 7, 8, 9], none⟩,
    ⟨some 5, .mv (.c (.val (.int .i64 0))), [10, 0, 1, 2, 3, 4, 5, 6, 7, 8, 9, 10], none⟩])
  .ret))))
theorem Tryp28 : (Try.f28.body.map (prep Try.prog 28)) = some Tryc28 := by kernel_rfl

/- tidegate/tidegateref34.Missing -/
def Tryc29 : ACode :=
  (.seq (.reg [
    ⟨some 2, .box (.t 0), [], none⟩,
    ⟨some 4, .mv (.c (.val (.int .i64 0))), [], none⟩,
    ⟨some 5, .mv (.c (.val (.int .i64 0))), [1], none⟩])
  (.seq (.seq (.reg [
    ⟨some 9, .ld 4 true (.t 2), [], none⟩,
    ⟨some 10, .call 16 [(.t 9)], [0], none⟩,
    ⟨some 6, .mv (.t 10), [1, 1, 0, 1], none⟩])
  (.seq (.reg [
    ⟨some 11, .mv (.t 6), [], none⟩,
    ⟨some 12, .bin .neq (.t 11) (.c (.val (.int .i64 0))), [0], none⟩])
  (.cond (.t 12)
    (.seq (.reg [
      ⟨some 13, .mv (.t 6), [], none⟩,
      ⟨some 4, .mv (.c (.val (.int .i64 0))), [], none⟩,
      ⟨some 5, .mv (.t 13), [0, 1, 0, 1], none⟩])
    .ret)
    .skip)))
  (.seq (.seq (.reg [
    ⟨some 14, .mv (.t 1), [], none⟩,
    ⟨some 15, .bin .lss (.t 14) (.c (.val (.int .i64 0))), [0], none⟩,
    ⟨some 16, .mv (.t 15), [1], none⟩,
    ⟨some 17, .mv (.t 1), [2], some (16, false)⟩,
    ⟨some 18, .bin .gtr (.t 17) (.c (.val (.int .i64 1099511627777))), [3, 2], some (16, false)⟩,
    ⟨some 19, .pick (.t 16) (.c (.val (.bool true))) (.t 18), [2, 4], none⟩])
  (.cond (.t 19)
    (.seq (.reg [
      ⟨some 4, .mv (.c (.val (.int .i64 0))), [], none⟩,
      ⟨some 5, .mv (.c (.val (.int .i64 2))), [0, 0], none⟩])
    .ret)
    .skip))
  (.seq (.reg [
    ⟨some 20, .mv (.t 1), [], none⟩,
    ⟨some 21, .fa 0 (.t 2), [], none⟩,
    ⟨some 22, .ld 1 false (.t 21), [1], none⟩,
    ⟨some 23, .bin .sub (.t 20) (.t 22), [0, 2], none⟩,
    ⟨some 24, .mx [(.c (.val (.int .i64 0))), (.t 23)], [3], none⟩,
    ⟨some 7, .mv (.t 24), [4, 0, 1, 2, 3, 4], none⟩])
  (.seq (.seq (.reg [
    ⟨some 8, .mv (.c (.val (.int .i64 0))), [], none⟩])
  (.block 0
    (.loop
      (.seq (.seq (.reg [
        ⟨some 25, .mv (.t 8), [], none⟩,
        ⟨some 26, .fa 1 (.t 2), [], none⟩,
        ⟨some 27, .ld 1 false (.t 26), [1], none⟩,
        ⟨some 28, .len (.t 27), [2], none⟩,
        ⟨some 29, .bin .lss (.t 25) (.t 28), [0, 3], none⟩])
      (.cond (.t 29)
        .skip
        (.exit 0)))
      (.seq (.block 1
        (.seq (.reg [
          ⟨some 32, .fa 1 (.t 2), [], none⟩,
          ⟨some 33, .ld 1 false (.t 32), [0], none⟩,
          ⟨some 34, .mv (.t 8), [], none⟩,
          ⟨some 35, .ia 1 (.t 33) (.t 34), [1, 2], none⟩,
          ⟨some 36, .ld 1 false (.t 35), [3], none⟩,
          ⟨some 37, .mv (.t 1), [], none⟩,
          ⟨some 38, .bin .lss (.t 36) (.t 37), [4, 5], none⟩])
        (.cond (.t 38)
          (.reg [
            ⟨some 39, .mv (.t 7), [], none⟩,
            ⟨some 40, .bin .sub (.t 39) (.c (.val (.int .i64 1))), [0], none⟩,
            ⟨some 7, .mv (.t 40), [1, 0, 1], none⟩])
          .skip)))
      (.reg [
        ⟨some 30, .mv (.t 8), [], none⟩,
        ⟨some 31, .bin .add (.t 30) (.c (.val (.int .i64 1))), [0], none⟩,
        ⟨some 8, .mv (.t 31), [1, 0, 1], none⟩]))))))
  (.seq (.reg [
    ⟨some 41, .mv (.t 7), [], none⟩,
    ⟨some 4, .mv (.t 41), [0, 0], none⟩,
    ⟨some 5, .mv (.c (.val (.int .i64 0))), [1, 0, 1], none⟩])
  .ret))))))
theorem Tryp29 : (Try.f29.body.map (prep Try.prog 42)) = some Tryc29 := by kernel_rfl

/- tidegate/tidegateref34.SameInts -/
def Tryc30 : ACode :=
  (.seq (.reg [
    ⟨some 4, .mv (.c (.val (.bool false))), [], none⟩])
  (.seq (.seq (.reg [
    ⟨some 6, .mv (.t 0), [], none⟩,
    ⟨some 7, .len (.t 6), [0], none⟩,
    ⟨some 8, .mv (.t 1), [], none⟩,
    ⟨some 9, .len (.t 8), [2], none⟩,
    ⟨some 10, .bin .neq (.t 7) (.t 9), [1, 3], none⟩])
  (.cond (.t 10)
    (.seq (.reg [
      ⟨some 4, .mv (.c (.val (.bool false))), [], none⟩])
    .ret)
    .skip))
  (.seq (.seq (.reg [
    ⟨some 5, .mv (.c (.val (.int .i64 0))), [], none⟩])
  (.block 0
    (.loop
      (.seq (.seq (.reg [
        ⟨some 11, .mv (.t 5), [], none⟩,
        ⟨some 12, .mv (.t 0), [], none⟩,
        ⟨some 13, .len (.t 12), [1], none⟩,
        ⟨some 14, .bin .lss (.t 11) (.t 13), [0, 2], none⟩])
      (.cond (.t 14)
        .skip
        (.exit 0)))
      (.seq (.block 1
        (.seq (.draw [
          ⟨some 17, .mv (.t 0), [], none⟩,
          ⟨some 18, .mv (.t 5), [], none⟩,
          ⟨some 19, .ia 1 (.t 17) (.t 18), [0, 1], none⟩,
          ⟨some 20, .ld 1 false (.t 19), [2], none⟩,
          ⟨some 21, .mv (.t 1), [], none⟩,
          ⟨some 22, .mv (.t 5), [], none⟩,
          ⟨some 23, .ia 1 (.t 21) (.t 22), [4, 5], none⟩,
          ⟨some 24, .ld 1 false (.t 23), [6], none⟩,
          ⟨some 25, .bin .neq (.t 20) (.t 24), [3, 7], none⟩])
        (.cond (.t 25)
          (.seq (.reg [
            ⟨some 4, .mv (.c (.val (.bool false))), [], none⟩])
          .ret)
          .skip)))
      (.reg [
        ⟨some 15, .mv (.t 5), [], none⟩,
        ⟨some 16, .bin .add (.t 15) (.c (.val (.int .i64 1))), [0], none⟩,
        ⟨some 5, .mv (.t 16), [1, 0, 1], none⟩]))))))
  (.seq (.reg [
    ⟨some 4, .mv (.c (.val (.bool true))), [], none⟩])
  .ret))))
theorem Tryp30 : (Try.f30.body.map (prep Try.prog 26)) = some Tryc30 := by kernel_rfl

/- tidegate/sequence.has -/
def Tryc31 : ACode :=
  (.seq (.reg [
    ⟨some 2, .box (.t 0), [], none⟩,
    ⟨some 4, .mv (.c (.val (.bool false))), [], none⟩])
  (.seq (.seq (.reg [
    ⟨some 6, .mv (.t 1), [], none⟩,
    ⟨some 7, .fa 0 (.t 2), [], none⟩,
    ⟨some 8, .ld 1 false (.t 7), [1], none⟩,
    ⟨some 9, .bin .lss (.t 6) (.t 8), [0, 2], none⟩])
  (.cond (.t 9)
    (.seq (.reg [
      ⟨some 10, .mv (.t 1), [], none⟩,
      ⟨some 11, .bin .geq (.t 10) (.c (.val (.int .i64 0))), [0], none⟩,
      ⟨some 4, .mv (.t 11), [1, 0, 1], none⟩])
    .ret)
    .skip))
  (.seq (.reg [
    ⟨some 12, .fa 1 (.t 2), [], none⟩,
    ⟨some 13, .ld 1 false (.t 12), [0], none⟩,
    ⟨some 14, .mv (.t 1), [], none⟩,
    ⟨some 15, .call 42 [(.t 13), (.t 14)], [1, 2], none⟩,
    ⟨some 5, .mv (.t 15), [3, 3, 0, 1, 2, 3], none⟩])
  (.seq (.reg [
    ⟨some 16, .mv (.t 5), [], none⟩,
    ⟨some 17, .fa 1 (.t 2), [], none⟩,
    ⟨some 18, .ld 1 false (.t 17), [1], none⟩,
    ⟨some 19, .len (.t 18), [2], none⟩,
    ⟨some 20, .bin .lss (.t 16) (.t 19), [0, 3], none⟩,
    ⟨some 21, .mv (.t 20), [4], none⟩,
    ⟨some 22, .fa 1 (.t 2), [5], some (21, true)⟩,
    ⟨some 23, .ld 1 false (.t 22), [6, 5], some (21, true)⟩,
    ⟨some 24, .mv (.t 5), [5], some (21, true)⟩,
    ⟨some 25, .ia 1 (.t 23) (.t 24), [7, 8, 5], some (21, true)⟩,
    ⟨some 26, .ld 1 false (.t 25), [9, 5], some (21, true)⟩,
    ⟨some 27, .mv (.t 1), [5], some (21, true)⟩,
    ⟨some 28, .bin .eql (.t 26) (.t 27), [10, 11, 5], some (21, true)⟩,
    ⟨some 29, .pick (.t 21) (.t 28) (.c (.val (.bool false))), [5, 12], none⟩,
    ⟨some 4, .mv (.t 29), [13, 5, 0, 1, 2, 3, 4, 5, 6, 7, 8, 9, 10, 11, 12, 13], none⟩])
  .ret))))
theorem Tryp31 : (Try.f31.body.map (prep Try.prog 30)) = some Tryc31 := by kernel_rfl

/- slices.Clone[[]int,int] -/
def Tryc32 : ACode :=
  (.seq (.reg [
    ⟨some 2, .mv (.c (.val (.slice none 0 0))), [], none⟩])
  (.seq (.seq (.reg [
    ⟨some 3, .mv (.t 0), [], none⟩,
    ⟨some 4, .eqnil false (.t 3) (.c (.val (.slice none 0 0))), [0], none⟩])
  (.cond (.t 4)
    (.seq (.reg [
      ⟨some 2, .mv (.c (.val (.slice none 0 0))), [], none⟩])
    .ret)
    .skip))
  (.seq (.reg [
    ⟨some 5, .bslice 1 [], [], none⟩,
    ⟨some 6, .mv (.t 0), [], none⟩,
    ⟨some 7, .app 1 8 (.t 5) (.t 6), [0, 1], none⟩,
    ⟨some 2, .mv (.t 7), [2, 2, 0, 1, 2], none⟩])
  .ret)))
theorem Tryp32 : (Try.f32.body.map (prep Try.prog 8)) = some Tryc32 := by kernel_rfl

/- slices.Clone[[]tidegate/api.Point,tidegate/api.Point] -/
def Tryc33 : ACode :=
  (.seq (.reg [
    ⟨some 2, .mv (.c (.val (.slice none 0 0))), [], none⟩])
  (.seq (.seq (.reg [
    ⟨some 3, .mv (.t 0), [], none⟩,
    ⟨some 4, .eqnil false (.t 3) (.c (.val (.slice none 0 0))), [0], none⟩])
  (.cond (.t 4)
    (.seq (.reg [
      ⟨some 2, .mv (.c (.val (.slice none 0 0))), [], none⟩])
    .ret)
    .skip))
  (.seq (.reg [
    ⟨some 5, .bslice 2 [], [], none⟩,
    ⟨some 6, .mv (.t 0), [], none⟩,
    ⟨some 7, .app 2 16 (.t 5) (.t 6), [0, 1], none⟩,
    ⟨some 2, .mv (.t 7), [2, 2, 0, 1, 2], none⟩])
  .ret)))
theorem Tryp33 : (Try.f33.body.map (prep Try.prog 8)) = some Tryc33 := by kernel_rfl

/- tidegate/sequence.with -/
def Tryc34 : ACode :=
  (.seq (.reg [
    ⟨some 2, .box (.t 0), [], none⟩,
    ⟨some 4, .box (.c (.agg [(.val (.int .i64 0)), (.val (.slice none 0 0)), (.val (.slice none 0 0)), (.val (.int .i64 0))])), [], none⟩])
  (.seq (.draw [
    ⟨some 5, .fa 1 (.t 2), [], none⟩,
    ⟨some 6, .ld 1 false (.t 5), [0], none⟩,
    ⟨some 7, .call 32 [(.t 6)], [1], none⟩,
    ⟨some 8, .fa 2 (.t 2), [], none⟩,
    ⟨some 9, .ld 1 false (.t 8), [3], none⟩,
    ⟨some 10, .call 33 [(.t 9)], [4, 2], none⟩,
    ⟨some 11, .fa 1 (.t 2), [0, 1, 2, 3, 4], none⟩,
    ⟨none, .st 1 (.t 11) (.t 7), [6, 2, 5, 0, 1, 2, 3, 4], none⟩,
    ⟨some 12, .fa 2 (.t 2), [0, 1, 2, 3, 4, 5, 6, 7], none⟩,
    ⟨none, .st 1 (.t 12) (.t 10), [8, 5, 7, 0, 1, 2, 3, 4, 5, 6, 7], none⟩])
  (.seq (.seq (.reg [
    ⟨some 13, .mv (.t 1), [], none⟩,
    ⟨some 14, .fa 0 (.t 2), [], none⟩,
    ⟨some 15, .ld 1 false (.t 14), [1], none⟩,
    ⟨some 16, .bin .gtr (.t 13) (.t 15), [0, 2], none⟩])
  (.cond (.t 16)
    (.seq (.draw [
      ⟨some 17, .fa 1 (.t 2), [], none⟩,
      ⟨some 18, .ld 1 false (.t 17), [0], none⟩,
      ⟨some 19, .fa 1 (.t 2), [], none⟩,
      ⟨some 20, .ld 1 false (.t 19), [2], none⟩,
      ⟨some 21, .mv (.t 1), [], none⟩,
      ⟨some 22, .call 42 [(.t 20), (.t 21)], [3, 4], none⟩,
      ⟨some 23, .mv (.t 1), [], none⟩,
      ⟨some 24, .bslice 1 [(.t 23)], [6], none⟩,
      ⟨some 25, .call 43 [(.t 18), (.t 22), (.t 24)], [1, 5, 7, 5], none⟩,
      ⟨some 26, .fa 1 (.t 2), [0, 1, 2, 3, 4, 5, 6, 7, 8], none⟩,
      ⟨none, .st 1 (.t 26) (.t 25), [9, 8, 8, 0, 1, 2, 3, 4, 5, 6, 7, 8], none⟩])
    (.seq (.reg [
      ⟨some 27, .ld 4 true (.t 2), [], none⟩,
      ⟨none, .st 4 (.t 4) (.t 27), [0, 0], none⟩])
    .ret))
    .skip))
  (.seq (.reg [
    ⟨some 28, .fa 0 (.t 2), [], none⟩,
    ⟨some 29, .ld 1 false (.t 28), [0], none⟩,
    ⟨some 30, .bin .add (.t 29) (.c (.val (.int .i64 1))), [1], none⟩,
    ⟨some 31, .fa 0 (.t 2), [0, 1, 2], none⟩,
    ⟨none, .st 1 (.t 31) (.t 30), [3, 2, 0, 1, 2], none⟩])
  (.seq (.block 0
    (.loop
      (.seq (.seq (.draw [
        ⟨some 32, .fa 1 (.t 2), [], none⟩,
        ⟨some 33, .ld 1 false (.t 32), [0], none⟩,
        ⟨some 34, .len (.t 33), [1], none⟩,
        ⟨some 35, .bin .gtr (.t 34) (.c (.val (.int .i64 0))), [2], none⟩,
        ⟨some 36, .mv (.t 35), [3], none⟩,
        ⟨some 37, .fa 1 (.t 2), [4], some (36, true)⟩,
        ⟨some 38, .ld 1 false (.t 37), [5, 4], some (36, true)⟩,
        ⟨some 39, .ia 1 (.t 38) (.c (.val (.int .i64 0))), [6, 4], some (36, true)⟩,
        ⟨some 40, .ld 1 false (.t 39), [7, 4], some (36, true)⟩,
        ⟨some 41, .fa 0 (.t 2), [4], some (36, true)⟩,
        ⟨some 42, .ld 1 false (.t 41), [9, 4], some (36, true)⟩,
        ⟨some 43, .bin .eql (.t 40) (.t 42), [8, 10, 4], some (36, true)⟩,
        ⟨some 44, .pick (.t 36) (.t 43) (.c (.val (.bool false))), [4, 11], none⟩])
      (.cond (.t 44)
        .skip
        (.exit 0)))
      (.block 1
        (.draw [
          ⟨some 45, .fa 0 (.t 2), [], none⟩,
          ⟨some 46, .ld 1 false (.t 45), [0], none⟩,
          ⟨some 47, .bin .add (.t 46) (.c (.val (.int .i64 1))), [1], none⟩,
          ⟨some 48, .fa 1 (.t 2), [], none⟩,
          ⟨some 49, .ld 1 false (.t 48), [3], none⟩,
          ⟨some 50, .slc 1 (.t 49) (some (.c (.val (.int .i64 1)))) none, [4], none⟩,
          ⟨some 51, .fa 0 (.t 2), [0, 1, 2, 3, 4], none⟩,
          ⟨none, .st 1 (.t 51) (.t 47), [6, 2, 0, 1, 2, 3, 4], none⟩,
          ⟨some 52, .fa 1 (.t 2), [0, 1, 2, 3, 4, 5, 6, 7], none⟩,
          ⟨none, .st 1 (.t 52) (.t 50), [8, 5, 7, 0, 1, 2, 3, 4, 5, 6, 7], none⟩])))))
  (.seq (.reg [
    ⟨some 53, .ld 4 true (.t 2), [], none⟩,
    ⟨none, .st 4 (.t 4) (.t 53), [0, 0], none⟩])
  .ret))))))
theorem Tryp34 : (Try.f34.body.map (prep Try.prog 54)) = some Tryc34 := by kernel_rfl

/- tidegate/tidegateref34.Contains -/
def Tryc35 : ACode :=
  (.seq (.reg [
    ⟨some 2, .box (.t 0), [], none⟩,
    ⟨some 4, .mv (.c (.val (.bool false))), [], none⟩])
  (.seq (.seq (.reg [
    ⟨some 6, .mv (.t 1), [], none⟩,
    ⟨some 7, .fa 0 (.t 2), [], none⟩,
    ⟨some 8, .ld 1 false (.t 7), [1], none⟩,
    ⟨some 9, .bin .lss (.t 6) (.t 8), [0, 2], none⟩])
  (.cond (.t 9)
    (.seq (.reg [
      ⟨some 10, .mv (.t 1), [], none⟩,
      ⟨some 11, .bin .geq (.t 10) (.c (.val (.int .i64 0))), [0], none⟩,
      ⟨some 4, .mv (.t 11), [1, 0, 1], none⟩])
    .ret)
    .skip))
  (.seq (.seq (.reg [
    ⟨some 5, .mv (.c (.val (.int .i64 0))), [], none⟩])
  (.block 0
    (.loop
      (.seq (.seq (.reg [
        ⟨some 12, .mv (.t 5), [], none⟩,
        ⟨some 13, .fa 1 (.t 2), [], none⟩,
        ⟨some 14, .ld 1 false (.t 13), [1], none⟩,
        ⟨some 15, .len (.t 14), [2], none⟩,
        ⟨some 16, .bin .lss (.t 12) (.t 15), [0, 3], none⟩])
      (.cond (.t 16)
        .skip
        (.exit 0)))
      (.seq (.block 1
        (.seq (.reg [
          ⟨some 19, .fa 1 (.t 2), [], none⟩,
          ⟨some 20, .ld 1 false (.t 19), [0], none⟩,
          ⟨some 21, .mv (.t 5), [], none⟩,
          ⟨some 22, .ia 1 (.t 20) (.t 21), [1, 2], none⟩,
          ⟨some 23, .ld 1 false (.t 22), [3], none⟩,
          ⟨some 24, .mv (.t 1), [], none⟩,
          ⟨some 25, .bin .eql (.t 23) (.t 24), [4, 5], none⟩])
        (.cond (.t 25)
          (.seq (.reg [
            ⟨some 4, .mv (.c (.val (.bool true))), [], none⟩])
          .ret)
          .skip)))
      (.reg [
        ⟨some 17, .mv (.t 5), [], none⟩,
        ⟨some 18, .bin .add (.t 17) (.c (.val (.int .i64 1))), [0], none⟩,
        ⟨some 5, .mv (.t 18), [1, 0, 1], none⟩]))))))
  (.seq (.reg [
    ⟨some 4, .mv (.c (.val (.bool false))), [], none⟩])
  .ret))))
theorem Tryp35 : (Try.f35.body.map (prep Try.prog 26)) = some Tryc35 := by kernel_rfl

/- tidegate/tidegateref34.With -/
def Tryc36 : ACode :=
  (.seq (.reg [
    ⟨some 2, .box (.t 0), [], none⟩,
    ⟨some 4, .box (.c (.agg [(.val (.int .i64 0)), (.val (.slice none 0 0)), (.val (.slice none 0 0)), (.val (.int .i64 0))])), [], none⟩])
  (.seq (.seq (.reg [
    ⟨some 9, .ld 4 true (.t 2), [], none⟩,
    ⟨some 10, .mv (.t 1), [], none⟩,
    ⟨some 11, .call 35 [(.t 9), (.t 10)], [0, 1], none⟩])
  (.cond (.t 11)
    (.seq (.reg [
      ⟨some 12, .ld 4 true (.t 2), [], none⟩,
      ⟨none, .st 4 (.t 4) (.t 12), [0, 0], none⟩])
    .ret)
    .skip))
  (.seq (.reg [
    ⟨some 5, .mv (.c (.val (.slice none 0 0))), [], none⟩])
  (.seq (.reg [
    ⟨some 6, .mv (.c (.val (.bool false))), [], none⟩])
  (.seq (.seq (.reg [
    ⟨some 7, .mv (.c (.val (.int .i64 0))), [], none⟩])
  (.block 0
    (.loop
      (.seq (.seq (.reg [
        ⟨some 13, .mv (.t 7), [], none⟩,
        ⟨some 14, .fa 1 (.t 2), [], none⟩,
        ⟨some 15, .ld 1 false (.t 14), [1], none⟩,
        ⟨some 16, .len (.t 15), [2], none⟩,
        ⟨some 17, .bin .lss (.t 13) (.t 16), [0, 3], none⟩])
      (.cond (.t 17)
        .skip
        (.exit 0)))
      (.seq (.block 1
        (.seq (.seq (.reg [
          ⟨some 20, .mv (.t 6), [], none⟩,
          ⟨some 21, .un .not (.t 20), [0], none⟩,
          ⟨some 22, .mv (.t 21), [1], none⟩,
          ⟨some 23, .mv (.t 1), [2], some (22, true)⟩,
          ⟨some 24, .fa 1 (.t 2), [2], some (22, true)⟩,
          ⟨some 25, .ld 1 false (.t 24), [4, 2], some (22, true)⟩,
          ⟨some 26, .mv (.t 7), [2], some (22, true)⟩,
          ⟨some 27, .ia 1 (.t 25) (.t 26), [5, 6, 2], some (22, true)⟩,
          ⟨some 28, .ld 1 false (.t 27), [7, 2], some (22, true)⟩,
          ⟨some 29, .bin .lss (.t 23) (.t 28), [3, 8, 2], some (22, true)⟩,
          ⟨some 30, .pick (.t 22) (.t 29) (.c (.val (.bool false))), [2, 9], none⟩])
        (.cond (.t 30)
          (.reg [
            ⟨some 31, .mv (.t 5), [], none⟩,
            ⟨some 32, .mv (.t 1), [], none⟩,
            ⟨some 33, .bslice 1 [(.t 32)], [1], none⟩,
            ⟨some 34, .app 1 8 (.t 31) (.t 33), [0, 2], none⟩,
            ⟨some 5, .mv (.t 34), [3, 3, 0, 1, 2, 3], none⟩,
            ⟨some 6, .mv (.c (.val (.bool true))), [4, 0, 1, 2, 3, 4], none⟩])
          .skip))
        (.reg [
          ⟨some 35, .mv (.t 5), [], none⟩,
          ⟨some 36, .fa 1 (.t 2), [], none⟩,
          ⟨some 37, .ld 1 false (.t 36), [1], none⟩,
          ⟨some 38, .mv (.t 7), [], none⟩,
          ⟨some 39, .ia 1 (.t 37) (.t 38), [2, 3], none⟩,
          ⟨some 40, .ld 1 false (.t 39), [4], none⟩,
          ⟨some 41, .bslice 1 [(.t 40)], [5], none⟩,
          ⟨some 42, .app 1 8 (.t 35) (.t 41), [0, 6], none⟩,
          ⟨some 5, .mv (.t 42), [7, 7, 0, 1, 2, 3, 4, 5, 6, 7], none⟩])))
      (.reg [
        ⟨some 18, .mv (.t 7), [], none⟩,
        ⟨some 19, .bin .add (.t 18) (.c (.val (.int .i64 1))), [0], none⟩,
        ⟨some 7, .mv (.t 19), [1, 0, 1], none⟩]))))))
  (.seq (.seq (.reg [
    ⟨some 43, .mv (.t 6), [], none⟩,
    ⟨some 44, .un .not (.t 43), [0], none⟩])
  (.cond (.t 44)
    (.reg [
      ⟨some 45, .mv (.t 5), [], none⟩,
      ⟨some 46, .mv (.t 1), [], none⟩,
      ⟨some 47, .bslice 1 [(.t 46)], [1], none⟩,
      ⟨some 48, .app 1 8 (.t 45) (.t 47), [0, 2], none⟩,
      ⟨some 5, .mv (.t 48), [3, 3, 0, 1, 2, 3], none⟩])
    .skip))
  (.seq (.reg [
    ⟨some 49, .ld 4 true (.t 2), [], none⟩,
    ⟨some 8, .box (.c (.agg [(.val (.int .i64 0)), (.val (.slice none 0 0)), (.val (.slice none 0 0)), (.val (.int .i64 0))])), [], none⟩,
    ⟨none, .st 4 (.t 8) (.t 49), [1, 0, 0, 1], none⟩])
  (.seq (.block 2
    (.loop
      (.seq (.seq (.draw [
        ⟨some 50, .mv (.t 5), [], none⟩,
        ⟨some 51, .len (.t 50), [0], none⟩,
        ⟨some 52, .bin .gtr (.t 51) (.c (.val (.int .i64 0))), [1], none⟩,
        ⟨some 53, .mv (.t 52), [2], none⟩,
        ⟨some 54, .mv (.t 5), [3], some (53, true)⟩,
        ⟨some 55, .ia 1 (.t 54) (.c (.val (.int .i64 0))), [4, 3], some (53, true)⟩,
        ⟨some 56, .ld 1 false (.t 55), [5, 3], some (53, true)⟩,
        ⟨some 57, .fa 0 (.t 8), [3], some (53, true)⟩,
        ⟨some 58, .ld 1 false (.t 57), [7, 3], some (53, true)⟩,
        ⟨some 59, .bin .eql (.t 56) (.t 58), [6, 8, 3], some (53, true)⟩,
        ⟨some 60, .pick (.t 53) (.t 59) (.c (.val (.bool false))), [3, 9], none⟩])
      (.cond (.t 60)
        .skip
        (.exit 2)))
      (.block 3
        (.seq (.reg [
          ⟨some 61, .fa 0 (.t 8), [], none⟩,
          ⟨some 62, .ld 1 false (.t 61), [0], none⟩,
          ⟨some 63, .bin .add (.t 62) (.c (.val (.int .i64 1))), [1], none⟩,
          ⟨some 64, .fa 0 (.t 8), [0, 1, 2], none⟩,
          ⟨none, .st 1 (.t 64) (.t 63), [3, 2, 0, 1, 2], none⟩])
        (.reg [
          ⟨some 65, .mv (.t 5), [], none⟩,
          ⟨some 66, .slc 1 (.t 65) (some (.c (.val (.int .i64 1)))) none, [0], none⟩,
          ⟨some 5, .mv (.t 66), [1, 0, 1], none⟩]))))))
  (.seq (.reg [
    ⟨some 67, .mv (.t 5), [], none⟩,
    ⟨some 68, .fa 1 (.t 8), [0], none⟩,
    ⟨none, .st 1 (.t 68) (.t 67), [1, 0, 0], none⟩])
  (.seq (.reg [
    ⟨some 69, .ld 4 true (.t 8), [], none⟩,
    ⟨none, .st 4 (.t 4) (.t 69), [0, 0], none⟩])
  .ret))))))))))
theorem Tryp36 : (Try.f36.body.map (prep Try.prog 70)) = some Tryc36 := by kernel_rfl

/- slices.Collect[tidegate/api.Interval] -/
def Tryc37 : ACode :=
  (.seq (.reg [
    ⟨some 2, .mv (.c (.val (.slice none 0 0))), [], none⟩])
  (.seq (.reg [
    ⟨some 3, .mv (.t 0), [], none⟩,
    ⟨some 4, .call 44 [(.c (.val (.slice none 0 0))), (.t 3)], [0], none⟩,
    ⟨some 2, .mv (.t 4), [1, 1, 0, 1], none⟩])
  .ret))
theorem Tryp37 : (Try.f37.body.map (prep Try.prog 5)) = some Tryc37 := by kernel_rfl

/- tidegate/sequence.gaps -/
def Tryc38 : ACode :=
  (.seq (.reg [
    ⟨some 1, .box (.t 0), [], none⟩,
    ⟨some 2, .mv (.c (.val .nilFunc)), [], none⟩])
  (.seq (.reg [
    ⟨some 3, .mkfn 45 [(.t 1)], [], none⟩,
    ⟨some 2, .mv (.t 3), [0, 0], none⟩])
  .ret))
theorem Tryp38 : (Try.f38.body.map (prep Try.prog 4)) = some Tryc38 := by kernel_rfl

/- tidegate/tidegateref34.Holes -/
def Tryc39 : ACode :=
  (.seq (.reg [
    ⟨some 1, .box (.t 0), [], none⟩,
    ⟨some 2, .mv (.c (.val (.slice none 0 0))), [], none⟩])
  (.seq (.reg [
    ⟨some 3, .mv (.c (.val (.slice none 0 0))), [], none⟩])
  (.seq (.reg [
    ⟨some 6, .fa 0 (.t 1), [], none⟩,
    ⟨some 7, .ld 1 false (.t 6), [0], none⟩,
    ⟨some 4, .mv (.t 7), [1, 0, 1], none⟩])
  (.seq (.seq (.reg [
    ⟨some 5, .mv (.c (.val (.int .i64 0))), [], none⟩])
  (.block 0
    (.loop
      (.seq (.seq (.reg [
        ⟨some 8, .mv (.t 5), [], none⟩,
        ⟨some 9, .fa 1 (.t 1), [], none⟩,
        ⟨some 10, .ld 1 false (.t 9), [1], none⟩,
        ⟨some 11, .len (.t 10), [2], none⟩,
        ⟨some 12, .bin .lss (.t 8) (.t 11), [0, 3], none⟩])
      (.cond (.t 12)
        .skip
        (.exit 0)))
      (.seq (.block 1
        (.seq (.seq (.reg [
          ⟨some 15, .fa 1 (.t 1), [], none⟩,
          ⟨some 16, .ld 1 false (.t 15), [0], none⟩,
          ⟨some 17, .mv (.t 5), [], none⟩,
          ⟨some 18, .ia 1 (.t 16) (.t 17), [1, 2], none⟩,
          ⟨some 19, .ld 1 false (.t 18), [3], none⟩,
          ⟨some 20, .mv (.t 4), [], none⟩,
          ⟨some 21, .bin .gtr (.t 19) (.t 20), [4, 5], none⟩])
        (.cond (.t 21)
          (.reg [
            ⟨some 22, .mv (.t 3), [], none⟩,
            ⟨some 23, .mv (.t 4), [], none⟩,
            ⟨some 24, .fa 1 (.t 1), [], none⟩,
            ⟨some 25, .ld 1 false (.t 24), [2], none⟩,
            ⟨some 26, .mv (.t 5), [], none⟩,
            ⟨some 27, .ia 1 (.t 25) (.t 26), [3, 4], none⟩,
            ⟨some 28, .ld 1 false (.t 27), [5], none⟩,
            ⟨some 29, .bin .sub (.t 28) (.c (.val (.int .i64 1))), [6], none⟩,
            ⟨some 30, .build [(.val (.int .i64 0)), (.val (.int .i64 0))] [(0, 1, (.t 23)), (1, 1, (.t 29))], [1, 7], none⟩,
            ⟨some 31, .bslice 2 [(.t 30)], [8], none⟩,
            ⟨some 32, .app 2 16 (.t 22) (.t 31), [0, 9], none⟩,
            ⟨some 3, .mv (.t 32), [10, 10, 0, 1, 2, 3, 4, 5, 6, 7, 8, 9, 10], none⟩])
          .skip))
        (.reg [
          ⟨some 33, .fa 1 (.t 1), [], none⟩,
          ⟨some 34, .ld 1 false (.t 33), [0], none⟩,
          ⟨some 35, .mv (.t 5), [], none⟩,
          ⟨some 36, .ia 1 (.t 34) (.t 35), [1, 2], none⟩,
          ⟨some 37, .ld 1 false (.t 36), [3], none⟩,
          ⟨some 38, .bin .add (.t 37) (.c (.val (.int .i64 1))), [4], none⟩,
          ⟨some 4, .mv (.t 38), [5, 0, 1, 2, 3, 4, 5], none⟩])))
      (.reg [
        ⟨some 13, .mv (.t 5), [], none⟩,
        ⟨some 14, .bin .add (.t 13) (.c (.val (.int .i64 1))), [0], none⟩,
        ⟨some 5, .mv (.t 14), [1, 0, 1], none⟩]))))))
  (.seq (.reg [
    ⟨some 39, .mv (.t 3), [], none⟩,
    ⟨some 2, .mv (.t 39), [0, 0], none⟩])
  .ret)))))
theorem Tryp39 : (Try.f39.body.map (prep Try.prog 40)) = some Tryc39 := by kernel_rfl

/- slices.Sort[[]int,int] -/
def Tryc40 : ACode :=
  (.seq (.reg [
    ⟨some 3, .mv (.t 0), [], none⟩,
    ⟨some 4, .len (.t 3), [0], none⟩,
    ⟨some 2, .mv (.t 4), [1, 0, 1], none⟩])
  (.reg [
    ⟨some 5, .mv (.t 0), [], none⟩,
    ⟨some 6, .mv (.t 2), [], none⟩,
    ⟨some 7, .mv (.t 2), [], none⟩,
    ⟨some 8, .cvi .u64 (.t 7), [2], none⟩,
    ⟨some 9, .call 47 [(.t 8)], [3], none⟩,
    ⟨some 10, .call 46 [(.t 5), (.c (.val (.int .i64 0))), (.t 6), (.t 9)], [0, 1, 4, 4], none⟩]))
theorem Tryp40 : (Try.f40.body.map (prep Try.prog 11)) = some Tryc40 := by kernel_rfl

/- slices.Compact[[]int,int] -/
def Tryc41 : ACode :=
  (.seq (.reg [
    ⟨some 2, .mv (.c (.val (.slice none 0 0))), [], none⟩])
  (.seq (.seq (.reg [
    ⟨some 6, .mv (.t 0), [], none⟩,
    ⟨some 7, .len (.t 6), [0], none⟩,
    ⟨some 8, .bin .lss (.t 7) (.c (.val (.int .i64 2))), [1], none⟩])
  (.cond (.t 8)
    (.seq (.reg [
      ⟨some 9, .mv (.t 0), [], none⟩,
      ⟨some 2, .mv (.t 9), [0, 0], none⟩])
    .ret)
    .skip))
  (.seq (.seq (.reg [
    ⟨some 3, .mv (.c (.val (.int .i64 1))), [], none⟩])
  (.block 0
    (.loop
      (.seq (.seq (.reg [
        ⟨some 10, .mv (.t 3), [], none⟩,
        ⟨some 11, .mv (.t 0), [], none⟩,
        ⟨some 12, .len (.t 11), [1], none⟩,
        ⟨some 13, .bin .lss (.t 10) (.t 12), [0, 2], none⟩])
      (.cond (.t 13)
        .skip
        (.exit 0)))
      (.seq (.block 1
        (.seq (.draw [
          ⟨some 16, .mv (.t 0), [], none⟩,
          ⟨some 17, .mv (.t 3), [], none⟩,
          ⟨some 18, .ia 1 (.t 16) (.t 17), [0, 1], none⟩,
          ⟨some 19, .ld 1 false (.t 18), [2], none⟩,
          ⟨some 20, .mv (.t 0), [], none⟩,
          ⟨some 21, .mv (.t 3), [], none⟩,
          ⟨some 22, .bin .sub (.t 21) (.c (.val (.int .i64 1))), [5], none⟩,
          ⟨some 23, .ia 1 (.t 20) (.t 22), [4, 6], none⟩,
          ⟨some 24, .ld 1 false (.t 23), [7], none⟩,
          ⟨some 25, .bin .eql (.t 19) (.t 24), [3, 8], none⟩])
        (.cond (.t 25)
          (.seq (.reg [
            ⟨some 26, .mv (.t 0), [], none⟩,
            ⟨some 27, .mv (.t 3), [], none⟩,
            ⟨some 28, .slc 1 (.t 26) (some (.t 27)) none, [0, 1], none⟩,
            ⟨some 4, .mv (.t 28), [2, 0, 1, 2], none⟩])
          (.seq (.seq (.reg [
            ⟨some 5, .mv (.c (.val (.int .i64 1))), [], none⟩])
          (.block 2
            (.loop
              (.seq (.seq (.reg [
                ⟨some 29, .mv (.t 5), [], none⟩,
                ⟨some 30, .mv (.t 4), [], none⟩,
                ⟨some 31, .len (.t 30), [1], none⟩,
                ⟨some 32, .bin .lss (.t 29) (.t 31), [0, 2], none⟩])
              (.cond (.t 32)
                .skip
                (.exit 2)))
              (.seq (.block 3
                (.seq (.draw [
                  ⟨some 35, .mv (.t 4), [], none⟩,
                  ⟨some 36, .mv (.t 5), [], none⟩,
                  ⟨some 37, .ia 1 (.t 35) (.t 36), [0, 1], none⟩,
                  ⟨some 38, .ld 1 false (.t 37), [2], none⟩,
                  ⟨some 39, .mv (.t 4), [], none⟩,
                  ⟨some 40, .mv (.t 5), [], none⟩,
                  ⟨some 41, .bin .sub (.t 40) (.c (.val (.int .i64 1))), [5], none⟩,
                  ⟨some 42, .ia 1 (.t 39) (.t 41), [4, 6], none⟩,
                  ⟨some 43, .ld 1 false (.t 42), [7], none⟩,
                  ⟨some 44, .bin .neq (.t 38) (.t 43), [3, 8], none⟩])
                (.cond (.t 44)
                  (.seq (.reg [
                    ⟨some 45, .mv (.t 0), [], none⟩,
                    ⟨some 46, .mv (.t 3), [], none⟩,
                    ⟨some 47, .mv (.t 4), [], none⟩,
                    ⟨some 48, .mv (.t 5), [], none⟩,
                    ⟨some 49, .ia 1 (.t 47) (.t 48), [2, 3], none⟩,
                    ⟨some 50, .ld 1 false (.t 49), [4], none⟩,
                    ⟨some 51, .ia 1 (.t 45) (.t 46), [0, 1, 0, 1, 2, 3, 4, 5], none⟩,
                    ⟨none, .st 1 (.t 51) (.t 50), [6, 5, 0, 1, 2, 3, 4, 5], none⟩])
                  (.reg [
                    ⟨some 52, .mv (.t 3), [], none⟩,
                    ⟨some 53, .bin .add (.t 52) (.c (.val (.int .i64 1))), [0], none⟩,
                    ⟨some 3, .mv (.t 53), [1, 0, 1], none⟩]))
                  .skip)))
              (.reg [
                ⟨some 33, .mv (.t 5), [], none⟩,
                ⟨some 34, .bin .add (.t 33) (.c (.val (.int .i64 1))), [0], none⟩,
                ⟨some 5, .mv (.t 34), [1, 0, 1], none⟩]))))))
          (.seq (.reg [
            ⟨some 54, .mv (.t 0), [], none⟩,
            ⟨some 55, .mv (.t 3), [], none⟩,
            ⟨some 56, .slc 1 (.t 54) (some (.t 55)) none, [0, 1], none⟩,
            ⟨none, .bad, [2], none⟩])
          (.seq (.reg [
            ⟨some 57, .mv (.t 0), [], none⟩,
            ⟨some 58, .mv (.t 3), [], none⟩,
            ⟨some 59, .slc 1 (.t 57) none (some (.t 58)), [0, 1], none⟩,
            ⟨some 2, .mv (.t 59), [2, 0, 1, 2], none⟩])
          .ret))))
          .skip)))
      (.reg [
        ⟨some 14, .mv (.t 3), [], none⟩,
        ⟨some 15, .bin .add (.t 14) (.c (.val (.int .i64 1))), [0], none⟩,
        ⟨some 3, .mv (.t 15), [1, 0, 1], none⟩]))))))
  (.seq (.reg [
    ⟨some 60, .mv (.t 0), [], none⟩,
    ⟨some 2, .mv (.t 60), [0, 0], none⟩])
  .ret))))
theorem Tryp41 : (Try.f41.body.map (prep Try.prog 61)) = some Tryc41 := by kernel_rfl

/- tidegate/sequence.place -/
def Tryc42 : ACode :=
  (.seq (.reg [
    ⟨some 2, .box (.t 0), [], none⟩,
    ⟨some 3, .box (.t 1), [], none⟩,
    ⟨some 4, .mv (.c (.val (.int .i64 0))), [], none⟩])
  (.seq (.reg [
    ⟨some 5, .ld 1 false (.t 2), [], none⟩,
    ⟨some 6, .len (.t 5), [0], none⟩,
    ⟨some 7, .mkfn 49 [(.t 2), (.t 3)], [], none⟩,
    ⟨some 8, .call 48 [(.t 6), (.t 7)], [1, 2], none⟩,
    ⟨some 4, .mv (.t 8), [3, 3, 0, 1, 2, 3], none⟩])
  .ret))
theorem Tryp42 : (Try.f42.body.map (prep Try.prog 9)) = some Tryc42 := by kernel_rfl

/- slices.Insert[[]int,int] -/
def Tryc43 : ACode :=
  (.seq (.reg [
    ⟨some 6, .mv (.c (.val (.slice none 0 0))), [], none⟩])
  (.seq (.reg [
    ⟨some 10, .mv (.t 0), [], none⟩,
    ⟨some 11, .mv (.t 1), [], none⟩,
    ⟨some 12, .slc 1 (.t 10) (some (.t 11)) none, [0, 1], none⟩])
  (.seq (.reg [
    ⟨some 13, .mv (.t 2), [], none⟩,
    ⟨some 14, .len (.t 13), [0], none⟩,
    ⟨some 7, .mv (.t 14), [1, 0, 1], none⟩])
  (.seq (.seq (.reg [
    ⟨some 15, .mv (.t 7), [], none⟩,
    ⟨some 16, .bin .eql (.t 15) (.c (.val (.int .i64 0))), [0], none⟩])
  (.cond (.t 16)
    (.seq (.reg [
      ⟨some 17, .mv (.t 0), [], none⟩,
      ⟨some 6, .mv (.t 17), [0, 0], none⟩])
    .ret)
    .skip))
  (.seq (.reg [
    ⟨some 18, .mv (.t 0), [], none⟩,
    ⟨some 19, .len (.t 18), [0], none⟩,
    ⟨some 8, .mv (.t 19), [1, 0, 1], none⟩])
  (.seq (.seq (.reg [
    ⟨some 20, .mv (.t 1), [], none⟩,
    ⟨some 21, .mv (.t 8), [], none⟩,
    ⟨some 22, .bin .eql (.t 20) (.t 21), [0, 1], none⟩])
  (.cond (.t 22)
    (.seq (.reg [
      ⟨some 23, .mv (.t 0), [], none⟩,
      ⟨some 24, .mv (.t 2), [], none⟩,
      ⟨some 25, .app 1 8 (.t 23) (.t 24), [0, 1], none⟩,
      ⟨some 6, .mv (.t 25), [2, 2, 0, 1, 2], none⟩])
    .ret)
    .skip))
  (.seq (.seq (.reg [
    ⟨some 26, .mv (.t 8), [], none⟩,
    ⟨some 27, .mv (.t 7), [], none⟩,
    ⟨some 28, .bin .add (.t 26) (.t 27), [0, 1], none⟩,
    ⟨some 29, .mv (.t 0), [], none⟩,
    ⟨some 30, .cap (.t 29), [3], none⟩,
    ⟨some 31, .bin .gtr (.t 28) (.t 30), [2, 4], none⟩])
  (.cond (.t 31)
    (.seq (.reg [
      ⟨some 32, .mv (.t 0), [], none⟩,
      ⟨some 33, .mv (.t 1), [], none⟩,
      ⟨some 34, .slc 1 (.t 32) none (some (.t 33)), [0, 1], none⟩,
      ⟨some 35, .mv (.t 8), [], none⟩,
      ⟨some 36, .mv (.t 7), [], none⟩,
      ⟨some 37, .bin .add (.t 35) (.t 36), [3, 4], none⟩,
      ⟨some 38, .mv (.t 1), [], none⟩,
      ⟨some 39, .bin .sub (.t 37) (.t 38), [5, 6], none⟩,
      ⟨some 40, .appz 1 8 (.val (.int .i64 0)) (.t 34) (.t 39), [2, 7], none⟩,
      ⟨some 9, .mv (.t 40), [8, 8, 0, 1, 2, 3, 4, 5, 6, 7, 8], none⟩])
    (.seq (.reg [
      ⟨some 41, .mv (.t 9), [], none⟩,
      ⟨some 42, .mv (.t 1), [], none⟩,
      ⟨some 43, .slc 1 (.t 41) (some (.t 42)) none, [0, 1], none⟩,
      ⟨some 44, .mv (.t 2), [], none⟩,
      ⟨some 45, .copy 1 (.t 43) (.t 44), [2, 3], none⟩])
    (.seq (.draw [
      ⟨some 46, .mv (.t 9), [], none⟩,
      ⟨some 47, .mv (.t 1), [], none⟩,
      ⟨some 48, .mv (.t 7), [], none⟩,
      ⟨some 49, .bin .add (.t 47) (.t 48), [1, 2], none⟩,
      ⟨some 50, .slc 1 (.t 46) (some (.t 49)) none, [0, 3], none⟩,
      ⟨some 51, .mv (.t 0), [], none⟩,
      ⟨some 52, .mv (.t 1), [], none⟩,
      ⟨some 53, .slc 1 (.t 51) (some (.t 52)) none, [5, 6], none⟩,
      ⟨some 54, .copy 1 (.t 50) (.t 53), [4, 7], none⟩])
    (.seq (.reg [
      ⟨some 55, .mv (.t 9), [], none⟩,
      ⟨some 6, .mv (.t 55), [0, 0], none⟩])
    .ret))))
    .skip))
  (.seq (.reg [
    ⟨some 56, .mv (.t 0), [], none⟩,
    ⟨some 57, .mv (.t 8), [], none⟩,
    ⟨some 58, .mv (.t 7), [], none⟩,
    ⟨some 59, .bin .add (.t 57) (.t 58), [1, 2], none⟩,
    ⟨some 60, .slc 1 (.t 56) none (some (.t 59)), [0, 3], none⟩,
    ⟨some 0, .mv (.t 60), [4, 0, 1, 2, 3, 4], none⟩])
  (.seq (.seq (.reg [
    ⟨some 61, .mv (.t 2), [], none⟩,
    ⟨some 62, .mv (.t 0), [], none⟩,
    ⟨some 63, .mv (.t 1), [], none⟩,
    ⟨some 64, .mv (.t 7), [], none⟩,
    ⟨some 65, .bin .add (.t 63) (.t 64), [2, 3], none⟩,
    ⟨some 66, .slc 1 (.t 62) (some (.t 65)) none, [1, 4], none⟩,
    ⟨some 67, .call 50 [(.t 61), (.t 66)], [0, 5], none⟩,
    ⟨some 68, .un .not (.t 67), [6], none⟩])
  (.cond (.t 68)
    (.seq (.draw [
      ⟨some 69, .mv (.t 0), [], none⟩,
      ⟨some 70, .mv (.t 1), [], none⟩,
      ⟨some 71, .mv (.t 7), [], none⟩,
      ⟨some 72, .bin .add (.t 70) (.t 71), [1, 2], none⟩,
      ⟨some 73, .slc 1 (.t 69) (some (.t 72)) none, [0, 3], none⟩,
      ⟨some 74, .mv (.t 0), [], none⟩,
      ⟨some 75, .mv (.t 1), [], none⟩,
      ⟨some 76, .slc 1 (.t 74) (some (.t 75)) none, [5, 6], none⟩,
      ⟨some 77, .copy 1 (.t 73) (.t 76), [4, 7], none⟩])
    (.seq (.reg [
      ⟨some 78, .mv (.t 0), [], none⟩,
      ⟨some 79, .mv (.t 1), [], none⟩,
      ⟨some 80, .slc 1 (.t 78) (some (.t 79)) none, [0, 1], none⟩,
      ⟨some 81, .mv (.t 2), [], none⟩,
      ⟨some 82, .copy 1 (.t 80) (.t 81), [2, 3], none⟩])
    (.seq (.reg [
      ⟨some 83, .mv (.t 0), [], none⟩,
      ⟨some 6, .mv (.t 83), [0, 0], none⟩])
    .ret)))
    .skip))
  (.seq (.reg [
    ⟨some 84, .mv (.t 0), [], none⟩,
    ⟨some 85, .mv (.t 8), [], none⟩,
    ⟨some 86, .slc 1 (.t 84) (some (.t 85)) none, [0, 1], none⟩,
    ⟨some 87, .mv (.t 2), [], none⟩,
    ⟨some 88, .copy 1 (.t 86) (.t 87), [2, 3], none⟩])
  (.seq (.reg [
    ⟨some 89, .mv (.t 0), [], none⟩,
    ⟨some 90, .mv (.t 1), [], none⟩,
    ⟨some 91, .slc 1 (.t 89) (some (.t 90)) none, [0, 1], none⟩,
    ⟨some 92, .mv (.t 7), [], none⟩,
    ⟨some 93, .call 51 [(.t 91), (.t 92)], [2, 3], none⟩])
  (.seq (.reg [
    ⟨some 94, .mv (.t 0), [], none⟩,
    ⟨some 6, .mv (.t 94), [0, 0], none⟩])
  .ret))))))))))))
theorem Tryp43 : (Try.f43.body.map (prep Try.prog 95)) = some Tryc43 := by kernel_rfl

/- slices.AppendSeq[[]tidegate/api.Interval,tidegate/api.Interval] -/
def Tryc44 : ACode :=
  (.seq (.reg [
    ⟨some 2, .box (.t 0), [], none⟩,
    ⟨some 4, .mv (.c (.val (.slice none 0 0))), [], none⟩])
  (.seq (.seq (.reg [
    ⟨some 6, .mv (.t 1), [], none⟩])
  (.block 0
    (.rfun (.t 6) [7]
      (.reg [
        ⟨some 5, .box (.c (.agg [(.val (.int .i64 0)), (.val (.int .i64 0))])), [], none⟩,
        ⟨none, .st 2 (.t 5) (.t 7), [0, 0], none⟩])
      (.block 1
        (.reg [
          ⟨some 8, .ld 1 false (.t 2), [], none⟩,
          ⟨some 9, .ld 2 true (.t 5), [], none⟩,
          ⟨some 10, .bslice 2 [(.t 9)], [1], none⟩,
          ⟨some 11, .app 2 16 (.t 8) (.t 10), [0, 2], none⟩,
          ⟨none, .st 1 (.t 2) (.t 11), [3, 3, 0, 1, 2, 3], none⟩])))))
  (.seq (.reg [
    ⟨some 12, .ld 1 false (.t 2), [], none⟩,
    ⟨some 4, .mv (.t 12), [0, 0], none⟩])
  .ret)))
theorem Tryp44 : (Try.f44.body.map (prep Try.prog 13)) = some Tryc44 := by kernel_rfl

/- tidegate/sequence.gaps$1 -/
def Tryc45 : ACode :=
  (.seq (.reg [
    ⟨some 6, .fa 0 (.t 1), [], none⟩,
    ⟨some 7, .ld 1 false (.t 6), [0], none⟩,
    ⟨some 3, .mv (.t 7), [1, 0, 1], none⟩])
  (.seq (.reg [
    ⟨some 8, .fa 1 (.t 1), [], none⟩,
    ⟨some 9, .ld 1 false (.t 8), [0], none⟩,
    ⟨some 10, .len (.t 9), [1], none⟩,
    ⟨some 11, .mv (.c (.val (.int .i64 0))), [], none⟩])
  (.block 0
    (.loop
      (.seq (.reg [
        ⟨some 12, .bin .lss (.t 11) (.t 10), [], none⟩])
      (.seq (.cond (.t 12)
        .skip
        (.exit 0))
      (.seq (.block 1
        (.seq (.reg [
          ⟨some 13, .ia 1 (.t 9) (.t 11), [], none⟩,
          ⟨some 14, .ld 1 false (.t 13), [0], none⟩,
          ⟨some 5, .mv (.t 14), [1, 0, 1], none⟩])
        (.seq (.seq (.reg [
          ⟨some 15, .mv (.t 5), [], none⟩,
          ⟨some 16, .mv (.t 3), [], none⟩,
          ⟨some 17, .bin .gtr (.t 15) (.t 16), [0, 1], none⟩,
          ⟨some 18, .mv (.t 17), [2], none⟩,
          ⟨some 19, .mv (.t 0), [3], some (18, true)⟩,
          ⟨some 20, .mv (.t 3), [3], some (18, true)⟩,
          ⟨some 21, .mv (.t 5), [3], some (18, true)⟩,
          ⟨some 22, .bin .sub (.t 21) (.c (.val (.int .i64 1))), [6, 3], some (18, true)⟩,
          ⟨some 23, .build [(.val (.int .i64 0)), (.val (.int .i64 0))] [(0, 1, (.t 20)), (1, 1, (.t 22))], [5, 7, 3], some (18, true)⟩,
          ⟨some 24, .callv (.t 19) [(.t 23)], [4, 8, 3, 3], some (18, true)⟩,
          ⟨some 25, .un .not (.t 24), [9, 3], some (18, true)⟩,
          ⟨some 26, .pick (.t 18) (.t 25) (.c (.val (.bool false))), [3, 10], none⟩])
        (.cond (.t 26)
          .ret
          .skip))
        (.reg [
          ⟨some 27, .mv (.t 5), [], none⟩,
          ⟨some 28, .bin .add (.t 27) (.c (.val (.int .i64 1))), [0], none⟩,
          ⟨some 3, .mv (.t 28), [1, 0, 1], none⟩]))))
      (.reg [
        ⟨some 29, .bin .add (.t 11) (.c (.val (.int .i64 1))), [], none⟩,
        ⟨some 11, .mv (.t 29), [0], none⟩]))))))))
theorem Tryp45 : (Try.f45.body.map (prep Try.prog 30)) = some Tryc45 := by kernel_rfl

/- sort.Search -/
def Tryc48 : ACode :=
  (.seq (.reg [
    ⟨some 4, .mv (.c (.val (.int .i64 0))), [], none⟩])
  (.seq (.reg [
    ⟨some 8, .mv (.t 0), [], none⟩,
    ⟨some 5, .mv (.c (.val (.int .i64 0))), [], none⟩,
    ⟨some 6, .mv (.t 8), [0, 1, 0, 1], none⟩])
  (.seq (.block 0
    (.loop
      (.seq (.seq (.reg [
        ⟨some 9, .mv (.t 5), [], none⟩,
        ⟨some 10, .mv (.t 6), [], none⟩,
        ⟨some 11, .bin .lss (.t 9) (.t 10), [0, 1], none⟩])
      (.cond (.t 11)
        .skip
        (.exit 0)))
      (.block 1
        (.seq (.reg [
          ⟨some 12, .mv (.t 5), [], none⟩,
          ⟨some 13, .mv (.t 6), [], none⟩,
          ⟨some 14, .bin .add (.t 12) (.t 13), [0, 1], none⟩,
          ⟨some 15, .cvi .u64 (.t 14), [2], none⟩,
          ⟨some 16, .bin .shr (.t 15) (.c (.val (.int .u64 1))), [3], none⟩,
          ⟨some 17, .cvi .i64 (.t 16), [4], none⟩,
          ⟨some 7, .mv (.t 17), [5, 0, 1, 2, 3, 4, 5], none⟩])
        (.seq (.reg [
          ⟨some 18, .mv (.t 1), [], none⟩,
          ⟨some 19, .mv (.t 7), [], none⟩,
          ⟨some 20, .callv (.t 18) [(.t 19)], [0, 1], none⟩,
          ⟨some 21, .un .not (.t 20), [2], none⟩])
        (.cond (.t 21)
          (.reg [
            ⟨some 22, .mv (.t 7), [], none⟩,
            ⟨some 23, .bin .add (.t 22) (.c (.val (.int .i64 1))), [0], none⟩,
            ⟨some 5, .mv (.t 23), [1, 0, 1], none⟩])
          (.reg [
            ⟨some 24, .mv (.t 7), [], none⟩,
            ⟨some 6, .mv (.t 24), [0, 0], none⟩]))))))))
  (.seq (.reg [
    ⟨some 25, .mv (.t 5), [], none⟩,
    ⟨some 4, .mv (.t 25), [0, 0], none⟩])
  .ret))))
theorem Tryp48 : (Try.f48.body.map (prep Try.prog 26)) = some Tryc48 := by kernel_rfl

/- tidegate/sequence.place$1 -/
def Tryc49 : ACode :=
  (.seq (.reg [
    ⟨some 4, .mv (.c (.val (.bool false))), [], none⟩])
  (.seq (.draw [
    ⟨some 5, .ld 1 false (.t 1), [], none⟩,
    ⟨some 6, .mv (.t 0), [], none⟩,
    ⟨some 7, .ia 1 (.t 5) (.t 6), [0, 1], none⟩,
    ⟨some 8, .ld 1 false (.t 7), [2], none⟩,
    ⟨some 9, .ld 1 false (.t 2), [], none⟩,
    ⟨some 10, .bin .geq (.t 8) (.t 9), [3, 4], none⟩,
    ⟨some 4, .mv (.t 10), [5, 0, 1, 2, 3, 4, 5], none⟩])
  .ret))
theorem Tryp49 : (Try.f49.body.map (prep Try.prog 11)) = some Tryc49 := by kernel_rfl

end Go.Am
end

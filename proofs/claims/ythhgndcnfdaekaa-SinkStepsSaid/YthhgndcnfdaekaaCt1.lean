/- Contracts of the program's functions, for every argument that meets the conditions that each theorem names. -/
import Derived.Test.YthhgndcnfdaekaaAm4
import Derived.Test.YthhgndcnfdaekaaProg
section
set_option maxRecDepth 100000
namespace Go.Am
open Go.Proofs
/- gosem.cut.init -/
def Tryc2 : ACode :=
  (.reg [
    ⟨some 0, .call 1 [], [], none⟩])
theorem Tryp2 : (Try.f2.body.map (prep Try.prog 1)) = some Tryc2 := by kernel_rfl

/- tidegate/tidegatelaw51.SinkChecks -/
def Tryc3 : ACode :=
  (.seq (.reg [
    ⟨some 1, .box (.t 0), [], none⟩,
    ⟨some 2, .mv (.c (.val (.bool false))), [], none⟩])
  (.seq (.seq (.reg [
    ⟨some 3, .ld 3 true (.t 1), [], none⟩,
    ⟨some 4, .call 10 [(.t 3)], [0], none⟩,
    ⟨some 5, .un .not (.t 4), [1], none⟩])
  (.cond (.t 5)
    (.seq (.reg [
      ⟨some 6, .call 11 [], [], none⟩,
      ⟨some 2, .mv (.t 6), [0, 0, 0], none⟩])
    .ret)
    .skip))
  (.seq (.draw [
    ⟨some 7, .call 11 [], [], none⟩,
    ⟨some 8, .mv (.t 7), [0, 0], none⟩,
    ⟨some 9, .ld 3 true (.t 1), [1], some (8, true)⟩,
    ⟨some 10, .call 12 [(.t 9)], [2, 1, 1], some (8, true)⟩,
    ⟨some 11, .ld 3 true (.t 1), [1], some (8, true)⟩,
    ⟨some 12, .call 13 [(.t 11)], [4, 3, 1], some (8, true)⟩,
    ⟨some 13, .bin .eql (.t 10) (.t 12), [3, 5, 1], some (8, true)⟩,
    ⟨some 14, .pick (.t 8) (.t 13) (.c (.val (.bool false))), [1, 6], none⟩,
    ⟨some 15, .mv (.t 14), [7, 5], none⟩,
    ⟨some 16, .ld 3 true (.t 1), [8], some (15, true)⟩,
    ⟨some 17, .call 15 [(.t 16)], [9, 8, 8], some (15, true)⟩,
    ⟨some 18, .ld 3 true (.t 1), [8], some (15, true)⟩,
    ⟨some 19, .call 16 [(.t 18)], [11, 10, 8], some (15, true)⟩,
    ⟨some 20, .call 14 [(.t 17), (.t 19)], [10, 12, 12, 8], some (15, true)⟩,
    ⟨some 21, .pick (.t 15) (.t 20) (.c (.val (.bool false))), [8, 13], none⟩,
    ⟨some 22, .mv (.t 21), [14, 13], none⟩,
    ⟨some 23, .ld 3 true (.t 1), [15], some (22, true)⟩,
    ⟨some 24, .call 17 [(.t 23)], [16, 15, 15], some (22, true)⟩,
    ⟨some 25, .ld 3 true (.t 1), [15], some (22, true)⟩,
    ⟨some 26, .call 18 [(.t 25)], [18, 17, 15], some (22, true)⟩,
    ⟨some 27, .call 14 [(.t 24), (.t 26)], [17, 19, 19, 15], some (22, true)⟩,
    ⟨some 28, .pick (.t 22) (.t 27) (.c (.val (.bool false))), [15, 20], none⟩,
    ⟨some 29, .mv (.t 28), [21, 20], none⟩,
    ⟨some 30, .call 20 [], [22, 22], some (29, true)⟩,
    ⟨some 31, .build [(.val (.int .i64 0)), (.val (.slice none 0 0)), (.val (.slice none 0 0))] [], [22], some (29, true)⟩,
    ⟨some 32, .call 19 [(.t 30), (.t 31)], [23, 24, 23, 22], some (29, true)⟩,
    ⟨some 33, .pick (.t 29) (.t 32) (.c (.val (.bool false))), [22, 25], none⟩,
    ⟨some 2, .mv (.t 33), [26, 25, 0, 1, 2, 3, 4, 5, 6, 7, 8, 9, 10, 11, 12, 13, 14, 15, 16, 17, 18, 19, 20, 21, 22, 23, 24, 25, 26], none⟩])
  .ret)))
theorem Tryp3 : (Try.f3.body.map (prep Try.prog 34)) = some Tryc3 := by kernel_rfl

/- tidegate/tidegatelaw51.SinkAdds -/
def Tryc4 : ACode :=
  (.seq (.reg [
    ⟨some 3, .box (.t 0), [], none⟩,
    ⟨some 6, .mv (.c (.val (.bool false))), [], none⟩])
  (.seq (.seq (.reg [
    ⟨some 11, .ld 3 true (.t 3), [], none⟩,
    ⟨some 12, .call 10 [(.t 11)], [0], none⟩,
    ⟨some 13, .un .not (.t 12), [1], none⟩,
    ⟨some 14, .mv (.t 13), [2, 1], none⟩,
    ⟨some 15, .mv (.t 2), [3], some (14, false)⟩,
    ⟨some 16, .call 21 [(.t 15)], [4, 3, 3], some (14, false)⟩,
    ⟨some 17, .un .not (.t 16), [5, 3], some (14, false)⟩,
    ⟨some 18, .pick (.t 14) (.c (.val (.bool true))) (.t 17), [3, 6], none⟩])
  (.cond (.t 18)
    (.seq (.reg [
      ⟨some 19, .call 11 [], [], none⟩,
      ⟨some 6, .mv (.t 19), [0, 0, 0], none⟩])
    .ret)
    .skip))
  (.seq (.reg [
    ⟨some 21, .ld 3 true (.t 3), [], none⟩,
    ⟨some 22, .mv (.t 1), [], none⟩,
    ⟨some 23, .mv (.t 2), [], none⟩,
    ⟨some 24, .call 22 [(.t 21), (.t 22), (.t 23)], [0, 1, 2], none⟩,
    ⟨some 20, .mv (.t 24), [3], none⟩,
    ⟨some 25, .ext (.t 20) 0, [4], none⟩,
    ⟨some 26, .ext (.t 20) 1, [4], none⟩,
    ⟨some 7, .box (.c (.agg [(.val (.int .i64 0)), (.val (.slice none 0 0)), (.val (.slice none 0 0))])), [], none⟩,
    ⟨none, .st 3 (.t 7) (.t 25), [7, 5, 3, 0, 1, 2, 3, 4, 5, 7], none⟩,
    ⟨some 8, .mv (.t 26), [6, 8, 0, 1, 2, 3, 4, 5, 6, 7, 8], none⟩])
  (.seq (.reg [
    ⟨some 28, .ld 3 true (.t 3), [], none⟩,
    ⟨some 29, .mv (.t 1), [], none⟩,
    ⟨some 30, .mv (.t 2), [], none⟩,
    ⟨some 31, .call 23 [(.t 28), (.t 29), (.t 30)], [0, 1, 2], none⟩,
    ⟨some 27, .mv (.t 31), [3], none⟩,
    ⟨some 32, .ext (.t 27) 0, [4], none⟩,
    ⟨some 33, .ext (.t 27) 1, [4], none⟩,
    ⟨some 9, .box (.c (.agg [(.val (.int .i64 0)), (.val (.slice none 0 0)), (.val (.slice none 0 0))])), [], none⟩,
    ⟨none, .st 3 (.t 9) (.t 32), [7, 5, 3, 0, 1, 2, 3, 4, 5, 7], none⟩,
    ⟨some 10, .mv (.t 33), [6, 8, 0, 1, 2, 3, 4, 5, 6, 7, 8], none⟩])
  (.seq (.reg [
    ⟨some 34, .call 11 [], [], none⟩,
    ⟨some 35, .mv (.t 34), [0, 0], none⟩,
    ⟨some 36, .ld 3 true (.t 7), [1], some (35, true)⟩,
    ⟨some 37, .ld 3 true (.t 9), [1], some (35, true)⟩,
    ⟨some 38, .call 19 [(.t 36), (.t 37)], [2, 3, 1, 1], some (35, true)⟩,
    ⟨some 39, .pick (.t 35) (.t 38) (.c (.val (.bool false))), [1, 4], none⟩,
    ⟨some 40, .mv (.t 39), [5, 4], none⟩,
    ⟨some 41, .mv (.t 8), [6], some (40, true)⟩,
    ⟨some 42, .mv (.t 10), [6], some (40, true)⟩,
    ⟨some 43, .bin .eql (.t 41) (.t 42), [7, 8, 6], some (40, true)⟩,
    ⟨some 44, .pick (.t 40) (.t 43) (.c (.val (.bool false))), [6, 9], none⟩,
    ⟨some 6, .mv (.t 44), [10, 6, 0, 1, 2, 3, 4, 5, 6, 7, 8, 9, 10], none⟩])
  .ret)))))
theorem Tryp4 : (Try.f4.body.map (prep Try.prog 45)) = some Tryc4 := by kernel_rfl

/- tidegate/tidegatelaw51.SinkCommits -/
def Tryc5 : ACode :=
  (.seq (.reg [
    ⟨some 2, .box (.t 0), [], none⟩,
    ⟨some 4, .mv (.c (.val (.bool false))), [], none⟩])
  (.seq (.seq (.reg [
    ⟨some 13, .ld 3 true (.t 2), [], none⟩,
    ⟨some 14, .call 10 [(.t 13)], [0], none⟩,
    ⟨some 15, .un .not (.t 14), [1], none⟩])
  (.cond (.t 15)
    (.seq (.reg [
      ⟨some 16, .call 11 [], [], none⟩,
      ⟨some 4, .mv (.t 16), [0, 0, 0], none⟩])
    .ret)
    .skip))
  (.seq (.reg [
    ⟨some 18, .ld 3 true (.t 2), [], none⟩,
    ⟨some 19, .mv (.t 1), [], none⟩,
    ⟨some 20, .call 24 [(.t 18), (.t 19)], [0, 1], none⟩,
    ⟨some 17, .mv (.t 20), [2], none⟩,
    ⟨some 21, .ext (.t 17) 0, [3], none⟩,
    ⟨some 22, .ext (.t 17) 1, [3], none⟩,
    ⟨some 5, .box (.c (.agg [(.val (.int .i64 0)), (.val (.slice none 0 0)), (.val (.slice none 0 0))])), [], none⟩,
    ⟨none, .st 3 (.t 5) (.t 21), [6, 4, 2, 0, 1, 2, 3, 4, 6], none⟩,
    ⟨some 6, .mv (.t 22), [5, 7, 0, 1, 2, 3, 4, 5, 6, 7], none⟩])
  (.seq (.reg [
    ⟨some 24, .ld 3 true (.t 2), [], none⟩,
    ⟨some 25, .mv (.t 1), [], none⟩,
    ⟨some 26, .call 25 [(.t 24), (.t 25)], [0, 1], none⟩,
    ⟨some 23, .mv (.t 26), [2], none⟩,
    ⟨some 27, .ext (.t 23) 0, [3], none⟩,
    ⟨some 28, .ext (.t 23) 1, [3], none⟩,
    ⟨some 7, .box (.c (.agg [(.val (.int .i64 0)), (.val (.slice none 0 0)), (.val (.slice none 0 0))])), [], none⟩,
    ⟨none, .st 3 (.t 7) (.t 27), [6, 4, 2, 0, 1, 2, 3, 4, 6], none⟩,
    ⟨some 8, .mv (.t 28), [5, 7, 0, 1, 2, 3, 4, 5, 6, 7], none⟩])
  (.seq (.reg [
    ⟨some 30, .ld 3 true (.t 2), [], none⟩,
    ⟨some 31, .mv (.t 1), [], none⟩,
    ⟨some 32, .call 26 [(.t 30), (.t 31)], [0, 1], none⟩,
    ⟨some 29, .mv (.t 32), [2], none⟩,
    ⟨some 33, .ext (.t 29) 0, [3], none⟩,
    ⟨some 34, .ext (.t 29) 1, [3], none⟩,
    ⟨some 9, .box (.c (.agg [(.val (.int .i64 0)), (.val (.slice none 0 0)), (.val (.slice none 0 0))])), [], none⟩,
    ⟨none, .st 3 (.t 9) (.t 33), [6, 4, 2, 0, 1, 2, 3, 4, 6], none⟩,
    ⟨some 10, .mv (.t 34), [5, 7, 0, 1, 2, 3, 4, 5, 6, 7], none⟩])
  (.seq (.reg [
    ⟨some 36, .ld 3 true (.t 2), [], none⟩,
    ⟨some 37, .mv (.t 1), [], none⟩,
    ⟨some 38, .call 27 [(.t 36), (.t 37)], [0, 1], none⟩,
    ⟨some 35, .mv (.t 38), [2], none⟩,
    ⟨some 39, .ext (.t 35) 0, [3], none⟩,
    ⟨some 40, .ext (.t 35) 1, [3], none⟩,
    ⟨some 11, .box (.c (.agg [(.val (.int .i64 0)), (.val (.slice none 0 0)), (.val (.slice none 0 0))])), [], none⟩,
    ⟨none, .st 3 (.t 11) (.t 39), [6, 4, 2, 0, 1, 2, 3, 4, 6], none⟩,
    ⟨some 12, .mv (.t 40), [5, 7, 0, 1, 2, 3, 4, 5, 6, 7], none⟩])
  (.seq (.reg [
    ⟨some 41, .call 11 [], [], none⟩,
    ⟨some 42, .mv (.t 41), [0, 0], none⟩,
    ⟨some 43, .ld 3 true (.t 5), [1], some (42, true)⟩,
    ⟨some 44, .ld 3 true (.t 7), [1], some (42, true)⟩,
    ⟨some 45, .call 19 [(.t 43), (.t 44)], [2, 3, 1, 1], some (42, true)⟩,
    ⟨some 46, .pick (.t 42) (.t 45) (.c (.val (.bool false))), [1, 4], none⟩,
    ⟨some 47, .mv (.t 46), [5, 4], none⟩,
    ⟨some 48, .mv (.t 6), [6], some (47, true)⟩,
    ⟨some 49, .mv (.t 8), [6], some (47, true)⟩,
    ⟨some 50, .bin .eql (.t 48) (.t 49), [7, 8, 6], some (47, true)⟩,
    ⟨some 51, .pick (.t 47) (.t 50) (.c (.val (.bool false))), [6, 9], none⟩,
    ⟨some 52, .mv (.t 51), [10, 6], none⟩,
    ⟨some 53, .ld 3 true (.t 9), [11], some (52, true)⟩,
    ⟨some 54, .ld 3 true (.t 11), [11], some (52, true)⟩,
    ⟨some 55, .call 19 [(.t 53), (.t 54)], [12, 13, 11, 11], some (52, true)⟩,
    ⟨some 56, .pick (.t 52) (.t 55) (.c (.val (.bool false))), [11, 14], none⟩,
    ⟨some 57, .mv (.t 56), [15, 14], none⟩,
    ⟨some 58, .mv (.t 10), [16], some (57, true)⟩,
    ⟨some 59, .mv (.t 12), [16], some (57, true)⟩,
    ⟨some 60, .bin .eql (.t 58) (.t 59), [17, 18, 16], some (57, true)⟩,
    ⟨some 61, .pick (.t 57) (.t 60) (.c (.val (.bool false))), [16, 19], none⟩,
    ⟨some 4, .mv (.t 61), [20, 16, 0, 1, 2, 3, 4, 5, 6, 7, 8, 9, 10, 11, 12, 13, 14, 15, 16, 17, 18, 19, 20], none⟩])
  .ret)))))))
theorem Tryp5 : (Try.f5.body.map (prep Try.prog 62)) = some Tryc5 := by kernel_rfl

/- tidegate/tidegatelaw51.SinkGrows -/
def Tryc6 : ACode :=
  (.seq (.reg [
    ⟨some 3, .box (.t 0), [], none⟩,
    ⟨some 4, .box (.t 1), [], none⟩,
    ⟨some 6, .mv (.c (.val (.bool false))), [], none⟩])
  (.seq (.seq (.reg [
    ⟨some 15, .ld 3 true (.t 3), [], none⟩,
    ⟨some 16, .call 10 [(.t 15)], [0], none⟩,
    ⟨some 17, .un .not (.t 16), [1], none⟩,
    ⟨some 18, .mv (.t 17), [2, 1], none⟩,
    ⟨some 19, .mv (.t 2), [3], some (18, false)⟩,
    ⟨some 20, .call 21 [(.t 19)], [4, 3, 3], some (18, false)⟩,
    ⟨some 21, .un .not (.t 20), [5, 3], some (18, false)⟩,
    ⟨some 22, .pick (.t 18) (.c (.val (.bool true))) (.t 21), [3, 6], none⟩,
    ⟨some 23, .mv (.t 22), [7, 5], none⟩,
    ⟨some 24, .ld 3 true (.t 3), [8], some (23, false)⟩,
    ⟨some 25, .call 12 [(.t 24)], [9, 8, 8], some (23, false)⟩,
    ⟨some 26, .bin .neq (.t 25) (.c (.val (.int .i64 0))), [10, 8], some (23, false)⟩,
    ⟨some 27, .pick (.t 23) (.c (.val (.bool true))) (.t 26), [8, 11], none⟩])
  (.cond (.t 27)
    (.seq (.reg [
      ⟨some 28, .call 11 [], [], none⟩,
      ⟨some 6, .mv (.t 28), [0, 0, 0], none⟩])
    .ret)
    .skip))
  (.seq (.reg [
    ⟨some 30, .ld 3 true (.t 3), [], none⟩,
    ⟨some 31, .iaA 1 2 (.t 4) (.c (.val (.int .i64 0))), [], none⟩,
    ⟨some 32, .ld 1 false (.t 31), [1], none⟩,
    ⟨some 33, .call 24 [(.t 30), (.t 32)], [0, 2], none⟩,
    ⟨some 29, .mv (.t 33), [3], none⟩,
    ⟨some 34, .ext (.t 29) 0, [4], none⟩,
    ⟨some 35, .ext (.t 29) 1, [4], none⟩,
    ⟨some 7, .box (.c (.agg [(.val (.int .i64 0)), (.val (.slice none 0 0)), (.val (.slice none 0 0))])), [], none⟩,
    ⟨none, .st 3 (.t 7) (.t 34), [7, 5, 3, 0, 1, 2, 3, 4, 5, 7], none⟩,
    ⟨some 8, .mv (.t 35), [6, 8, 0, 1, 2, 3, 4, 5, 6, 7, 8], none⟩])
  (.seq (.seq (.reg [
    ⟨some 36, .mv (.t 8), [], none⟩,
    ⟨some 37, .bin .neq (.t 36) (.c (.val (.int .i64 0))), [0], none⟩])
  (.cond (.t 37)
    (.seq (.reg [
      ⟨some 38, .mv (.t 8), [], none⟩,
      ⟨some 39, .bin .eql (.t 38) (.c (.val (.int .i64 29))), [0], none⟩,
      ⟨some 40, .mv (.t 39), [1], none⟩,
      ⟨some 41, .call 11 [], [2, 2], some (40, true)⟩,
      ⟨some 42, .pick (.t 40) (.t 41) (.c (.val (.bool false))), [2, 3], none⟩,
      ⟨some 6, .mv (.t 42), [4, 3, 0, 1, 2, 3, 4], none⟩])
    .ret)
    .skip))
  (.seq (.reg [
    ⟨some 44, .ld 3 true (.t 7), [], none⟩,
    ⟨some 45, .iaA 1 2 (.t 4) (.c (.val (.int .i64 0))), [], none⟩,
    ⟨some 46, .ld 1 false (.t 45), [1], none⟩,
    ⟨some 47, .call 24 [(.t 44), (.t 46)], [0, 2], none⟩,
    ⟨some 43, .mv (.t 47), [3], none⟩,
    ⟨some 48, .ext (.t 43) 0, [4], none⟩,
    ⟨some 49, .ext (.t 43) 1, [4], none⟩,
    ⟨some 9, .box (.c (.agg [(.val (.int .i64 0)), (.val (.slice none 0 0)), (.val (.slice none 0 0))])), [], none⟩,
    ⟨none, .st 3 (.t 9) (.t 48), [7, 5, 3, 0, 1, 2, 3, 4, 5, 7], none⟩,
    ⟨some 10, .mv (.t 49), [6, 8, 0, 1, 2, 3, 4, 5, 6, 7, 8], none⟩])
  (.seq (.seq (.reg [
    ⟨some 50, .mv (.t 10), [], none⟩,
    ⟨some 51, .bin .neq (.t 50) (.c (.val (.int .i64 0))), [0], none⟩,
    ⟨some 52, .mv (.t 51), [1], none⟩,
    ⟨some 53, .ld 3 true (.t 7), [2], some (52, false)⟩,
    ⟨some 54, .ld 3 true (.t 9), [2], some (52, false)⟩,
    ⟨some 55, .call 19 [(.t 53), (.t 54)], [3, 4, 2, 2], some (52, false)⟩,
    ⟨some 56, .un .not (.t 55), [5, 2], some (52, false)⟩,
    ⟨some 57, .pick (.t 52) (.c (.val (.bool true))) (.t 56), [2, 6], none⟩,
    ⟨some 58, .mv (.t 57), [7, 5], none⟩,
    ⟨some 59, .fa 1 (.t 7), [8], some (58, false)⟩,
    ⟨some 60, .ld 1 false (.t 59), [9, 8], some (58, false)⟩,
    ⟨some 61, .fa 1 (.t 3), [8], some (58, false)⟩,
    ⟨some 62, .ld 1 false (.t 61), [11, 8], some (58, false)⟩,
    ⟨some 63, .call 28 [(.t 60), (.t 62)], [10, 12, 8, 8], some (58, false)⟩,
    ⟨some 64, .un .not (.t 63), [13, 8], some (58, false)⟩,
    ⟨some 65, .pick (.t 58) (.c (.val (.bool true))) (.t 64), [8, 14], none⟩,
    ⟨some 66, .mv (.t 65), [15, 13], none⟩,
    ⟨some 67, .fa 0 (.t 7), [16], some (66, false)⟩,
    ⟨some 68, .ld 1 false (.t 67), [17, 16], some (66, false)⟩,
    ⟨some 69, .fa 0 (.t 3), [16], some (66, false)⟩,
    ⟨some 70, .ld 1 false (.t 69), [19, 16], some (66, false)⟩,
    ⟨some 71, .bin .lss (.t 68) (.t 70), [18, 20, 16], some (66, false)⟩,
    ⟨some 72, .pick (.t 66) (.c (.val (.bool true))) (.t 71), [16, 21], none⟩,
    ⟨some 73, .mv (.t 72), [22, 16], none⟩,
    ⟨some 74, .ld 3 true (.t 7), [23], some (73, false)⟩,
    ⟨some 75, .call 12 [(.t 74)], [24, 23, 23], some (73, false)⟩,
    ⟨some 76, .bin .neq (.t 75) (.c (.val (.int .i64 0))), [25, 23], some (73, false)⟩,
    ⟨some 77, .pick (.t 73) (.c (.val (.bool true))) (.t 76), [23, 26], none⟩])
  (.cond (.t 77)
    (.seq (.reg [
      ⟨some 6, .mv (.c (.val (.bool false))), [], none⟩])
    .ret)
    .skip))
  (.seq (.reg [
    ⟨some 79, .ld 3 true (.t 7), [], none⟩,
    ⟨some 80, .iaA 1 2 (.t 4) (.c (.val (.int .i64 1))), [], none⟩,
    ⟨some 81, .ld 1 false (.t 80), [1], none⟩,
    ⟨some 82, .mv (.t 2), [], none⟩,
    ⟨some 83, .call 22 [(.t 79), (.t 81), (.t 82)], [0, 2, 3], none⟩,
    ⟨some 78, .mv (.t 83), [4], none⟩,
    ⟨some 84, .ext (.t 78) 0, [5], none⟩,
    ⟨some 85, .ext (.t 78) 1, [5], none⟩,
    ⟨some 11, .box (.c (.agg [(.val (.int .i64 0)), (.val (.slice none 0 0)), (.val (.slice none 0 0))])), [], none⟩,
    ⟨none, .st 3 (.t 11) (.t 84), [8, 6, 4, 0, 1, 2, 3, 4, 5, 6, 8], none⟩,
    ⟨some 12, .mv (.t 85), [7, 9, 0, 1, 2, 3, 4, 5, 6, 7, 8, 9], none⟩])
  (.seq (.reg [
    ⟨some 87, .ld 3 true (.t 7), [], none⟩,
    ⟨some 88, .iaA 1 2 (.t 4) (.c (.val (.int .i64 1))), [], none⟩,
    ⟨some 89, .ld 1 false (.t 88), [1], none⟩,
    ⟨some 90, .call 26 [(.t 87), (.t 89)], [0, 2], none⟩,
    ⟨some 86, .mv (.t 90), [3], none⟩,
    ⟨some 91, .ext (.t 86) 0, [4], none⟩,
    ⟨some 92, .ext (.t 86) 1, [4], none⟩,
    ⟨some 13, .box (.c (.agg [(.val (.int .i64 0)), (.val (.slice none 0 0)), (.val (.slice none 0 0))])), [], none⟩,
    ⟨none, .st 3 (.t 13) (.t 91), [7, 5, 3, 0, 1, 2, 3, 4, 5, 7], none⟩,
    ⟨some 14, .mv (.t 92), [6, 8, 0, 1, 2, 3, 4, 5, 6, 7, 8], none⟩])
  (.seq (.seq (.reg [
    ⟨some 93, .mv (.t 12), [], none⟩,
    ⟨some 94, .bin .eql (.t 93) (.c (.val (.int .i64 0))), [0], none⟩,
    ⟨some 95, .mv (.t 94), [1], none⟩,
    ⟨some 96, .fa 1 (.t 11), [2], some (95, true)⟩,
    ⟨some 97, .ld 1 false (.t 96), [3, 2], some (95, true)⟩,
    ⟨some 98, .fa 1 (.t 7), [2], some (95, true)⟩,
    ⟨some 99, .ld 1 false (.t 98), [5, 2], some (95, true)⟩,
    ⟨some 100, .call 14 [(.t 97), (.t 99)], [4, 6, 2, 2], some (95, true)⟩,
    ⟨some 101, .un .not (.t 100), [7, 2], some (95, true)⟩,
    ⟨some 102, .pick (.t 95) (.t 101) (.c (.val (.bool false))), [2, 8], none⟩,
    ⟨some 103, .mv (.t 102), [9, 7], none⟩,
    ⟨some 104, .mv (.t 14), [10], some (103, false)⟩,
    ⟨some 105, .bin .eql (.t 104) (.c (.val (.int .i64 0))), [11, 10], some (103, false)⟩,
    ⟨some 106, .mv (.t 105), [12, 10, 10], some (103, false)⟩,
    ⟨some 107, .fa 1 (.t 13), [13], some (106, true)⟩,
    ⟨some 108, .ld 1 false (.t 107), [14, 13], some (106, true)⟩,
    ⟨some 109, .fa 1 (.t 7), [13], some (106, true)⟩,
    ⟨some 110, .ld 1 false (.t 109), [16, 13], some (106, true)⟩,
    ⟨some 111, .call 14 [(.t 108), (.t 110)], [15, 17, 13, 13], some (106, true)⟩,
    ⟨some 112, .un .not (.t 111), [18, 13], some (106, true)⟩,
    ⟨some 113, .pick (.t 106) (.t 112) (.c (.val (.bool false))), [13, 19, 10], some (103, false)⟩,
    ⟨some 114, .pick (.t 103) (.c (.val (.bool true))) (.t 113), [10, 20], none⟩])
  (.cond (.t 114)
    (.seq (.reg [
      ⟨some 6, .mv (.c (.val (.bool false))), [], none⟩])
    .ret)
    .skip))
  (.seq (.reg [
    ⟨some 115, .call 11 [], [], none⟩,
    ⟨some 116, .mv (.t 115), [0, 0], none⟩,
    ⟨some 117, .mv (.t 12), [1], some (116, true)⟩,
    ⟨some 118, .bin .neq (.t 117) (.c (.val (.int .i64 0))), [2, 1], some (116, true)⟩,
    ⟨some 119, .mv (.t 118), [3, 1, 1], some (116, true)⟩,
    ⟨some 120, .iaA 1 2 (.t 4) (.c (.val (.int .i64 1))), [4], some (119, false)⟩,
    ⟨some 121, .ld 1 false (.t 120), [5, 4], some (119, false)⟩,
    ⟨some 122, .fa 0 (.t 7), [4], some (119, false)⟩,
    ⟨some 123, .ld 1 false (.t 122), [7, 4], some (119, false)⟩,
    ⟨some 124, .bin .gtr (.t 121) (.t 123), [6, 8, 4], some (119, false)⟩,
    ⟨some 125, .pick (.t 119) (.c (.val (.bool true))) (.t 124), [4, 9, 1], some (116, true)⟩,
    ⟨some 126, .pick (.t 116) (.t 125) (.c (.val (.bool false))), [1, 10], none⟩,
    ⟨some 127, .mv (.t 126), [11, 4], none⟩,
    ⟨some 128, .mv (.t 14), [12], some (127, true)⟩,
    ⟨some 129, .bin .neq (.t 128) (.c (.val (.int .i64 0))), [13, 12], some (127, true)⟩,
    ⟨some 130, .mv (.t 129), [14, 12, 12], some (127, true)⟩,
    ⟨some 131, .iaA 1 2 (.t 4) (.c (.val (.int .i64 1))), [15], some (130, false)⟩,
    ⟨some 132, .ld 1 false (.t 131), [16, 15], some (130, false)⟩,
    ⟨some 133, .fa 0 (.t 7), [15], some (130, false)⟩,
    ⟨some 134, .ld 1 false (.t 133), [18, 15], some (130, false)⟩,
    ⟨some 135, .bin .geq (.t 132) (.t 134), [17, 19, 15], some (130, false)⟩,
    ⟨some 136, .pick (.t 130) (.c (.val (.bool true))) (.t 135), [15, 20, 12], some (127, true)⟩,
    ⟨some 137, .pick (.t 127) (.t 136) (.c (.val (.bool false))), [12, 21], none⟩,
    ⟨some 6, .mv (.t 137), [22, 15, 0, 1, 2, 3, 4, 5, 6, 7, 8, 9, 10, 11, 12, 13, 14, 15, 16, 17, 18, 19, 20, 21, 22], none⟩])
  .ret))))))))))
theorem Tryp6 : (Try.f6.body.map (prep Try.prog 138)) = some Tryc6 := by kernel_rfl

/- tidegate/tidegatelaw51.SinkAborts -/
def Tryc7 : ACode :=
  (.seq (.reg [
    ⟨some 2, .box (.t 0), [], none⟩,
    ⟨some 4, .mv (.c (.val (.bool false))), [], none⟩])
  (.seq (.seq (.reg [
    ⟨some 15, .ld 3 true (.t 2), [], none⟩,
    ⟨some 16, .call 10 [(.t 15)], [0], none⟩,
    ⟨some 17, .un .not (.t 16), [1], none⟩,
    ⟨some 18, .mv (.t 17), [2, 1], none⟩,
    ⟨some 19, .ld 3 true (.t 2), [3], some (18, false)⟩,
    ⟨some 20, .call 12 [(.t 19)], [4, 3, 3], some (18, false)⟩,
    ⟨some 21, .bin .neq (.t 20) (.c (.val (.int .i64 0))), [5, 3], some (18, false)⟩,
    ⟨some 22, .pick (.t 18) (.c (.val (.bool true))) (.t 21), [3, 6], none⟩])
  (.cond (.t 22)
    (.seq (.reg [
      ⟨some 23, .call 11 [], [], none⟩,
      ⟨some 4, .mv (.t 23), [0, 0, 0], none⟩])
    .ret)
    .skip))
  (.seq (.reg [
    ⟨some 25, .ld 3 true (.t 2), [], none⟩,
    ⟨some 26, .mv (.t 1), [], none⟩,
    ⟨some 27, .call 26 [(.t 25), (.t 26)], [0, 1], none⟩,
    ⟨some 24, .mv (.t 27), [2], none⟩,
    ⟨some 28, .ext (.t 24) 0, [3], none⟩,
    ⟨some 29, .ext (.t 24) 1, [3], none⟩,
    ⟨some 5, .box (.c (.agg [(.val (.int .i64 0)), (.val (.slice none 0 0)), (.val (.slice none 0 0))])), [], none⟩,
    ⟨none, .st 3 (.t 5) (.t 28), [6, 4, 2, 0, 1, 2, 3, 4, 6], none⟩,
    ⟨some 6, .mv (.t 29), [5, 7, 0, 1, 2, 3, 4, 5, 6, 7], none⟩])
  (.seq (.seq (.reg [
    ⟨some 30, .mv (.t 6), [], none⟩,
    ⟨some 31, .bin .neq (.t 30) (.c (.val (.int .i64 0))), [0], none⟩])
  (.cond (.t 31)
    (.seq (.reg [
      ⟨some 32, .mv (.t 6), [], none⟩,
      ⟨some 33, .bin .eql (.t 32) (.c (.val (.int .i64 29))), [0], none⟩,
      ⟨some 34, .mv (.t 33), [1], none⟩,
      ⟨some 35, .call 11 [], [2, 2], some (34, true)⟩,
      ⟨some 36, .pick (.t 34) (.t 35) (.c (.val (.bool false))), [2, 3], none⟩,
      ⟨some 4, .mv (.t 36), [4, 3, 0, 1, 2, 3, 4], none⟩])
    .ret)
    .skip))
  (.seq (.reg [
    ⟨some 37, .ld 3 true (.t 5), [], none⟩,
    ⟨some 7, .box (.c (.agg [(.val (.int .i64 0)), (.val (.slice none 0 0)), (.val (.slice none 0 0))])), [], none⟩,
    ⟨none, .st 3 (.t 7) (.t 37), [1, 0, 0, 1], none⟩])
  (.seq (.reg [
    ⟨some 8, .mv (.c (.val (.int .i64 0))), [], none⟩])
  (.seq (.seq (.reg [
    ⟨some 38, .fa 2 (.t 2), [], none⟩,
    ⟨some 39, .ld 1 false (.t 38), [0], none⟩,
    ⟨some 40, .len (.t 39), [1], none⟩,
    ⟨some 41, .mv (.c (.val (.int .i64 0))), [], none⟩])
  (.block 0
    (.loop
      (.seq (.reg [
        ⟨some 42, .bin .lss (.t 41) (.t 40), [], none⟩])
      (.seq (.cond (.t 42)
        .skip
        (.exit 0))
      (.seq (.block 1
        (.seq (.reg [
          ⟨some 43, .ia 2 (.t 39) (.t 41), [], none⟩,
          ⟨some 44, .ld 2 true (.t 43), [0], none⟩,
          ⟨some 10, .box (.c (.agg [(.val (.int .i64 0)), (.val (.slice none 0 0))])), [], none⟩,
          ⟨none, .st 2 (.t 10) (.t 44), [2, 1, 0, 1, 2], none⟩])
        (.seq (.seq (.reg [
          ⟨some 45, .fa 0 (.t 10), [], none⟩,
          ⟨some 46, .ld 1 false (.t 45), [0], none⟩,
          ⟨some 47, .mv (.t 1), [], none⟩,
          ⟨some 48, .bin .leq (.t 46) (.t 47), [1, 2], none⟩])
        (.cond (.t 48)
          (.seq (.reg [
            ⟨some 49, .mv (.t 8), [], none⟩,
            ⟨some 50, .fa 1 (.t 10), [], none⟩,
            ⟨some 51, .ld 1 false (.t 50), [1], none⟩,
            ⟨some 52, .len (.t 51), [2], none⟩,
            ⟨some 53, .bin .add (.t 49) (.t 52), [0, 3], none⟩,
            ⟨some 8, .mv (.t 53), [4, 0, 1, 2, 3, 4], none⟩])
          (.exit 1))
          .skip))
        (.seq (.reg [
          ⟨some 55, .ld 3 true (.t 7), [], none⟩,
          ⟨some 56, .fa 0 (.t 10), [], none⟩,
          ⟨some 57, .ld 1 false (.t 56), [1], none⟩,
          ⟨some 58, .fa 1 (.t 10), [], none⟩,
          ⟨some 59, .ld 1 false (.t 58), [3], none⟩,
          ⟨some 60, .call 22 [(.t 55), (.t 57), (.t 59)], [0, 2, 4], none⟩,
          ⟨some 54, .mv (.t 60), [5], none⟩,
          ⟨some 61, .ext (.t 54) 0, [6], none⟩,
          ⟨some 62, .ext (.t 54) 1, [6], none⟩,
          ⟨some 11, .box (.c (.agg [(.val (.int .i64 0)), (.val (.slice none 0 0)), (.val (.slice none 0 0))])), [], none⟩,
          ⟨none, .st 3 (.t 11) (.t 61), [9, 7, 5, 0, 1, 2, 3, 4, 5, 6, 7, 9], none⟩,
          ⟨some 12, .mv (.t 62), [8, 10, 0, 1, 2, 3, 4, 5, 6, 7, 8, 9, 10], none⟩])
        (.seq (.seq (.reg [
          ⟨some 63, .mv (.t 12), [], none⟩,
          ⟨some 64, .bin .neq (.t 63) (.c (.val (.int .i64 0))), [0], none⟩])
        (.cond (.t 64)
          (.seq (.reg [
            ⟨some 4, .mv (.c (.val (.bool false))), [], none⟩])
          .ret)
          .skip))
        (.reg [
          ⟨some 65, .ld 3 true (.t 11), [], none⟩,
          ⟨none, .st 3 (.t 7) (.t 65), [0, 0], none⟩]))))))
      (.reg [
        ⟨some 66, .bin .add (.t 41) (.c (.val (.int .i64 1))), [], none⟩,
        ⟨some 41, .mv (.t 66), [0], none⟩])))))))
  (.seq (.reg [
    ⟨some 68, .ld 3 true (.t 5), [], none⟩,
    ⟨some 69, .call 24 [(.t 68), (.c (.val (.int .i64 1099511627776)))], [0], none⟩,
    ⟨some 67, .mv (.t 69), [1], none⟩,
    ⟨some 70, .ext (.t 67) 0, [2], none⟩,
    ⟨some 71, .ext (.t 67) 1, [2], none⟩,
    ⟨some 13, .box (.c (.agg [(.val (.int .i64 0)), (.val (.slice none 0 0)), (.val (.slice none 0 0))])), [], none⟩,
    ⟨none, .st 3 (.t 13) (.t 70), [5, 3, 1, 0, 1, 2, 3, 5], none⟩,
    ⟨some 14, .mv (.t 71), [4, 6, 0, 1, 2, 3, 4, 5, 6], none⟩])
  (.seq (.reg [
    ⟨some 72, .call 11 [], [], none⟩,
    ⟨some 73, .mv (.t 72), [0, 0], none⟩,
    ⟨some 74, .mv (.t 14), [1], some (73, true)⟩,
    ⟨some 75, .bin .eql (.t 74) (.c (.val (.int .i64 0))), [2, 1], some (73, true)⟩,
    ⟨some 76, .pick (.t 73) (.t 75) (.c (.val (.bool false))), [1, 3], none⟩,
    ⟨some 77, .mv (.t 76), [4, 1], none⟩,
    ⟨some 78, .ld 3 true (.t 5), [5], some (77, true)⟩,
    ⟨some 79, .call 15 [(.t 78)], [6, 5, 5], some (77, true)⟩,
    ⟨some 80, .len (.t 79), [7, 5], some (77, true)⟩,
    ⟨some 81, .mv (.t 8), [5], some (77, true)⟩,
    ⟨some 82, .bin .eql (.t 80) (.t 81), [8, 9, 5], some (77, true)⟩,
    ⟨some 83, .pick (.t 77) (.t 82) (.c (.val (.bool false))), [5, 10], none⟩,
    ⟨some 84, .mv (.t 83), [11, 7], none⟩,
    ⟨some 85, .fa 1 (.t 13), [12], some (84, true)⟩,
    ⟨some 86, .ld 1 false (.t 85), [13, 12], some (84, true)⟩,
    ⟨some 87, .len (.t 86), [14, 12], some (84, true)⟩,
    ⟨some 88, .fa 1 (.t 2), [12], some (84, true)⟩,
    ⟨some 89, .ld 1 false (.t 88), [16, 12], some (84, true)⟩,
    ⟨some 90, .len (.t 89), [17, 12], some (84, true)⟩,
    ⟨some 91, .mv (.t 8), [12], some (84, true)⟩,
    ⟨some 92, .bin .add (.t 90) (.t 91), [18, 19, 12], some (84, true)⟩,
    ⟨some 93, .bin .eql (.t 87) (.t 92), [15, 20, 12], some (84, true)⟩,
    ⟨some 94, .pick (.t 84) (.t 93) (.c (.val (.bool false))), [12, 21], none⟩,
    ⟨some 95, .mv (.t 94), [22, 12], none⟩,
    ⟨some 96, .ld 3 true (.t 7), [23], some (95, true)⟩,
    ⟨some 97, .ld 3 true (.t 2), [23], some (95, true)⟩,
    ⟨some 98, .call 19 [(.t 96), (.t 97)], [24, 25, 23, 23], some (95, true)⟩,
    ⟨some 99, .pick (.t 95) (.t 98) (.c (.val (.bool false))), [23, 26], none⟩,
    ⟨some 4, .mv (.t 99), [27, 26, 0, 1, 2, 3, 4, 5, 6, 7, 8, 9, 10, 11, 12, 13, 14, 15, 16, 17, 18, 19, 20, 21, 22, 23, 24, 25, 26, 27], none⟩])
  .ret)))))))))
theorem Tryp7 : (Try.f7.body.map (prep Try.prog 100)) = some Tryc7 := by kernel_rfl

/- tidegate/tidegatelaw51.SinkCollects -/
def Tryc8 : ACode :=
  (.seq (.reg [
    ⟨some 4, .mv (.c (.val (.bool false))), [], none⟩])
  (.seq (.seq (.reg [
    ⟨some 16, .mv (.t 0), [], none⟩,
    ⟨some 17, .len (.t 16), [0], none⟩,
    ⟨some 18, .mv (.t 1), [], none⟩,
    ⟨some 19, .len (.t 18), [2], none⟩,
    ⟨some 20, .bin .neq (.t 17) (.t 19), [1, 3], none⟩,
    ⟨some 21, .mv (.t 20), [4], none⟩,
    ⟨some 22, .mv (.t 1), [5], some (21, false)⟩,
    ⟨some 23, .call 21 [(.t 22)], [6, 5, 5], some (21, false)⟩,
    ⟨some 24, .un .not (.t 23), [7, 5], some (21, false)⟩,
    ⟨some 25, .pick (.t 21) (.c (.val (.bool true))) (.t 24), [5, 8], none⟩])
  (.cond (.t 25)
    (.seq (.reg [
      ⟨some 26, .call 11 [], [], none⟩,
      ⟨some 4, .mv (.t 26), [0, 0, 0], none⟩])
    .ret)
    .skip))
  (.seq (.reg [
    ⟨some 27, .call 20 [], [], none⟩,
    ⟨some 5, .box (.c (.agg [(.val (.int .i64 0)), (.val (.slice none 0 0)), (.val (.slice none 0 0))])), [], none⟩,
    ⟨none, .st 3 (.t 5) (.t 27), [1, 0, 0, 0, 1], none⟩])
  (.seq (.reg [
    ⟨some 6, .mv (.c (.val (.slice none 0 0))), [], none⟩])
  (.seq (.seq (.reg [
    ⟨some 28, .mv (.t 1), [], none⟩,
    ⟨some 29, .len (.t 28), [0], none⟩,
    ⟨some 30, .mv (.c (.val (.int .i64 0))), [], none⟩])
  (.block 0
    (.loop
      (.seq (.reg [
        ⟨some 31, .bin .lss (.t 30) (.t 29), [], none⟩])
      (.seq (.cond (.t 31)
        .skip
        (.exit 0))
      (.seq (.block 1
        (.seq (.reg [
          ⟨some 32, .mv (.t 30), [], none⟩,
          ⟨some 33, .ia 3 (.t 28) (.t 30), [], none⟩,
          ⟨some 34, .ld 3 true (.t 33), [1], none⟩,
          ⟨some 8, .box (.c (.agg [(.val (.int .i64 0)), (.val (.int .i64 0)), (.val (.slice none 0 0))])), [], none⟩,
          ⟨some 7, .mv (.t 32), [0, 0, 1, 2, 3], none⟩,
          ⟨none, .st 3 (.t 8) (.t 34), [3, 2, 4, 0, 1, 2, 3, 4], none⟩])
        (.seq (.draw [
          ⟨some 36, .ld 3 true (.t 5), [], none⟩,
          ⟨some 37, .mv (.t 0), [], none⟩,
          ⟨some 38, .mv (.t 7), [], none⟩,
          ⟨some 39, .ia 1 (.t 37) (.t 38), [1, 2], none⟩,
          ⟨some 40, .ld 1 false (.t 39), [3], none⟩,
          ⟨some 41, .bin .rem (.t 40) (.c (.val (.int .u8 5))), [4], none⟩,
          ⟨some 42, .cvi .i64 (.t 41), [5], none⟩,
          ⟨some 43, .bin .add (.c (.val (.int .i64 1))) (.t 42), [6], none⟩,
          ⟨some 44, .ld 3 true (.t 8), [], none⟩,
          ⟨some 45, .bslice 3 [(.t 44)], [8], none⟩,
          ⟨some 46, .call 22 [(.t 36), (.t 43), (.t 45)], [0, 7, 9], none⟩,
          ⟨some 35, .mv (.t 46), [10], none⟩,
          ⟨some 47, .ext (.t 35) 0, [11], none⟩,
          ⟨some 48, .ext (.t 35) 1, [11], none⟩,
          ⟨some 9, .box (.c (.agg [(.val (.int .i64 0)), (.val (.slice none 0 0)), (.val (.slice none 0 0))])), [], none⟩,
          ⟨none, .st 3 (.t 9) (.t 47), [14, 12, 10, 0, 1, 2, 3, 4, 5, 6, 7, 8, 9, 10, 11, 12, 14], none⟩,
          ⟨some 10, .mv (.t 48), [13, 15, 0, 1, 2, 3, 4, 5, 6, 7, 8, 9, 10, 11, 12, 13, 14, 15], none⟩])
        (.seq (.seq (.reg [
          ⟨some 49, .mv (.t 10), [], none⟩,
          ⟨some 50, .bin .neq (.t 49) (.c (.val (.int .i64 0))), [0], none⟩])
        (.cond (.t 50)
          (.seq (.reg [
            ⟨some 51, .fa 0 (.t 8), [], none⟩,
            ⟨some 52, .ld 1 false (.t 51), [0], none⟩,
            ⟨some 53, .bin .neq (.t 52) (.c (.val (.int .i64 1))), [1], none⟩,
            ⟨some 54, .mv (.t 53), [2], none⟩,
            ⟨some 55, .fa 0 (.t 8), [3], some (54, true)⟩,
            ⟨some 56, .ld 1 false (.t 55), [4, 3], some (54, true)⟩,
            ⟨some 57, .bin .neq (.t 56) (.c (.val (.int .i64 (-1)))), [5, 3], some (54, true)⟩,
            ⟨some 58, .pick (.t 54) (.t 57) (.c (.val (.bool false))), [3, 6], none⟩,
            ⟨some 59, .mv (.t 58), [7, 3], none⟩,
            ⟨some 60, .mv (.t 10), [8], some (59, true)⟩,
            ⟨some 61, .bin .eql (.t 60) (.c (.val (.int .i64 1))), [9, 8], some (59, true)⟩,
            ⟨some 62, .pick (.t 59) (.t 61) (.c (.val (.bool false))), [8, 10], none⟩,
            ⟨some 63, .mv (.t 62), [11, 8], none⟩,
            ⟨some 64, .mv (.t 10), [12], some (63, false)⟩,
            ⟨some 65, .bin .eql (.t 64) (.c (.val (.int .i64 2))), [13, 12], some (63, false)⟩,
            ⟨some 66, .pick (.t 63) (.c (.val (.bool true))) (.t 65), [12, 14], none⟩,
            ⟨some 67, .mv (.t 66), [15, 12], none⟩,
            ⟨some 68, .call 11 [], [16, 16], some (67, true)⟩,
            ⟨some 69, .pick (.t 67) (.t 68) (.c (.val (.bool false))), [16, 17], none⟩,
            ⟨some 4, .mv (.t 69), [18, 17, 0, 1, 2, 3, 4, 5, 6, 7, 8, 9, 10, 11, 12, 13, 14, 15, 16, 17, 18], none⟩])
          .ret)
          .skip))
        (.reg [
          ⟨some 70, .ld 3 true (.t 9), [], none⟩,
          ⟨none, .st 3 (.t 5) (.t 70), [0, 0], none⟩])))))
      (.reg [
        ⟨some 71, .bin .add (.t 30) (.c (.val (.int .i64 1))), [], none⟩,
        ⟨some 30, .mv (.t 71), [0], none⟩])))))))
  (.seq (.seq (.reg [
    ⟨some 72, .mv (.c (.val (.int .i64 0))), [], none⟩])
  (.block 2
    (.loop
      (.seq (.reg [
        ⟨some 73, .bin .lss (.t 72) (.c (.val (.int .i64 5))), [], none⟩])
      (.seq (.cond (.t 73)
        .skip
        (.exit 2))
      (.seq (.block 3
        (.seq (.reg [
          ⟨some 74, .mv (.t 72), [], none⟩,
          ⟨some 11, .mv (.t 74), [0, 0], none⟩])
        (.seq (.reg [
          ⟨some 75, .mv (.t 1), [], none⟩,
          ⟨some 76, .len (.t 75), [0], none⟩,
          ⟨some 77, .mv (.c (.val (.int .i64 0))), [], none⟩])
        (.block 4
          (.loop
            (.seq (.reg [
              ⟨some 78, .bin .lss (.t 77) (.t 76), [], none⟩])
            (.seq (.cond (.t 78)
              .skip
              (.exit 4))
            (.seq (.block 5
              (.seq (.reg [
                ⟨some 79, .mv (.t 77), [], none⟩,
                ⟨some 80, .ia 3 (.t 75) (.t 77), [], none⟩,
                ⟨some 81, .ld 3 true (.t 80), [1], none⟩,
                ⟨some 13, .box (.c (.agg [(.val (.int .i64 0)), (.val (.int .i64 0)), (.val (.slice none 0 0))])), [], none⟩,
                ⟨some 12, .mv (.t 79), [0, 0, 1, 2, 3], none⟩,
                ⟨none, .st 3 (.t 13) (.t 81), [3, 2, 4, 0, 1, 2, 3, 4], none⟩])
              (.seq (.reg [
                ⟨some 82, .mv (.t 0), [], none⟩,
                ⟨some 83, .mv (.t 12), [], none⟩,
                ⟨some 84, .ia 1 (.t 82) (.t 83), [0, 1], none⟩,
                ⟨some 85, .ld 1 false (.t 84), [2], none⟩,
                ⟨some 86, .bin .rem (.t 85) (.c (.val (.int .u8 5))), [3], none⟩,
                ⟨some 87, .cvi .i64 (.t 86), [4], none⟩,
                ⟨some 88, .mv (.t 11), [], none⟩,
                ⟨some 89, .bin .eql (.t 87) (.t 88), [5, 6], none⟩])
              (.cond (.t 89)
                (.reg [
                  ⟨some 90, .mv (.t 6), [], none⟩,
                  ⟨some 91, .ld 3 true (.t 13), [], none⟩,
                  ⟨some 92, .bslice 3 [(.t 91)], [1], none⟩,
                  ⟨some 93, .app 3 40 (.t 90) (.t 92), [0, 2], none⟩,
                  ⟨some 6, .mv (.t 93), [3, 3, 0, 1, 2, 3], none⟩])
                .skip))))
            (.reg [
              ⟨some 94, .bin .add (.t 77) (.c (.val (.int .i64 1))), [], none⟩,
              ⟨some 77, .mv (.t 94), [0], none⟩])))))))))
      (.reg [
        ⟨some 95, .bin .add (.t 72) (.c (.val (.int .i64 1))), [], none⟩,
        ⟨some 72, .mv (.t 95), [0], none⟩])))))))
  (.seq (.seq (.reg [
    ⟨some 96, .ld 3 true (.t 5), [], none⟩,
    ⟨some 97, .call 15 [(.t 96)], [0], none⟩,
    ⟨some 98, .mv (.t 6), [], none⟩,
    ⟨some 99, .call 14 [(.t 97), (.t 98)], [1, 2, 1], none⟩,
    ⟨some 100, .un .not (.t 99), [3], none⟩,
    ⟨some 101, .mv (.t 100), [4, 3], none⟩,
    ⟨some 102, .ld 3 true (.t 5), [5], some (101, false)⟩,
    ⟨some 103, .call 12 [(.t 102)], [6, 5, 5], some (101, false)⟩,
    ⟨some 104, .bin .neq (.t 103) (.c (.val (.int .i64 0))), [7, 5], some (101, false)⟩,
    ⟨some 105, .pick (.t 101) (.c (.val (.bool true))) (.t 104), [5, 8], none⟩])
  (.cond (.t 105)
    (.seq (.reg [
      ⟨some 4, .mv (.c (.val (.bool false))), [], none⟩])
    .ret)
    .skip))
  (.seq (.reg [
    ⟨some 107, .ld 3 true (.t 5), [], none⟩,
    ⟨some 108, .call 24 [(.t 107), (.c (.val (.int .i64 5)))], [0], none⟩,
    ⟨some 106, .mv (.t 108), [1], none⟩,
    ⟨some 109, .ext (.t 106) 0, [2], none⟩,
    ⟨some 110, .ext (.t 106) 1, [2], none⟩,
    ⟨some 14, .box (.c (.agg [(.val (.int .i64 0)), (.val (.slice none 0 0)), (.val (.slice none 0 0))])), [], none⟩,
    ⟨none, .st 3 (.t 14) (.t 109), [5, 3, 1, 0, 1, 2, 3, 5], none⟩,
    ⟨some 15, .mv (.t 110), [4, 6, 0, 1, 2, 3, 4, 5, 6], none⟩])
  (.seq (.reg [
    ⟨some 111, .call 11 [], [], none⟩,
    ⟨some 112, .mv (.t 111), [0, 0], none⟩,
    ⟨some 113, .mv (.t 15), [1], some (112, true)⟩,
    ⟨some 114, .bin .eql (.t 113) (.c (.val (.int .i64 0))), [2, 1], some (112, true)⟩,
    ⟨some 115, .pick (.t 112) (.t 114) (.c (.val (.bool false))), [1, 3], none⟩,
    ⟨some 116, .mv (.t 115), [4, 1], none⟩,
    ⟨some 117, .fa 1 (.t 14), [5], some (116, true)⟩,
    ⟨some 118, .ld 1 false (.t 117), [6, 5], some (116, true)⟩,
    ⟨some 119, .mv (.t 6), [5], some (116, true)⟩,
    ⟨some 120, .call 14 [(.t 118), (.t 119)], [7, 8, 5, 5], some (116, true)⟩,
    ⟨some 121, .pick (.t 116) (.t 120) (.c (.val (.bool false))), [5, 9], none⟩,
    ⟨some 122, .mv (.t 121), [10, 9], none⟩,
    ⟨some 123, .fa 2 (.t 14), [11], some (122, true)⟩,
    ⟨some 124, .ld 1 false (.t 123), [12, 11], some (122, true)⟩,
    ⟨some 125, .len (.t 124), [13, 11], some (122, true)⟩,
    ⟨some 126, .bin .eql (.t 125) (.c (.val (.int .i64 0))), [14, 11], some (122, true)⟩,
    ⟨some 127, .pick (.t 122) (.t 126) (.c (.val (.bool false))), [11, 15], none⟩,
    ⟨some 4, .mv (.t 127), [16, 11, 0, 1, 2, 3, 4, 5, 6, 7, 8, 9, 10, 11, 12, 13, 14, 15, 16], none⟩])
  .ret)))))))))
theorem Tryp8 : (Try.f8.body.map (prep Try.prog 128)) = some Tryc8 := by kernel_rfl

/- tidegate/tidegatelaw51.SinkSteps -/
def Tryc9 : ACode :=
  (.seq (.reg [
    ⟨some 2, .box (.t 0), [], none⟩,
    ⟨some 4, .mv (.c (.val (.bool false))), [], none⟩])
  (.seq (.seq (.reg [
    ⟨some 14, .ld 3 true (.t 2), [], none⟩,
    ⟨some 15, .call 10 [(.t 14)], [0], none⟩,
    ⟨some 16, .un .not (.t 15), [1], none⟩,
    ⟨some 17, .mv (.t 16), [2, 1], none⟩,
    ⟨some 18, .ld 3 true (.t 2), [3], some (17, false)⟩,
    ⟨some 19, .call 12 [(.t 18)], [4, 3, 3], some (17, false)⟩,
    ⟨some 20, .bin .neq (.t 19) (.c (.val (.int .i64 0))), [5, 3], some (17, false)⟩,
    ⟨some 21, .pick (.t 17) (.c (.val (.bool true))) (.t 20), [3, 6], none⟩,
    ⟨some 22, .mv (.t 21), [7, 5], none⟩,
    ⟨some 23, .mv (.t 1), [8], some (22, false)⟩,
    ⟨some 24, .len (.t 23), [9, 8], some (22, false)⟩,
    ⟨some 25, .bin .gtr (.t 24) (.c (.val (.int .i64 8))), [10, 8], some (22, false)⟩,
    ⟨some 26, .pick (.t 22) (.c (.val (.bool true))) (.t 25), [8, 11], none⟩])
  (.cond (.t 26)
    (.seq (.reg [
      ⟨some 27, .call 11 [], [], none⟩,
      ⟨some 4, .mv (.t 27), [0, 0, 0], none⟩])
    .ret)
    .skip))
  (.seq (.reg [
    ⟨some 28, .mv (.t 1), [], none⟩,
    ⟨some 29, .call 29 [(.t 28)], [0], none⟩,
    ⟨some 5, .mv (.t 29), [1, 1, 0, 1], none⟩])
  (.seq (.reg [
    ⟨some 30, .mv (.t 5), [], none⟩,
    ⟨some 31, .call 30 [(.t 30)], [0], none⟩])
  (.seq (.reg [
    ⟨some 32, .ld 3 true (.t 2), [], none⟩,
    ⟨some 6, .box (.c (.agg [(.val (.int .i64 0)), (.val (.slice none 0 0)), (.val (.slice none 0 0))])), [], none⟩,
    ⟨none, .st 3 (.t 6) (.t 32), [1, 0, 0, 1], none⟩,
    ⟨some 7, .mv (.c (.val (.int .i64 0))), [2, 0, 1, 2], none⟩])
  (.seq (.seq (.reg [
    ⟨some 33, .mv (.t 5), [], none⟩,
    ⟨some 34, .len (.t 33), [0], none⟩,
    ⟨some 35, .mv (.c (.val (.int .i64 0))), [], none⟩])
  (.block 0
    (.loop
      (.seq (.reg [
        ⟨some 36, .bin .lss (.t 35) (.t 34), [], none⟩])
      (.seq (.cond (.t 36)
        .skip
        (.exit 0))
      (.seq (.block 1
        (.seq (.reg [
          ⟨some 37, .ia 1 (.t 33) (.t 35), [], none⟩,
          ⟨some 38, .ld 1 false (.t 37), [0], none⟩,
          ⟨some 9, .mv (.t 38), [1, 0, 1], none⟩])
        (.seq (.reg [
          ⟨some 40, .ld 3 true (.t 6), [], none⟩,
          ⟨some 41, .mv (.t 9), [], none⟩,
          ⟨some 42, .call 24 [(.t 40), (.t 41)], [0, 1], none⟩,
          ⟨some 39, .mv (.t 42), [2], none⟩,
          ⟨some 43, .ext (.t 39) 0, [3], none⟩,
          ⟨some 44, .ext (.t 39) 1, [3], none⟩,
          ⟨some 10, .box (.c (.agg [(.val (.int .i64 0)), (.val (.slice none 0 0)), (.val (.slice none 0 0))])), [], none⟩,
          ⟨none, .st 3 (.t 10) (.t 43), [6, 4, 2, 0, 1, 2, 3, 4, 6], none⟩,
          ⟨some 11, .mv (.t 44), [5, 7, 0, 1, 2, 3, 4, 5, 6, 7], none⟩])
        (.seq (.seq (.reg [
          ⟨some 45, .mv (.t 11), [], none⟩,
          ⟨some 46, .bin .neq (.t 45) (.c (.val (.int .i64 0))), [0], none⟩])
        (.cond (.t 46)
          (.seq (.reg [
            ⟨some 47, .mv (.t 9), [], none⟩,
            ⟨some 48, .bin .lss (.t 47) (.c (.val (.int .i64 0))), [0], none⟩,
            ⟨some 49, .mv (.t 48), [1], none⟩,
            ⟨some 50, .mv (.t 9), [2], some (49, false)⟩,
            ⟨some 51, .bin .gtr (.t 50) (.c (.val (.int .i64 1099511627776))), [3, 2], some (49, false)⟩,
            ⟨some 52, .pick (.t 49) (.c (.val (.bool true))) (.t 51), [2, 4], none⟩,
            ⟨some 53, .mv (.t 52), [5, 2], none⟩,
            ⟨some 54, .call 11 [], [6, 6], some (53, true)⟩,
            ⟨some 55, .pick (.t 53) (.t 54) (.c (.val (.bool false))), [6, 7], none⟩,
            ⟨some 4, .mv (.t 55), [8, 7, 0, 1, 2, 3, 4, 5, 6, 7, 8], none⟩])
          .ret)
          .skip))
        (.seq (.seq (.draw [
          ⟨some 56, .ld 3 true (.t 10), [], none⟩,
          ⟨some 57, .call 17 [(.t 56)], [0], none⟩,
          ⟨some 58, .ld 3 true (.t 2), [], none⟩,
          ⟨some 59, .call 17 [(.t 58)], [2, 1], none⟩,
          ⟨some 60, .call 14 [(.t 57), (.t 59)], [1, 3, 3], none⟩,
          ⟨some 61, .un .not (.t 60), [4], none⟩])
        (.cond (.t 61)
          (.seq (.reg [
            ⟨some 4, .mv (.c (.val (.bool false))), [], none⟩])
          .ret)
          .skip))
        (.reg [
          ⟨some 62, .ld 3 true (.t 10), [], none⟩,
          ⟨some 63, .mv (.t 9), [], none⟩,
          ⟨none, .st 3 (.t 6) (.t 62), [0, 0], none⟩,
          ⟨some 7, .mv (.t 63), [1, 2, 0, 1, 2], none⟩]))))))
      (.reg [
        ⟨some 64, .bin .add (.t 35) (.c (.val (.int .i64 1))), [], none⟩,
        ⟨some 35, .mv (.t 64), [0], none⟩])))))))
  (.seq (.reg [
    ⟨some 66, .ld 3 true (.t 2), [], none⟩,
    ⟨some 67, .mv (.t 7), [], none⟩,
    ⟨some 68, .call 24 [(.t 66), (.t 67)], [0, 1], none⟩,
    ⟨some 65, .mv (.t 68), [2], none⟩,
    ⟨some 69, .ext (.t 65) 0, [3], none⟩,
    ⟨some 70, .ext (.t 65) 1, [3], none⟩,
    ⟨some 12, .box (.c (.agg [(.val (.int .i64 0)), (.val (.slice none 0 0)), (.val (.slice none 0 0))])), [], none⟩,
    ⟨none, .st 3 (.t 12) (.t 69), [6, 4, 2, 0, 1, 2, 3, 4, 6], none⟩,
    ⟨some 13, .mv (.t 70), [5, 7, 0, 1, 2, 3, 4, 5, 6, 7], none⟩])
  (.seq (.reg [
    ⟨some 71, .call 11 [], [], none⟩,
    ⟨some 72, .mv (.t 71), [0, 0], none⟩,
    ⟨some 73, .mv (.t 13), [1], some (72, true)⟩,
    ⟨some 74, .bin .eql (.t 73) (.c (.val (.int .i64 0))), [2, 1], some (72, true)⟩,
    ⟨some 75, .pick (.t 72) (.t 74) (.c (.val (.bool false))), [1, 3], none⟩,
    ⟨some 76, .mv (.t 75), [4, 1], none⟩,
    ⟨some 77, .ld 3 true (.t 6), [5], some (76, true)⟩,
    ⟨some 78, .ld 3 true (.t 12), [5], some (76, true)⟩,
    ⟨some 79, .call 19 [(.t 77), (.t 78)], [6, 7, 5, 5], some (76, true)⟩,
    ⟨some 80, .pick (.t 76) (.t 79) (.c (.val (.bool false))), [5, 8], none⟩,
    ⟨some 4, .mv (.t 80), [9, 8, 0, 1, 2, 3, 4, 5, 6, 7, 8, 9], none⟩])
  .ret))))))))
theorem Tryp9 : (Try.f9.body.map (prep Try.prog 81)) = some Tryc9 := by kernel_rfl

/- tidegate/tidegateref51.Few -/
def Tryc10 : ACode :=
  (.seq (.reg [
    ⟨some 1, .box (.t 0), [], none⟩,
    ⟨some 2, .mv (.c (.val (.bool false))), [], none⟩])
  (.seq (.seq (.reg [
    ⟨some 3, .mv (.c (.val (.int .i64 0))), [], none⟩])
  (.block 0
    (.loop
      (.seq (.seq (.reg [
        ⟨some 4, .mv (.t 3), [], none⟩,
        ⟨some 5, .fa 2 (.t 1), [], none⟩,
        ⟨some 6, .ld 1 false (.t 5), [1], none⟩,
        ⟨some 7, .len (.t 6), [2], none⟩,
        ⟨some 8, .bin .lss (.t 4) (.t 7), [0, 3], none⟩,
        ⟨some 9, .mv (.t 8), [4], none⟩,
        ⟨some 10, .mv (.t 3), [5], some (9, true)⟩,
        ⟨some 11, .bin .lss (.t 10) (.c (.val (.int .i64 300))), [6, 5], some (9, true)⟩,
        ⟨some 12, .pick (.t 9) (.t 11) (.c (.val (.bool false))), [5, 7], none⟩])
      (.cond (.t 12)
        .skip
        (.exit 0)))
      (.seq (.block 1
        (.seq (.reg [
          ⟨some 15, .fa 2 (.t 1), [], none⟩,
          ⟨some 16, .ld 1 false (.t 15), [0], none⟩,
          ⟨some 17, .mv (.t 3), [], none⟩,
          ⟨some 18, .ia 2 (.t 16) (.t 17), [1, 2], none⟩,
          ⟨some 19, .fa 1 (.t 18), [3], none⟩,
          ⟨some 20, .ld 1 false (.t 19), [4], none⟩,
          ⟨some 21, .call 21 [(.t 20)], [5], none⟩,
          ⟨some 22, .un .not (.t 21), [6], none⟩])
        (.cond (.t 22)
          (.seq (.reg [
            ⟨some 2, .mv (.c (.val (.bool false))), [], none⟩])
          .ret)
          .skip)))
      (.reg [
        ⟨some 13, .mv (.t 3), [], none⟩,
        ⟨some 14, .bin .add (.t 13) (.c (.val (.int .i64 1))), [0], none⟩,
        ⟨some 3, .mv (.t 14), [1, 0, 1], none⟩]))))))
  (.seq (.reg [
    ⟨some 23, .fa 2 (.t 1), [], none⟩,
    ⟨some 24, .ld 1 false (.t 23), [0], none⟩,
    ⟨some 25, .len (.t 24), [1], none⟩,
    ⟨some 26, .bin .leq (.t 25) (.c (.val (.int .i64 300))), [2], none⟩,
    ⟨some 27, .mv (.t 26), [3], none⟩,
    ⟨some 28, .fa 1 (.t 1), [4], some (27, true)⟩,
    ⟨some 29, .ld 1 false (.t 28), [5, 4], some (27, true)⟩,
    ⟨some 30, .call 21 [(.t 29)], [6, 4, 4], some (27, true)⟩,
    ⟨some 31, .mv (.t 30), [7, 7, 4], some (27, true)⟩,
    ⟨some 32, .fa 1 (.t 1), [8], some (31, false)⟩,
    ⟨some 33, .ld 1 false (.t 32), [9, 8], some (31, false)⟩,
    ⟨some 34, .len (.t 33), [10, 8], some (31, false)⟩,
    ⟨some 35, .bin .gtr (.t 34) (.c (.val (.int .i64 4096))), [11, 8], some (31, false)⟩,
    ⟨some 36, .mv (.t 35), [12, 8, 8], some (31, false)⟩,
    ⟨some 37, .fa 1 (.t 1), [13], some (36, true)⟩,
    ⟨some 38, .ld 1 false (.t 37), [14, 13], some (36, true)⟩,
    ⟨some 39, .len (.t 38), [15, 13], some (36, true)⟩,
    ⟨some 40, .bin .leq (.t 39) (.c (.val (.int .i64 4098))), [16, 13], some (36, true)⟩,
    ⟨some 41, .pick (.t 36) (.t 40) (.c (.val (.bool false))), [13, 17, 8], some (31, false)⟩,
    ⟨some 42, .pick (.t 31) (.c (.val (.bool true))) (.t 41), [8, 18, 4], some (27, true)⟩,
    ⟨some 43, .pick (.t 27) (.t 42) (.c (.val (.bool false))), [4, 19], none⟩,
    ⟨some 2, .mv (.t 43), [20, 13, 0, 1, 2, 3, 4, 5, 6, 7, 8, 9, 10, 11, 12, 13, 14, 15, 16, 17, 18, 19, 20], none⟩])
  .ret)))
theorem Tryp10 : (Try.f10.body.map (prep Try.prog 44)) = some Tryc10 := by kernel_rfl

/- tidegate/tidegatelaw51.awake -/
def Tryc11 : ACode :=
  (.seq (.reg [
    ⟨some 0, .mv (.c (.val (.bool false))), [], none⟩])
  (.seq (.reg [
    ⟨some 12, .call 31 [(.c (.val (.int .i64 1)))], [], none⟩,
    ⟨some 13, .call 31 [(.c (.val (.int .i64 2)))], [0], none⟩,
    ⟨some 14, .call 31 [(.c (.val (.int .i64 3)))], [1], none⟩,
    ⟨some 15, .call 31 [(.c (.val (.int .i64 4)))], [2], none⟩,
    ⟨some 1, .box (.c (.agg [(.val (.int .i64 0)), (.val (.int .i64 0)), (.val (.slice none 0 0))])), [], none⟩,
    ⟨some 2, .box (.c (.agg [(.val (.int .i64 0)), (.val (.int .i64 0)), (.val (.slice none 0 0))])), [], none⟩,
    ⟨some 3, .box (.c (.agg [(.val (.int .i64 0)), (.val (.int .i64 0)), (.val (.slice none 0 0))])), [], none⟩,
    ⟨some 4, .box (.c (.agg [(.val (.int .i64 0)), (.val (.int .i64 0)), (.val (.slice none 0 0))])), [], none⟩,
    ⟨none, .st 3 (.t 1) (.t 12), [4, 0, 3, 0, 4, 5, 6, 7], none⟩,
    ⟨none, .st 3 (.t 2) (.t 13), [5, 1, 8, 0, 1, 4, 5, 6, 7, 8], none⟩,
    ⟨none, .st 3 (.t 3) (.t 14), [6, 2, 9, 0, 1, 2, 4, 5, 6, 7, 8, 9], none⟩,
    ⟨none, .st 3 (.t 4) (.t 15), [7, 3, 10, 0, 1, 2, 3, 4, 5, 6, 7, 8, 9, 10], none⟩])
  (.seq (.draw [
    ⟨some 17, .call 20 [], [], none⟩,
    ⟨some 18, .ld 3 true (.t 1), [], none⟩,
    ⟨some 19, .ld 3 true (.t 2), [], none⟩,
    ⟨some 20, .bslice 3 [(.t 18), (.t 19)], [1, 2], none⟩,
    ⟨some 21, .call 22 [(.t 17), (.c (.val (.int .i64 1))), (.t 20)], [0, 3, 0], none⟩,
    ⟨some 16, .mv (.t 21), [4], none⟩,
    ⟨some 22, .ext (.t 16) 0, [5], none⟩,
    ⟨some 23, .ext (.t 16) 1, [5], none⟩,
    ⟨some 5, .box (.c (.agg [(.val (.int .i64 0)), (.val (.slice none 0 0)), (.val (.slice none 0 0))])), [], none⟩,
    ⟨none, .st 3 (.t 5) (.t 22), [8, 6, 4, 0, 1, 2, 3, 4, 5, 6, 8], none⟩,
    ⟨some 6, .mv (.t 23), [7, 9, 0, 1, 2, 3, 4, 5, 6, 7, 8, 9], none⟩])
  (.seq (.reg [
    ⟨some 25, .ld 3 true (.t 5), [], none⟩,
    ⟨some 26, .ld 3 true (.t 3), [], none⟩,
    ⟨some 27, .bslice 3 [(.t 26)], [1], none⟩,
    ⟨some 28, .call 22 [(.t 25), (.c (.val (.int .i64 3))), (.t 27)], [0, 2], none⟩,
    ⟨some 24, .mv (.t 28), [3], none⟩,
    ⟨some 29, .ext (.t 24) 0, [4], none⟩,
    ⟨some 30, .ext (.t 24) 1, [4], none⟩,
    ⟨none, .st 3 (.t 5) (.t 29), [5, 3, 0, 1, 2, 3, 4, 5], none⟩,
    ⟨some 7, .mv (.t 30), [6, 7, 0, 1, 2, 3, 4, 5, 6, 7], none⟩])
  (.seq (.reg [
    ⟨some 32, .ld 3 true (.t 5), [], none⟩,
    ⟨some 33, .ld 3 true (.t 4), [], none⟩,
    ⟨some 34, .bslice 3 [(.t 33)], [1], none⟩,
    ⟨some 35, .call 22 [(.t 32), (.c (.val (.int .i64 1))), (.t 34)], [0, 2], none⟩,
    ⟨some 31, .mv (.t 35), [3], none⟩,
    ⟨some 36, .ext (.t 31) 0, [4], none⟩,
    ⟨some 37, .ext (.t 31) 1, [4], none⟩,
    ⟨none, .st 3 (.t 5) (.t 36), [5, 3, 0, 1, 2, 3, 4, 5], none⟩,
    ⟨some 8, .mv (.t 37), [6, 7, 0, 1, 2, 3, 4, 5, 6, 7], none⟩])
  (.seq (.reg [
    ⟨some 39, .ld 3 true (.t 5), [], none⟩,
    ⟨some 40, .call 24 [(.t 39), (.c (.val (.int .i64 2)))], [0], none⟩,
    ⟨some 38, .mv (.t 40), [1], none⟩,
    ⟨some 41, .ext (.t 38) 0, [2], none⟩,
    ⟨some 42, .ext (.t 38) 1, [2], none⟩,
    ⟨none, .st 3 (.t 5) (.t 41), [3, 1, 0, 1, 2, 3], none⟩,
    ⟨some 9, .mv (.t 42), [4, 5, 0, 1, 2, 3, 4, 5], none⟩])
  (.seq (.seq (.draw [
    ⟨some 43, .mv (.t 6), [], none⟩,
    ⟨some 44, .mv (.t 7), [], none⟩,
    ⟨some 45, .bin .add (.t 43) (.t 44), [0, 1], none⟩,
    ⟨some 46, .mv (.t 8), [], none⟩,
    ⟨some 47, .bin .add (.t 45) (.t 46), [2, 3], none⟩,
    ⟨some 48, .mv (.t 9), [], none⟩,
    ⟨some 49, .bin .add (.t 47) (.t 48), [4, 5], none⟩,
    ⟨some 50, .bin .neq (.t 49) (.c (.val (.int .i64 0))), [6], none⟩,
    ⟨some 51, .mv (.t 50), [7], none⟩,
    ⟨some 52, .fa 0 (.t 5), [8], some (51, false)⟩,
    ⟨some 53, .ld 1 false (.t 52), [9, 8], some (51, false)⟩,
    ⟨some 54, .bin .neq (.t 53) (.c (.val (.int .i64 2))), [10, 8], some (51, false)⟩,
    ⟨some 55, .pick (.t 51) (.c (.val (.bool true))) (.t 54), [8, 11], none⟩,
    ⟨some 56, .mv (.t 55), [12, 8], none⟩,
    ⟨some 57, .fa 1 (.t 5), [13], some (56, false)⟩,
    ⟨some 58, .ld 1 false (.t 57), [14, 13], some (56, false)⟩,
    ⟨some 59, .ld 3 true (.t 1), [13], some (56, false)⟩,
    ⟨some 60, .ld 3 true (.t 2), [13], some (56, false)⟩,
    ⟨some 61, .ld 3 true (.t 4), [13], some (56, false)⟩,
    ⟨some 62, .bslice 3 [(.t 59), (.t 60), (.t 61)], [16, 17, 18, 13], some (56, false)⟩,
    ⟨some 63, .call 14 [(.t 58), (.t 62)], [15, 19, 13, 13], some (56, false)⟩,
    ⟨some 64, .un .not (.t 63), [20, 13], some (56, false)⟩,
    ⟨some 65, .pick (.t 56) (.c (.val (.bool true))) (.t 64), [13, 21], none⟩,
    ⟨some 66, .mv (.t 65), [22, 20], none⟩,
    ⟨some 67, .ld 3 true (.t 5), [23], some (66, false)⟩,
    ⟨some 68, .call 15 [(.t 67)], [24, 23, 23], some (66, false)⟩,
    ⟨some 69, .ld 3 true (.t 3), [23], some (66, false)⟩,
    ⟨some 70, .bslice 3 [(.t 69)], [26, 23], some (66, false)⟩,
    ⟨some 71, .call 14 [(.t 68), (.t 70)], [25, 27, 25, 23], some (66, false)⟩,
    ⟨some 72, .un .not (.t 71), [28, 23], some (66, false)⟩,
    ⟨some 73, .pick (.t 66) (.c (.val (.bool true))) (.t 72), [23, 29], none⟩])
  (.cond (.t 73)
    (.seq (.reg [
      ⟨some 0, .mv (.c (.val (.bool false))), [], none⟩])
    .ret)
    .skip))
  (.seq (.reg [
    ⟨some 75, .ld 3 true (.t 5), [], none⟩,
    ⟨some 76, .ld 3 true (.t 1), [], none⟩,
    ⟨some 77, .bslice 3 [(.t 76)], [1], none⟩,
    ⟨some 78, .call 22 [(.t 75), (.c (.val (.int .i64 2))), (.t 77)], [0, 2], none⟩,
    ⟨some 74, .mv (.t 78), [3], none⟩,
    ⟨some 79, .ext (.t 74) 0, [4], none⟩,
    ⟨some 80, .ext (.t 74) 1, [4], none⟩,
    ⟨some 6, .mv (.t 80), [6, 3, 0, 1, 2, 3, 4, 5, 6], none⟩])
  (.seq (.reg [
    ⟨some 82, .ld 3 true (.t 5), [], none⟩,
    ⟨some 83, .call 26 [(.t 82), (.c (.val (.int .i64 2)))], [0], none⟩,
    ⟨some 81, .mv (.t 83), [1], none⟩,
    ⟨some 84, .ext (.t 81) 0, [2], none⟩,
    ⟨some 85, .ext (.t 81) 1, [2], none⟩,
    ⟨some 10, .box (.c (.agg [(.val (.int .i64 0)), (.val (.slice none 0 0)), (.val (.slice none 0 0))])), [], none⟩,
    ⟨none, .st 3 (.t 10) (.t 84), [5, 3, 1, 0, 1, 2, 3, 5], none⟩,
    ⟨some 7, .mv (.t 85), [4, 6, 0, 1, 2, 3, 4, 5, 6], none⟩])
  (.seq (.reg [
    ⟨some 87, .ld 3 true (.t 10), [], none⟩,
    ⟨some 88, .call 24 [(.t 87), (.c (.val (.int .i64 1)))], [0], none⟩,
    ⟨some 86, .mv (.t 88), [1], none⟩,
    ⟨some 89, .ext (.t 86) 0, [2], none⟩,
    ⟨some 90, .ext (.t 86) 1, [2], none⟩,
    ⟨some 11, .box (.c (.agg [(.val (.int .i64 0)), (.val (.slice none 0 0)), (.val (.slice none 0 0))])), [], none⟩,
    ⟨none, .st 3 (.t 11) (.t 89), [5, 3, 1, 0, 1, 2, 3, 5], none⟩,
    ⟨some 8, .mv (.t 90), [4, 6, 0, 1, 2, 3, 4, 5, 6], none⟩])
  (.seq (.reg [
    ⟨some 91, .mv (.t 6), [], none⟩,
    ⟨some 92, .bin .eql (.t 91) (.c (.val (.int .i64 29))), [0], none⟩,
    ⟨some 93, .mv (.t 92), [1], none⟩,
    ⟨some 94, .mv (.t 7), [2], some (93, true)⟩,
    ⟨some 95, .mv (.t 8), [2], some (93, true)⟩,
    ⟨some 96, .bin .add (.t 94) (.t 95), [3, 4, 2], some (93, true)⟩,
    ⟨some 97, .bin .eql (.t 96) (.c (.val (.int .i64 0))), [5, 2], some (93, true)⟩,
    ⟨some 98, .pick (.t 93) (.t 97) (.c (.val (.bool false))), [2, 6], none⟩,
    ⟨some 99, .mv (.t 98), [7, 2], none⟩,
    ⟨some 100, .ld 3 true (.t 10), [8], some (99, true)⟩,
    ⟨some 101, .call 15 [(.t 100)], [9, 8, 8], some (99, true)⟩,
    ⟨some 102, .len (.t 101), [10, 8], some (99, true)⟩,
    ⟨some 103, .bin .eql (.t 102) (.c (.val (.int .i64 0))), [11, 8], some (99, true)⟩,
    ⟨some 104, .pick (.t 99) (.t 103) (.c (.val (.bool false))), [8, 12], none⟩,
    ⟨some 105, .mv (.t 104), [13, 10], none⟩,
    ⟨some 106, .ld 3 true (.t 10), [14], some (105, true)⟩,
    ⟨some 107, .call 17 [(.t 106)], [15, 14, 14], some (105, true)⟩,
    ⟨some 108, .len (.t 107), [16, 14], some (105, true)⟩,
    ⟨some 109, .bin .eql (.t 108) (.c (.val (.int .i64 3))), [17, 14], some (105, true)⟩,
    ⟨some 110, .pick (.t 105) (.t 109) (.c (.val (.bool false))), [14, 18], none⟩,
    ⟨some 111, .mv (.t 110), [19, 16], none⟩,
    ⟨some 112, .ld 3 true (.t 10), [20], some (111, true)⟩,
    ⟨some 113, .ld 3 true (.t 11), [20], some (111, true)⟩,
    ⟨some 114, .call 19 [(.t 112), (.t 113)], [21, 22, 20, 20], some (111, true)⟩,
    ⟨some 115, .pick (.t 111) (.t 114) (.c (.val (.bool false))), [20, 23], none⟩,
    ⟨some 0, .mv (.t 115), [24, 23, 0, 1, 2, 3, 4, 5, 6, 7, 8, 9, 10, 11, 12, 13, 14, 15, 16, 17, 18, 19, 20, 21, 22, 23, 24], none⟩])
  .ret)))))))))))
theorem Tryp11 : (Try.f11.body.map (prep Try.prog 116)) = some Tryc11 := by kernel_rfl

/- tidegate/sink.Check -/
def Tryc12 : ACode :=
  (.seq (.reg [
    ⟨some 1, .box (.t 0), [], none⟩,
    ⟨some 2, .mv (.c (.val (.int .i64 0))), [], none⟩])
  (.seq (.block 0
    (.seq (.reg [
      ⟨some 8, .fa 0 (.t 1), [], none⟩,
      ⟨some 9, .ld 1 false (.t 8), [0], none⟩,
      ⟨some 10, .bin .lss (.t 9) (.c (.val (.int .i64 0))), [1], none⟩,
      ⟨some 11, .mv (.t 10), [2], none⟩,
      ⟨some 12, .fa 0 (.t 1), [3], some (11, false)⟩,
      ⟨some 13, .ld 1 false (.t 12), [4, 3], some (11, false)⟩,
      ⟨some 14, .bin .gtr (.t 13) (.c (.val (.int .i64 1099511627776))), [5, 3], some (11, false)⟩,
      ⟨some 15, .pick (.t 11) (.c (.val (.bool true))) (.t 14), [3, 6], none⟩,
      ⟨some 7, .mv (.t 15), [7, 3], none⟩])
    (.cond (.t 7)
      (.seq (.reg [
        ⟨some 2, .mv (.c (.val (.int .i64 2))), [], none⟩])
      .ret)
      (.seq (.reg [
        ⟨some 17, .fa 2 (.t 1), [], none⟩,
        ⟨some 18, .ld 1 false (.t 17), [0], none⟩,
        ⟨some 19, .len (.t 18), [1], none⟩,
        ⟨some 20, .bin .gtr (.t 19) (.c (.val (.int .i64 256))), [2], none⟩,
        ⟨some 16, .mv (.t 20), [3], none⟩])
      (.cond (.t 16)
        (.seq (.reg [
          ⟨some 2, .mv (.c (.val (.int .i64 5))), [], none⟩])
        .ret)
        .skip)))))
  (.seq (.seq (.reg [
    ⟨some 21, .fa 1 (.t 1), [], none⟩,
    ⟨some 22, .ld 1 false (.t 21), [0], none⟩,
    ⟨some 23, .call 32 [(.t 22)], [1], none⟩,
    ⟨some 3, .mv (.t 23), [2, 2, 0, 1, 2], none⟩])
  (.seq (.reg [
    ⟨some 24, .mv (.t 3), [], none⟩,
    ⟨some 25, .bin .neq (.t 24) (.c (.val (.int .i64 0))), [0], none⟩])
  (.cond (.t 25)
    (.seq (.reg [
      ⟨some 26, .mv (.t 3), [], none⟩,
      ⟨some 2, .mv (.t 26), [0, 0], none⟩])
    .ret)
    .skip)))
  (.seq (.seq (.reg [
    ⟨some 27, .fa 2 (.t 1), [], none⟩,
    ⟨some 28, .ld 1 false (.t 27), [0], none⟩,
    ⟨some 29, .len (.t 28), [1], none⟩,
    ⟨some 30, .mv (.c (.val (.int .i64 0))), [], none⟩])
  (.block 1
    (.loop
      (.seq (.reg [
        ⟨some 31, .bin .lss (.t 30) (.t 29), [], none⟩])
      (.seq (.cond (.t 31)
        .skip
        (.exit 1))
      (.seq (.block 2
        (.seq (.reg [
          ⟨some 32, .mv (.t 30), [], none⟩,
          ⟨some 33, .ia 2 (.t 28) (.t 30), [], none⟩,
          ⟨some 34, .ld 2 true (.t 33), [1], none⟩,
          ⟨some 5, .box (.c (.agg [(.val (.int .i64 0)), (.val (.slice none 0 0))])), [], none⟩,
          ⟨some 4, .mv (.t 32), [0, 0, 1, 2, 3], none⟩,
          ⟨none, .st 2 (.t 5) (.t 34), [3, 2, 4, 0, 1, 2, 3, 4], none⟩])
        (.seq (.block 3
          (.seq (.reg [
            ⟨some 36, .fa 0 (.t 5), [], none⟩,
            ⟨some 37, .ld 1 false (.t 36), [0], none⟩,
            ⟨some 38, .bin .gtr (.t 37) (.c (.val (.int .i64 1099511627776))), [1], none⟩,
            ⟨some 39, .mv (.t 38), [2], none⟩,
            ⟨some 40, .fa 0 (.t 5), [3], some (39, false)⟩,
            ⟨some 41, .ld 1 false (.t 40), [4, 3], some (39, false)⟩,
            ⟨some 42, .fa 0 (.t 1), [3], some (39, false)⟩,
            ⟨some 43, .ld 1 false (.t 42), [6, 3], some (39, false)⟩,
            ⟨some 44, .bin .leq (.t 41) (.t 43), [5, 7, 3], some (39, false)⟩,
            ⟨some 45, .pick (.t 39) (.c (.val (.bool true))) (.t 44), [3, 8], none⟩,
            ⟨some 35, .mv (.t 45), [9, 3], none⟩])
          (.cond (.t 35)
            (.seq (.reg [
              ⟨some 2, .mv (.c (.val (.int .i64 29))), [], none⟩])
            .ret)
            (.seq (.draw [
              ⟨some 47, .mv (.t 4), [], none⟩,
              ⟨some 48, .bin .gtr (.t 47) (.c (.val (.int .i64 0))), [0], none⟩,
              ⟨some 49, .mv (.t 48), [1], none⟩,
              ⟨some 50, .fa 0 (.t 5), [2], some (49, true)⟩,
              ⟨some 51, .ld 1 false (.t 50), [3, 2], some (49, true)⟩,
              ⟨some 52, .fa 2 (.t 1), [2], some (49, true)⟩,
              ⟨some 53, .ld 1 false (.t 52), [5, 2], some (49, true)⟩,
              ⟨some 54, .mv (.t 4), [2], some (49, true)⟩,
              ⟨some 55, .bin .sub (.t 54) (.c (.val (.int .i64 1))), [7, 2], some (49, true)⟩,
              ⟨some 56, .ia 2 (.t 53) (.t 55), [6, 8, 2], some (49, true)⟩,
              ⟨some 57, .fa 0 (.t 56), [9, 2], some (49, true)⟩,
              ⟨some 58, .ld 1 false (.t 57), [10, 2], some (49, true)⟩,
              ⟨some 59, .bin .leq (.t 51) (.t 58), [4, 11, 2], some (49, true)⟩,
              ⟨some 60, .pick (.t 49) (.t 59) (.c (.val (.bool false))), [2, 12], none⟩,
              ⟨some 46, .mv (.t 60), [13, 2], none⟩])
            (.cond (.t 46)
              (.seq (.reg [
                ⟨some 2, .mv (.c (.val (.int .i64 14))), [], none⟩])
              .ret)
              (.seq (.reg [
                ⟨some 62, .fa 1 (.t 5), [], none⟩,
                ⟨some 63, .ld 1 false (.t 62), [0], none⟩,
                ⟨some 64, .len (.t 63), [1], none⟩,
                ⟨some 65, .bin .eql (.t 64) (.c (.val (.int .i64 0))), [2], none⟩,
                ⟨some 61, .mv (.t 65), [3], none⟩])
              (.cond (.t 61)
                (.seq (.reg [
                  ⟨some 2, .mv (.c (.val (.int .i64 3))), [], none⟩])
                .ret)
                .skip)))))))
        (.seq (.reg [
          ⟨some 66, .fa 1 (.t 5), [], none⟩,
          ⟨some 67, .ld 1 false (.t 66), [0], none⟩,
          ⟨some 68, .call 32 [(.t 67)], [1], none⟩,
          ⟨some 6, .mv (.t 68), [2, 2, 0, 1, 2], none⟩])
        (.seq (.reg [
          ⟨some 69, .mv (.t 6), [], none⟩,
          ⟨some 70, .bin .neq (.t 69) (.c (.val (.int .i64 0))), [0], none⟩])
        (.cond (.t 70)
          (.seq (.reg [
            ⟨some 71, .mv (.t 6), [], none⟩,
            ⟨some 2, .mv (.t 71), [0, 0], none⟩])
          .ret)
          .skip))))))
      (.reg [
        ⟨some 72, .bin .add (.t 30) (.c (.val (.int .i64 1))), [], none⟩,
        ⟨some 30, .mv (.t 72), [0], none⟩])))))))
  (.seq (.seq (.reg [
    ⟨some 73, .ld 3 true (.t 1), [], none⟩,
    ⟨some 74, .call 33 [(.t 73)], [0], none⟩,
    ⟨some 75, .bin .gtr (.t 74) (.c (.val (.int .i64 4096))), [1], none⟩])
  (.cond (.t 75)
    (.seq (.reg [
      ⟨some 2, .mv (.c (.val (.int .i64 27))), [], none⟩])
    .ret)
    .skip))
  (.seq (.reg [
    ⟨some 2, .mv (.c (.val (.int .i64 0))), [], none⟩])
  .ret))))))
theorem Tryp12 : (Try.f12.body.map (prep Try.prog 76)) = some Tryc12 := by kernel_rfl

/- tidegate/tidegateref51.Check -/
def Tryc13 : ACode :=
  (.seq (.reg [
    ⟨some 1, .box (.t 0), [], none⟩,
    ⟨some 2, .mv (.c (.val (.int .i64 0))), [], none⟩])
  (.seq (.seq (.reg [
    ⟨some 6, .fa 0 (.t 1), [], none⟩,
    ⟨some 7, .ld 1 false (.t 6), [0], none⟩,
    ⟨some 8, .bin .lss (.t 7) (.c (.val (.int .i64 0))), [1], none⟩,
    ⟨some 9, .mv (.t 8), [2], none⟩,
    ⟨some 10, .fa 0 (.t 1), [3], some (9, false)⟩,
    ⟨some 11, .ld 1 false (.t 10), [4, 3], some (9, false)⟩,
    ⟨some 12, .bin .gtr (.t 11) (.c (.val (.int .i64 1099511627776))), [5, 3], some (9, false)⟩,
    ⟨some 13, .pick (.t 9) (.c (.val (.bool true))) (.t 12), [3, 6], none⟩])
  (.cond (.t 13)
    (.seq (.reg [
      ⟨some 2, .mv (.c (.val (.int .i64 2))), [], none⟩])
    .ret)
    .skip))
  (.seq (.seq (.reg [
    ⟨some 14, .fa 2 (.t 1), [], none⟩,
    ⟨some 15, .ld 1 false (.t 14), [0], none⟩,
    ⟨some 16, .len (.t 15), [1], none⟩,
    ⟨some 17, .bin .gtr (.t 16) (.c (.val (.int .i64 256))), [2], none⟩])
  (.cond (.t 17)
    (.seq (.reg [
      ⟨some 2, .mv (.c (.val (.int .i64 5))), [], none⟩])
    .ret)
    .skip))
  (.seq (.seq (.reg [
    ⟨some 18, .fa 1 (.t 1), [], none⟩,
    ⟨some 19, .ld 1 false (.t 18), [0], none⟩,
    ⟨some 20, .call 34 [(.t 19)], [1], none⟩,
    ⟨some 3, .mv (.t 20), [2, 2, 0, 1, 2], none⟩])
  (.seq (.reg [
    ⟨some 21, .mv (.t 3), [], none⟩,
    ⟨some 22, .bin .neq (.t 21) (.c (.val (.int .i64 0))), [0], none⟩])
  (.cond (.t 22)
    (.seq (.reg [
      ⟨some 23, .mv (.t 3), [], none⟩,
      ⟨some 2, .mv (.t 23), [0, 0], none⟩])
    .ret)
    .skip)))
  (.seq (.seq (.reg [
    ⟨some 4, .mv (.c (.val (.int .i64 0))), [], none⟩])
  (.block 0
    (.loop
      (.seq (.seq (.reg [
        ⟨some 24, .mv (.t 4), [], none⟩,
        ⟨some 25, .fa 2 (.t 1), [], none⟩,
        ⟨some 26, .ld 1 false (.t 25), [1], none⟩,
        ⟨some 27, .len (.t 26), [2], none⟩,
        ⟨some 28, .bin .lss (.t 24) (.t 27), [0, 3], none⟩])
      (.cond (.t 28)
        .skip
        (.exit 0)))
      (.seq (.block 1
        (.seq (.reg [
          ⟨some 31, .ld 3 true (.t 1), [], none⟩,
          ⟨some 32, .mv (.t 4), [], none⟩,
          ⟨some 33, .call 35 [(.t 31), (.t 32)], [0, 1], none⟩,
          ⟨some 5, .mv (.t 33), [2, 2, 0, 1, 2], none⟩])
        (.seq (.reg [
          ⟨some 34, .mv (.t 5), [], none⟩,
          ⟨some 35, .bin .neq (.t 34) (.c (.val (.int .i64 0))), [0], none⟩])
        (.cond (.t 35)
          (.seq (.reg [
            ⟨some 36, .mv (.t 5), [], none⟩,
            ⟨some 2, .mv (.t 36), [0, 0], none⟩])
          .ret)
          .skip))))
      (.reg [
        ⟨some 29, .mv (.t 4), [], none⟩,
        ⟨some 30, .bin .add (.t 29) (.c (.val (.int .i64 1))), [0], none⟩,
        ⟨some 4, .mv (.t 30), [1, 0, 1], none⟩]))))))
  (.seq (.seq (.reg [
    ⟨some 37, .ld 3 true (.t 1), [], none⟩,
    ⟨some 38, .call 36 [(.t 37)], [0], none⟩,
    ⟨some 39, .bin .gtr (.t 38) (.c (.val (.int .i64 4096))), [1], none⟩])
  (.cond (.t 39)
    (.seq (.reg [
      ⟨some 2, .mv (.c (.val (.int .i64 27))), [], none⟩])
    .ret)
    .skip))
  (.seq (.reg [
    ⟨some 2, .mv (.c (.val (.int .i64 0))), [], none⟩])
  .ret)))))))
theorem Tryp13 : (Try.f13.body.map (prep Try.prog 40)) = some Tryc13 := by kernel_rfl

/- tidegate/tidegateref51.SameChanges -/
def Tryc14 : ACode :=
  (.seq (.reg [
    ⟨some 4, .mv (.c (.val (.bool false))), [], none⟩])
  (.seq (.seq (.reg [
    ⟨some 6, .mv (.t 0), [], none⟩,
    ⟨some 7, .len (.t 6), [0], none⟩,
    ⟨some 8, .mv (.t 1), [], none⟩,
    ⟨some 9, .len (.t 8), [2], none⟩,
    ⟨some 10, .bin .neq (.t 7) (.t 9), [1, 3], none⟩])
  (.cond (.t 10)
    (.seq (.reg [
      ⟨some 4, .mv (.c (.val (.bool false))), [], none⟩])
    .ret)
    .skip))
  (.seq (.seq (.reg [
    ⟨some 5, .mv (.c (.val (.int .i64 0))), [], none⟩])
  (.block 0
    (.loop
      (.seq (.seq (.reg [
        ⟨some 11, .mv (.t 5), [], none⟩,
        ⟨some 12, .mv (.t 0), [], none⟩,
        ⟨some 13, .len (.t 12), [1], none⟩,
        ⟨some 14, .bin .lss (.t 11) (.t 13), [0, 2], none⟩])
      (.cond (.t 14)
        .skip
        (.exit 0)))
      (.seq (.block 1
        (.seq (.draw [
          ⟨some 17, .mv (.t 0), [], none⟩,
          ⟨some 18, .mv (.t 5), [], none⟩,
          ⟨some 19, .ia 3 (.t 17) (.t 18), [0, 1], none⟩,
          ⟨some 20, .ld 3 true (.t 19), [2], none⟩,
          ⟨some 21, .mv (.t 1), [], none⟩,
          ⟨some 22, .mv (.t 5), [], none⟩,
          ⟨some 23, .ia 3 (.t 21) (.t 22), [4, 5], none⟩,
          ⟨some 24, .ld 3 true (.t 23), [6], none⟩,
          ⟨some 25, .call 37 [(.t 20), (.t 24)], [3, 7], none⟩,
          ⟨some 26, .un .not (.t 25), [8], none⟩])
        (.cond (.t 26)
          (.seq (.reg [
            ⟨some 4, .mv (.c (.val (.bool false))), [], none⟩])
          .ret)
          .skip)))
      (.reg [
        ⟨some 15, .mv (.t 5), [], none⟩,
        ⟨some 16, .bin .add (.t 15) (.c (.val (.int .i64 1))), [0], none⟩,
        ⟨some 5, .mv (.t 16), [1, 0, 1], none⟩]))))))
  (.seq (.reg [
    ⟨some 4, .mv (.c (.val (.bool true))), [], none⟩])
  .ret))))
theorem Tryp14 : (Try.f14.body.map (prep Try.prog 27)) = some Tryc14 := by kernel_rfl

/- tidegate/sink.Pending -/
def Tryc15 : ACode :=
  (.seq (.reg [
    ⟨some 1, .box (.t 0), [], none⟩,
    ⟨some 2, .mv (.c (.val (.slice none 0 0))), [], none⟩])
  (.seq (.reg [
    ⟨some 3, .fa 2 (.t 1), [], none⟩,
    ⟨some 4, .ld 1 false (.t 3), [0], none⟩,
    ⟨some 5, .call 39 [(.t 4)], [1], none⟩,
    ⟨some 6, .call 38 [(.t 5)], [2, 2], none⟩,
    ⟨some 2, .mv (.t 6), [3, 3, 0, 1, 2, 3], none⟩])
  .ret))
theorem Tryp15 : (Try.f15.body.map (prep Try.prog 7)) = some Tryc15 := by kernel_rfl

/- tidegate/tidegateref51.Pending -/
def Tryc16 : ACode :=
  (.seq (.reg [
    ⟨some 1, .box (.t 0), [], none⟩,
    ⟨some 2, .mv (.c (.val (.slice none 0 0))), [], none⟩])
  (.seq (.reg [
    ⟨some 3, .mv (.c (.val (.slice none 0 0))), [], none⟩])
  (.seq (.seq (.reg [
    ⟨some 4, .mv (.c (.val (.int .i64 0))), [], none⟩])
  (.block 0
    (.loop
      (.seq (.seq (.reg [
        ⟨some 5, .mv (.t 4), [], none⟩,
        ⟨some 6, .fa 2 (.t 1), [], none⟩,
        ⟨some 7, .ld 1 false (.t 6), [1], none⟩,
        ⟨some 8, .len (.t 7), [2], none⟩,
        ⟨some 9, .bin .lss (.t 5) (.t 8), [0, 3], none⟩])
      (.cond (.t 9)
        .skip
        (.exit 0)))
      (.seq (.block 1
        (.reg [
          ⟨some 12, .mv (.t 3), [], none⟩,
          ⟨some 13, .fa 2 (.t 1), [], none⟩,
          ⟨some 14, .ld 1 false (.t 13), [1], none⟩,
          ⟨some 15, .mv (.t 4), [], none⟩,
          ⟨some 16, .ia 2 (.t 14) (.t 15), [2, 3], none⟩,
          ⟨some 17, .fa 1 (.t 16), [4], none⟩,
          ⟨some 18, .ld 1 false (.t 17), [5], none⟩,
          ⟨some 19, .call 40 [(.t 12), (.t 18)], [0, 6], none⟩,
          ⟨some 3, .mv (.t 19), [7, 7, 0, 1, 2, 3, 4, 5, 6, 7], none⟩]))
      (.reg [
        ⟨some 10, .mv (.t 4), [], none⟩,
        ⟨some 11, .bin .add (.t 10) (.c (.val (.int .i64 1))), [0], none⟩,
        ⟨some 4, .mv (.t 11), [1, 0, 1], none⟩]))))))
  (.seq (.reg [
    ⟨some 20, .mv (.t 3), [], none⟩,
    ⟨some 2, .mv (.t 20), [0, 0], none⟩])
  .ret))))
theorem Tryp16 : (Try.f16.body.map (prep Try.prog 21)) = some Tryc16 := by kernel_rfl

/- tidegate/sink.All -/
def Tryc17 : ACode :=
  (.seq (.reg [
    ⟨some 1, .box (.t 0), [], none⟩,
    ⟨some 2, .mv (.c (.val (.slice none 0 0))), [], none⟩])
  (.seq (.draw [
    ⟨some 3, .fa 1 (.t 1), [], none⟩,
    ⟨some 4, .ld 1 false (.t 3), [0], none⟩,
    ⟨some 5, .ld 3 true (.t 1), [], none⟩,
    ⟨some 6, .call 15 [(.t 5)], [2], none⟩,
    ⟨some 7, .bslice 1 [(.t 4), (.t 6)], [1, 3], none⟩,
    ⟨some 8, .call 41 [(.t 7)], [4, 3], none⟩,
    ⟨some 2, .mv (.t 8), [5, 5, 0, 1, 2, 3, 4, 5], none⟩])
  .ret))
theorem Tryp17 : (Try.f17.body.map (prep Try.prog 9)) = some Tryc17 := by kernel_rfl

/- tidegate/tidegateref51.All -/
def Tryc18 : ACode :=
  (.seq (.reg [
    ⟨some 1, .box (.t 0), [], none⟩,
    ⟨some 2, .mv (.c (.val (.slice none 0 0))), [], none⟩])
  (.seq (.draw [
    ⟨some 3, .fa 1 (.t 1), [], none⟩,
    ⟨some 4, .ld 1 false (.t 3), [0], none⟩,
    ⟨some 5, .ld 3 true (.t 1), [], none⟩,
    ⟨some 6, .call 16 [(.t 5)], [2], none⟩,
    ⟨some 7, .call 40 [(.t 4), (.t 6)], [1, 3, 3], none⟩,
    ⟨some 2, .mv (.t 7), [4, 4, 0, 1, 2, 3, 4], none⟩])
  .ret))
theorem Tryp18 : (Try.f18.body.map (prep Try.prog 8)) = some Tryc18 := by kernel_rfl

/- tidegate/tidegateref51.Same -/
def Tryc19 : ACode :=
  (.seq (.reg [
    ⟨some 2, .box (.t 0), [], none⟩,
    ⟨some 3, .box (.t 1), [], none⟩,
    ⟨some 4, .mv (.c (.val (.bool false))), [], none⟩])
  (.seq (.seq (.reg [
    ⟨some 6, .fa 0 (.t 2), [], none⟩,
    ⟨some 7, .ld 1 false (.t 6), [0], none⟩,
    ⟨some 8, .fa 0 (.t 3), [], none⟩,
    ⟨some 9, .ld 1 false (.t 8), [2], none⟩,
    ⟨some 10, .bin .neq (.t 7) (.t 9), [1, 3], none⟩,
    ⟨some 11, .mv (.t 10), [4], none⟩,
    ⟨some 12, .fa 2 (.t 2), [5], some (11, false)⟩,
    ⟨some 13, .ld 1 false (.t 12), [6, 5], some (11, false)⟩,
    ⟨some 14, .len (.t 13), [7, 5], some (11, false)⟩,
    ⟨some 15, .fa 2 (.t 3), [5], some (11, false)⟩,
    ⟨some 16, .ld 1 false (.t 15), [9, 5], some (11, false)⟩,
    ⟨some 17, .len (.t 16), [10, 5], some (11, false)⟩,
    ⟨some 18, .bin .neq (.t 14) (.t 17), [8, 11, 5], some (11, false)⟩,
    ⟨some 19, .pick (.t 11) (.c (.val (.bool true))) (.t 18), [5, 12], none⟩,
    ⟨some 20, .mv (.t 19), [13, 5], none⟩,
    ⟨some 21, .fa 1 (.t 2), [14], some (20, false)⟩,
    ⟨some 22, .ld 1 false (.t 21), [15, 14], some (20, false)⟩,
    ⟨some 23, .fa 1 (.t 3), [14], some (20, false)⟩,
    ⟨some 24, .ld 1 false (.t 23), [17, 14], some (20, false)⟩,
    ⟨some 25, .call 14 [(.t 22), (.t 24)], [16, 18, 14, 14], some (20, false)⟩,
    ⟨some 26, .un .not (.t 25), [19, 14], some (20, false)⟩,
    ⟨some 27, .pick (.t 20) (.c (.val (.bool true))) (.t 26), [14, 20], none⟩])
  (.cond (.t 27)
    (.seq (.reg [
      ⟨some 4, .mv (.c (.val (.bool false))), [], none⟩])
    .ret)
    .skip))
  (.seq (.seq (.reg [
    ⟨some 5, .mv (.c (.val (.int .i64 0))), [], none⟩])
  (.block 0
    (.loop
      (.seq (.seq (.reg [
        ⟨some 28, .mv (.t 5), [], none⟩,
        ⟨some 29, .fa 2 (.t 2), [], none⟩,
        ⟨some 30, .ld 1 false (.t 29), [1], none⟩,
        ⟨some 31, .len (.t 30), [2], none⟩,
        ⟨some 32, .bin .lss (.t 28) (.t 31), [0, 3], none⟩])
      (.cond (.t 32)
        .skip
        (.exit 0)))
      (.seq (.block 1
        (.seq (.draw [
          ⟨some 35, .fa 2 (.t 2), [], none⟩,
          ⟨some 36, .ld 1 false (.t 35), [0], none⟩,
          ⟨some 37, .mv (.t 5), [], none⟩,
          ⟨some 38, .ia 2 (.t 36) (.t 37), [1, 2], none⟩,
          ⟨some 39, .fa 0 (.t 38), [3], none⟩,
          ⟨some 40, .ld 1 false (.t 39), [4], none⟩,
          ⟨some 41, .fa 2 (.t 3), [], none⟩,
          ⟨some 42, .ld 1 false (.t 41), [6], none⟩,
          ⟨some 43, .mv (.t 5), [], none⟩,
          ⟨some 44, .ia 2 (.t 42) (.t 43), [7, 8], none⟩,
          ⟨some 45, .fa 0 (.t 44), [9], none⟩,
          ⟨some 46, .ld 1 false (.t 45), [10], none⟩,
          ⟨some 47, .bin .neq (.t 40) (.t 46), [5, 11], none⟩,
          ⟨some 48, .mv (.t 47), [12], none⟩,
          ⟨some 49, .fa 2 (.t 2), [13], some (48, false)⟩,
          ⟨some 50, .ld 1 false (.t 49), [14, 13], some (48, false)⟩,
          ⟨some 51, .mv (.t 5), [13], some (48, false)⟩,
          ⟨some 52, .ia 2 (.t 50) (.t 51), [15, 16, 13], some (48, false)⟩,
          ⟨some 53, .fa 1 (.t 52), [17, 13], some (48, false)⟩,
          ⟨some 54, .ld 1 false (.t 53), [18, 13], some (48, false)⟩,
          ⟨some 55, .fa 2 (.t 3), [13], some (48, false)⟩,
          ⟨some 56, .ld 1 false (.t 55), [20, 13], some (48, false)⟩,
          ⟨some 57, .mv (.t 5), [13], some (48, false)⟩,
          ⟨some 58, .ia 2 (.t 56) (.t 57), [21, 22, 13], some (48, false)⟩,
          ⟨some 59, .fa 1 (.t 58), [23, 13], some (48, false)⟩,
          ⟨some 60, .ld 1 false (.t 59), [24, 13], some (48, false)⟩,
          ⟨some 61, .call 14 [(.t 54), (.t 60)], [19, 25, 13, 13], some (48, false)⟩,
          ⟨some 62, .un .not (.t 61), [26, 13], some (48, false)⟩,
          ⟨some 63, .pick (.t 48) (.c (.val (.bool true))) (.t 62), [13, 27], none⟩])
        (.cond (.t 63)
          (.seq (.reg [
            ⟨some 4, .mv (.c (.val (.bool false))), [], none⟩])
          .ret)
          .skip)))
      (.reg [
        ⟨some 33, .mv (.t 5), [], none⟩,
        ⟨some 34, .bin .add (.t 33) (.c (.val (.int .i64 1))), [0], none⟩,
        ⟨some 5, .mv (.t 34), [1, 0, 1], none⟩]))))))
  (.seq (.reg [
    ⟨some 4, .mv (.c (.val (.bool true))), [], none⟩])
  .ret))))
theorem Tryp19 : (Try.f19.body.map (prep Try.prog 64)) = some Tryc19 := by kernel_rfl

/- tidegate/sink.Begin -/
def Tryc20 : ACode :=
  (.seq (.reg [
    ⟨some 0, .box (.c (.agg [(.val (.int .i64 0)), (.val (.slice none 0 0)), (.val (.slice none 0 0))])), [], none⟩])
  (.seq (.reg [
    ⟨some 1, .build [(.val (.int .i64 0)), (.val (.slice none 0 0)), (.val (.slice none 0 0))] [], [], none⟩,
    ⟨none, .st 3 (.t 0) (.t 1), [0, 0], none⟩])
  .ret))
theorem Tryp20 : (Try.f20.body.map (prep Try.prog 2)) = some Tryc20 := by kernel_rfl

/- tidegate/tidegateref51.FewChanges -/
def Tryc21 : ACode :=
  (.seq (.reg [
    ⟨some 2, .mv (.c (.val (.bool false))), [], none⟩])
  (.seq (.seq (.reg [
    ⟨some 3, .mv (.c (.val (.int .i64 0))), [], none⟩])
  (.block 0
    (.loop
      (.seq (.seq (.reg [
        ⟨some 4, .mv (.t 3), [], none⟩,
        ⟨some 5, .mv (.t 0), [], none⟩,
        ⟨some 6, .len (.t 5), [1], none⟩,
        ⟨some 7, .bin .lss (.t 4) (.t 6), [0, 2], none⟩,
        ⟨some 8, .mv (.t 7), [3], none⟩,
        ⟨some 9, .mv (.t 3), [4], some (8, true)⟩,
        ⟨some 10, .bin .lss (.t 9) (.c (.val (.int .i64 30))), [5, 4], some (8, true)⟩,
        ⟨some 11, .pick (.t 8) (.t 10) (.c (.val (.bool false))), [4, 6], none⟩])
      (.cond (.t 11)
        .skip
        (.exit 0)))
      (.seq (.block 1
        (.seq (.reg [
          ⟨some 14, .mv (.t 0), [], none⟩,
          ⟨some 15, .mv (.t 3), [], none⟩,
          ⟨some 16, .ia 3 (.t 14) (.t 15), [0, 1], none⟩,
          ⟨some 17, .fa 2 (.t 16), [2], none⟩,
          ⟨some 18, .fa 0 (.t 17), [3], none⟩,
          ⟨some 19, .ld 1 false (.t 18), [4], none⟩,
          ⟨some 20, .len (.t 19), [5], none⟩,
          ⟨some 21, .bin .gtr (.t 20) (.c (.val (.int .i64 20))), [6], none⟩])
        (.cond (.t 21)
          (.seq (.reg [
            ⟨some 2, .mv (.c (.val (.bool false))), [], none⟩])
          .ret)
          .skip)))
      (.reg [
        ⟨some 12, .mv (.t 3), [], none⟩,
        ⟨some 13, .bin .add (.t 12) (.c (.val (.int .i64 1))), [0], none⟩,
        ⟨some 3, .mv (.t 13), [1, 0, 1], none⟩]))))))
  (.seq (.reg [
    ⟨some 22, .mv (.t 0), [], none⟩,
    ⟨some 23, .len (.t 22), [0], none⟩,
    ⟨some 24, .bin .leq (.t 23) (.c (.val (.int .i64 30))), [1], none⟩,
    ⟨some 2, .mv (.t 24), [2, 0, 1, 2], none⟩])
  .ret)))
theorem Tryp21 : (Try.f21.body.map (prep Try.prog 25)) = some Tryc21 := by kernel_rfl

/- tidegate/sink.Add -/
def Tryc22 : ACode :=
  (.seq (.reg [
    ⟨some 3, .box (.t 0), [], none⟩,
    ⟨some 6, .box (.c (.agg [(.val (.int .i64 0)), (.val (.slice none 0 0)), (.val (.slice none 0 0))])), [], none⟩,
    ⟨some 7, .mv (.c (.val (.int .i64 0))), [], none⟩])
  (.seq (.seq (.reg [
    ⟨some 13, .ld 3 true (.t 3), [], none⟩,
    ⟨some 14, .call 12 [(.t 13)], [0], none⟩,
    ⟨some 8, .mv (.t 14), [1, 1, 0, 1], none⟩])
  (.seq (.reg [
    ⟨some 15, .mv (.t 8), [], none⟩,
    ⟨some 16, .bin .neq (.t 15) (.c (.val (.int .i64 0))), [0], none⟩])
  (.cond (.t 16)
    (.seq (.reg [
      ⟨some 17, .build [(.val (.int .i64 0)), (.val (.slice none 0 0)), (.val (.slice none 0 0))] [], [], none⟩,
      ⟨some 18, .mv (.t 8), [], none⟩,
      ⟨none, .st 3 (.t 6) (.t 17), [0, 0], none⟩,
      ⟨some 7, .mv (.t 18), [1, 2, 0, 1, 2], none⟩])
    .ret)
    .skip)))
  (.seq (.seq (.reg [
    ⟨some 19, .mv (.t 1), [], none⟩,
    ⟨some 20, .fa 0 (.t 3), [], none⟩,
    ⟨some 21, .ld 1 false (.t 20), [1], none⟩,
    ⟨some 22, .bin .leq (.t 19) (.t 21), [0, 2], none⟩,
    ⟨some 23, .mv (.t 22), [3], none⟩,
    ⟨some 24, .mv (.t 1), [4], some (23, false)⟩,
    ⟨some 25, .bin .gtr (.t 24) (.c (.val (.int .i64 1099511627776))), [5, 4], some (23, false)⟩,
    ⟨some 26, .pick (.t 23) (.c (.val (.bool true))) (.t 25), [4, 6], none⟩])
  (.cond (.t 26)
    (.seq (.reg [
      ⟨some 27, .build [(.val (.int .i64 0)), (.val (.slice none 0 0)), (.val (.slice none 0 0))] [], [], none⟩,
      ⟨none, .st 3 (.t 6) (.t 27), [0, 0], none⟩,
      ⟨some 7, .mv (.c (.val (.int .i64 29))), [1, 0, 1], none⟩])
    .ret)
    .skip))
  (.seq (.seq (.reg [
    ⟨some 28, .mv (.t 2), [], none⟩,
    ⟨some 29, .call 32 [(.t 28)], [0], none⟩,
    ⟨some 9, .mv (.t 29), [1, 1, 0, 1], none⟩])
  (.seq (.reg [
    ⟨some 30, .mv (.t 9), [], none⟩,
    ⟨some 31, .bin .neq (.t 30) (.c (.val (.int .i64 0))), [0], none⟩])
  (.cond (.t 31)
    (.seq (.reg [
      ⟨some 32, .build [(.val (.int .i64 0)), (.val (.slice none 0 0)), (.val (.slice none 0 0))] [], [], none⟩,
      ⟨some 33, .mv (.t 9), [], none⟩,
      ⟨none, .st 3 (.t 6) (.t 32), [0, 0], none⟩,
      ⟨some 7, .mv (.t 33), [1, 2, 0, 1, 2], none⟩])
    .ret)
    .skip)))
  (.seq (.reg [
    ⟨some 34, .ld 3 true (.t 3), [], none⟩,
    ⟨some 35, .call 42 [(.t 34)], [0], none⟩,
    ⟨some 10, .box (.c (.agg [(.val (.int .i64 0)), (.val (.slice none 0 0)), (.val (.slice none 0 0))])), [], none⟩,
    ⟨none, .st 3 (.t 10) (.t 35), [2, 1, 1, 0, 1, 2], none⟩])
  (.seq (.seq (.reg [
    ⟨some 36, .mv (.t 2), [], none⟩,
    ⟨some 37, .len (.t 36), [0], none⟩,
    ⟨some 38, .bin .eql (.t 37) (.c (.val (.int .i64 0))), [1], none⟩])
  (.cond (.t 38)
    (.seq (.reg [
      ⟨some 39, .ld 3 true (.t 10), [], none⟩,
      ⟨none, .st 3 (.t 6) (.t 39), [0, 0], none⟩,
      ⟨some 7, .mv (.c (.val (.int .i64 0))), [1, 0, 1], none⟩])
    .ret)
    .skip))
  (.seq (.reg [
    ⟨some 41, .fa 2 (.t 10), [], none⟩,
    ⟨some 42, .ld 1 false (.t 41), [0], none⟩,
    ⟨some 43, .mv (.t 1), [], none⟩,
    ⟨some 44, .call 43 [(.t 42), (.t 43)], [1, 2], none⟩,
    ⟨some 40, .mv (.t 44), [3], none⟩,
    ⟨some 45, .ext (.t 40) 0, [4], none⟩,
    ⟨some 46, .ext (.t 40) 1, [4], none⟩,
    ⟨some 11, .mv (.t 45), [5, 3, 0, 1, 2, 3, 4, 5], none⟩,
    ⟨some 12, .mv (.t 46), [6, 7, 0, 1, 2, 3, 4, 5, 6, 7], none⟩])
  (.seq (.seq (.reg [
    ⟨some 47, .mv (.t 12), [], none⟩,
    ⟨some 48, .un .not (.t 47), [0], none⟩])
  (.cond (.t 48)
    (.reg [
      ⟨some 49, .fa 2 (.t 10), [], none⟩,
      ⟨some 50, .ld 1 false (.t 49), [0], none⟩,
      ⟨some 51, .mv (.t 11), [], none⟩,
      ⟨some 52, .mv (.t 1), [], none⟩,
      ⟨some 53, .build [(.val (.int .i64 0)), (.val (.slice none 0 0))] [(0, 1, (.t 52))], [3], none⟩,
      ⟨some 54, .bslice 2 [(.t 53)], [4], none⟩,
      ⟨some 55, .call 44 [(.t 50), (.t 51), (.t 54)], [1, 2, 5], none⟩,
      ⟨some 56, .fa 2 (.t 10), [0, 1, 2, 3, 4, 5, 6], none⟩,
      ⟨none, .st 1 (.t 56) (.t 55), [7, 6, 6, 0, 1, 2, 3, 4, 5, 6], none⟩])
    .skip))
  (.seq (.draw [
    ⟨some 57, .fa 2 (.t 10), [], none⟩,
    ⟨some 58, .ld 1 false (.t 57), [0], none⟩,
    ⟨some 59, .mv (.t 11), [], none⟩,
    ⟨some 60, .fa 2 (.t 10), [], none⟩,
    ⟨some 61, .ld 1 false (.t 60), [3], none⟩,
    ⟨some 62, .mv (.t 11), [], none⟩,
    ⟨some 63, .ia 2 (.t 61) (.t 62), [4, 5], none⟩,
    ⟨some 64, .fa 1 (.t 63), [6], none⟩,
    ⟨some 65, .ld 1 false (.t 64), [7], none⟩,
    ⟨some 66, .mv (.t 2), [], none⟩,
    ⟨some 67, .app 3 40 (.t 65) (.t 66), [8, 9], none⟩,
    ⟨some 68, .ia 2 (.t 58) (.t 59), [1, 2, 0, 1, 2, 3, 4, 5, 6, 7, 8, 9, 10], none⟩,
    ⟨some 69, .fa 1 (.t 68), [11, 0, 1, 2, 3, 4, 5, 6, 7, 8, 9, 10], none⟩,
    ⟨none, .st 1 (.t 69) (.t 67), [12, 10, 10, 0, 1, 2, 3, 4, 5, 6, 7, 8, 9, 10], none⟩])
  (.seq (.block 0
    (.seq (.reg [
      ⟨some 71, .fa 2 (.t 10), [], none⟩,
      ⟨some 72, .ld 1 false (.t 71), [0], none⟩,
      ⟨some 73, .len (.t 72), [1], none⟩,
      ⟨some 74, .bin .gtr (.t 73) (.c (.val (.int .i64 256))), [2], none⟩,
      ⟨some 70, .mv (.t 74), [3], none⟩])
    (.cond (.t 70)
      (.seq (.reg [
        ⟨some 75, .build [(.val (.int .i64 0)), (.val (.slice none 0 0)), (.val (.slice none 0 0))] [], [], none⟩,
        ⟨none, .st 3 (.t 6) (.t 75), [0, 0], none⟩,
        ⟨some 7, .mv (.c (.val (.int .i64 5))), [1, 0, 1], none⟩])
      .ret)
      (.seq (.reg [
        ⟨some 77, .ld 3 true (.t 10), [], none⟩,
        ⟨some 78, .call 33 [(.t 77)], [0], none⟩,
        ⟨some 79, .bin .gtr (.t 78) (.c (.val (.int .i64 4096))), [1], none⟩,
        ⟨some 76, .mv (.t 79), [2, 1], none⟩])
      (.cond (.t 76)
        (.seq (.reg [
          ⟨some 80, .build [(.val (.int .i64 0)), (.val (.slice none 0 0)), (.val (.slice none 0 0))] [], [], none⟩,
          ⟨none, .st 3 (.t 6) (.t 80), [0, 0], none⟩,
          ⟨some 7, .mv (.c (.val (.int .i64 27))), [1, 0, 1], none⟩])
        .ret)
        .skip)))))
  (.seq (.reg [
    ⟨some 81, .ld 3 true (.t 10), [], none⟩,
    ⟨none, .st 3 (.t 6) (.t 81), [0, 0], none⟩,
    ⟨some 7, .mv (.c (.val (.int .i64 0))), [1, 0, 1], none⟩])
  .ret)))))))))))
theorem Tryp22 : (Try.f22.body.map (prep Try.prog 82)) = some Tryc22 := by kernel_rfl

/- tidegate/tidegateref51.Add -/
def Tryc23 : ACode :=
  (.seq (.reg [
    ⟨some 3, .box (.t 0), [], none⟩,
    ⟨some 6, .box (.c (.agg [(.val (.int .i64 0)), (.val (.slice none 0 0)), (.val (.slice none 0 0))])), [], none⟩,
    ⟨some 7, .mv (.c (.val (.int .i64 0))), [], none⟩])
  (.seq (.seq (.reg [
    ⟨some 11, .ld 3 true (.t 3), [], none⟩,
    ⟨some 12, .call 13 [(.t 11)], [0], none⟩,
    ⟨some 8, .mv (.t 12), [1, 1, 0, 1], none⟩])
  (.seq (.reg [
    ⟨some 13, .mv (.t 8), [], none⟩,
    ⟨some 14, .bin .neq (.t 13) (.c (.val (.int .i64 0))), [0], none⟩])
  (.cond (.t 14)
    (.seq (.reg [
      ⟨some 15, .build [(.val (.int .i64 0)), (.val (.slice none 0 0)), (.val (.slice none 0 0))] [], [], none⟩,
      ⟨some 16, .mv (.t 8), [], none⟩,
      ⟨none, .st 3 (.t 6) (.t 15), [0, 0], none⟩,
      ⟨some 7, .mv (.t 16), [1, 2, 0, 1, 2], none⟩])
    .ret)
    .skip)))
  (.seq (.seq (.reg [
    ⟨some 17, .mv (.t 1), [], none⟩,
    ⟨some 18, .fa 0 (.t 3), [], none⟩,
    ⟨some 19, .ld 1 false (.t 18), [1], none⟩,
    ⟨some 20, .bin .leq (.t 17) (.t 19), [0, 2], none⟩,
    ⟨some 21, .mv (.t 20), [3], none⟩,
    ⟨some 22, .mv (.t 1), [4], some (21, false)⟩,
    ⟨some 23, .bin .gtr (.t 22) (.c (.val (.int .i64 1099511627776))), [5, 4], some (21, false)⟩,
    ⟨some 24, .pick (.t 21) (.c (.val (.bool true))) (.t 23), [4, 6], none⟩])
  (.cond (.t 24)
    (.seq (.reg [
      ⟨some 25, .build [(.val (.int .i64 0)), (.val (.slice none 0 0)), (.val (.slice none 0 0))] [], [], none⟩,
      ⟨none, .st 3 (.t 6) (.t 25), [0, 0], none⟩,
      ⟨some 7, .mv (.c (.val (.int .i64 29))), [1, 0, 1], none⟩])
    .ret)
    .skip))
  (.seq (.seq (.reg [
    ⟨some 26, .mv (.t 2), [], none⟩,
    ⟨some 27, .call 34 [(.t 26)], [0], none⟩,
    ⟨some 9, .mv (.t 27), [1, 1, 0, 1], none⟩])
  (.seq (.reg [
    ⟨some 28, .mv (.t 9), [], none⟩,
    ⟨some 29, .bin .neq (.t 28) (.c (.val (.int .i64 0))), [0], none⟩])
  (.cond (.t 29)
    (.seq (.reg [
      ⟨some 30, .build [(.val (.int .i64 0)), (.val (.slice none 0 0)), (.val (.slice none 0 0))] [], [], none⟩,
      ⟨some 31, .mv (.t 9), [], none⟩,
      ⟨none, .st 3 (.t 6) (.t 30), [0, 0], none⟩,
      ⟨some 7, .mv (.t 31), [1, 2, 0, 1, 2], none⟩])
    .ret)
    .skip)))
  (.seq (.seq (.reg [
    ⟨some 32, .mv (.t 2), [], none⟩,
    ⟨some 33, .len (.t 32), [0], none⟩,
    ⟨some 34, .bin .eql (.t 33) (.c (.val (.int .i64 0))), [1], none⟩])
  (.cond (.t 34)
    (.seq (.reg [
      ⟨some 35, .ld 3 true (.t 3), [], none⟩,
      ⟨none, .st 3 (.t 6) (.t 35), [0, 0], none⟩,
      ⟨some 7, .mv (.c (.val (.int .i64 0))), [1, 0, 1], none⟩])
    .ret)
    .skip))
  (.seq (.reg [
    ⟨some 36, .ld 3 true (.t 3), [], none⟩,
    ⟨some 10, .box (.c (.agg [(.val (.int .i64 0)), (.val (.slice none 0 0)), (.val (.slice none 0 0))])), [], none⟩,
    ⟨none, .st 3 (.t 10) (.t 36), [1, 0, 0, 1], none⟩])
  (.seq (.reg [
    ⟨some 37, .fa 2 (.t 3), [], none⟩,
    ⟨some 38, .ld 1 false (.t 37), [0], none⟩,
    ⟨some 39, .mv (.t 1), [], none⟩,
    ⟨some 40, .mv (.t 2), [], none⟩,
    ⟨some 41, .call 45 [(.t 38), (.t 39), (.t 40)], [1, 2, 3], none⟩,
    ⟨some 42, .fa 2 (.t 10), [0, 1, 2, 3, 4], none⟩,
    ⟨none, .st 1 (.t 42) (.t 41), [5, 4, 4, 0, 1, 2, 3, 4], none⟩])
  (.seq (.seq (.reg [
    ⟨some 43, .fa 2 (.t 10), [], none⟩,
    ⟨some 44, .ld 1 false (.t 43), [0], none⟩,
    ⟨some 45, .len (.t 44), [1], none⟩,
    ⟨some 46, .bin .gtr (.t 45) (.c (.val (.int .i64 256))), [2], none⟩])
  (.cond (.t 46)
    (.seq (.reg [
      ⟨some 47, .build [(.val (.int .i64 0)), (.val (.slice none 0 0)), (.val (.slice none 0 0))] [], [], none⟩,
      ⟨none, .st 3 (.t 6) (.t 47), [0, 0], none⟩,
      ⟨some 7, .mv (.c (.val (.int .i64 5))), [1, 0, 1], none⟩])
    .ret)
    .skip))
  (.seq (.seq (.reg [
    ⟨some 48, .ld 3 true (.t 10), [], none⟩,
    ⟨some 49, .call 36 [(.t 48)], [0], none⟩,
    ⟨some 50, .bin .gtr (.t 49) (.c (.val (.int .i64 4096))), [1], none⟩])
  (.cond (.t 50)
    (.seq (.reg [
      ⟨some 51, .build [(.val (.int .i64 0)), (.val (.slice none 0 0)), (.val (.slice none 0 0))] [], [], none⟩,
      ⟨none, .st 3 (.t 6) (.t 51), [0, 0], none⟩,
      ⟨some 7, .mv (.c (.val (.int .i64 27))), [1, 0, 1], none⟩])
    .ret)
    .skip))
  (.seq (.reg [
    ⟨some 52, .ld 3 true (.t 10), [], none⟩,
    ⟨none, .st 3 (.t 6) (.t 52), [0, 0], none⟩,
    ⟨some 7, .mv (.c (.val (.int .i64 0))), [1, 0, 1], none⟩])
  .ret))))))))))
theorem Tryp23 : (Try.f23.body.map (prep Try.prog 53)) = some Tryc23 := by kernel_rfl

/- tidegate/sink.Commit -/
def Tryc24 : ACode :=
  (.seq (.reg [
    ⟨some 2, .box (.t 0), [], none⟩,
    ⟨some 4, .box (.c (.agg [(.val (.int .i64 0)), (.val (.slice none 0 0)), (.val (.slice none 0 0))])), [], none⟩,
    ⟨some 5, .mv (.c (.val (.int .i64 0))), [], none⟩])
  (.seq (.seq (.reg [
    ⟨some 11, .ld 3 true (.t 2), [], none⟩,
    ⟨some 12, .call 12 [(.t 11)], [0], none⟩,
    ⟨some 6, .mv (.t 12), [1, 1, 0, 1], none⟩])
  (.seq (.reg [
    ⟨some 13, .mv (.t 6), [], none⟩,
    ⟨some 14, .bin .neq (.t 13) (.c (.val (.int .i64 0))), [0], none⟩])
  (.cond (.t 14)
    (.seq (.reg [
      ⟨some 15, .build [(.val (.int .i64 0)), (.val (.slice none 0 0)), (.val (.slice none 0 0))] [], [], none⟩,
      ⟨some 16, .mv (.t 6), [], none⟩,
      ⟨none, .st 3 (.t 4) (.t 15), [0, 0], none⟩,
      ⟨some 5, .mv (.t 16), [1, 2, 0, 1, 2], none⟩])
    .ret)
    .skip)))
  (.seq (.seq (.reg [
    ⟨some 17, .mv (.t 1), [], none⟩,
    ⟨some 18, .bin .lss (.t 17) (.c (.val (.int .i64 0))), [0], none⟩,
    ⟨some 19, .mv (.t 18), [1], none⟩,
    ⟨some 20, .mv (.t 1), [2], some (19, false)⟩,
    ⟨some 21, .bin .gtr (.t 20) (.c (.val (.int .i64 1099511627776))), [3, 2], some (19, false)⟩,
    ⟨some 22, .pick (.t 19) (.c (.val (.bool true))) (.t 21), [2, 4], none⟩])
  (.cond (.t 22)
    (.seq (.reg [
      ⟨some 23, .build [(.val (.int .i64 0)), (.val (.slice none 0 0)), (.val (.slice none 0 0))] [], [], none⟩,
      ⟨none, .st 3 (.t 4) (.t 23), [0, 0], none⟩,
      ⟨some 5, .mv (.c (.val (.int .i64 29))), [1, 0, 1], none⟩])
    .ret)
    .skip))
  (.seq (.reg [
    ⟨some 24, .ld 3 true (.t 2), [], none⟩,
    ⟨some 25, .call 42 [(.t 24)], [0], none⟩,
    ⟨some 7, .box (.c (.agg [(.val (.int .i64 0)), (.val (.slice none 0 0)), (.val (.slice none 0 0))])), [], none⟩,
    ⟨none, .st 3 (.t 7) (.t 25), [2, 1, 1, 0, 1, 2], none⟩])
  (.seq (.seq (.reg [
    ⟨some 26, .mv (.t 1), [], none⟩,
    ⟨some 27, .fa 0 (.t 2), [], none⟩,
    ⟨some 28, .ld 1 false (.t 27), [1], none⟩,
    ⟨some 29, .bin .lss (.t 26) (.t 28), [0, 2], none⟩])
  (.cond (.t 29)
    (.seq (.reg [
      ⟨some 30, .ld 3 true (.t 7), [], none⟩,
      ⟨none, .st 3 (.t 4) (.t 30), [0, 0], none⟩,
      ⟨some 5, .mv (.c (.val (.int .i64 0))), [1, 0, 1], none⟩])
    .ret)
    .skip))
  (.seq (.reg [
    ⟨some 32, .fa 2 (.t 7), [], none⟩,
    ⟨some 33, .ld 1 false (.t 32), [0], none⟩,
    ⟨some 34, .mv (.t 1), [], none⟩,
    ⟨some 35, .bin .add (.t 34) (.c (.val (.int .i64 1))), [2], none⟩,
    ⟨some 36, .call 43 [(.t 33), (.t 35)], [1, 3], none⟩,
    ⟨some 31, .mv (.t 36), [4], none⟩,
    ⟨some 37, .ext (.t 31) 0, [5], none⟩,
    ⟨some 38, .ext (.t 31) 1, [5], none⟩,
    ⟨some 8, .mv (.t 37), [6, 4, 0, 1, 2, 3, 4, 5, 6], none⟩,
    ⟨some 9, .mv (.t 38), [7, 8, 0, 1, 2, 3, 4, 5, 6, 7, 8], none⟩])
  (.seq (.seq (.reg [
    ⟨some 39, .fa 2 (.t 7), [], none⟩,
    ⟨some 40, .ld 1 false (.t 39), [0], none⟩,
    ⟨some 41, .mv (.t 8), [], none⟩,
    ⟨some 42, .slc 2 (.t 40) none (some (.t 41)), [1, 2], none⟩,
    ⟨some 43, .call 39 [(.t 42)], [3], none⟩])
  (.block 0
    (.rfun (.t 43) [44]
      (.reg [
        ⟨some 10, .box (.c (.agg [(.val (.int .i64 0)), (.val (.int .i64 0)), (.val (.slice none 0 0))])), [], none⟩,
        ⟨none, .st 3 (.t 10) (.t 44), [0, 0], none⟩])
      (.block 1
        (.reg [
          ⟨some 45, .fa 1 (.t 7), [], none⟩,
          ⟨some 46, .ld 1 false (.t 45), [0], none⟩,
          ⟨some 47, .ld 3 true (.t 10), [], none⟩,
          ⟨some 48, .bslice 3 [(.t 47)], [2], none⟩,
          ⟨some 49, .app 3 40 (.t 46) (.t 48), [1, 3], none⟩,
          ⟨some 50, .fa 1 (.t 7), [0, 1, 2, 3, 4], none⟩,
          ⟨none, .st 1 (.t 50) (.t 49), [5, 4, 4, 0, 1, 2, 3, 4], none⟩])))))
  (.seq (.draw [
    ⟨some 51, .mv (.t 1), [], none⟩,
    ⟨some 52, .fa 2 (.t 7), [], none⟩,
    ⟨some 53, .ld 1 false (.t 52), [1], none⟩,
    ⟨some 54, .mv (.t 8), [], none⟩,
    ⟨some 55, .slc 2 (.t 53) (some (.t 54)) none, [2, 3], none⟩,
    ⟨some 56, .fa 0 (.t 7), [0, 1, 2], none⟩,
    ⟨none, .st 1 (.t 56) (.t 51), [5, 0, 0, 1, 2], none⟩,
    ⟨some 57, .fa 2 (.t 7), [0, 1, 2, 3, 4, 5, 6], none⟩,
    ⟨none, .st 1 (.t 57) (.t 55), [7, 4, 6, 0, 1, 2, 3, 4, 5, 6], none⟩])
  (.seq (.reg [
    ⟨some 58, .ld 3 true (.t 7), [], none⟩,
    ⟨none, .st 3 (.t 4) (.t 58), [0, 0], none⟩,
    ⟨some 5, .mv (.c (.val (.int .i64 0))), [1, 0, 1], none⟩])
  .ret)))))))))
theorem Tryp24 : (Try.f24.body.map (prep Try.prog 59)) = some Tryc24 := by kernel_rfl

/- tidegate/tidegateref51.Commit -/
def Tryc25 : ACode :=
  (.seq (.reg [
    ⟨some 2, .box (.t 0), [], none⟩,
    ⟨some 4, .box (.c (.agg [(.val (.int .i64 0)), (.val (.slice none 0 0)), (.val (.slice none 0 0))])), [], none⟩,
    ⟨some 5, .mv (.c (.val (.int .i64 0))), [], none⟩])
  (.seq (.seq (.reg [
    ⟨some 9, .ld 3 true (.t 2), [], none⟩,
    ⟨some 10, .call 13 [(.t 9)], [0], none⟩,
    ⟨some 6, .mv (.t 10), [1, 1, 0, 1], none⟩])
  (.seq (.reg [
    ⟨some 11, .mv (.t 6), [], none⟩,
    ⟨some 12, .bin .neq (.t 11) (.c (.val (.int .i64 0))), [0], none⟩])
  (.cond (.t 12)
    (.seq (.reg [
      ⟨some 13, .build [(.val (.int .i64 0)), (.val (.slice none 0 0)), (.val (.slice none 0 0))] [], [], none⟩,
      ⟨some 14, .mv (.t 6), [], none⟩,
      ⟨none, .st 3 (.t 4) (.t 13), [0, 0], none⟩,
      ⟨some 5, .mv (.t 14), [1, 2, 0, 1, 2], none⟩])
    .ret)
    .skip)))
  (.seq (.seq (.reg [
    ⟨some 15, .mv (.t 1), [], none⟩,
    ⟨some 16, .bin .lss (.t 15) (.c (.val (.int .i64 0))), [0], none⟩,
    ⟨some 17, .mv (.t 16), [1], none⟩,
    ⟨some 18, .mv (.t 1), [2], some (17, false)⟩,
    ⟨some 19, .bin .gtr (.t 18) (.c (.val (.int .i64 1099511627776))), [3, 2], some (17, false)⟩,
    ⟨some 20, .pick (.t 17) (.c (.val (.bool true))) (.t 19), [2, 4], none⟩])
  (.cond (.t 20)
    (.seq (.reg [
      ⟨some 21, .build [(.val (.int .i64 0)), (.val (.slice none 0 0)), (.val (.slice none 0 0))] [], [], none⟩,
      ⟨none, .st 3 (.t 4) (.t 21), [0, 0], none⟩,
      ⟨some 5, .mv (.c (.val (.int .i64 29))), [1, 0, 1], none⟩])
    .ret)
    .skip))
  (.seq (.seq (.reg [
    ⟨some 22, .mv (.t 1), [], none⟩,
    ⟨some 23, .fa 0 (.t 2), [], none⟩,
    ⟨some 24, .ld 1 false (.t 23), [1], none⟩,
    ⟨some 25, .bin .lss (.t 22) (.t 24), [0, 2], none⟩])
  (.cond (.t 25)
    (.seq (.reg [
      ⟨some 26, .ld 3 true (.t 2), [], none⟩,
      ⟨none, .st 3 (.t 4) (.t 26), [0, 0], none⟩,
      ⟨some 5, .mv (.c (.val (.int .i64 0))), [1, 0, 1], none⟩])
    .ret)
    .skip))
  (.seq (.reg [
    ⟨some 27, .mv (.t 1), [], none⟩,
    ⟨some 28, .fa 1 (.t 2), [], none⟩,
    ⟨some 29, .ld 1 false (.t 28), [1], none⟩,
    ⟨some 30, .build [(.val (.int .i64 0)), (.val (.slice none 0 0)), (.val (.slice none 0 0))] [(0, 1, (.t 27)), (1, 1, (.t 29))], [0, 2], none⟩,
    ⟨some 7, .box (.c (.agg [(.val (.int .i64 0)), (.val (.slice none 0 0)), (.val (.slice none 0 0))])), [], none⟩,
    ⟨none, .st 3 (.t 7) (.t 30), [4, 3, 0, 1, 2, 3, 4], none⟩])
  (.seq (.seq (.reg [
    ⟨some 8, .mv (.c (.val (.int .i64 0))), [], none⟩])
  (.block 0
    (.loop
      (.seq (.seq (.reg [
        ⟨some 31, .mv (.t 8), [], none⟩,
        ⟨some 32, .fa 2 (.t 2), [], none⟩,
        ⟨some 33, .ld 1 false (.t 32), [1], none⟩,
        ⟨some 34, .len (.t 33), [2], none⟩,
        ⟨some 35, .bin .lss (.t 31) (.t 34), [0, 3], none⟩])
      (.cond (.t 35)
        .skip
        (.exit 0)))
      (.seq (.block 1
        (.seq (.reg [
          ⟨some 38, .fa 2 (.t 2), [], none⟩,
          ⟨some 39, .ld 1 false (.t 38), [0], none⟩,
          ⟨some 40, .mv (.t 8), [], none⟩,
          ⟨some 41, .ia 2 (.t 39) (.t 40), [1, 2], none⟩,
          ⟨some 42, .fa 0 (.t 41), [3], none⟩,
          ⟨some 43, .ld 1 false (.t 42), [4], none⟩,
          ⟨some 44, .mv (.t 1), [], none⟩,
          ⟨some 45, .bin .leq (.t 43) (.t 44), [5, 6], none⟩])
        (.cond (.t 45)
          (.draw [
            ⟨some 46, .fa 1 (.t 7), [], none⟩,
            ⟨some 47, .ld 1 false (.t 46), [0], none⟩,
            ⟨some 48, .fa 2 (.t 2), [], none⟩,
            ⟨some 49, .ld 1 false (.t 48), [2], none⟩,
            ⟨some 50, .mv (.t 8), [], none⟩,
            ⟨some 51, .ia 2 (.t 49) (.t 50), [3, 4], none⟩,
            ⟨some 52, .fa 1 (.t 51), [5], none⟩,
            ⟨some 53, .ld 1 false (.t 52), [6], none⟩,
            ⟨some 54, .call 40 [(.t 47), (.t 53)], [1, 7], none⟩,
            ⟨some 55, .fa 1 (.t 7), [0, 1, 2, 3, 4, 5, 6, 7, 8], none⟩,
            ⟨none, .st 1 (.t 55) (.t 54), [9, 8, 8, 0, 1, 2, 3, 4, 5, 6, 7, 8], none⟩])
          (.draw [
            ⟨some 56, .fa 2 (.t 7), [], none⟩,
            ⟨some 57, .ld 1 false (.t 56), [0], none⟩,
            ⟨some 58, .fa 2 (.t 2), [], none⟩,
            ⟨some 59, .ld 1 false (.t 58), [2], none⟩,
            ⟨some 60, .mv (.t 8), [], none⟩,
            ⟨some 61, .ia 2 (.t 59) (.t 60), [3, 4], none⟩,
            ⟨some 62, .ld 2 true (.t 61), [5], none⟩,
            ⟨some 63, .bslice 2 [(.t 62)], [6], none⟩,
            ⟨some 64, .app 2 32 (.t 57) (.t 63), [1, 7], none⟩,
            ⟨some 65, .fa 2 (.t 7), [0, 1, 2, 3, 4, 5, 6, 7, 8], none⟩,
            ⟨none, .st 1 (.t 65) (.t 64), [9, 8, 8, 0, 1, 2, 3, 4, 5, 6, 7, 8], none⟩]))))
      (.reg [
        ⟨some 36, .mv (.t 8), [], none⟩,
        ⟨some 37, .bin .add (.t 36) (.c (.val (.int .i64 1))), [0], none⟩,
        ⟨some 8, .mv (.t 37), [1, 0, 1], none⟩]))))))
  (.seq (.reg [
    ⟨some 66, .ld 3 true (.t 7), [], none⟩,
    ⟨none, .st 3 (.t 4) (.t 66), [0, 0], none⟩,
    ⟨some 5, .mv (.c (.val (.int .i64 0))), [1, 0, 1], none⟩])
  .ret)))))))
theorem Tryp25 : (Try.f25.body.map (prep Try.prog 67)) = some Tryc25 := by kernel_rfl

/- tidegate/sink.Abort -/
def Tryc26 : ACode :=
  (.seq (.reg [
    ⟨some 2, .box (.t 0), [], none⟩,
    ⟨some 4, .box (.c (.agg [(.val (.int .i64 0)), (.val (.slice none 0 0)), (.val (.slice none 0 0))])), [], none⟩,
    ⟨some 5, .mv (.c (.val (.int .i64 0))), [], none⟩])
  (.seq (.seq (.reg [
    ⟨some 10, .ld 3 true (.t 2), [], none⟩,
    ⟨some 11, .call 12 [(.t 10)], [0], none⟩,
    ⟨some 6, .mv (.t 11), [1, 1, 0, 1], none⟩])
  (.seq (.reg [
    ⟨some 12, .mv (.t 6), [], none⟩,
    ⟨some 13, .bin .neq (.t 12) (.c (.val (.int .i64 0))), [0], none⟩])
  (.cond (.t 13)
    (.seq (.reg [
      ⟨some 14, .build [(.val (.int .i64 0)), (.val (.slice none 0 0)), (.val (.slice none 0 0))] [], [], none⟩,
      ⟨some 15, .mv (.t 6), [], none⟩,
      ⟨none, .st 3 (.t 4) (.t 14), [0, 0], none⟩,
      ⟨some 5, .mv (.t 15), [1, 2, 0, 1, 2], none⟩])
    .ret)
    .skip)))
  (.seq (.seq (.reg [
    ⟨some 16, .mv (.t 1), [], none⟩,
    ⟨some 17, .fa 0 (.t 2), [], none⟩,
    ⟨some 18, .ld 1 false (.t 17), [1], none⟩,
    ⟨some 19, .bin .lss (.t 16) (.t 18), [0, 2], none⟩,
    ⟨some 20, .mv (.t 19), [3], none⟩,
    ⟨some 21, .mv (.t 1), [4], some (20, false)⟩,
    ⟨some 22, .bin .gtr (.t 21) (.c (.val (.int .i64 1099511627776))), [5, 4], some (20, false)⟩,
    ⟨some 23, .pick (.t 20) (.c (.val (.bool true))) (.t 22), [4, 6], none⟩])
  (.cond (.t 23)
    (.seq (.reg [
      ⟨some 24, .build [(.val (.int .i64 0)), (.val (.slice none 0 0)), (.val (.slice none 0 0))] [], [], none⟩,
      ⟨none, .st 3 (.t 4) (.t 24), [0, 0], none⟩,
      ⟨some 5, .mv (.c (.val (.int .i64 29))), [1, 0, 1], none⟩])
    .ret)
    .skip))
  (.seq (.reg [
    ⟨some 25, .ld 3 true (.t 2), [], none⟩,
    ⟨some 26, .call 42 [(.t 25)], [0], none⟩,
    ⟨some 7, .box (.c (.agg [(.val (.int .i64 0)), (.val (.slice none 0 0)), (.val (.slice none 0 0))])), [], none⟩,
    ⟨none, .st 3 (.t 7) (.t 26), [2, 1, 1, 0, 1, 2], none⟩])
  (.seq (.reg [
    ⟨some 28, .fa 2 (.t 7), [], none⟩,
    ⟨some 29, .ld 1 false (.t 28), [0], none⟩,
    ⟨some 30, .mv (.t 1), [], none⟩,
    ⟨some 31, .bin .add (.t 30) (.c (.val (.int .i64 1))), [2], none⟩,
    ⟨some 32, .call 43 [(.t 29), (.t 31)], [1, 3], none⟩,
    ⟨some 27, .mv (.t 32), [4], none⟩,
    ⟨some 33, .ext (.t 27) 0, [5], none⟩,
    ⟨some 34, .ext (.t 27) 1, [5], none⟩,
    ⟨some 8, .mv (.t 33), [6, 4, 0, 1, 2, 3, 4, 5, 6], none⟩,
    ⟨some 9, .mv (.t 34), [7, 8, 0, 1, 2, 3, 4, 5, 6, 7, 8], none⟩])
  (.seq (.reg [
    ⟨some 35, .fa 2 (.t 7), [], none⟩,
    ⟨some 36, .ld 1 false (.t 35), [0], none⟩,
    ⟨some 37, .mv (.t 8), [], none⟩,
    ⟨some 38, .slc 2 (.t 36) none (some (.t 37)), [1, 2], none⟩,
    ⟨some 39, .fa 2 (.t 7), [0, 1, 2, 3], none⟩,
    ⟨none, .st 1 (.t 39) (.t 38), [4, 3, 0, 1, 2, 3], none⟩])
  (.seq (.reg [
    ⟨some 40, .ld 3 true (.t 7), [], none⟩,
    ⟨none, .st 3 (.t 4) (.t 40), [0, 0], none⟩,
    ⟨some 5, .mv (.c (.val (.int .i64 0))), [1, 0, 1], none⟩])
  .ret)))))))
theorem Tryp26 : (Try.f26.body.map (prep Try.prog 41)) = some Tryc26 := by kernel_rfl

/- tidegate/tidegateref51.Abort -/
def Tryc27 : ACode :=
  (.seq (.reg [
    ⟨some 2, .box (.t 0), [], none⟩,
    ⟨some 4, .box (.c (.agg [(.val (.int .i64 0)), (.val (.slice none 0 0)), (.val (.slice none 0 0))])), [], none⟩,
    ⟨some 5, .mv (.c (.val (.int .i64 0))), [], none⟩])
  (.seq (.seq (.reg [
    ⟨some 9, .ld 3 true (.t 2), [], none⟩,
    ⟨some 10, .call 13 [(.t 9)], [0], none⟩,
    ⟨some 6, .mv (.t 10), [1, 1, 0, 1], none⟩])
  (.seq (.reg [
    ⟨some 11, .mv (.t 6), [], none⟩,
    ⟨some 12, .bin .neq (.t 11) (.c (.val (.int .i64 0))), [0], none⟩])
  (.cond (.t 12)
    (.seq (.reg [
      ⟨some 13, .build [(.val (.int .i64 0)), (.val (.slice none 0 0)), (.val (.slice none 0 0))] [], [], none⟩,
      ⟨some 14, .mv (.t 6), [], none⟩,
      ⟨none, .st 3 (.t 4) (.t 13), [0, 0], none⟩,
      ⟨some 5, .mv (.t 14), [1, 2, 0, 1, 2], none⟩])
    .ret)
    .skip)))
  (.seq (.seq (.reg [
    ⟨some 15, .mv (.t 1), [], none⟩,
    ⟨some 16, .fa 0 (.t 2), [], none⟩,
    ⟨some 17, .ld 1 false (.t 16), [1], none⟩,
    ⟨some 18, .bin .lss (.t 15) (.t 17), [0, 2], none⟩,
    ⟨some 19, .mv (.t 18), [3], none⟩,
    ⟨some 20, .mv (.t 1), [4], some (19, false)⟩,
    ⟨some 21, .bin .gtr (.t 20) (.c (.val (.int .i64 1099511627776))), [5, 4], some (19, false)⟩,
    ⟨some 22, .pick (.t 19) (.c (.val (.bool true))) (.t 21), [4, 6], none⟩])
  (.cond (.t 22)
    (.seq (.reg [
      ⟨some 23, .build [(.val (.int .i64 0)), (.val (.slice none 0 0)), (.val (.slice none 0 0))] [], [], none⟩,
      ⟨none, .st 3 (.t 4) (.t 23), [0, 0], none⟩,
      ⟨some 5, .mv (.c (.val (.int .i64 29))), [1, 0, 1], none⟩])
    .ret)
    .skip))
  (.seq (.reg [
    ⟨some 24, .fa 0 (.t 2), [], none⟩,
    ⟨some 25, .ld 1 false (.t 24), [0], none⟩,
    ⟨some 26, .fa 1 (.t 2), [], none⟩,
    ⟨some 27, .ld 1 false (.t 26), [2], none⟩,
    ⟨some 28, .build [(.val (.int .i64 0)), (.val (.slice none 0 0)), (.val (.slice none 0 0))] [(0, 1, (.t 25)), (1, 1, (.t 27))], [1, 3], none⟩,
    ⟨some 7, .box (.c (.agg [(.val (.int .i64 0)), (.val (.slice none 0 0)), (.val (.slice none 0 0))])), [], none⟩,
    ⟨none, .st 3 (.t 7) (.t 28), [5, 4, 0, 1, 2, 3, 4, 5], none⟩])
  (.seq (.seq (.reg [
    ⟨some 8, .mv (.c (.val (.int .i64 0))), [], none⟩])
  (.block 0
    (.loop
      (.seq (.seq (.reg [
        ⟨some 29, .mv (.t 8), [], none⟩,
        ⟨some 30, .fa 2 (.t 2), [], none⟩,
        ⟨some 31, .ld 1 false (.t 30), [1], none⟩,
        ⟨some 32, .len (.t 31), [2], none⟩,
        ⟨some 33, .bin .lss (.t 29) (.t 32), [0, 3], none⟩])
      (.cond (.t 33)
        .skip
        (.exit 0)))
      (.seq (.block 1
        (.seq (.reg [
          ⟨some 36, .fa 2 (.t 2), [], none⟩,
          ⟨some 37, .ld 1 false (.t 36), [0], none⟩,
          ⟨some 38, .mv (.t 8), [], none⟩,
          ⟨some 39, .ia 2 (.t 37) (.t 38), [1, 2], none⟩,
          ⟨some 40, .fa 0 (.t 39), [3], none⟩,
          ⟨some 41, .ld 1 false (.t 40), [4], none⟩,
          ⟨some 42, .mv (.t 1), [], none⟩,
          ⟨some 43, .bin .leq (.t 41) (.t 42), [5, 6], none⟩])
        (.cond (.t 43)
          (.draw [
            ⟨some 44, .fa 2 (.t 7), [], none⟩,
            ⟨some 45, .ld 1 false (.t 44), [0], none⟩,
            ⟨some 46, .fa 2 (.t 2), [], none⟩,
            ⟨some 47, .ld 1 false (.t 46), [2], none⟩,
            ⟨some 48, .mv (.t 8), [], none⟩,
            ⟨some 49, .ia 2 (.t 47) (.t 48), [3, 4], none⟩,
            ⟨some 50, .ld 2 true (.t 49), [5], none⟩,
            ⟨some 51, .bslice 2 [(.t 50)], [6], none⟩,
            ⟨some 52, .app 2 32 (.t 45) (.t 51), [1, 7], none⟩,
            ⟨some 53, .fa 2 (.t 7), [0, 1, 2, 3, 4, 5, 6, 7, 8], none⟩,
            ⟨none, .st 1 (.t 53) (.t 52), [9, 8, 8, 0, 1, 2, 3, 4, 5, 6, 7, 8], none⟩])
          .skip)))
      (.reg [
        ⟨some 34, .mv (.t 8), [], none⟩,
        ⟨some 35, .bin .add (.t 34) (.c (.val (.int .i64 1))), [0], none⟩,
        ⟨some 8, .mv (.t 35), [1, 0, 1], none⟩]))))))
  (.seq (.reg [
    ⟨some 54, .ld 3 true (.t 7), [], none⟩,
    ⟨none, .st 3 (.t 4) (.t 54), [0, 0], none⟩,
    ⟨some 5, .mv (.c (.val (.int .i64 0))), [1, 0, 1], none⟩])
  .ret))))))
theorem Tryp27 : (Try.f27.body.map (prep Try.prog 55)) = some Tryc27 := by kernel_rfl

/- tidegate/tidegatelaw51.begins -/
def Tryc28 : ACode :=
  (.seq (.reg [
    ⟨some 4, .mv (.c (.val (.bool false))), [], none⟩])
  (.seq (.reg [
    ⟨some 5, .mv (.t 0), [], none⟩,
    ⟨some 6, .len (.t 5), [0], none⟩,
    ⟨some 7, .mv (.t 1), [], none⟩,
    ⟨some 8, .len (.t 7), [2], none⟩,
    ⟨some 9, .bin .geq (.t 6) (.t 8), [1, 3], none⟩,
    ⟨some 10, .mv (.t 9), [4], none⟩,
    ⟨some 11, .mv (.t 0), [5], some (10, true)⟩,
    ⟨some 12, .mv (.t 1), [5], some (10, true)⟩,
    ⟨some 13, .len (.t 12), [7, 5], some (10, true)⟩,
    ⟨some 14, .slc 3 (.t 11) none (some (.t 13)), [6, 8, 5], some (10, true)⟩,
    ⟨some 15, .mv (.t 1), [5], some (10, true)⟩,
    ⟨some 16, .call 14 [(.t 14), (.t 15)], [9, 10, 5, 5], some (10, true)⟩,
    ⟨some 17, .pick (.t 10) (.t 16) (.c (.val (.bool false))), [5, 11], none⟩,
    ⟨some 4, .mv (.t 17), [12, 11, 0, 1, 2, 3, 4, 5, 6, 7, 8, 9, 10, 11, 12], none⟩])
  .ret))
theorem Tryp28 : (Try.f28.body.map (prep Try.prog 18)) = some Tryc28 := by kernel_rfl

/- slices.Clone[[]int,int] -/
def Tryc29 : ACode :=
  (.seq (.reg [
    ⟨some 2, .mv (.c (.val (.slice none 0 0))), [], none⟩])
  (.seq (.seq (.reg [
    ⟨some 3, .mv (.t 0), [], none⟩,
    ⟨some 4, .eqnil false (.t 3) (.c (.val (.slice none 0 0))), [0], none⟩])
  (.cond (.t 4)
    (.seq (.reg [
      ⟨some 2, .mv (.c (.val (.slice none 0 0))), [], none⟩])
    .ret)
    .skip))
  (.seq (.reg [
    ⟨some 5, .bslice 1 [], [], none⟩,
    ⟨some 6, .mv (.t 0), [], none⟩,
    ⟨some 7, .app 1 8 (.t 5) (.t 6), [0, 1], none⟩,
    ⟨some 2, .mv (.t 7), [2, 2, 0, 1, 2], none⟩])
  .ret)))
theorem Tryp29 : (Try.f29.body.map (prep Try.prog 8)) = some Tryc29 := by kernel_rfl

/- slices.Sort[[]int,int] -/
def Tryc30 : ACode :=
  (.seq (.reg [
    ⟨some 3, .mv (.t 0), [], none⟩,
    ⟨some 4, .len (.t 3), [0], none⟩,
    ⟨some 2, .mv (.t 4), [1, 0, 1], none⟩])
  (.reg [
    ⟨some 5, .mv (.t 0), [], none⟩,
    ⟨some 6, .mv (.t 2), [], none⟩,
    ⟨some 7, .mv (.t 2), [], none⟩,
    ⟨some 8, .cvi .u64 (.t 7), [2], none⟩,
    ⟨some 9, .call 47 [(.t 8)], [3], none⟩,
    ⟨some 10, .call 46 [(.t 5), (.c (.val (.int .i64 0))), (.t 6), (.t 9)], [0, 1, 4, 4], none⟩]))
theorem Tryp30 : (Try.f30.body.map (prep Try.prog 11)) = some Tryc30 := by kernel_rfl

/- tidegate/tidegatelaw51.emitted -/
def Tryc31 : ACode :=
  (.seq (.reg [
    ⟨some 2, .box (.c (.agg [(.val (.int .i64 0)), (.val (.int .i64 0)), (.val (.slice none 0 0))])), [], none⟩])
  (.seq (.reg [
    ⟨some 3, .mv (.t 0), [], none⟩,
    ⟨some 4, .build [(.val (.int .i64 0)), (.val (.int .i64 0)), (.val (.int .i64 0))] [(0, 1, (.c (.val (.int .i64 1)))), (2, 1, (.t 3))], [0], none⟩,
    ⟨some 5, .build [(.val (.int .i64 0)), (.val (.int .i64 0)), (.val (.int .i64 0)), (.val (.int .i64 0))] [(1, 3, (.t 4))], [1], none⟩,
    ⟨some 6, .bslice 4 [(.t 5)], [2], none⟩,
    ⟨some 7, .build [(.val (.slice none 0 0))] [(0, 1, (.t 6))], [3], none⟩,
    ⟨some 8, .build [(.val (.int .i64 0)), (.val (.int .i64 0)), (.val (.slice none 0 0))] [(0, 1, (.c (.val (.int .i64 1)))), (2, 1, (.t 7))], [4], none⟩,
    ⟨none, .st 3 (.t 2) (.t 8), [5, 0, 1, 2, 3, 4, 5], none⟩])
  .ret))
theorem Tryp31 : (Try.f31.body.map (prep Try.prog 9)) = some Tryc31 := by kernel_rfl

/- tidegate/sink.formed -/
def Tryc32 : ACode :=
  (.seq (.reg [
    ⟨some 2, .mv (.c (.val (.int .i64 0))), [], none⟩])
  (.seq (.seq (.reg [
    ⟨some 5, .mv (.t 0), [], none⟩,
    ⟨some 6, .len (.t 5), [0], none⟩,
    ⟨some 7, .mv (.c (.val (.int .i64 0))), [], none⟩])
  (.block 0
    (.loop
      (.seq (.reg [
        ⟨some 8, .bin .lss (.t 7) (.t 6), [], none⟩])
      (.seq (.cond (.t 8)
        .skip
        (.exit 0))
      (.seq (.block 1
        (.seq (.reg [
          ⟨some 9, .ia 3 (.t 5) (.t 7), [], none⟩,
          ⟨some 10, .ld 3 true (.t 9), [0], none⟩,
          ⟨some 4, .box (.c (.agg [(.val (.int .i64 0)), (.val (.int .i64 0)), (.val (.slice none 0 0))])), [], none⟩,
          ⟨none, .st 3 (.t 4) (.t 10), [2, 1, 0, 1, 2], none⟩])
        (.block 2
          (.seq (.reg [
            ⟨some 12, .fa 0 (.t 4), [], none⟩,
            ⟨some 13, .ld 1 false (.t 12), [0], none⟩,
            ⟨some 14, .bin .neq (.t 13) (.c (.val (.int .i64 1))), [1], none⟩,
            ⟨some 15, .mv (.t 14), [2], none⟩,
            ⟨some 16, .fa 0 (.t 4), [3], some (15, true)⟩,
            ⟨some 17, .ld 1 false (.t 16), [4, 3], some (15, true)⟩,
            ⟨some 18, .bin .neq (.t 17) (.c (.val (.int .i64 (-1)))), [5, 3], some (15, true)⟩,
            ⟨some 19, .pick (.t 15) (.t 18) (.c (.val (.bool false))), [3, 6], none⟩,
            ⟨some 11, .mv (.t 19), [7, 3], none⟩])
          (.cond (.t 11)
            (.seq (.reg [
              ⟨some 2, .mv (.c (.val (.int .i64 1))), [], none⟩])
            .ret)
            (.seq (.reg [
              ⟨some 21, .fa 1 (.t 4), [], none⟩,
              ⟨some 22, .ld 1 false (.t 21), [0], none⟩,
              ⟨some 23, .bin .lss (.t 22) (.c (.val (.int .i64 0))), [1], none⟩,
              ⟨some 24, .mv (.t 23), [2], none⟩,
              ⟨some 25, .fa 1 (.t 4), [3], some (24, false)⟩,
              ⟨some 26, .ld 1 false (.t 25), [4, 3], some (24, false)⟩,
              ⟨some 27, .bin .geq (.t 26) (.c (.val (.int .i64 16))), [5, 3], some (24, false)⟩,
              ⟨some 28, .pick (.t 24) (.c (.val (.bool true))) (.t 27), [3, 6], none⟩,
              ⟨some 20, .mv (.t 28), [7, 3], none⟩])
            (.cond (.t 20)
              (.seq (.reg [
                ⟨some 2, .mv (.c (.val (.int .i64 2))), [], none⟩])
              .ret)
              .skip)))))))
      (.reg [
        ⟨some 29, .bin .add (.t 7) (.c (.val (.int .i64 1))), [], none⟩,
        ⟨some 7, .mv (.t 29), [0], none⟩])))))))
  (.seq (.reg [
    ⟨some 2, .mv (.c (.val (.int .i64 0))), [], none⟩])
  .ret)))
theorem Tryp32 : (Try.f32.body.map (prep Try.prog 30)) = some Tryc32 := by kernel_rfl

/- tidegate/sink.size -/
def Tryc33 : ACode :=
  (.seq (.reg [
    ⟨some 1, .box (.t 0), [], none⟩,
    ⟨some 2, .mv (.c (.val (.int .i64 0))), [], none⟩])
  (.seq (.reg [
    ⟨some 4, .fa 1 (.t 1), [], none⟩,
    ⟨some 5, .ld 1 false (.t 4), [0], none⟩,
    ⟨some 6, .len (.t 5), [1], none⟩,
    ⟨some 3, .box (.c (.val (.int .i64 0))), [], none⟩,
    ⟨none, .st 1 (.t 3) (.t 6), [3, 2, 0, 1, 2, 3], none⟩])
  (.seq (.seq (.reg [
    ⟨some 7, .fa 2 (.t 1), [], none⟩,
    ⟨some 8, .ld 1 false (.t 7), [0], none⟩,
    ⟨some 9, .call 39 [(.t 8)], [1], none⟩])
  (.block 0
    (.rfun (.t 9) [10]
      .skip
      (.block 1
        (.reg [
          ⟨some 11, .ld 1 false (.t 3), [], none⟩,
          ⟨some 12, .bin .add (.t 11) (.c (.val (.int .i64 1))), [0], none⟩,
          ⟨none, .st 1 (.t 3) (.t 12), [1, 0, 1], none⟩])))))
  (.seq (.reg [
    ⟨some 13, .ld 1 false (.t 3), [], none⟩,
    ⟨some 2, .mv (.t 13), [0, 0], none⟩])
  .ret))))
theorem Tryp33 : (Try.f33.body.map (prep Try.prog 14)) = some Tryc33 := by kernel_rfl

/- tidegate/tidegateref51.Changes -/
def Tryc34 : ACode :=
  (.seq (.reg [
    ⟨some 2, .mv (.c (.val (.int .i64 0))), [], none⟩])
  (.seq (.seq (.reg [
    ⟨some 3, .mv (.c (.val (.int .i64 0))), [], none⟩])
  (.block 0
    (.loop
      (.seq (.seq (.reg [
        ⟨some 5, .mv (.t 3), [], none⟩,
        ⟨some 6, .mv (.t 0), [], none⟩,
        ⟨some 7, .len (.t 6), [1], none⟩,
        ⟨some 8, .bin .lss (.t 5) (.t 7), [0, 2], none⟩])
      (.cond (.t 8)
        .skip
        (.exit 0)))
      (.seq (.block 1
        (.seq (.reg [
          ⟨some 11, .mv (.t 0), [], none⟩,
          ⟨some 12, .mv (.t 3), [], none⟩,
          ⟨some 13, .ia 3 (.t 11) (.t 12), [0, 1], none⟩,
          ⟨some 14, .ld 3 true (.t 13), [2], none⟩,
          ⟨some 15, .call 48 [(.t 14)], [3], none⟩,
          ⟨some 4, .mv (.t 15), [4, 4, 0, 1, 2, 3, 4], none⟩])
        (.seq (.reg [
          ⟨some 16, .mv (.t 4), [], none⟩,
          ⟨some 17, .bin .neq (.t 16) (.c (.val (.int .i64 0))), [0], none⟩])
        (.cond (.t 17)
          (.seq (.reg [
            ⟨some 18, .mv (.t 4), [], none⟩,
            ⟨some 2, .mv (.t 18), [0, 0], none⟩])
          .ret)
          .skip))))
      (.reg [
        ⟨some 9, .mv (.t 3), [], none⟩,
        ⟨some 10, .bin .add (.t 9) (.c (.val (.int .i64 1))), [0], none⟩,
        ⟨some 3, .mv (.t 10), [1, 0, 1], none⟩]))))))
  (.seq (.reg [
    ⟨some 2, .mv (.c (.val (.int .i64 0))), [], none⟩])
  .ret)))
theorem Tryp34 : (Try.f34.body.map (prep Try.prog 19)) = some Tryc34 := by kernel_rfl

/- tidegate/tidegateref51.batch -/
def Tryc35 : ACode :=
  (.seq (.reg [
    ⟨some 2, .box (.t 0), [], none⟩,
    ⟨some 4, .mv (.c (.val (.int .i64 0))), [], none⟩])
  (.seq (.reg [
    ⟨some 6, .fa 2 (.t 2), [], none⟩,
    ⟨some 7, .ld 1 false (.t 6), [0], none⟩,
    ⟨some 8, .mv (.t 1), [], none⟩,
    ⟨some 9, .ia 2 (.t 7) (.t 8), [1, 2], none⟩,
    ⟨some 10, .ld 2 true (.t 9), [3], none⟩,
    ⟨some 5, .box (.c (.agg [(.val (.int .i64 0)), (.val (.slice none 0 0))])), [], none⟩,
    ⟨none, .st 2 (.t 5) (.t 10), [5, 4, 0, 1, 2, 3, 4, 5], none⟩])
  (.seq (.seq (.reg [
    ⟨some 11, .fa 0 (.t 5), [], none⟩,
    ⟨some 12, .ld 1 false (.t 11), [0], none⟩,
    ⟨some 13, .bin .gtr (.t 12) (.c (.val (.int .i64 1099511627776))), [1], none⟩,
    ⟨some 14, .mv (.t 13), [2], none⟩,
    ⟨some 15, .fa 0 (.t 5), [3], some (14, false)⟩,
    ⟨some 16, .ld 1 false (.t 15), [4, 3], some (14, false)⟩,
    ⟨some 17, .fa 0 (.t 2), [3], some (14, false)⟩,
    ⟨some 18, .ld 1 false (.t 17), [6, 3], some (14, false)⟩,
    ⟨some 19, .bin .leq (.t 16) (.t 18), [5, 7, 3], some (14, false)⟩,
    ⟨some 20, .pick (.t 14) (.c (.val (.bool true))) (.t 19), [3, 8], none⟩])
  (.cond (.t 20)
    (.seq (.reg [
      ⟨some 4, .mv (.c (.val (.int .i64 29))), [], none⟩])
    .ret)
    .skip))
  (.seq (.seq (.draw [
    ⟨some 21, .mv (.t 1), [], none⟩,
    ⟨some 22, .bin .gtr (.t 21) (.c (.val (.int .i64 0))), [0], none⟩,
    ⟨some 23, .mv (.t 22), [1], none⟩,
    ⟨some 24, .fa 0 (.t 5), [2], some (23, true)⟩,
    ⟨some 25, .ld 1 false (.t 24), [3, 2], some (23, true)⟩,
    ⟨some 26, .fa 2 (.t 2), [2], some (23, true)⟩,
    ⟨some 27, .ld 1 false (.t 26), [5, 2], some (23, true)⟩,
    ⟨some 28, .mv (.t 1), [2], some (23, true)⟩,
    ⟨some 29, .bin .sub (.t 28) (.c (.val (.int .i64 1))), [7, 2], some (23, true)⟩,
    ⟨some 30, .ia 2 (.t 27) (.t 29), [6, 8, 2], some (23, true)⟩,
    ⟨some 31, .fa 0 (.t 30), [9, 2], some (23, true)⟩,
    ⟨some 32, .ld 1 false (.t 31), [10, 2], some (23, true)⟩,
    ⟨some 33, .bin .leq (.t 25) (.t 32), [4, 11, 2], some (23, true)⟩,
    ⟨some 34, .pick (.t 23) (.t 33) (.c (.val (.bool false))), [2, 12], none⟩])
  (.cond (.t 34)
    (.seq (.reg [
      ⟨some 4, .mv (.c (.val (.int .i64 14))), [], none⟩])
    .ret)
    .skip))
  (.seq (.seq (.reg [
    ⟨some 35, .fa 1 (.t 5), [], none⟩,
    ⟨some 36, .ld 1 false (.t 35), [0], none⟩,
    ⟨some 37, .len (.t 36), [1], none⟩,
    ⟨some 38, .bin .eql (.t 37) (.c (.val (.int .i64 0))), [2], none⟩])
  (.cond (.t 38)
    (.seq (.reg [
      ⟨some 4, .mv (.c (.val (.int .i64 3))), [], none⟩])
    .ret)
    .skip))
  (.seq (.reg [
    ⟨some 39, .fa 1 (.t 5), [], none⟩,
    ⟨some 40, .ld 1 false (.t 39), [0], none⟩,
    ⟨some 41, .call 34 [(.t 40)], [1], none⟩,
    ⟨some 4, .mv (.t 41), [2, 2, 0, 1, 2], none⟩])
  .ret))))))
theorem Tryp35 : (Try.f35.body.map (prep Try.prog 42)) = some Tryc35 := by kernel_rfl

/- tidegate/tidegateref51.count -/
def Tryc36 : ACode :=
  (.seq (.reg [
    ⟨some 1, .box (.t 0), [], none⟩,
    ⟨some 2, .mv (.c (.val (.int .i64 0))), [], none⟩])
  (.seq (.reg [
    ⟨some 5, .fa 1 (.t 1), [], none⟩,
    ⟨some 6, .ld 1 false (.t 5), [0], none⟩,
    ⟨some 7, .len (.t 6), [1], none⟩,
    ⟨some 3, .mv (.t 7), [2, 0, 1, 2], none⟩])
  (.seq (.seq (.reg [
    ⟨some 4, .mv (.c (.val (.int .i64 0))), [], none⟩])
  (.block 0
    (.loop
      (.seq (.seq (.reg [
        ⟨some 8, .mv (.t 4), [], none⟩,
        ⟨some 9, .fa 2 (.t 1), [], none⟩,
        ⟨some 10, .ld 1 false (.t 9), [1], none⟩,
        ⟨some 11, .len (.t 10), [2], none⟩,
        ⟨some 12, .bin .lss (.t 8) (.t 11), [0, 3], none⟩])
      (.cond (.t 12)
        .skip
        (.exit 0)))
      (.seq (.block 1
        (.reg [
          ⟨some 15, .mv (.t 3), [], none⟩,
          ⟨some 16, .fa 2 (.t 1), [], none⟩,
          ⟨some 17, .ld 1 false (.t 16), [1], none⟩,
          ⟨some 18, .mv (.t 4), [], none⟩,
          ⟨some 19, .ia 2 (.t 17) (.t 18), [2, 3], none⟩,
          ⟨some 20, .fa 1 (.t 19), [4], none⟩,
          ⟨some 21, .ld 1 false (.t 20), [5], none⟩,
          ⟨some 22, .len (.t 21), [6], none⟩,
          ⟨some 23, .bin .add (.t 15) (.t 22), [0, 7], none⟩,
          ⟨some 3, .mv (.t 23), [8, 0, 1, 2, 3, 4, 5, 6, 7, 8], none⟩]))
      (.reg [
        ⟨some 13, .mv (.t 4), [], none⟩,
        ⟨some 14, .bin .add (.t 13) (.c (.val (.int .i64 1))), [0], none⟩,
        ⟨some 4, .mv (.t 14), [1, 0, 1], none⟩]))))))
  (.seq (.reg [
    ⟨some 24, .mv (.t 3), [], none⟩,
    ⟨some 2, .mv (.t 24), [0, 0], none⟩])
  .ret))))
theorem Tryp36 : (Try.f36.body.map (prep Try.prog 25)) = some Tryc36 := by kernel_rfl

/- tidegate/tidegateref51.SameChange -/
def Tryc37 : ACode :=
  (.seq (.reg [
    ⟨some 2, .box (.t 0), [], none⟩,
    ⟨some 3, .box (.t 1), [], none⟩,
    ⟨some 4, .mv (.c (.val (.bool false))), [], none⟩])
  (.seq (.reg [
    ⟨some 5, .fa 0 (.t 2), [], none⟩,
    ⟨some 6, .ld 1 false (.t 5), [0], none⟩,
    ⟨some 7, .fa 0 (.t 3), [], none⟩,
    ⟨some 8, .ld 1 false (.t 7), [2], none⟩,
    ⟨some 9, .bin .eql (.t 6) (.t 8), [1, 3], none⟩,
    ⟨some 10, .mv (.t 9), [4], none⟩,
    ⟨some 11, .fa 1 (.t 2), [5], some (10, true)⟩,
    ⟨some 12, .ld 1 false (.t 11), [6, 5], some (10, true)⟩,
    ⟨some 13, .fa 1 (.t 3), [5], some (10, true)⟩,
    ⟨some 14, .ld 1 false (.t 13), [8, 5], some (10, true)⟩,
    ⟨some 15, .bin .eql (.t 12) (.t 14), [7, 9, 5], some (10, true)⟩,
    ⟨some 16, .pick (.t 10) (.t 15) (.c (.val (.bool false))), [5, 10], none⟩,
    ⟨some 17, .mv (.t 16), [11, 5], none⟩,
    ⟨some 18, .fa 2 (.t 2), [12], some (17, true)⟩,
    ⟨some 19, .ld 1 true (.t 18), [13, 12], some (17, true)⟩,
    ⟨some 20, .fa 2 (.t 3), [12], some (17, true)⟩,
    ⟨some 21, .ld 1 true (.t 20), [15, 12], some (17, true)⟩,
    ⟨some 22, .call 49 [(.t 19), (.t 21)], [14, 16, 12, 12], some (17, true)⟩,
    ⟨some 23, .pick (.t 17) (.t 22) (.c (.val (.bool false))), [12, 17], none⟩,
    ⟨some 4, .mv (.t 23), [18, 17, 0, 1, 2, 3, 4, 5, 6, 7, 8, 9, 10, 11, 12, 13, 14, 15, 16, 17, 18], none⟩])
  .ret))
theorem Tryp37 : (Try.f37.body.map (prep Try.prog 24)) = some Tryc37 := by kernel_rfl

/- slices.Collect[tidegate/api.Change] -/
def Tryc38 : ACode :=
  (.seq (.reg [
    ⟨some 2, .mv (.c (.val (.slice none 0 0))), [], none⟩])
  (.seq (.reg [
    ⟨some 3, .mv (.t 0), [], none⟩,
    ⟨some 4, .call 50 [(.c (.val (.slice none 0 0))), (.t 3)], [0], none⟩,
    ⟨some 2, .mv (.t 4), [1, 1, 0, 1], none⟩])
  .ret))
theorem Tryp38 : (Try.f38.body.map (prep Try.prog 5)) = some Tryc38 := by kernel_rfl

/- tidegate/sink.pending -/
def Tryc39 : ACode :=
  (.seq (.reg [
    ⟨some 1, .box (.t 0), [], none⟩,
    ⟨some 2, .mv (.c (.val .nilFunc)), [], none⟩])
  (.seq (.reg [
    ⟨some 3, .mkfn 51 [(.t 1)], [], none⟩,
    ⟨some 2, .mv (.t 3), [0, 0], none⟩])
  .ret))
theorem Tryp39 : (Try.f39.body.map (prep Try.prog 4)) = some Tryc39 := by kernel_rfl

/- tidegate/tidegateref51.join -/
def Tryc40 : ACode :=
  (.seq (.reg [
    ⟨some 4, .mv (.c (.val (.slice none 0 0))), [], none⟩])
  (.seq (.reg [
    ⟨some 5, .mv (.c (.val (.slice none 0 0))), [], none⟩])
  (.seq (.seq (.reg [
    ⟨some 6, .mv (.c (.val (.int .i64 0))), [], none⟩])
  (.block 0
    (.loop
      (.seq (.seq (.reg [
        ⟨some 8, .mv (.t 6), [], none⟩,
        ⟨some 9, .mv (.t 0), [], none⟩,
        ⟨some 10, .len (.t 9), [1], none⟩,
        ⟨some 11, .bin .lss (.t 8) (.t 10), [0, 2], none⟩])
      (.cond (.t 11)
        .skip
        (.exit 0)))
      (.seq (.block 1
        (.reg [
          ⟨some 14, .mv (.t 5), [], none⟩,
          ⟨some 15, .mv (.t 0), [], none⟩,
          ⟨some 16, .mv (.t 6), [], none⟩,
          ⟨some 17, .ia 3 (.t 15) (.t 16), [1, 2], none⟩,
          ⟨some 18, .ld 3 true (.t 17), [3], none⟩,
          ⟨some 19, .bslice 3 [(.t 18)], [4], none⟩,
          ⟨some 20, .app 3 40 (.t 14) (.t 19), [0, 5], none⟩,
          ⟨some 5, .mv (.t 20), [6, 6, 0, 1, 2, 3, 4, 5, 6], none⟩]))
      (.reg [
        ⟨some 12, .mv (.t 6), [], none⟩,
        ⟨some 13, .bin .add (.t 12) (.c (.val (.int .i64 1))), [0], none⟩,
        ⟨some 6, .mv (.t 13), [1, 0, 1], none⟩]))))))
  (.seq (.seq (.reg [
    ⟨some 7, .mv (.c (.val (.int .i64 0))), [], none⟩])
  (.block 2
    (.loop
      (.seq (.seq (.reg [
        ⟨some 21, .mv (.t 7), [], none⟩,
        ⟨some 22, .mv (.t 1), [], none⟩,
        ⟨some 23, .len (.t 22), [1], none⟩,
        ⟨some 24, .bin .lss (.t 21) (.t 23), [0, 2], none⟩])
      (.cond (.t 24)
        .skip
        (.exit 2)))
      (.seq (.block 3
        (.reg [
          ⟨some 27, .mv (.t 5), [], none⟩,
          ⟨some 28, .mv (.t 1), [], none⟩,
          ⟨some 29, .mv (.t 7), [], none⟩,
          ⟨some 30, .ia 3 (.t 28) (.t 29), [1, 2], none⟩,
          ⟨some 31, .ld 3 true (.t 30), [3], none⟩,
          ⟨some 32, .bslice 3 [(.t 31)], [4], none⟩,
          ⟨some 33, .app 3 40 (.t 27) (.t 32), [0, 5], none⟩,
          ⟨some 5, .mv (.t 33), [6, 6, 0, 1, 2, 3, 4, 5, 6], none⟩]))
      (.reg [
        ⟨some 25, .mv (.t 7), [], none⟩,
        ⟨some 26, .bin .add (.t 25) (.c (.val (.int .i64 1))), [0], none⟩,
        ⟨some 7, .mv (.t 26), [1, 0, 1], none⟩]))))))
  (.seq (.reg [
    ⟨some 34, .mv (.t 5), [], none⟩,
    ⟨some 4, .mv (.t 34), [0, 0], none⟩])
  .ret)))))
theorem Tryp40 : (Try.f40.body.map (prep Try.prog 35)) = some Tryc40 := by kernel_rfl

/- slices.Concat[[]tidegate/api.Change,tidegate/api.Change] -/
def Tryc41 : ACode :=
  (.seq (.reg [
    ⟨some 2, .mv (.c (.val (.slice none 0 0))), [], none⟩])
  (.seq (.reg [
    ⟨some 3, .mv (.c (.val (.int .i64 0))), [], none⟩])
  (.seq (.seq (.reg [
    ⟨some 9, .mv (.t 0), [], none⟩,
    ⟨some 10, .len (.t 9), [0], none⟩,
    ⟨some 11, .mv (.c (.val (.int .i64 0))), [], none⟩])
  (.block 0
    (.loop
      (.seq (.reg [
        ⟨some 12, .bin .lss (.t 11) (.t 10), [], none⟩])
      (.seq (.cond (.t 12)
        .skip
        (.exit 0))
      (.seq (.block 1
        (.seq (.reg [
          ⟨some 13, .ia 1 (.t 9) (.t 11), [], none⟩,
          ⟨some 14, .ld 1 false (.t 13), [0], none⟩,
          ⟨some 5, .mv (.t 14), [1, 0, 1], none⟩])
        (.seq (.reg [
          ⟨some 15, .mv (.t 3), [], none⟩,
          ⟨some 16, .mv (.t 5), [], none⟩,
          ⟨some 17, .len (.t 16), [1], none⟩,
          ⟨some 18, .bin .add (.t 15) (.t 17), [0, 2], none⟩,
          ⟨some 3, .mv (.t 18), [3, 0, 1, 2, 3], none⟩])
        (.seq (.reg [
          ⟨some 19, .mv (.t 3), [], none⟩,
          ⟨some 20, .bin .lss (.t 19) (.c (.val (.int .i64 0))), [0], none⟩])
        (.cond (.t 20)
          (.reg [
            ⟨some 21, .mkif 9 (.c (.val (.string ⟨#[108, 101, 110, 32, 111, 117, 116, 32, 111, 102, 32, 114, 97, 110, 103, 101]⟩))), [], none⟩,
            ⟨none, .bad, [0], none⟩])
          .skip)))))
      (.reg [
        ⟨some 22, .bin .add (.t 11) (.c (.val (.int .i64 1))), [], none⟩,
        ⟨some 11, .mv (.t 22), [0], none⟩])))))))
  (.seq (.reg [
    ⟨some 23, .mv (.t 3), [], none⟩,
    ⟨some 24, .call 52 [(.c (.val (.slice none 0 0))), (.t 23)], [0], none⟩,
    ⟨some 6, .mv (.t 24), [1, 1, 0, 1], none⟩])
  (.seq (.seq (.reg [
    ⟨some 25, .mv (.t 0), [], none⟩,
    ⟨some 26, .len (.t 25), [0], none⟩,
    ⟨some 27, .mv (.c (.val (.int .i64 0))), [], none⟩])
  (.block 2
    (.loop
      (.seq (.reg [
        ⟨some 28, .bin .lss (.t 27) (.t 26), [], none⟩])
      (.seq (.cond (.t 28)
        .skip
        (.exit 2))
      (.seq (.block 3
        (.seq (.reg [
          ⟨some 29, .ia 1 (.t 25) (.t 27), [], none⟩,
          ⟨some 30, .ld 1 false (.t 29), [0], none⟩,
          ⟨some 8, .mv (.t 30), [1, 0, 1], none⟩])
        (.reg [
          ⟨some 31, .mv (.t 6), [], none⟩,
          ⟨some 32, .mv (.t 8), [], none⟩,
          ⟨some 33, .app 3 40 (.t 31) (.t 32), [0, 1], none⟩,
          ⟨some 6, .mv (.t 33), [2, 2, 0, 1, 2], none⟩])))
      (.reg [
        ⟨some 34, .bin .add (.t 27) (.c (.val (.int .i64 1))), [], none⟩,
        ⟨some 27, .mv (.t 34), [0], none⟩])))))))
  (.seq (.reg [
    ⟨some 35, .mv (.t 6), [], none⟩,
    ⟨some 2, .mv (.t 35), [0, 0], none⟩])
  .ret))))))
theorem Tryp41 : (Try.f41.body.map (prep Try.prog 36)) = some Tryc41 := by kernel_rfl

/- tidegate/sink.copied -/
def Tryc42 : ACode :=
  (.seq (.reg [
    ⟨some 1, .box (.t 0), [], none⟩,
    ⟨some 2, .box (.c (.agg [(.val (.int .i64 0)), (.val (.slice none 0 0)), (.val (.slice none 0 0))])), [], none⟩])
  (.seq (.draw [
    ⟨some 6, .fa 0 (.t 1), [], none⟩,
    ⟨some 7, .ld 1 false (.t 6), [0], none⟩,
    ⟨some 8, .fa 1 (.t 1), [], none⟩,
    ⟨some 9, .ld 1 false (.t 8), [2], none⟩,
    ⟨some 10, .call 53 [(.t 9)], [3], none⟩,
    ⟨some 11, .build [(.val (.int .i64 0)), (.val (.slice none 0 0)), (.val (.slice none 0 0))] [(0, 1, (.t 7)), (1, 1, (.t 10))], [1, 4], none⟩,
    ⟨some 3, .box (.c (.agg [(.val (.int .i64 0)), (.val (.slice none 0 0)), (.val (.slice none 0 0))])), [], none⟩,
    ⟨none, .st 3 (.t 3) (.t 11), [6, 5, 4, 0, 1, 2, 3, 4, 5, 6], none⟩])
  (.seq (.seq (.reg [
    ⟨some 12, .fa 2 (.t 1), [], none⟩,
    ⟨some 13, .ld 1 false (.t 12), [0], none⟩,
    ⟨some 14, .len (.t 13), [1], none⟩,
    ⟨some 15, .mv (.c (.val (.int .i64 0))), [], none⟩])
  (.block 0
    (.loop
      (.seq (.reg [
        ⟨some 16, .bin .lss (.t 15) (.t 14), [], none⟩])
      (.seq (.cond (.t 16)
        .skip
        (.exit 0))
      (.seq (.block 1
        (.seq (.reg [
          ⟨some 17, .ia 2 (.t 13) (.t 15), [], none⟩,
          ⟨some 18, .ld 2 true (.t 17), [0], none⟩,
          ⟨some 5, .box (.c (.agg [(.val (.int .i64 0)), (.val (.slice none 0 0))])), [], none⟩,
          ⟨none, .st 2 (.t 5) (.t 18), [2, 1, 0, 1, 2], none⟩])
        (.draw [
          ⟨some 19, .fa 2 (.t 3), [], none⟩,
          ⟨some 20, .ld 1 false (.t 19), [0], none⟩,
          ⟨some 21, .fa 0 (.t 5), [], none⟩,
          ⟨some 22, .ld 1 false (.t 21), [2], none⟩,
          ⟨some 23, .fa 1 (.t 5), [], none⟩,
          ⟨some 24, .ld 1 false (.t 23), [4], none⟩,
          ⟨some 25, .call 53 [(.t 24)], [5], none⟩,
          ⟨some 26, .build [(.val (.int .i64 0)), (.val (.slice none 0 0))] [(0, 1, (.t 22)), (1, 1, (.t 25))], [3, 6], none⟩,
          ⟨some 27, .bslice 2 [(.t 26)], [7], none⟩,
          ⟨some 28, .app 2 32 (.t 20) (.t 27), [1, 8, 6], none⟩,
          ⟨some 29, .fa 2 (.t 3), [0, 1, 2, 3, 4, 5, 6, 7, 8, 9], none⟩,
          ⟨none, .st 1 (.t 29) (.t 28), [10, 9, 9, 0, 1, 2, 3, 4, 5, 6, 7, 8, 9], none⟩])))
      (.reg [
        ⟨some 30, .bin .add (.t 15) (.c (.val (.int .i64 1))), [], none⟩,
        ⟨some 15, .mv (.t 30), [0], none⟩])))))))
  (.seq (.reg [
    ⟨some 31, .ld 3 true (.t 3), [], none⟩,
    ⟨none, .st 3 (.t 2) (.t 31), [0, 0], none⟩])
  .ret))))
theorem Tryp42 : (Try.f42.body.map (prep Try.prog 32)) = some Tryc42 := by kernel_rfl

/- tidegate/sink.place -/
def Tryc43 : ACode :=
  (.seq (.reg [
    ⟨some 4, .mv (.c (.val (.int .i64 0))), [], none⟩,
    ⟨some 5, .mv (.c (.val (.bool false))), [0], none⟩])
  (.seq (.reg [
    ⟨some 6, .mv (.t 0), [], none⟩,
    ⟨some 7, .mv (.t 1), [], none⟩,
    ⟨some 8, .call 54 [(.t 6), (.t 7), (.c (.fn 55 []))], [0, 1], none⟩,
    ⟨some 9, .ext (.t 8) 0, [2], none⟩,
    ⟨some 10, .ext (.t 8) 1, [2], none⟩,
    ⟨some 4, .mv (.t 9), [3, 2, 0, 1, 2, 3, 4], none⟩,
    ⟨some 5, .mv (.t 10), [4, 5, 0, 1, 2, 3, 4, 5], none⟩])
  .ret))
theorem Tryp43 : (Try.f43.body.map (prep Try.prog 11)) = some Tryc43 := by kernel_rfl

/- slices.Insert[[]tidegate/api.Batch,tidegate/api.Batch] -/
def Tryc44 : ACode :=
  (.seq (.reg [
    ⟨some 6, .mv (.c (.val (.slice none 0 0))), [], none⟩])
  (.seq (.reg [
    ⟨some 10, .mv (.t 0), [], none⟩,
    ⟨some 11, .mv (.t 1), [], none⟩,
    ⟨some 12, .slc 2 (.t 10) (some (.t 11)) none, [0, 1], none⟩])
  (.seq (.reg [
    ⟨some 13, .mv (.t 2), [], none⟩,
    ⟨some 14, .len (.t 13), [0], none⟩,
    ⟨some 7, .mv (.t 14), [1, 0, 1], none⟩])
  (.seq (.seq (.reg [
    ⟨some 15, .mv (.t 7), [], none⟩,
    ⟨some 16, .bin .eql (.t 15) (.c (.val (.int .i64 0))), [0], none⟩])
  (.cond (.t 16)
    (.seq (.reg [
      ⟨some 17, .mv (.t 0), [], none⟩,
      ⟨some 6, .mv (.t 17), [0, 0], none⟩])
    .ret)
    .skip))
  (.seq (.reg [
    ⟨some 18, .mv (.t 0), [], none⟩,
    ⟨some 19, .len (.t 18), [0], none⟩,
    ⟨some 8, .mv (.t 19), [1, 0, 1], none⟩])
  (.seq (.seq (.reg [
    ⟨some 20, .mv (.t 1), [], none⟩,
    ⟨some 21, .mv (.t 8), [], none⟩,
    ⟨some 22, .bin .eql (.t 20) (.t 21), [0, 1], none⟩])
  (.cond (.t 22)
    (.seq (.reg [
      ⟨some 23, .mv (.t 0), [], none⟩,
      ⟨some 24, .mv (.t 2), [], none⟩,
      ⟨some 25, .app 2 32 (.t 23) (.t 24), [0, 1], none⟩,
      ⟨some 6, .mv (.t 25), [2, 2, 0, 1, 2], none⟩])
    .ret)
    .skip))
  (.seq (.seq (.reg [
    ⟨some 26, .mv (.t 8), [], none⟩,
    ⟨some 27, .mv (.t 7), [], none⟩,
    ⟨some 28, .bin .add (.t 26) (.t 27), [0, 1], none⟩,
    ⟨some 29, .mv (.t 0), [], none⟩,
    ⟨some 30, .cap (.t 29), [3], none⟩,
    ⟨some 31, .bin .gtr (.t 28) (.t 30), [2, 4], none⟩])
  (.cond (.t 31)
    (.seq (.reg [
      ⟨some 32, .mv (.t 0), [], none⟩,
      ⟨some 33, .mv (.t 1), [], none⟩,
      ⟨some 34, .slc 2 (.t 32) none (some (.t 33)), [0, 1], none⟩,
      ⟨some 35, .mv (.t 8), [], none⟩,
      ⟨some 36, .mv (.t 7), [], none⟩,
      ⟨some 37, .bin .add (.t 35) (.t 36), [3, 4], none⟩,
      ⟨some 38, .mv (.t 1), [], none⟩,
      ⟨some 39, .bin .sub (.t 37) (.t 38), [5, 6], none⟩,
      ⟨some 40, .appz 2 32 (.agg [(.val (.int .i64 0)), (.val (.slice none 0 0))]) (.t 34) (.t 39), [2, 7], none⟩,
      ⟨some 9, .mv (.t 40), [8, 8, 0, 1, 2, 3, 4, 5, 6, 7, 8], none⟩])
    (.seq (.reg [
      ⟨some 41, .mv (.t 9), [], none⟩,
      ⟨some 42, .mv (.t 1), [], none⟩,
      ⟨some 43, .slc 2 (.t 41) (some (.t 42)) none, [0, 1], none⟩,
      ⟨some 44, .mv (.t 2), [], none⟩,
      ⟨some 45, .copy 2 (.t 43) (.t 44), [2, 3], none⟩])
    (.seq (.draw [
      ⟨some 46, .mv (.t 9), [], none⟩,
      ⟨some 47, .mv (.t 1), [], none⟩,
      ⟨some 48, .mv (.t 7), [], none⟩,
      ⟨some 49, .bin .add (.t 47) (.t 48), [1, 2], none⟩,
      ⟨some 50, .slc 2 (.t 46) (some (.t 49)) none, [0, 3], none⟩,
      ⟨some 51, .mv (.t 0), [], none⟩,
      ⟨some 52, .mv (.t 1), [], none⟩,
      ⟨some 53, .slc 2 (.t 51) (some (.t 52)) none, [5, 6], none⟩,
      ⟨some 54, .copy 2 (.t 50) (.t 53), [4, 7], none⟩])
    (.seq (.reg [
      ⟨some 55, .mv (.t 9), [], none⟩,
      ⟨some 6, .mv (.t 55), [0, 0], none⟩])
    .ret))))
    .skip))
  (.seq (.reg [
    ⟨some 56, .mv (.t 0), [], none⟩,
    ⟨some 57, .mv (.t 8), [], none⟩,
    ⟨some 58, .mv (.t 7), [], none⟩,
    ⟨some 59, .bin .add (.t 57) (.t 58), [1, 2], none⟩,
    ⟨some 60, .slc 2 (.t 56) none (some (.t 59)), [0, 3], none⟩,
    ⟨some 0, .mv (.t 60), [4, 0, 1, 2, 3, 4], none⟩])
  (.seq (.seq (.reg [
    ⟨some 61, .mv (.t 2), [], none⟩,
    ⟨some 62, .mv (.t 0), [], none⟩,
    ⟨some 63, .mv (.t 1), [], none⟩,
    ⟨some 64, .mv (.t 7), [], none⟩,
    ⟨some 65, .bin .add (.t 63) (.t 64), [2, 3], none⟩,
    ⟨some 66, .slc 2 (.t 62) (some (.t 65)) none, [1, 4], none⟩,
    ⟨some 67, .call 57 [(.t 61), (.t 66)], [0, 5], none⟩,
    ⟨some 68, .un .not (.t 67), [6], none⟩])
  (.cond (.t 68)
    (.seq (.draw [
      ⟨some 69, .mv (.t 0), [], none⟩,
      ⟨some 70, .mv (.t 1), [], none⟩,
      ⟨some 71, .mv (.t 7), [], none⟩,
      ⟨some 72, .bin .add (.t 70) (.t 71), [1, 2], none⟩,
      ⟨some 73, .slc 2 (.t 69) (some (.t 72)) none, [0, 3], none⟩,
      ⟨some 74, .mv (.t 0), [], none⟩,
      ⟨some 75, .mv (.t 1), [], none⟩,
      ⟨some 76, .slc 2 (.t 74) (some (.t 75)) none, [5, 6], none⟩,
      ⟨some 77, .copy 2 (.t 73) (.t 76), [4, 7], none⟩])
    (.seq (.reg [
      ⟨some 78, .mv (.t 0), [], none⟩,
      ⟨some 79, .mv (.t 1), [], none⟩,
      ⟨some 80, .slc 2 (.t 78) (some (.t 79)) none, [0, 1], none⟩,
      ⟨some 81, .mv (.t 2), [], none⟩,
      ⟨some 82, .copy 2 (.t 80) (.t 81), [2, 3], none⟩])
    (.seq (.reg [
      ⟨some 83, .mv (.t 0), [], none⟩,
      ⟨some 6, .mv (.t 83), [0, 0], none⟩])
    .ret)))
    .skip))
  (.seq (.reg [
    ⟨some 84, .mv (.t 0), [], none⟩,
    ⟨some 85, .mv (.t 8), [], none⟩,
    ⟨some 86, .slc 2 (.t 84) (some (.t 85)) none, [0, 1], none⟩,
    ⟨some 87, .mv (.t 2), [], none⟩,
    ⟨some 88, .copy 2 (.t 86) (.t 87), [2, 3], none⟩])
  (.seq (.reg [
    ⟨some 89, .mv (.t 0), [], none⟩,
    ⟨some 90, .mv (.t 1), [], none⟩,
    ⟨some 91, .slc 2 (.t 89) (some (.t 90)) none, [0, 1], none⟩,
    ⟨some 92, .mv (.t 7), [], none⟩,
    ⟨some 93, .call 58 [(.t 91), (.t 92)], [2, 3], none⟩])
  (.seq (.reg [
    ⟨some 94, .mv (.t 0), [], none⟩,
    ⟨some 6, .mv (.t 94), [0, 0], none⟩])
  .ret))))))))))))
theorem Tryp44 : (Try.f44.body.map (prep Try.prog 95)) = some Tryc44 := by kernel_rfl

/- tidegate/tidegateref51.with -/
def Tryc45 : ACode :=
  (.seq (.reg [
    ⟨some 6, .mv (.c (.val (.slice none 0 0))), [], none⟩])
  (.seq (.reg [
    ⟨some 7, .mv (.c (.val (.slice none 0 0))), [], none⟩])
  (.seq (.reg [
    ⟨some 8, .mv (.c (.val (.bool false))), [], none⟩])
  (.seq (.seq (.reg [
    ⟨some 9, .mv (.c (.val (.int .i64 0))), [], none⟩])
  (.block 0
    (.loop
      (.seq (.seq (.reg [
        ⟨some 11, .mv (.t 9), [], none⟩,
        ⟨some 12, .mv (.t 0), [], none⟩,
        ⟨some 13, .len (.t 12), [1], none⟩,
        ⟨some 14, .bin .lss (.t 11) (.t 13), [0, 2], none⟩])
      (.cond (.t 14)
        .skip
        (.exit 0)))
      (.seq (.block 1
        (.seq (.seq (.reg [
          ⟨some 17, .mv (.t 8), [], none⟩,
          ⟨some 18, .un .not (.t 17), [0], none⟩,
          ⟨some 19, .mv (.t 18), [1], none⟩,
          ⟨some 20, .mv (.t 1), [2], some (19, true)⟩,
          ⟨some 21, .mv (.t 0), [2], some (19, true)⟩,
          ⟨some 22, .mv (.t 9), [2], some (19, true)⟩,
          ⟨some 23, .ia 2 (.t 21) (.t 22), [4, 5, 2], some (19, true)⟩,
          ⟨some 24, .fa 0 (.t 23), [6, 2], some (19, true)⟩,
          ⟨some 25, .ld 1 false (.t 24), [7, 2], some (19, true)⟩,
          ⟨some 26, .bin .lss (.t 20) (.t 25), [3, 8, 2], some (19, true)⟩,
          ⟨some 27, .pick (.t 19) (.t 26) (.c (.val (.bool false))), [2, 9], none⟩])
        (.cond (.t 27)
          (.seq (.reg [
            ⟨some 28, .mv (.t 7), [], none⟩,
            ⟨some 29, .mv (.t 1), [], none⟩,
            ⟨some 30, .mv (.t 2), [], none⟩,
            ⟨some 31, .build [(.val (.int .i64 0)), (.val (.slice none 0 0))] [(0, 1, (.t 29)), (1, 1, (.t 30))], [1, 2], none⟩,
            ⟨some 32, .bslice 2 [(.t 31)], [3], none⟩,
            ⟨some 33, .app 2 32 (.t 28) (.t 32), [0, 4], none⟩,
            ⟨some 7, .mv (.t 33), [5, 5, 0, 1, 2, 3, 4, 5], none⟩])
          (.reg [
            ⟨some 8, .mv (.c (.val (.bool true))), [], none⟩]))
          .skip))
        (.seq (.reg [
          ⟨some 34, .mv (.t 0), [], none⟩,
          ⟨some 35, .mv (.t 9), [], none⟩,
          ⟨some 36, .ia 2 (.t 34) (.t 35), [0, 1], none⟩,
          ⟨some 37, .ld 2 true (.t 36), [2], none⟩,
          ⟨some 10, .box (.c (.agg [(.val (.int .i64 0)), (.val (.slice none 0 0))])), [], none⟩,
          ⟨none, .st 2 (.t 10) (.t 37), [4, 3, 0, 1, 2, 3, 4], none⟩])
        (.seq (.seq (.reg [
          ⟨some 38, .fa 0 (.t 10), [], none⟩,
          ⟨some 39, .ld 1 false (.t 38), [0], none⟩,
          ⟨some 40, .mv (.t 1), [], none⟩,
          ⟨some 41, .bin .eql (.t 39) (.t 40), [1, 2], none⟩])
        (.cond (.t 41)
          (.seq (.reg [
            ⟨some 42, .fa 1 (.t 10), [], none⟩,
            ⟨some 43, .ld 1 false (.t 42), [0], none⟩,
            ⟨some 44, .mv (.t 2), [], none⟩,
            ⟨some 45, .call 40 [(.t 43), (.t 44)], [1, 2], none⟩,
            ⟨some 46, .fa 1 (.t 10), [0, 1, 2, 3], none⟩,
            ⟨none, .st 1 (.t 46) (.t 45), [4, 3, 3, 0, 1, 2, 3], none⟩])
          (.reg [
            ⟨some 8, .mv (.c (.val (.bool true))), [], none⟩]))
          .skip))
        (.reg [
          ⟨some 47, .mv (.t 7), [], none⟩,
          ⟨some 48, .ld 2 true (.t 10), [], none⟩,
          ⟨some 49, .bslice 2 [(.t 48)], [1], none⟩,
          ⟨some 50, .app 2 32 (.t 47) (.t 49), [0, 2], none⟩,
          ⟨some 7, .mv (.t 50), [3, 3, 0, 1, 2, 3], none⟩])))))
      (.reg [
        ⟨some 15, .mv (.t 9), [], none⟩,
        ⟨some 16, .bin .add (.t 15) (.c (.val (.int .i64 1))), [0], none⟩,
        ⟨some 9, .mv (.t 16), [1, 0, 1], none⟩]))))))
  (.seq (.seq (.reg [
    ⟨some 51, .mv (.t 8), [], none⟩,
    ⟨some 52, .un .not (.t 51), [0], none⟩])
  (.cond (.t 52)
    (.reg [
      ⟨some 53, .mv (.t 7), [], none⟩,
      ⟨some 54, .mv (.t 1), [], none⟩,
      ⟨some 55, .mv (.t 2), [], none⟩,
      ⟨some 56, .build [(.val (.int .i64 0)), (.val (.slice none 0 0))] [(0, 1, (.t 54)), (1, 1, (.t 55))], [1, 2], none⟩,
      ⟨some 57, .bslice 2 [(.t 56)], [3], none⟩,
      ⟨some 58, .app 2 32 (.t 53) (.t 57), [0, 4], none⟩,
      ⟨some 7, .mv (.t 58), [5, 5, 0, 1, 2, 3, 4, 5], none⟩])
    .skip))
  (.seq (.reg [
    ⟨some 59, .mv (.t 7), [], none⟩,
    ⟨some 6, .mv (.t 59), [0, 0], none⟩])
  .ret))))))
theorem Tryp45 : (Try.f45.body.map (prep Try.prog 60)) = some Tryc45 := by kernel_rfl

/- slices.pdqsortOrdered[int] -/
def Tryc46 : ACode :=
  (.seq (.reg [
    ⟨some 8, .mv (.c (.val (.bool true))), [], none⟩])
  (.seq (.reg [
    ⟨some 9, .mv (.c (.val (.bool true))), [], none⟩])
  (.block 0
    (.loop
      (.block 1
        (.seq (.reg [
          ⟨some 19, .mv (.t 2), [], none⟩,
          ⟨some 20, .mv (.t 1), [], none⟩,
          ⟨some 21, .bin .sub (.t 19) (.t 20), [0, 1], none⟩,
          ⟨some 10, .mv (.t 21), [2, 0, 1, 2], none⟩])
        (.seq (.seq (.reg [
          ⟨some 22, .mv (.t 10), [], none⟩,
          ⟨some 23, .bin .leq (.t 22) (.c (.val (.int .i64 12))), [0], none⟩])
        (.cond (.t 23)
          (.seq (.reg [
            ⟨some 24, .mv (.t 0), [], none⟩,
            ⟨some 25, .mv (.t 1), [], none⟩,
            ⟨some 26, .mv (.t 2), [], none⟩,
            ⟨some 27, .call 59 [(.t 24), (.t 25), (.t 26)], [0, 1, 2], none⟩])
          .ret)
          .skip))
        (.seq (.seq (.reg [
          ⟨some 28, .mv (.t 3), [], none⟩,
          ⟨some 29, .bin .eql (.t 28) (.c (.val (.int .i64 0))), [0], none⟩])
        (.cond (.t 29)
          (.seq (.reg [
            ⟨some 30, .mv (.t 0), [], none⟩,
            ⟨some 31, .mv (.t 1), [], none⟩,
            ⟨some 32, .mv (.t 2), [], none⟩,
            ⟨some 33, .call 60 [(.t 30), (.t 31), (.t 32)], [0, 1, 2], none⟩])
          .ret)
          .skip))
        (.seq (.seq (.reg [
          ⟨some 34, .mv (.t 8), [], none⟩,
          ⟨some 35, .un .not (.t 34), [0], none⟩])
        (.cond (.t 35)
          (.seq (.reg [
            ⟨some 36, .mv (.t 0), [], none⟩,
            ⟨some 37, .mv (.t 1), [], none⟩,
            ⟨some 38, .mv (.t 2), [], none⟩,
            ⟨some 39, .call 61 [(.t 36), (.t 37), (.t 38)], [0, 1, 2], none⟩])
          (.reg [
            ⟨some 40, .mv (.t 3), [], none⟩,
            ⟨some 41, .bin .sub (.t 40) (.c (.val (.int .i64 1))), [0], none⟩,
            ⟨some 3, .mv (.t 41), [1, 0, 1], none⟩]))
          .skip))
        (.seq (.reg [
          ⟨some 43, .mv (.t 0), [], none⟩,
          ⟨some 44, .mv (.t 1), [], none⟩,
          ⟨some 45, .mv (.t 2), [], none⟩,
          ⟨some 46, .call 62 [(.t 43), (.t 44), (.t 45)], [0, 1, 2], none⟩,
          ⟨some 42, .mv (.t 46), [3], none⟩,
          ⟨some 47, .ext (.t 42) 0, [4], none⟩,
          ⟨some 48, .ext (.t 42) 1, [4], none⟩,
          ⟨some 11, .mv (.t 47), [5, 3, 0, 1, 2, 3, 4, 5], none⟩,
          ⟨some 12, .mv (.t 48), [6, 7, 0, 1, 2, 3, 4, 5, 6, 7], none⟩])
        (.seq (.seq (.reg [
          ⟨some 49, .mv (.t 12), [], none⟩,
          ⟨some 50, .bin .eql (.t 49) (.c (.val (.int .i64 2))), [0], none⟩])
        (.cond (.t 50)
          (.seq (.reg [
            ⟨some 51, .mv (.t 0), [], none⟩,
            ⟨some 52, .mv (.t 1), [], none⟩,
            ⟨some 53, .mv (.t 2), [], none⟩,
            ⟨some 54, .call 63 [(.t 51), (.t 52), (.t 53)], [0, 1, 2], none⟩])
          (.seq (.reg [
            ⟨some 55, .mv (.t 2), [], none⟩,
            ⟨some 56, .bin .sub (.t 55) (.c (.val (.int .i64 1))), [0], none⟩,
            ⟨some 57, .mv (.t 11), [], none⟩,
            ⟨some 58, .mv (.t 1), [], none⟩,
            ⟨some 59, .bin .sub (.t 57) (.t 58), [2, 3], none⟩,
            ⟨some 60, .bin .sub (.t 56) (.t 59), [1, 4], none⟩,
            ⟨some 11, .mv (.t 60), [5, 0, 1, 2, 3, 4, 5], none⟩])
          (.reg [
            ⟨some 12, .mv (.c (.val (.int .i64 1))), [], none⟩])))
          .skip))
        (.seq (.seq (.reg [
          ⟨some 61, .mv (.t 8), [], none⟩,
          ⟨some 62, .mv (.t 61), [0], none⟩,
          ⟨some 63, .mv (.t 9), [1], some (62, true)⟩,
          ⟨some 64, .pick (.t 62) (.t 63) (.c (.val (.bool false))), [1, 2], none⟩,
          ⟨some 65, .mv (.t 64), [3, 1], none⟩,
          ⟨some 66, .mv (.t 12), [4], some (65, true)⟩,
          ⟨some 67, .bin .eql (.t 66) (.c (.val (.int .i64 1))), [5, 4], some (65, true)⟩,
          ⟨some 68, .pick (.t 65) (.t 67) (.c (.val (.bool false))), [4, 6], none⟩])
        (.cond (.t 68)
          (.seq (.reg [
            ⟨some 69, .mv (.t 0), [], none⟩,
            ⟨some 70, .mv (.t 1), [], none⟩,
            ⟨some 71, .mv (.t 2), [], none⟩,
            ⟨some 72, .call 64 [(.t 69), (.t 70), (.t 71)], [0, 1, 2], none⟩])
          (.cond (.t 72)
            .ret
            .skip))
          .skip))
        (.seq (.seq (.draw [
          ⟨some 73, .mv (.t 1), [], none⟩,
          ⟨some 74, .bin .gtr (.t 73) (.c (.val (.int .i64 0))), [0], none⟩,
          ⟨some 75, .mv (.t 74), [1], none⟩,
          ⟨some 76, .mv (.t 0), [2], some (75, true)⟩,
          ⟨some 77, .mv (.t 1), [2], some (75, true)⟩,
          ⟨some 78, .bin .sub (.t 77) (.c (.val (.int .i64 1))), [4, 2], some (75, true)⟩,
          ⟨some 79, .ia 1 (.t 76) (.t 78), [3, 5, 2], some (75, true)⟩,
          ⟨some 80, .ld 1 false (.t 79), [6, 2], some (75, true)⟩,
          ⟨some 81, .mv (.t 0), [2], some (75, true)⟩,
          ⟨some 82, .mv (.t 11), [2], some (75, true)⟩,
          ⟨some 83, .ia 1 (.t 81) (.t 82), [8, 9, 2], some (75, true)⟩,
          ⟨some 84, .ld 1 false (.t 83), [10, 2], some (75, true)⟩,
          ⟨some 85, .call 65 [(.t 80), (.t 84)], [7, 11, 2, 2], some (75, true)⟩,
          ⟨some 86, .un .not (.t 85), [12, 2], some (75, true)⟩,
          ⟨some 87, .pick (.t 75) (.t 86) (.c (.val (.bool false))), [2, 13], none⟩])
        (.cond (.t 87)
          (.seq (.reg [
            ⟨some 88, .mv (.t 0), [], none⟩,
            ⟨some 89, .mv (.t 1), [], none⟩,
            ⟨some 90, .mv (.t 2), [], none⟩,
            ⟨some 91, .mv (.t 11), [], none⟩,
            ⟨some 92, .call 66 [(.t 88), (.t 89), (.t 90), (.t 91)], [0, 1, 2, 3], none⟩,
            ⟨some 13, .mv (.t 92), [4, 4, 0, 1, 2, 3, 4], none⟩])
          (.seq (.reg [
            ⟨some 93, .mv (.t 13), [], none⟩,
            ⟨some 1, .mv (.t 93), [0, 0], none⟩])
          (.exit 1)))
          .skip))
        (.seq (.reg [
          ⟨some 95, .mv (.t 0), [], none⟩,
          ⟨some 96, .mv (.t 1), [], none⟩,
          ⟨some 97, .mv (.t 2), [], none⟩,
          ⟨some 98, .mv (.t 11), [], none⟩,
          ⟨some 99, .call 67 [(.t 95), (.t 96), (.t 97), (.t 98)], [0, 1, 2, 3], none⟩,
          ⟨some 94, .mv (.t 99), [4], none⟩,
          ⟨some 100, .ext (.t 94) 0, [5], none⟩,
          ⟨some 101, .ext (.t 94) 1, [5], none⟩,
          ⟨some 14, .mv (.t 100), [6, 4, 0, 1, 2, 3, 4, 5, 6], none⟩,
          ⟨some 15, .mv (.t 101), [7, 8, 0, 1, 2, 3, 4, 5, 6, 7, 8], none⟩])
        (.seq (.reg [
          ⟨some 102, .mv (.t 15), [], none⟩,
          ⟨some 9, .mv (.t 102), [0, 0], none⟩])
        (.seq (.reg [
          ⟨some 103, .mv (.t 14), [], none⟩,
          ⟨some 104, .mv (.t 1), [], none⟩,
          ⟨some 105, .bin .sub (.t 103) (.t 104), [0, 1], none⟩,
          ⟨some 106, .mv (.t 2), [], none⟩,
          ⟨some 107, .mv (.t 14), [], none⟩,
          ⟨some 108, .bin .sub (.t 106) (.t 107), [3, 4], none⟩,
          ⟨some 16, .mv (.t 105), [2, 0, 1, 2], none⟩,
          ⟨some 17, .mv (.t 108), [5, 6, 0, 1, 2, 3, 4, 5, 6], none⟩])
        (.seq (.reg [
          ⟨some 109, .mv (.t 10), [], none⟩,
          ⟨some 110, .bin .quo (.t 109) (.c (.val (.int .i64 8))), [0], none⟩,
          ⟨some 18, .mv (.t 110), [1, 0, 1], none⟩])
        (.seq (.reg [
          ⟨some 111, .mv (.t 16), [], none⟩,
          ⟨some 112, .mv (.t 17), [], none⟩,
          ⟨some 113, .bin .lss (.t 111) (.t 112), [0, 1], none⟩])
        (.cond (.t 113)
          (.seq (.reg [
            ⟨some 114, .mv (.t 16), [], none⟩,
            ⟨some 115, .mv (.t 18), [], none⟩,
            ⟨some 116, .bin .geq (.t 114) (.t 115), [0, 1], none⟩,
            ⟨some 8, .mv (.t 116), [2, 0, 1, 2], none⟩])
          (.seq (.reg [
            ⟨some 117, .mv (.t 0), [], none⟩,
            ⟨some 118, .mv (.t 1), [], none⟩,
            ⟨some 119, .mv (.t 14), [], none⟩,
            ⟨some 120, .mv (.t 3), [], none⟩,
            ⟨some 121, .call 46 [(.t 117), (.t 118), (.t 119), (.t 120)], [0, 1, 2, 3], none⟩])
          (.reg [
            ⟨some 122, .mv (.t 14), [], none⟩,
            ⟨some 123, .bin .add (.t 122) (.c (.val (.int .i64 1))), [0], none⟩,
            ⟨some 1, .mv (.t 123), [1, 0, 1], none⟩])))
          (.seq (.reg [
            ⟨some 124, .mv (.t 17), [], none⟩,
            ⟨some 125, .mv (.t 18), [], none⟩,
            ⟨some 126, .bin .geq (.t 124) (.t 125), [0, 1], none⟩,
            ⟨some 8, .mv (.t 126), [2, 0, 1, 2], none⟩])
          (.seq (.reg [
            ⟨some 127, .mv (.t 0), [], none⟩,
            ⟨some 128, .mv (.t 14), [], none⟩,
            ⟨some 129, .bin .add (.t 128) (.c (.val (.int .i64 1))), [1], none⟩,
            ⟨some 130, .mv (.t 2), [], none⟩,
            ⟨some 131, .mv (.t 3), [], none⟩,
            ⟨some 132, .call 46 [(.t 127), (.t 129), (.t 130), (.t 131)], [0, 2, 3, 4], none⟩])
          (.reg [
            ⟨some 133, .mv (.t 14), [], none⟩,
            ⟨some 2, .mv (.t 133), [0, 0], none⟩]))))))))))))))))))))))
theorem Tryp46 : (Try.f46.body.map (prep Try.prog 134)) = some Tryc46 := by kernel_rfl

/- math/bits.Len -/
def Tryc47 : ACode :=
  (.seq (.reg [
    ⟨some 2, .mv (.c (.val (.int .i64 0))), [], none⟩])
  (.seq (.cond (.c (.val (.bool false)))
    (.seq (.reg [
      ⟨some 3, .mv (.t 0), [], none⟩,
      ⟨some 4, .cvi .u32 (.t 3), [0], none⟩,
      ⟨some 5, .call 68 [(.t 4)], [1], none⟩,
      ⟨some 2, .mv (.t 5), [2, 2, 0, 1, 2], none⟩])
    .ret)
    .skip)
  (.seq (.reg [
    ⟨some 6, .mv (.t 0), [], none⟩,
    ⟨some 7, .call 69 [(.t 6)], [0], none⟩,
    ⟨some 2, .mv (.t 7), [1, 1, 0, 1], none⟩])
  .ret)))
theorem Tryp47 : (Try.f47.body.map (prep Try.prog 8)) = some Tryc47 := by kernel_rfl

/- tidegate/tidegateref51.change -/
def Tryc48 : ACode :=
  (.seq (.reg [
    ⟨some 1, .box (.t 0), [], none⟩,
    ⟨some 2, .mv (.c (.val (.int .i64 0))), [], none⟩])
  (.seq (.seq (.reg [
    ⟨some 3, .fa 0 (.t 1), [], none⟩,
    ⟨some 4, .ld 1 false (.t 3), [0], none⟩,
    ⟨some 5, .bin .neq (.t 4) (.c (.val (.int .i64 1))), [1], none⟩,
    ⟨some 6, .mv (.t 5), [2], none⟩,
    ⟨some 7, .fa 0 (.t 1), [3], some (6, true)⟩,
    ⟨some 8, .ld 1 false (.t 7), [4, 3], some (6, true)⟩,
    ⟨some 9, .bin .neq (.t 8) (.c (.val (.int .i64 (-1)))), [5, 3], some (6, true)⟩,
    ⟨some 10, .pick (.t 6) (.t 9) (.c (.val (.bool false))), [3, 6], none⟩])
  (.cond (.t 10)
    (.seq (.reg [
      ⟨some 2, .mv (.c (.val (.int .i64 1))), [], none⟩])
    .ret)
    .skip))
  (.seq (.seq (.reg [
    ⟨some 11, .fa 1 (.t 1), [], none⟩,
    ⟨some 12, .ld 1 false (.t 11), [0], none⟩,
    ⟨some 13, .bin .lss (.t 12) (.c (.val (.int .i64 0))), [1], none⟩,
    ⟨some 14, .mv (.t 13), [2], none⟩,
    ⟨some 15, .fa 1 (.t 1), [3], some (14, false)⟩,
    ⟨some 16, .ld 1 false (.t 15), [4, 3], some (14, false)⟩,
    ⟨some 17, .bin .geq (.t 16) (.c (.val (.int .i64 16))), [5, 3], some (14, false)⟩,
    ⟨some 18, .pick (.t 14) (.c (.val (.bool true))) (.t 17), [3, 6], none⟩])
  (.cond (.t 18)
    (.seq (.reg [
      ⟨some 2, .mv (.c (.val (.int .i64 2))), [], none⟩])
    .ret)
    .skip))
  (.seq (.reg [
    ⟨some 2, .mv (.c (.val (.int .i64 0))), [], none⟩])
  .ret))))
theorem Tryp48 : (Try.f48.body.map (prep Try.prog 19)) = some Tryc48 := by kernel_rfl

/- tidegate/tidegateref51.sameMatch -/
def Tryc49 : ACode :=
  (.seq (.reg [
    ⟨some 2, .box (.t 0), [], none⟩,
    ⟨some 3, .box (.t 1), [], none⟩,
    ⟨some 4, .mv (.c (.val (.bool false))), [], none⟩])
  (.seq (.seq (.reg [
    ⟨some 6, .fa 0 (.t 2), [], none⟩,
    ⟨some 7, .ld 1 false (.t 6), [0], none⟩,
    ⟨some 8, .len (.t 7), [1], none⟩,
    ⟨some 9, .fa 0 (.t 3), [], none⟩,
    ⟨some 10, .ld 1 false (.t 9), [3], none⟩,
    ⟨some 11, .len (.t 10), [4], none⟩,
    ⟨some 12, .bin .neq (.t 8) (.t 11), [2, 5], none⟩])
  (.cond (.t 12)
    (.seq (.reg [
      ⟨some 4, .mv (.c (.val (.bool false))), [], none⟩])
    .ret)
    .skip))
  (.seq (.seq (.reg [
    ⟨some 5, .mv (.c (.val (.int .i64 0))), [], none⟩])
  (.block 0
    (.loop
      (.seq (.seq (.reg [
        ⟨some 13, .mv (.t 5), [], none⟩,
        ⟨some 14, .fa 0 (.t 2), [], none⟩,
        ⟨some 15, .ld 1 false (.t 14), [1], none⟩,
        ⟨some 16, .len (.t 15), [2], none⟩,
        ⟨some 17, .bin .lss (.t 13) (.t 16), [0, 3], none⟩])
      (.cond (.t 17)
        .skip
        (.exit 0)))
      (.seq (.block 1
        (.seq (.draw [
          ⟨some 20, .fa 0 (.t 2), [], none⟩,
          ⟨some 21, .ld 1 false (.t 20), [0], none⟩,
          ⟨some 22, .mv (.t 5), [], none⟩,
          ⟨some 23, .ia 4 (.t 21) (.t 22), [1, 2], none⟩,
          ⟨some 24, .ld 4 true (.t 23), [3], none⟩,
          ⟨some 25, .fa 0 (.t 3), [], none⟩,
          ⟨some 26, .ld 1 false (.t 25), [5], none⟩,
          ⟨some 27, .mv (.t 5), [], none⟩,
          ⟨some 28, .ia 4 (.t 26) (.t 27), [6, 7], none⟩,
          ⟨some 29, .ld 4 true (.t 28), [8], none⟩,
          ⟨some 30, .eqst true [.int, .int, .int, .int] (.t 24) (.t 29), [4, 9], none⟩])
        (.cond (.t 30)
          (.seq (.reg [
            ⟨some 4, .mv (.c (.val (.bool false))), [], none⟩])
          .ret)
          .skip)))
      (.reg [
        ⟨some 18, .mv (.t 5), [], none⟩,
        ⟨some 19, .bin .add (.t 18) (.c (.val (.int .i64 1))), [0], none⟩,
        ⟨some 5, .mv (.t 19), [1, 0, 1], none⟩]))))))
  (.seq (.reg [
    ⟨some 4, .mv (.c (.val (.bool true))), [], none⟩])
  .ret))))
theorem Tryp49 : (Try.f49.body.map (prep Try.prog 31)) = some Tryc49 := by kernel_rfl

/- slices.AppendSeq[[]tidegate/api.Change,tidegate/api.Change] -/
def Tryc50 : ACode :=
  (.seq (.reg [
    ⟨some 2, .box (.t 0), [], none⟩,
    ⟨some 4, .mv (.c (.val (.slice none 0 0))), [], none⟩])
  (.seq (.seq (.reg [
    ⟨some 6, .mv (.t 1), [], none⟩])
  (.block 0
    (.rfun (.t 6) [7]
      (.reg [
        ⟨some 5, .box (.c (.agg [(.val (.int .i64 0)), (.val (.int .i64 0)), (.val (.slice none 0 0))])), [], none⟩,
        ⟨none, .st 3 (.t 5) (.t 7), [0, 0], none⟩])
      (.block 1
        (.reg [
          ⟨some 8, .ld 1 false (.t 2), [], none⟩,
          ⟨some 9, .ld 3 true (.t 5), [], none⟩,
          ⟨some 10, .bslice 3 [(.t 9)], [1], none⟩,
          ⟨some 11, .app 3 40 (.t 8) (.t 10), [0, 2], none⟩,
          ⟨none, .st 1 (.t 2) (.t 11), [3, 3, 0, 1, 2, 3], none⟩])))))
  (.seq (.reg [
    ⟨some 12, .ld 1 false (.t 2), [], none⟩,
    ⟨some 4, .mv (.t 12), [0, 0], none⟩])
  .ret)))
theorem Tryp50 : (Try.f50.body.map (prep Try.prog 13)) = some Tryc50 := by kernel_rfl

/- tidegate/sink.pending$1 -/
def Tryc51 : ACode :=
  (.seq (.reg [
    ⟨some 7, .ld 1 false (.t 1), [], none⟩,
    ⟨some 8, .len (.t 7), [0], none⟩,
    ⟨some 9, .mv (.c (.val (.int .i64 0))), [], none⟩])
  (.block 0
    (.loop
      (.seq (.reg [
        ⟨some 10, .bin .lss (.t 9) (.t 8), [], none⟩])
      (.seq (.cond (.t 10)
        .skip
        (.exit 0))
      (.seq (.block 1
        (.seq (.reg [
          ⟨some 11, .ia 2 (.t 7) (.t 9), [], none⟩,
          ⟨some 12, .ld 2 true (.t 11), [0], none⟩,
          ⟨some 4, .box (.c (.agg [(.val (.int .i64 0)), (.val (.slice none 0 0))])), [], none⟩,
          ⟨none, .st 2 (.t 4) (.t 12), [2, 1, 0, 1, 2], none⟩])
        (.seq (.reg [
          ⟨some 13, .fa 1 (.t 4), [], none⟩,
          ⟨some 14, .ld 1 false (.t 13), [0], none⟩,
          ⟨some 15, .len (.t 14), [1], none⟩,
          ⟨some 16, .mv (.c (.val (.int .i64 0))), [], none⟩])
        (.block 2
          (.loop
            (.seq (.reg [
              ⟨some 17, .bin .lss (.t 16) (.t 15), [], none⟩])
            (.seq (.cond (.t 17)
              .skip
              (.exit 2))
            (.seq (.block 3
              (.seq (.reg [
                ⟨some 18, .ia 3 (.t 14) (.t 16), [], none⟩,
                ⟨some 19, .ld 3 true (.t 18), [0], none⟩,
                ⟨some 6, .box (.c (.agg [(.val (.int .i64 0)), (.val (.int .i64 0)), (.val (.slice none 0 0))])), [], none⟩,
                ⟨none, .st 3 (.t 6) (.t 19), [2, 1, 0, 1, 2], none⟩])
              (.seq (.reg [
                ⟨some 20, .mv (.t 0), [], none⟩,
                ⟨some 21, .ld 3 true (.t 6), [], none⟩,
                ⟨some 22, .callv (.t 20) [(.t 21)], [0, 1], none⟩,
                ⟨some 23, .un .not (.t 22), [2], none⟩])
              (.cond (.t 23)
                .ret
                .skip))))
            (.reg [
              ⟨some 24, .bin .add (.t 16) (.c (.val (.int .i64 1))), [], none⟩,
              ⟨some 16, .mv (.t 24), [0], none⟩])))))))))
      (.reg [
        ⟨some 25, .bin .add (.t 9) (.c (.val (.int .i64 1))), [], none⟩,
        ⟨some 9, .mv (.t 25), [0], none⟩])))))))
theorem Tryp51 : (Try.f51.body.map (prep Try.prog 26)) = some Tryc51 := by kernel_rfl

/- slices.Grow[[]tidegate/api.Change,tidegate/api.Change] -/
def Tryc52 : ACode :=
  (.seq (.reg [
    ⟨some 4, .mv (.c (.val (.slice none 0 0))), [], none⟩])
  (.seq (.seq (.reg [
    ⟨some 5, .mv (.t 1), [], none⟩,
    ⟨some 6, .bin .lss (.t 5) (.c (.val (.int .i64 0))), [0], none⟩])
  (.cond (.t 6)
    (.reg [
      ⟨some 7, .mkif 9 (.c (.val (.string ⟨#[99, 97, 110, 110, 111, 116, 32, 98, 101, 32, 110, 101, 103, 97, 116, 105, 118, 101]⟩))), [], none⟩,
      ⟨none, .bad, [0], none⟩])
    .skip))
  (.seq (.seq (.reg [
    ⟨some 8, .mv (.t 1), [], none⟩,
    ⟨some 9, .mv (.t 0), [], none⟩,
    ⟨some 10, .cap (.t 9), [1], none⟩,
    ⟨some 11, .mv (.t 0), [], none⟩,
    ⟨some 12, .len (.t 11), [3], none⟩,
    ⟨some 13, .bin .sub (.t 10) (.t 12), [2, 4], none⟩,
    ⟨some 14, .bin .sub (.t 8) (.t 13), [0, 5], none⟩,
    ⟨some 1, .mv (.t 14), [6, 0, 1, 2, 3, 4, 5, 6], none⟩])
  (.seq (.reg [
    ⟨some 15, .mv (.t 1), [], none⟩,
    ⟨some 16, .bin .gtr (.t 15) (.c (.val (.int .i64 0))), [0], none⟩])
  (.cond (.t 16)
    (.reg [
      ⟨some 17, .mv (.t 0), [], none⟩,
      ⟨some 18, .mv (.t 0), [], none⟩,
      ⟨some 19, .cap (.t 18), [1], none⟩,
      ⟨some 20, .slc 3 (.t 17) none (some (.t 19)), [0, 2], none⟩,
      ⟨some 21, .mv (.t 1), [], none⟩,
      ⟨some 22, .appz 3 40 (.agg [(.val (.int .i64 0)), (.val (.int .i64 0)), (.val (.slice none 0 0))]) (.t 20) (.t 21), [3, 4], none⟩,
      ⟨some 23, .mv (.t 0), [], none⟩,
      ⟨some 24, .len (.t 23), [6], none⟩,
      ⟨some 25, .slc 3 (.t 22) none (some (.t 24)), [5, 7], none⟩,
      ⟨some 0, .mv (.t 25), [8, 5, 0, 1, 2, 3, 4, 5, 6, 7, 8], none⟩])
    .skip)))
  (.seq (.reg [
    ⟨some 26, .mv (.t 0), [], none⟩,
    ⟨some 4, .mv (.t 26), [0, 0], none⟩])
  .ret))))
theorem Tryp52 : (Try.f52.body.map (prep Try.prog 27)) = some Tryc52 := by kernel_rfl

/- slices.Clone[[]tidegate/api.Change,tidegate/api.Change] -/
def Tryc53 : ACode :=
  (.seq (.reg [
    ⟨some 2, .mv (.c (.val (.slice none 0 0))), [], none⟩])
  (.seq (.seq (.reg [
    ⟨some 3, .mv (.t 0), [], none⟩,
    ⟨some 4, .eqnil false (.t 3) (.c (.val (.slice none 0 0))), [0], none⟩])
  (.cond (.t 4)
    (.seq (.reg [
      ⟨some 2, .mv (.c (.val (.slice none 0 0))), [], none⟩])
    .ret)
    .skip))
  (.seq (.reg [
    ⟨some 5, .bslice 3 [], [], none⟩,
    ⟨some 6, .mv (.t 0), [], none⟩,
    ⟨some 7, .app 3 40 (.t 5) (.t 6), [0, 1], none⟩,
    ⟨some 2, .mv (.t 7), [2, 2, 0, 1, 2], none⟩])
  .ret)))
theorem Tryp53 : (Try.f53.body.map (prep Try.prog 8)) = some Tryc53 := by kernel_rfl

/- slices.BinarySearchFunc[[]tidegate/api.Batch,tidegate/api.Batch,int] -/
def Tryc54 : ACode :=
  (.seq (.reg [
    ⟨some 6, .mv (.c (.val (.int .i64 0))), [], none⟩,
    ⟨some 7, .mv (.c (.val (.bool false))), [0], none⟩])
  (.seq (.reg [
    ⟨some 12, .mv (.t 0), [], none⟩,
    ⟨some 13, .len (.t 12), [0], none⟩,
    ⟨some 8, .mv (.t 13), [1, 0, 1], none⟩])
  (.seq (.reg [
    ⟨some 14, .mv (.t 8), [], none⟩,
    ⟨some 9, .mv (.c (.val (.int .i64 0))), [], none⟩,
    ⟨some 10, .mv (.t 14), [0, 1, 0, 1], none⟩])
  (.seq (.block 0
    (.loop
      (.seq (.seq (.reg [
        ⟨some 15, .mv (.t 9), [], none⟩,
        ⟨some 16, .mv (.t 10), [], none⟩,
        ⟨some 17, .bin .lss (.t 15) (.t 16), [0, 1], none⟩])
      (.cond (.t 17)
        .skip
        (.exit 0)))
      (.block 1
        (.seq (.reg [
          ⟨some 18, .mv (.t 9), [], none⟩,
          ⟨some 19, .mv (.t 10), [], none⟩,
          ⟨some 20, .bin .add (.t 18) (.t 19), [0, 1], none⟩,
          ⟨some 21, .cvi .u64 (.t 20), [2], none⟩,
          ⟨some 22, .bin .shr (.t 21) (.c (.val (.int .u64 1))), [3], none⟩,
          ⟨some 23, .cvi .i64 (.t 22), [4], none⟩,
          ⟨some 11, .mv (.t 23), [5, 0, 1, 2, 3, 4, 5], none⟩])
        (.seq (.reg [
          ⟨some 24, .mv (.t 2), [], none⟩,
          ⟨some 25, .mv (.t 0), [], none⟩,
          ⟨some 26, .mv (.t 11), [], none⟩,
          ⟨some 27, .ia 2 (.t 25) (.t 26), [1, 2], none⟩,
          ⟨some 28, .ld 2 true (.t 27), [3], none⟩,
          ⟨some 29, .mv (.t 1), [], none⟩,
          ⟨some 30, .callv (.t 24) [(.t 28), (.t 29)], [0, 4, 5], none⟩,
          ⟨some 31, .bin .lss (.t 30) (.c (.val (.int .i64 0))), [6], none⟩])
        (.cond (.t 31)
          (.reg [
            ⟨some 32, .mv (.t 11), [], none⟩,
            ⟨some 33, .bin .add (.t 32) (.c (.val (.int .i64 1))), [0], none⟩,
            ⟨some 9, .mv (.t 33), [1, 0, 1], none⟩])
          (.reg [
            ⟨some 34, .mv (.t 11), [], none⟩,
            ⟨some 10, .mv (.t 34), [0, 0], none⟩]))))))))
  (.seq (.reg [
    ⟨some 35, .mv (.t 9), [], none⟩,
    ⟨some 36, .mv (.t 9), [], none⟩,
    ⟨some 37, .mv (.t 8), [], none⟩,
    ⟨some 38, .bin .lss (.t 36) (.t 37), [1, 2], none⟩,
    ⟨some 39, .mv (.t 38), [3], none⟩,
    ⟨some 40, .mv (.t 2), [4], some (39, true)⟩,
    ⟨some 41, .mv (.t 0), [4], some (39, true)⟩,
    ⟨some 42, .mv (.t 9), [4], some (39, true)⟩,
    ⟨some 43, .ia 2 (.t 41) (.t 42), [6, 7, 4], some (39, true)⟩,
    ⟨some 44, .ld 2 true (.t 43), [8, 4], some (39, true)⟩,
    ⟨some 45, .mv (.t 1), [4], some (39, true)⟩,
    ⟨some 46, .callv (.t 40) [(.t 44), (.t 45)], [5, 9, 10, 4, 4], some (39, true)⟩,
    ⟨some 47, .bin .eql (.t 46) (.c (.val (.int .i64 0))), [11, 4], some (39, true)⟩,
    ⟨some 48, .pick (.t 39) (.t 47) (.c (.val (.bool false))), [4, 12], none⟩,
    ⟨some 6, .mv (.t 35), [0, 11, 0], none⟩,
    ⟨some 7, .mv (.t 48), [13, 14, 0, 1, 2, 3, 4, 5, 6, 7, 8, 9, 10, 11, 12, 13, 14], none⟩])
  .ret)))))
theorem Tryp54 : (Try.f54.body.map (prep Try.prog 49)) = some Tryc54 := by kernel_rfl

/- tidegate/sink.place$1 -/
def Tryc55 : ACode :=
  (.seq (.reg [
    ⟨some 2, .box (.t 0), [], none⟩,
    ⟨some 4, .mv (.c (.val (.int .i64 0))), [], none⟩])
  (.seq (.reg [
    ⟨some 5, .fa 0 (.t 2), [], none⟩,
    ⟨some 6, .ld 1 false (.t 5), [0], none⟩,
    ⟨some 7, .mv (.t 1), [], none⟩,
    ⟨some 8, .call 56 [(.t 6), (.t 7)], [1, 2], none⟩,
    ⟨some 4, .mv (.t 8), [3, 3, 0, 1, 2, 3], none⟩])
  .ret))
theorem Tryp55 : (Try.f55.body.map (prep Try.prog 9)) = some Tryc55 := by kernel_rfl

/- cmp.Compare[int] -/
def Tryc56 : ACode :=
  (.seq (.reg [
    ⟨some 4, .mv (.c (.val (.int .i64 0))), [], none⟩])
  (.seq (.reg [
    ⟨some 7, .mv (.t 0), [], none⟩,
    ⟨some 8, .call 70 [(.t 7)], [0], none⟩,
    ⟨some 5, .mv (.t 8), [1, 1, 0, 1], none⟩])
  (.seq (.reg [
    ⟨some 9, .mv (.t 1), [], none⟩,
    ⟨some 10, .call 70 [(.t 9)], [0], none⟩,
    ⟨some 6, .mv (.t 10), [1, 1, 0, 1], none⟩])
  (.seq (.seq (.reg [
    ⟨some 11, .mv (.t 5), [], none⟩])
  (.cond (.t 11)
    (.seq (.seq (.reg [
      ⟨some 12, .mv (.t 6), [], none⟩])
    (.cond (.t 12)
      (.seq (.reg [
        ⟨some 4, .mv (.c (.val (.int .i64 0))), [], none⟩])
      .ret)
      .skip))
    (.seq (.reg [
      ⟨some 4, .mv (.c (.val (.int .i64 (-1)))), [], none⟩])
    .ret))
    .skip))
  (.seq (.seq (.reg [
    ⟨some 13, .mv (.t 6), [], none⟩])
  (.cond (.t 13)
    (.seq (.reg [
      ⟨some 4, .mv (.c (.val (.int .i64 1))), [], none⟩])
    .ret)
    .skip))
  (.seq (.seq (.reg [
    ⟨some 14, .mv (.t 0), [], none⟩,
    ⟨some 15, .mv (.t 1), [], none⟩,
    ⟨some 16, .bin .lss (.t 14) (.t 15), [0, 1], none⟩])
  (.cond (.t 16)
    (.seq (.reg [
      ⟨some 4, .mv (.c (.val (.int .i64 (-1)))), [], none⟩])
    .ret)
    .skip))
  (.seq (.seq (.reg [
    ⟨some 17, .mv (.t 0), [], none⟩,
    ⟨some 18, .mv (.t 1), [], none⟩,
    ⟨some 19, .bin .gtr (.t 17) (.t 18), [0, 1], none⟩])
  (.cond (.t 19)
    (.seq (.reg [
      ⟨some 4, .mv (.c (.val (.int .i64 1))), [], none⟩])
    .ret)
    .skip))
  (.seq (.reg [
    ⟨some 4, .mv (.c (.val (.int .i64 0))), [], none⟩])
  .ret))))))))
theorem Tryp56 : (Try.f56.body.map (prep Try.prog 20)) = some Tryc56 := by kernel_rfl

/- slices.rotateRight[tidegate/api.Batch] -/
def Tryc58 : ACode :=
  (.reg [
    ⟨some 4, .mv (.t 0), [], none⟩,
    ⟨some 5, .mv (.t 0), [], none⟩,
    ⟨some 6, .len (.t 5), [1], none⟩,
    ⟨some 7, .mv (.t 1), [], none⟩,
    ⟨some 8, .bin .sub (.t 6) (.t 7), [2, 3], none⟩,
    ⟨some 9, .call 71 [(.t 4), (.t 8)], [0, 4], none⟩])
theorem Tryp58 : (Try.f58.body.map (prep Try.prog 10)) = some Tryc58 := by kernel_rfl

/- slices.insertionSortOrdered[int] -/
def Tryc59 : ACode :=
  (.seq (.reg [
    ⟨some 8, .mv (.t 1), [], none⟩,
    ⟨some 9, .bin .add (.t 8) (.c (.val (.int .i64 1))), [0], none⟩,
    ⟨some 6, .mv (.t 9), [1, 0, 1], none⟩])
  (.block 0
    (.loop
      (.seq (.seq (.reg [
        ⟨some 10, .mv (.t 6), [], none⟩,
        ⟨some 11, .mv (.t 2), [], none⟩,
        ⟨some 12, .bin .lss (.t 10) (.t 11), [0, 1], none⟩])
      (.cond (.t 12)
        .skip
        (.exit 0)))
      (.seq (.block 1
        (.seq (.reg [
          ⟨some 15, .mv (.t 6), [], none⟩,
          ⟨some 7, .mv (.t 15), [0, 0], none⟩])
        (.block 2
          (.loop
            (.seq (.seq (.draw [
              ⟨some 16, .mv (.t 7), [], none⟩,
              ⟨some 17, .mv (.t 1), [], none⟩,
              ⟨some 18, .bin .gtr (.t 16) (.t 17), [0, 1], none⟩,
              ⟨some 19, .mv (.t 18), [2], none⟩,
              ⟨some 20, .mv (.t 0), [3], some (19, true)⟩,
              ⟨some 21, .mv (.t 7), [3], some (19, true)⟩,
              ⟨some 22, .ia 1 (.t 20) (.t 21), [4, 5, 3], some (19, true)⟩,
              ⟨some 23, .ld 1 false (.t 22), [6, 3], some (19, true)⟩,
              ⟨some 24, .mv (.t 0), [3], some (19, true)⟩,
              ⟨some 25, .mv (.t 7), [3], some (19, true)⟩,
              ⟨some 26, .bin .sub (.t 25) (.c (.val (.int .i64 1))), [9, 3], some (19, true)⟩,
              ⟨some 27, .ia 1 (.t 24) (.t 26), [8, 10, 3], some (19, true)⟩,
              ⟨some 28, .ld 1 false (.t 27), [11, 3], some (19, true)⟩,
              ⟨some 29, .call 65 [(.t 23), (.t 28)], [7, 12, 3, 3], some (19, true)⟩,
              ⟨some 30, .pick (.t 19) (.t 29) (.c (.val (.bool false))), [3, 13], none⟩])
            (.cond (.t 30)
              .skip
              (.exit 2)))
            (.seq (.block 3
              (.draw [
                ⟨some 33, .mv (.t 0), [], none⟩,
                ⟨some 34, .mv (.t 7), [], none⟩,
                ⟨some 35, .mv (.t 0), [], none⟩,
                ⟨some 36, .mv (.t 7), [], none⟩,
                ⟨some 37, .bin .sub (.t 36) (.c (.val (.int .i64 1))), [3], none⟩,
                ⟨some 38, .mv (.t 0), [], none⟩,
                ⟨some 39, .mv (.t 7), [], none⟩,
                ⟨some 40, .bin .sub (.t 39) (.c (.val (.int .i64 1))), [6], none⟩,
                ⟨some 41, .ia 1 (.t 38) (.t 40), [5, 7], none⟩,
                ⟨some 42, .ld 1 false (.t 41), [8], none⟩,
                ⟨some 43, .mv (.t 0), [], none⟩,
                ⟨some 44, .mv (.t 7), [], none⟩,
                ⟨some 45, .ia 1 (.t 43) (.t 44), [10, 11], none⟩,
                ⟨some 46, .ld 1 false (.t 45), [12], none⟩,
                ⟨some 47, .ia 1 (.t 33) (.t 34), [0, 1, 0, 1, 5, 6, 7, 8, 9, 13], none⟩,
                ⟨none, .st 1 (.t 47) (.t 42), [14, 9, 0, 1, 5, 6, 7, 8, 9, 13], none⟩,
                ⟨some 48, .ia 1 (.t 35) (.t 37), [2, 4, 0, 1, 2, 3, 4, 5, 6, 7, 8, 9, 10, 11, 12, 13, 14, 15], none⟩,
                ⟨none, .st 1 (.t 48) (.t 46), [16, 13, 15, 0, 1, 2, 3, 4, 5, 6, 7, 8, 9, 10, 11, 12, 13, 14, 15], none⟩]))
            (.reg [
              ⟨some 31, .mv (.t 7), [], none⟩,
              ⟨some 32, .bin .sub (.t 31) (.c (.val (.int .i64 1))), [0], none⟩,
              ⟨some 7, .mv (.t 32), [1, 0, 1], none⟩])))))))
      (.reg [
        ⟨some 13, .mv (.t 6), [], none⟩,
        ⟨some 14, .bin .add (.t 13) (.c (.val (.int .i64 1))), [0], none⟩,
        ⟨some 6, .mv (.t 14), [1, 0, 1], none⟩]))))))
theorem Tryp59 : (Try.f59.body.map (prep Try.prog 49)) = some Tryc59 := by kernel_rfl

/- slices.heapSortOrdered[int] -/
def Tryc60 : ACode :=
  (.seq (.reg [
    ⟨some 11, .mv (.t 1), [], none⟩,
    ⟨some 6, .mv (.t 11), [0, 0], none⟩])
  (.seq (.reg [
    ⟨some 7, .mv (.c (.val (.int .i64 0))), [], none⟩])
  (.seq (.reg [
    ⟨some 12, .mv (.t 2), [], none⟩,
    ⟨some 13, .mv (.t 1), [], none⟩,
    ⟨some 14, .bin .sub (.t 12) (.t 13), [0, 1], none⟩,
    ⟨some 8, .mv (.t 14), [2, 0, 1, 2], none⟩])
  (.seq (.seq (.reg [
    ⟨some 15, .mv (.t 8), [], none⟩,
    ⟨some 16, .bin .sub (.t 15) (.c (.val (.int .i64 1))), [0], none⟩,
    ⟨some 17, .bin .quo (.t 16) (.c (.val (.int .i64 2))), [1], none⟩,
    ⟨some 9, .mv (.t 17), [2, 0, 1, 2], none⟩])
  (.block 0
    (.loop
      (.seq (.seq (.reg [
        ⟨some 18, .mv (.t 9), [], none⟩,
        ⟨some 19, .bin .geq (.t 18) (.c (.val (.int .i64 0))), [0], none⟩])
      (.cond (.t 19)
        .skip
        (.exit 0)))
      (.seq (.block 1
        (.reg [
          ⟨some 22, .mv (.t 0), [], none⟩,
          ⟨some 23, .mv (.t 9), [], none⟩,
          ⟨some 24, .mv (.t 8), [], none⟩,
          ⟨some 25, .mv (.t 6), [], none⟩,
          ⟨some 26, .call 72 [(.t 22), (.t 23), (.t 24), (.t 25)], [0, 1, 2, 3], none⟩]))
      (.reg [
        ⟨some 20, .mv (.t 9), [], none⟩,
        ⟨some 21, .bin .sub (.t 20) (.c (.val (.int .i64 1))), [0], none⟩,
        ⟨some 9, .mv (.t 21), [1, 0, 1], none⟩]))))))
  (.seq (.reg [
    ⟨some 27, .mv (.t 8), [], none⟩,
    ⟨some 28, .bin .sub (.t 27) (.c (.val (.int .i64 1))), [0], none⟩,
    ⟨some 10, .mv (.t 28), [1, 0, 1], none⟩])
  (.block 2
    (.loop
      (.seq (.seq (.reg [
        ⟨some 29, .mv (.t 10), [], none⟩,
        ⟨some 30, .bin .geq (.t 29) (.c (.val (.int .i64 0))), [0], none⟩])
      (.cond (.t 30)
        .skip
        (.exit 2)))
      (.seq (.block 3
        (.seq (.draw [
          ⟨some 33, .mv (.t 0), [], none⟩,
          ⟨some 34, .mv (.t 6), [], none⟩,
          ⟨some 35, .mv (.t 0), [], none⟩,
          ⟨some 36, .mv (.t 6), [], none⟩,
          ⟨some 37, .mv (.t 10), [], none⟩,
          ⟨some 38, .bin .add (.t 36) (.t 37), [3, 4], none⟩,
          ⟨some 39, .mv (.t 0), [], none⟩,
          ⟨some 40, .mv (.t 6), [], none⟩,
          ⟨some 41, .mv (.t 10), [], none⟩,
          ⟨some 42, .bin .add (.t 40) (.t 41), [7, 8], none⟩,
          ⟨some 43, .ia 1 (.t 39) (.t 42), [6, 9], none⟩,
          ⟨some 44, .ld 1 false (.t 43), [10], none⟩,
          ⟨some 45, .mv (.t 0), [], none⟩,
          ⟨some 46, .mv (.t 6), [], none⟩,
          ⟨some 47, .ia 1 (.t 45) (.t 46), [12, 13], none⟩,
          ⟨some 48, .ld 1 false (.t 47), [14], none⟩,
          ⟨some 49, .ia 1 (.t 33) (.t 34), [0, 1, 0, 1, 6, 7, 8, 9, 10, 11, 15], none⟩,
          ⟨none, .st 1 (.t 49) (.t 44), [16, 11, 0, 1, 6, 7, 8, 9, 10, 11, 15], none⟩,
          ⟨some 50, .ia 1 (.t 35) (.t 38), [2, 5, 0, 1, 2, 3, 4, 5, 6, 7, 8, 9, 10, 11, 12, 13, 14, 15, 16, 17], none⟩,
          ⟨none, .st 1 (.t 50) (.t 48), [18, 15, 17, 0, 1, 2, 3, 4, 5, 6, 7, 8, 9, 10, 11, 12, 13, 14, 15, 16, 17], none⟩])
        (.reg [
          ⟨some 51, .mv (.t 0), [], none⟩,
          ⟨some 52, .mv (.t 7), [], none⟩,
          ⟨some 53, .mv (.t 10), [], none⟩,
          ⟨some 54, .mv (.t 6), [], none⟩,
          ⟨some 55, .call 72 [(.t 51), (.t 52), (.t 53), (.t 54)], [0, 1, 2, 3], none⟩])))
      (.reg [
        ⟨some 31, .mv (.t 10), [], none⟩,
        ⟨some 32, .bin .sub (.t 31) (.c (.val (.int .i64 1))), [0], none⟩,
        ⟨some 10, .mv (.t 32), [1, 0, 1], none⟩]))))))))))
theorem Tryp60 : (Try.f60.body.map (prep Try.prog 56)) = some Tryc60 := by kernel_rfl

/- slices.breakPatternsOrdered[int] -/
def Tryc61 : ACode :=
  (.seq (.reg [
    ⟨some 11, .mv (.t 2), [], none⟩,
    ⟨some 12, .mv (.t 1), [], none⟩,
    ⟨some 13, .bin .sub (.t 11) (.t 12), [0, 1], none⟩,
    ⟨some 6, .mv (.t 13), [2, 0, 1, 2], none⟩])
  (.seq (.reg [
    ⟨some 14, .mv (.t 6), [], none⟩,
    ⟨some 15, .bin .geq (.t 14) (.c (.val (.int .i64 8))), [0], none⟩])
  (.cond (.t 15)
    (.seq (.reg [
      ⟨some 16, .mv (.t 6), [], none⟩,
      ⟨some 17, .cvi .u64 (.t 16), [0], none⟩,
      ⟨some 7, .box (.c (.val (.int .u64 0))), [], none⟩,
      ⟨none, .st 1 (.t 7) (.t 17), [2, 1, 0, 1, 2], none⟩])
    (.seq (.reg [
      ⟨some 18, .mv (.t 6), [], none⟩,
      ⟨some 19, .call 73 [(.t 18)], [0], none⟩,
      ⟨some 8, .mv (.t 19), [1, 1, 0, 1], none⟩])
    (.seq (.reg [
      ⟨some 20, .mv (.t 1), [], none⟩,
      ⟨some 21, .mv (.t 6), [], none⟩,
      ⟨some 22, .bin .quo (.t 21) (.c (.val (.int .i64 4))), [1], none⟩,
      ⟨some 23, .bin .mul (.t 22) (.c (.val (.int .i64 2))), [2], none⟩,
      ⟨some 24, .bin .add (.t 20) (.t 23), [0, 3], none⟩,
      ⟨some 25, .bin .sub (.t 24) (.c (.val (.int .i64 1))), [4], none⟩,
      ⟨some 9, .mv (.t 25), [5, 0, 1, 2, 3, 4, 5], none⟩])
    (.block 0
      (.loop
        (.seq (.seq (.reg [
          ⟨some 26, .mv (.t 9), [], none⟩,
          ⟨some 27, .mv (.t 1), [], none⟩,
          ⟨some 28, .mv (.t 6), [], none⟩,
          ⟨some 29, .bin .quo (.t 28) (.c (.val (.int .i64 4))), [2], none⟩,
          ⟨some 30, .bin .mul (.t 29) (.c (.val (.int .i64 2))), [3], none⟩,
          ⟨some 31, .bin .add (.t 27) (.t 30), [1, 4], none⟩,
          ⟨some 32, .bin .add (.t 31) (.c (.val (.int .i64 1))), [5], none⟩,
          ⟨some 33, .bin .leq (.t 26) (.t 32), [0, 6], none⟩])
        (.cond (.t 33)
          .skip
          (.exit 0)))
        (.seq (.block 1
          (.seq (.reg [
            ⟨some 36, .call 74 [(.t 7)], [], none⟩,
            ⟨some 37, .mv (.t 8), [], none⟩,
            ⟨some 38, .bin .sub (.t 37) (.c (.val (.int .u64 1))), [1], none⟩,
            ⟨some 39, .bin .and (.t 36) (.t 38), [0, 2], none⟩,
            ⟨some 40, .cvi .i64 (.t 39), [3], none⟩,
            ⟨some 10, .mv (.t 40), [4, 0, 0, 1, 2, 3, 4], none⟩])
          (.seq (.seq (.reg [
            ⟨some 41, .mv (.t 10), [], none⟩,
            ⟨some 42, .mv (.t 6), [], none⟩,
            ⟨some 43, .bin .geq (.t 41) (.t 42), [0, 1], none⟩])
          (.cond (.t 43)
            (.reg [
              ⟨some 44, .mv (.t 10), [], none⟩,
              ⟨some 45, .mv (.t 6), [], none⟩,
              ⟨some 46, .bin .sub (.t 44) (.t 45), [0, 1], none⟩,
              ⟨some 10, .mv (.t 46), [2, 0, 1, 2], none⟩])
            .skip))
          (.draw [
            ⟨some 47, .mv (.t 0), [], none⟩,
            ⟨some 48, .mv (.t 9), [], none⟩,
            ⟨some 49, .mv (.t 0), [], none⟩,
            ⟨some 50, .mv (.t 1), [], none⟩,
            ⟨some 51, .mv (.t 10), [], none⟩,
            ⟨some 52, .bin .add (.t 50) (.t 51), [3, 4], none⟩,
            ⟨some 53, .mv (.t 0), [], none⟩,
            ⟨some 54, .mv (.t 1), [], none⟩,
            ⟨some 55, .mv (.t 10), [], none⟩,
            ⟨some 56, .bin .add (.t 54) (.t 55), [7, 8], none⟩,
            ⟨some 57, .ia 1 (.t 53) (.t 56), [6, 9], none⟩,
            ⟨some 58, .ld 1 false (.t 57), [10], none⟩,
            ⟨some 59, .mv (.t 0), [], none⟩,
            ⟨some 60, .mv (.t 9), [], none⟩,
            ⟨some 61, .ia 1 (.t 59) (.t 60), [12, 13], none⟩,
            ⟨some 62, .ld 1 false (.t 61), [14], none⟩,
            ⟨some 63, .ia 1 (.t 47) (.t 48), [0, 1, 0, 1, 6, 7, 8, 9, 10, 11, 15], none⟩,
            ⟨none, .st 1 (.t 63) (.t 58), [16, 11, 0, 1, 6, 7, 8, 9, 10, 11, 15], none⟩,
            ⟨some 64, .ia 1 (.t 49) (.t 52), [2, 5, 0, 1, 2, 3, 4, 5, 6, 7, 8, 9, 10, 11, 12, 13, 14, 15, 16, 17], none⟩,
            ⟨none, .st 1 (.t 64) (.t 62), [18, 15, 17, 0, 1, 2, 3, 4, 5, 6, 7, 8, 9, 10, 11, 12, 13, 14, 15, 16, 17], none⟩]))))
        (.reg [
          ⟨some 34, .mv (.t 9), [], none⟩,
          ⟨some 35, .bin .add (.t 34) (.c (.val (.int .i64 1))), [0], none⟩,
          ⟨some 9, .mv (.t 35), [1, 0, 1], none⟩]))))))))
    .skip)))
theorem Tryp61 : (Try.f61.body.map (prep Try.prog 65)) = some Tryc61 := by kernel_rfl

/- slices.choosePivotOrdered[int] -/
def Tryc62 : ACode :=
  (.seq (.reg [
    ⟨some 6, .mv (.c (.val (.int .i64 0))), [], none⟩,
    ⟨some 7, .mv (.c (.val (.int .i64 0))), [0], none⟩])
  (.seq (.reg [
    ⟨some 13, .mv (.t 2), [], none⟩,
    ⟨some 14, .mv (.t 1), [], none⟩,
    ⟨some 15, .bin .sub (.t 13) (.t 14), [0, 1], none⟩,
    ⟨some 8, .mv (.t 15), [2, 0, 1, 2], none⟩])
  (.seq (.reg [
    ⟨some 9, .box (.c (.val (.int .i64 0))), [], none⟩])
  (.seq (.reg [
    ⟨some 16, .mv (.t 1), [], none⟩,
    ⟨some 17, .mv (.t 8), [], none⟩,
    ⟨some 18, .bin .quo (.t 17) (.c (.val (.int .i64 4))), [1], none⟩,
    ⟨some 19, .bin .mul (.t 18) (.c (.val (.int .i64 1))), [2], none⟩,
    ⟨some 20, .bin .add (.t 16) (.t 19), [0, 3], none⟩,
    ⟨some 10, .mv (.t 20), [4, 0, 1, 2, 3, 4], none⟩])
  (.seq (.reg [
    ⟨some 21, .mv (.t 1), [], none⟩,
    ⟨some 22, .mv (.t 8), [], none⟩,
    ⟨some 23, .bin .quo (.t 22) (.c (.val (.int .i64 4))), [1], none⟩,
    ⟨some 24, .bin .mul (.t 23) (.c (.val (.int .i64 2))), [2], none⟩,
    ⟨some 25, .bin .add (.t 21) (.t 24), [0, 3], none⟩,
    ⟨some 11, .mv (.t 25), [4, 0, 1, 2, 3, 4], none⟩])
  (.seq (.reg [
    ⟨some 26, .mv (.t 1), [], none⟩,
    ⟨some 27, .mv (.t 8), [], none⟩,
    ⟨some 28, .bin .quo (.t 27) (.c (.val (.int .i64 4))), [1], none⟩,
    ⟨some 29, .bin .mul (.t 28) (.c (.val (.int .i64 3))), [2], none⟩,
    ⟨some 30, .bin .add (.t 26) (.t 29), [0, 3], none⟩,
    ⟨some 12, .mv (.t 30), [4, 0, 1, 2, 3, 4], none⟩])
  (.seq (.seq (.reg [
    ⟨some 31, .mv (.t 8), [], none⟩,
    ⟨some 32, .bin .geq (.t 31) (.c (.val (.int .i64 8))), [0], none⟩])
  (.cond (.t 32)
    (.seq (.seq (.reg [
      ⟨some 33, .mv (.t 8), [], none⟩,
      ⟨some 34, .bin .geq (.t 33) (.c (.val (.int .i64 50))), [0], none⟩])
    (.cond (.t 34)
      (.seq (.reg [
        ⟨some 35, .mv (.t 0), [], none⟩,
        ⟨some 36, .mv (.t 10), [], none⟩,
        ⟨some 37, .call 75 [(.t 35), (.t 36), (.t 9)], [0, 1], none⟩,
        ⟨some 10, .mv (.t 37), [2, 2, 0, 1, 2], none⟩])
      (.seq (.reg [
        ⟨some 38, .mv (.t 0), [], none⟩,
        ⟨some 39, .mv (.t 11), [], none⟩,
        ⟨some 40, .call 75 [(.t 38), (.t 39), (.t 9)], [0, 1], none⟩,
        ⟨some 11, .mv (.t 40), [2, 2, 0, 1, 2], none⟩])
      (.reg [
        ⟨some 41, .mv (.t 0), [], none⟩,
        ⟨some 42, .mv (.t 12), [], none⟩,
        ⟨some 43, .call 75 [(.t 41), (.t 42), (.t 9)], [0, 1], none⟩,
        ⟨some 12, .mv (.t 43), [2, 2, 0, 1, 2], none⟩])))
      .skip))
    (.reg [
      ⟨some 44, .mv (.t 0), [], none⟩,
      ⟨some 45, .mv (.t 10), [], none⟩,
      ⟨some 46, .mv (.t 11), [], none⟩,
      ⟨some 47, .mv (.t 12), [], none⟩,
      ⟨some 48, .call 76 [(.t 44), (.t 45), (.t 46), (.t 47), (.t 9)], [0, 1, 2, 3], none⟩,
      ⟨some 11, .mv (.t 48), [4, 4, 0, 1, 2, 3, 4], none⟩]))
    .skip))
  (.seq (.reg [
    ⟨some 49, .ld 1 false (.t 9), [], none⟩])
  (.block 0
    (.seq (.reg [
      ⟨some 52, .bin .eql (.t 49) (.c (.val (.int .i64 0))), [], none⟩,
      ⟨some 51, .mv (.t 52), [0], none⟩])
    (.cond (.t 51)
      (.seq (.reg [
        ⟨some 53, .mv (.t 11), [], none⟩,
        ⟨some 6, .mv (.t 53), [0, 0], none⟩,
        ⟨some 7, .mv (.c (.val (.int .i64 1))), [1, 0, 1], none⟩])
      .ret)
      (.seq (.reg [
        ⟨some 55, .bin .eql (.t 49) (.c (.val (.int .i64 12))), [], none⟩,
        ⟨some 54, .mv (.t 55), [0], none⟩])
      (.cond (.t 54)
        (.seq (.reg [
          ⟨some 56, .mv (.t 11), [], none⟩,
          ⟨some 6, .mv (.t 56), [0, 0], none⟩,
          ⟨some 7, .mv (.c (.val (.int .i64 2))), [1, 0, 1], none⟩])
        .ret)
        (.seq (.reg [
          ⟨some 50, .mv (.t 11), [], none⟩,
          ⟨some 6, .mv (.t 50), [0, 0], none⟩,
          ⟨some 7, .mv (.c (.val (.int .i64 0))), [1, 0, 1], none⟩])
        .ret))))))))))))))
theorem Tryp62 : (Try.f62.body.map (prep Try.prog 57)) = some Tryc62 := by kernel_rfl

end Go.Am
end

/- Contracts of the program's functions, for every argument that meets the conditions that each theorem names. -/
import Derived.Test.YtdbikeconboifaaDoorAm6
import Derived.Test.YtdbikeconboifaaDoorAm4
import Derived.Test.YtdbikeconboifaaDoorProg
section
set_option maxRecDepth 100000
namespace Go.Am
open Go.Proofs
def Trydc6 : ACode :=
  (.seq (.reg [
    ⟨some 2, .box (.t 0), [], none⟩,
    ⟨some 4, .mv (.c (.val (.bool false))), [], none⟩])
  (.seq (.seq (.reg [
    ⟨some 18, .ld 14 true (.t 2), [], none⟩,
    ⟨some 19, .call 7 [(.t 18)], [0], none⟩,
    ⟨some 20, .un .not (.t 19), [1], none⟩,
    ⟨some 21, .mv (.t 20), [2, 1], none⟩,
    ⟨some 22, .ld 14 true (.t 2), [3], some (21, false)⟩,
    ⟨some 23, .call 18 [(.t 22)], [4, 3, 3], some (21, false)⟩,
    ⟨some 24, .bin .neq (.t 23) (.c (.val (.int .i64 0))), [5, 3], some (21, false)⟩,
    ⟨some 25, .pick (.t 21) (.c (.val (.bool true))) (.t 24), [3, 6], none⟩])
  (.cond (.t 25)
    (.seq (.reg [
      ⟨some 26, .call 8 [], [], none⟩,
      ⟨some 4, .mv (.t 26), [0, 0, 0], none⟩])
    .ret)
    .skip))
  (.seq (.reg [
    ⟨some 5, .mv (.c (.val (.slice none 0 0))), [], none⟩,
    ⟨some 6, .mv (.c (.val (.slice none 0 0))), [0], none⟩])
  (.seq (.reg [
    ⟨some 7, .mv (.c (.val (.int .i64 16))), [], none⟩])
  (.seq (.seq (.reg [
    ⟨some 8, .mv (.c (.val (.int .i64 0))), [], none⟩])
  (.block 0
    (.loop
      (.seq (.seq (.reg [
        ⟨some 27, .mv (.t 8), [], none⟩,
        ⟨some 28, .mv (.t 7), [], none⟩,
        ⟨some 29, .bin .lss (.t 27) (.t 28), [0, 1], none⟩])
      (.cond (.t 29)
        .skip
        (.exit 0)))
      (.seq (.block 1
        (.seq (.reg [
          ⟨some 32, .mv (.t 5), [], none⟩,
          ⟨some 33, .mv (.t 8), [], none⟩,
          ⟨some 34, .mv (.t 1), [], none⟩,
          ⟨some 35, .cvi .i64 (.t 34), [2], none⟩,
          ⟨some 36, .bin .add (.t 33) (.t 35), [1, 3], none⟩,
          ⟨some 37, .mv (.t 7), [], none⟩,
          ⟨some 38, .bin .rem (.t 36) (.t 37), [4, 5], none⟩,
          ⟨some 39, .bslice 1 [(.t 38)], [6], none⟩,
          ⟨some 40, .app 1 8 (.t 32) (.t 39), [0, 7], none⟩,
          ⟨some 5, .mv (.t 40), [8, 8, 0, 1, 2, 3, 4, 5, 6, 7, 8], none⟩])
        (.reg [
          ⟨some 41, .mv (.t 6), [], none⟩,
          ⟨some 42, .mv (.t 8), [], none⟩,
          ⟨some 43, .mv (.t 7), [], none⟩,
          ⟨some 44, .bin .add (.t 42) (.t 43), [1, 2], none⟩,
          ⟨some 45, .mv (.t 1), [], none⟩,
          ⟨some 46, .cvi .i64 (.t 45), [4], none⟩,
          ⟨some 47, .mv (.t 7), [], none⟩,
          ⟨some 48, .bin .rem (.t 46) (.t 47), [5, 6], none⟩,
          ⟨some 49, .bin .sub (.t 44) (.t 48), [3, 7], none⟩,
          ⟨some 50, .mv (.t 7), [], none⟩,
          ⟨some 51, .bin .rem (.t 49) (.t 50), [8, 9], none⟩,
          ⟨some 52, .bslice 1 [(.t 51)], [10], none⟩,
          ⟨some 53, .app 1 8 (.t 41) (.t 52), [0, 11], none⟩,
          ⟨some 6, .mv (.t 53), [12, 12, 0, 1, 2, 3, 4, 5, 6, 7, 8, 9, 10, 11, 12], none⟩])))
      (.reg [
        ⟨some 30, .mv (.t 8), [], none⟩,
        ⟨some 31, .bin .add (.t 30) (.c (.val (.int .i64 1))), [0], none⟩,
        ⟨some 8, .mv (.t 31), [1, 0, 1], none⟩]))))))
  (.seq (.reg [
    ⟨some 55, .ld 14 true (.t 2), [], none⟩,
    ⟨some 56, .mv (.t 5), [], none⟩,
    ⟨some 57, .call 19 [(.t 55), (.t 56)], [0, 1], none⟩,
    ⟨some 54, .mv (.t 57), [2], none⟩,
    ⟨some 58, .ext (.t 54) 0, [3], none⟩,
    ⟨some 59, .ext (.t 54) 1, [3], none⟩,
    ⟨some 9, .box (.c (.agg [(.val (.int .i64 0)), (.val (.slice none 0 0)), (.val (.int .i64 0)), (.val (.int .i64 0)), (.val (.int .i64 0)), (.val (.int .i64 0)), (.val (.int .i64 0)), (.val (.slice none 0 0)), (.val (.int .i64 0)), (.val (.int .i64 0)), (.val (.int .i64 0)), (.val (.int .i64 0)), (.val (.int .i64 0)), (.val (.string ⟨#[]⟩))])), [], none⟩,
    ⟨none, .st 14 (.t 9) (.t 58), [6, 4, 2, 0, 1, 2, 3, 4, 6], none⟩,
    ⟨some 10, .mv (.t 59), [5, 7, 0, 1, 2, 3, 4, 5, 6, 7], none⟩])
  (.seq (.reg [
    ⟨some 61, .ld 14 true (.t 9), [], none⟩,
    ⟨some 62, .mv (.t 6), [], none⟩,
    ⟨some 63, .call 19 [(.t 61), (.t 62)], [0, 1], none⟩,
    ⟨some 60, .mv (.t 63), [2], none⟩,
    ⟨some 64, .ext (.t 60) 0, [3], none⟩,
    ⟨some 65, .ext (.t 60) 1, [3], none⟩,
    ⟨some 11, .box (.c (.agg [(.val (.int .i64 0)), (.val (.slice none 0 0)), (.val (.int .i64 0)), (.val (.int .i64 0)), (.val (.int .i64 0)), (.val (.int .i64 0)), (.val (.int .i64 0)), (.val (.slice none 0 0)), (.val (.int .i64 0)), (.val (.int .i64 0)), (.val (.int .i64 0)), (.val (.int .i64 0)), (.val (.int .i64 0)), (.val (.string ⟨#[]⟩))])), [], none⟩,
    ⟨none, .st 14 (.t 11) (.t 64), [6, 4, 2, 0, 1, 2, 3, 4, 6], none⟩,
    ⟨some 12, .mv (.t 65), [5, 7, 0, 1, 2, 3, 4, 5, 6, 7], none⟩])
  (.seq (.seq (.reg [
    ⟨some 66, .mv (.t 10), [], none⟩,
    ⟨some 67, .bin .neq (.t 66) (.c (.val (.int .i64 0))), [0], none⟩,
    ⟨some 68, .mv (.t 67), [1], none⟩,
    ⟨some 69, .mv (.t 12), [2], some (68, false)⟩,
    ⟨some 70, .bin .neq (.t 69) (.c (.val (.int .i64 0))), [3, 2], some (68, false)⟩,
    ⟨some 71, .pick (.t 68) (.c (.val (.bool true))) (.t 70), [2, 4], none⟩,
    ⟨some 72, .mv (.t 71), [5, 2], none⟩,
    ⟨some 73, .ld 14 true (.t 11), [6], some (72, false)⟩,
    ⟨some 74, .ld 14 true (.t 2), [6], some (72, false)⟩,
    ⟨some 75, .call 17 [(.t 73), (.t 74)], [7, 8, 6, 6], some (72, false)⟩,
    ⟨some 76, .un .not (.t 75), [9, 6], some (72, false)⟩,
    ⟨some 77, .pick (.t 72) (.c (.val (.bool true))) (.t 76), [6, 10], none⟩])
  (.cond (.t 77)
    (.seq (.reg [
      ⟨some 4, .mv (.c (.val (.bool false))), [], none⟩])
    .ret)
    .skip))
  (.seq (.draw [
    ⟨some 78, .ld 14 true (.t 2), [], none⟩,
    ⟨some 79, .call 20 [(.t 78)], [0], none⟩,
    ⟨some 80, .ld 14 true (.t 9), [], none⟩,
    ⟨some 81, .call 20 [(.t 80)], [2, 1], none⟩,
    ⟨some 13, .mv (.t 79), [1, 3, 0, 1], none⟩,
    ⟨some 14, .mv (.t 81), [3, 4, 0, 1, 2, 3, 4], none⟩])
  (.seq (.seq (.reg [
    ⟨some 82, .mv (.t 13), [], none⟩,
    ⟨some 83, .len (.t 82), [0], none⟩,
    ⟨some 84, .mv (.t 14), [], none⟩,
    ⟨some 85, .len (.t 84), [2], none⟩,
    ⟨some 86, .bin .neq (.t 83) (.t 85), [1, 3], none⟩])
  (.cond (.t 86)
    (.seq (.reg [
      ⟨some 4, .mv (.c (.val (.bool false))), [], none⟩])
    .ret)
    .skip))
  (.seq (.seq (.reg [
    ⟨some 15, .mv (.c (.val (.int .i64 0))), [], none⟩])
  (.block 2
    (.loop
      (.seq (.seq (.reg [
        ⟨some 87, .mv (.t 15), [], none⟩,
        ⟨some 88, .mv (.t 13), [], none⟩,
        ⟨some 89, .len (.t 88), [1], none⟩,
        ⟨some 90, .bin .lss (.t 87) (.t 89), [0, 2], none⟩])
      (.cond (.t 90)
        .skip
        (.exit 2)))
      (.seq (.block 3
        (.seq (.reg [
          ⟨some 16, .mv (.c (.val (.bool false))), [], none⟩])
        (.seq (.seq (.reg [
          ⟨some 17, .mv (.c (.val (.int .i64 0))), [], none⟩])
        (.block 4
          (.loop
            (.seq (.seq (.reg [
              ⟨some 93, .mv (.t 17), [], none⟩,
              ⟨some 94, .mv (.t 14), [], none⟩,
              ⟨some 95, .len (.t 94), [1], none⟩,
              ⟨some 96, .bin .lss (.t 93) (.t 95), [0, 2], none⟩])
            (.cond (.t 96)
              .skip
              (.exit 4)))
            (.seq (.block 5
              (.draw [
                ⟨some 99, .mv (.t 16), [], none⟩,
                ⟨some 100, .mv (.t 99), [0], none⟩,
                ⟨some 101, .mv (.t 13), [1], some (100, false)⟩,
                ⟨some 102, .mv (.t 15), [1], some (100, false)⟩,
                ⟨some 103, .ia 1 (.t 101) (.t 102), [2, 3, 1], some (100, false)⟩,
                ⟨some 104, .ld 1 false (.t 103), [4, 1], some (100, false)⟩,
                ⟨some 105, .bin .geq (.t 104) (.c (.val (.int .i64 0))), [5, 1], some (100, false)⟩,
                ⟨some 106, .mv (.t 105), [6, 1, 1], some (100, false)⟩,
                ⟨some 107, .mv (.t 14), [7], some (106, true)⟩,
                ⟨some 108, .mv (.t 17), [7], some (106, true)⟩,
                ⟨some 109, .ia 1 (.t 107) (.t 108), [8, 9, 7], some (106, true)⟩,
                ⟨some 110, .ld 1 false (.t 109), [10, 7], some (106, true)⟩,
                ⟨some 111, .mv (.t 13), [7], some (106, true)⟩,
                ⟨some 112, .mv (.t 15), [7], some (106, true)⟩,
                ⟨some 113, .ia 1 (.t 111) (.t 112), [12, 13, 7], some (106, true)⟩,
                ⟨some 114, .ld 1 false (.t 113), [14, 7], some (106, true)⟩,
                ⟨some 115, .mv (.t 1), [7], some (106, true)⟩,
                ⟨some 116, .cvi .i64 (.t 115), [16, 7], some (106, true)⟩,
                ⟨some 117, .bin .add (.t 114) (.t 116), [15, 17, 7], some (106, true)⟩,
                ⟨some 118, .mv (.t 7), [7], some (106, true)⟩,
                ⟨some 119, .bin .rem (.t 117) (.t 118), [18, 19, 7], some (106, true)⟩,
                ⟨some 120, .bin .eql (.t 110) (.t 119), [11, 20, 7], some (106, true)⟩,
                ⟨some 121, .pick (.t 106) (.t 120) (.c (.val (.bool false))), [7, 21, 1], some (100, false)⟩,
                ⟨some 122, .pick (.t 100) (.c (.val (.bool true))) (.t 121), [1, 22], none⟩,
                ⟨some 16, .mv (.t 122), [23, 7, 0, 1, 2, 3, 4, 5, 6, 7, 8, 9, 10, 11, 12, 13, 14, 15, 16, 17, 18, 19, 20, 21, 22, 23], none⟩]))
            (.reg [
              ⟨some 97, .mv (.t 17), [], none⟩,
              ⟨some 98, .bin .add (.t 97) (.c (.val (.int .i64 1))), [0], none⟩,
              ⟨some 17, .mv (.t 98), [1, 0, 1], none⟩]))))))
        (.seq (.reg [
          ⟨some 123, .mv (.t 16), [], none⟩,
          ⟨some 124, .un .not (.t 123), [0], none⟩])
        (.cond (.t 124)
          (.seq (.reg [
            ⟨some 4, .mv (.c (.val (.bool false))), [], none⟩])
          .ret)
          .skip)))))
      (.reg [
        ⟨some 91, .mv (.t 15), [], none⟩,
        ⟨some 92, .bin .add (.t 91) (.c (.val (.int .i64 1))), [0], none⟩,
        ⟨some 15, .mv (.t 92), [1, 0, 1], none⟩]))))))
  (.seq (.reg [
    ⟨some 125, .call 8 [], [], none⟩,
    ⟨some 4, .mv (.t 125), [0, 0, 0], none⟩])
  .ret))))))))))))
theorem Trydp6 : (Tryd.f6.body.map (prep Tryd.prog 126)) = some Trydc6 := by kernel_rfl
def Trydc7 : ACode :=
  (.seq (.reg [
    ⟨some 1, .box (.t 0), [], none⟩,
    ⟨some 2, .mv (.c (.val (.bool false))), [], none⟩])
  (.seq (.seq (.reg [
    ⟨some 5, .ld 14 true (.t 1), [], none⟩,
    ⟨some 6, .call 21 [(.t 5), (.c (.val (.int .i64 150)))], [0], none⟩,
    ⟨some 7, .bin .gtr (.t 6) (.c (.val (.int .i64 150))), [1], none⟩,
    ⟨some 8, .mv (.t 7), [2, 1], none⟩,
    ⟨some 9, .ld 14 true (.t 1), [3], some (8, false)⟩,
    ⟨some 10, .call 22 [(.t 9)], [4, 3, 3], some (8, false)⟩,
    ⟨some 11, .bin .gtr (.t 10) (.c (.val (.int .i64 60))), [5, 3], some (8, false)⟩,
    ⟨some 12, .pick (.t 8) (.c (.val (.bool true))) (.t 11), [3, 6], none⟩])
  (.cond (.t 12)
    (.seq (.reg [
      ⟨some 2, .mv (.c (.val (.bool false))), [], none⟩])
    .ret)
    .skip))
  (.seq (.reg [
    ⟨some 13, .ld 14 true (.t 1), [], none⟩,
    ⟨some 14, .call 23 [(.t 13)], [0], none⟩,
    ⟨some 3, .mv (.t 14), [1, 1, 0, 1], none⟩])
  (.seq (.seq (.reg [
    ⟨some 4, .mv (.c (.val (.int .i64 0))), [], none⟩])
  (.block 0
    (.loop
      (.seq (.seq (.reg [
        ⟨some 15, .mv (.t 4), [], none⟩,
        ⟨some 16, .mv (.t 3), [], none⟩,
        ⟨some 17, .len (.t 16), [1], none⟩,
        ⟨some 18, .bin .lss (.t 15) (.t 17), [0, 2], none⟩])
      (.cond (.t 18)
        .skip
        (.exit 0)))
      (.seq (.block 1
        (.seq (.reg [
          ⟨some 21, .mv (.t 3), [], none⟩,
          ⟨some 22, .mv (.t 4), [], none⟩,
          ⟨some 23, .ia 14 (.t 21) (.t 22), [0, 1], none⟩,
          ⟨some 24, .fa 6 (.t 23), [2], none⟩,
          ⟨some 25, .ld 8 true (.t 24), [3], none⟩,
          ⟨some 26, .call 24 [(.t 25)], [4], none⟩,
          ⟨some 27, .un .not (.t 26), [5], none⟩])
        (.cond (.t 27)
          (.seq (.reg [
            ⟨some 2, .mv (.c (.val (.bool false))), [], none⟩])
          .ret)
          .skip)))
      (.reg [
        ⟨some 19, .mv (.t 4), [], none⟩,
        ⟨some 20, .bin .add (.t 19) (.c (.val (.int .i64 1))), [0], none⟩,
        ⟨some 4, .mv (.t 20), [1, 0, 1], none⟩]))))))
  (.seq (.reg [
    ⟨some 2, .mv (.c (.val (.bool true))), [], none⟩])
  .ret)))))
theorem Trydp7 : (Tryd.f7.body.map (prep Tryd.prog 28)) = some Trydc7 := by kernel_rfl
def Trydc8 : ACode :=
  (.seq (.reg [
    ⟨some 0, .mv (.c (.val (.bool false))), [], none⟩])
  (.seq (.reg [
    ⟨some 12, .call 25 [(.c (.val (.int .i64 0))), (.c (.val (.int .i64 1)))], [], none⟩,
    ⟨some 13, .call 25 [(.c (.val (.int .i64 3))), (.c (.val (.int .i64 7)))], [0], none⟩,
    ⟨some 1, .box (.c (.agg [(.val (.int .i64 0)), (.val (.slice none 0 0)), (.val (.int .i64 0)), (.val (.int .i64 0)), (.val (.int .i64 0)), (.val (.int .i64 0)), (.val (.int .i64 0)), (.val (.slice none 0 0)), (.val (.int .i64 0)), (.val (.int .i64 0)), (.val (.int .i64 0)), (.val (.int .i64 0)), (.val (.int .i64 0)), (.val (.string ⟨#[]⟩))])), [], none⟩,
    ⟨some 2, .box (.c (.agg [(.val (.int .i64 0)), (.val (.slice none 0 0)), (.val (.int .i64 0)), (.val (.int .i64 0)), (.val (.int .i64 0)), (.val (.int .i64 0)), (.val (.int .i64 0)), (.val (.slice none 0 0)), (.val (.int .i64 0)), (.val (.int .i64 0)), (.val (.int .i64 0)), (.val (.int .i64 0)), (.val (.int .i64 0)), (.val (.string ⟨#[]⟩))])), [], none⟩,
    ⟨none, .st 14 (.t 1) (.t 12), [2, 0, 1, 0, 2, 3], none⟩,
    ⟨none, .st 14 (.t 2) (.t 13), [3, 1, 4, 0, 1, 2, 3, 4], none⟩])
  (.seq (.reg [
    ⟨some 15, .ld 14 true (.t 1), [], none⟩,
    ⟨some 16, .call 13 [(.t 15)], [0], none⟩,
    ⟨some 14, .mv (.t 16), [1], none⟩,
    ⟨some 17, .ext (.t 14) 0, [2], none⟩,
    ⟨some 18, .ext (.t 14) 1, [2], none⟩,
    ⟨some 3, .mv (.t 17), [3, 1, 0, 1, 2, 3], none⟩,
    ⟨some 4, .mv (.t 18), [4, 5, 0, 1, 2, 3, 4, 5], none⟩])
  (.seq (.reg [
    ⟨some 20, .ld 14 true (.t 1), [], none⟩,
    ⟨some 21, .call 14 [(.t 20), (.c (.val (.int .i64 1)))], [0], none⟩,
    ⟨some 19, .mv (.t 21), [1], none⟩,
    ⟨some 22, .ext (.t 19) 0, [2], none⟩,
    ⟨some 23, .ext (.t 19) 1, [2], none⟩,
    ⟨some 24, .ext (.t 19) 2, [2], none⟩,
    ⟨some 5, .mv (.t 22), [3, 1, 0, 1, 2, 3], none⟩,
    ⟨some 6, .mv (.t 23), [4, 6, 0, 1, 2, 3, 4, 6], none⟩,
    ⟨some 7, .mv (.t 24), [5, 7, 0, 1, 2, 3, 4, 5, 6, 7], none⟩])
  (.seq (.reg [
    ⟨some 26, .ld 14 true (.t 2), [], none⟩,
    ⟨some 27, .call 26 [(.t 26)], [0], none⟩,
    ⟨some 25, .mv (.t 27), [1], none⟩,
    ⟨some 28, .ext (.t 25) 0, [2], none⟩,
    ⟨some 29, .ext (.t 25) 1, [2], none⟩,
    ⟨some 30, .ext (.t 25) 2, [2], none⟩,
    ⟨some 8, .box (.c (.agg [(.val (.int .i64 0)), (.val (.slice none 0 0)), (.val (.int .i64 0)), (.val (.int .i64 0)), (.val (.int .i64 0)), (.val (.int .i64 0)), (.val (.int .i64 0)), (.val (.slice none 0 0)), (.val (.int .i64 0)), (.val (.int .i64 0)), (.val (.int .i64 0)), (.val (.int .i64 0)), (.val (.int .i64 0)), (.val (.string ⟨#[]⟩))])), [], none⟩,
    ⟨none, .st 14 (.t 8) (.t 28), [6, 3, 1, 0, 1, 2, 3, 6], none⟩,
    ⟨some 9, .mv (.t 29), [4, 7, 0, 1, 2, 3, 4, 6, 7], none⟩,
    ⟨some 10, .mv (.t 30), [5, 8, 0, 1, 2, 3, 4, 5, 6, 7, 8], none⟩])
  (.seq (.seq (.reg [
    ⟨some 31, .mv (.t 7), [], none⟩,
    ⟨some 32, .bin .neq (.t 31) (.c (.val (.int .i64 0))), [0], none⟩,
    ⟨some 33, .mv (.t 32), [1], none⟩,
    ⟨some 34, .mv (.t 10), [2], some (33, false)⟩,
    ⟨some 35, .bin .neq (.t 34) (.c (.val (.int .i64 0))), [3, 2], some (33, false)⟩,
    ⟨some 36, .pick (.t 33) (.c (.val (.bool true))) (.t 35), [2, 4], none⟩,
    ⟨some 37, .mv (.t 36), [5, 2], none⟩,
    ⟨some 38, .mv (.t 3), [6], some (37, false)⟩,
    ⟨some 39, .bin .neq (.t 38) (.c (.val (.int .i64 5))), [7, 6], some (37, false)⟩,
    ⟨some 40, .pick (.t 37) (.c (.val (.bool true))) (.t 39), [6, 8], none⟩,
    ⟨some 41, .mv (.t 40), [9, 6], none⟩,
    ⟨some 42, .mv (.t 4), [10], some (41, false)⟩,
    ⟨some 43, .bin .neq (.t 42) (.c (.val (.int .i64 4))), [11, 10], some (41, false)⟩,
    ⟨some 44, .pick (.t 41) (.c (.val (.bool true))) (.t 43), [10, 12], none⟩,
    ⟨some 45, .mv (.t 44), [13, 10], none⟩,
    ⟨some 46, .mv (.t 5), [14], some (45, false)⟩,
    ⟨some 47, .build [(.val (.int .i64 0)), (.val (.int .i64 0))] [(1, 1, (.c (.val (.int .i64 5))))], [14], some (45, false)⟩,
    ⟨some 48, .bslice 2 [(.t 47)], [16, 14], some (45, false)⟩,
    ⟨some 49, .call 15 [(.t 46), (.t 48)], [15, 17, 14, 14], some (45, false)⟩,
    ⟨some 50, .un .not (.t 49), [18, 14], some (45, false)⟩,
    ⟨some 51, .pick (.t 45) (.c (.val (.bool true))) (.t 50), [14, 19], none⟩,
    ⟨some 52, .mv (.t 51), [20, 18], none⟩,
    ⟨some 53, .mv (.t 6), [21], some (52, false)⟩,
    ⟨some 54, .len (.t 53), [22, 21], some (52, false)⟩,
    ⟨some 55, .bin .neq (.t 54) (.c (.val (.int .i64 0))), [23, 21], some (52, false)⟩,
    ⟨some 56, .pick (.t 52) (.c (.val (.bool true))) (.t 55), [21, 24], none⟩,
    ⟨some 57, .mv (.t 56), [25, 21], none⟩,
    ⟨some 58, .ld 14 true (.t 1), [26], some (57, false)⟩,
    ⟨some 59, .call 12 [(.t 58)], [27, 26, 26], some (57, false)⟩,
    ⟨some 60, .bin .neq (.t 59) (.c (.val (.int .i64 0))), [28, 26], some (57, false)⟩,
    ⟨some 61, .pick (.t 57) (.c (.val (.bool true))) (.t 60), [26, 29], none⟩,
    ⟨some 62, .mv (.t 61), [30, 28], none⟩,
    ⟨some 63, .ld 14 true (.t 2), [31], some (62, false)⟩,
    ⟨some 64, .call 12 [(.t 63)], [32, 31, 31], some (62, false)⟩,
    ⟨some 65, .bin .neq (.t 64) (.c (.val (.int .i64 14))), [33, 31], some (62, false)⟩,
    ⟨some 66, .pick (.t 62) (.c (.val (.bool true))) (.t 65), [31, 34], none⟩,
    ⟨some 67, .mv (.t 66), [35, 33], none⟩,
    ⟨some 68, .ld 14 true (.t 8), [36], some (67, false)⟩,
    ⟨some 69, .ld 14 true (.t 1), [36], some (67, false)⟩,
    ⟨some 70, .call 11 [(.t 68), (.t 69)], [37, 38, 36, 36], some (67, false)⟩,
    ⟨some 71, .un .not (.t 70), [39, 36], some (67, false)⟩,
    ⟨some 72, .pick (.t 67) (.c (.val (.bool true))) (.t 71), [36, 40], none⟩,
    ⟨some 73, .mv (.t 72), [41, 39], none⟩,
    ⟨some 74, .mv (.t 9), [42], some (73, false)⟩,
    ⟨some 75, .bslice 1 [(.c (.val (.int .i64 3))), (.c (.val (.int .i64 7)))], [42], some (73, false)⟩,
    ⟨some 76, .call 16 [(.t 74), (.t 75)], [43, 44, 42, 42], some (73, false)⟩,
    ⟨some 77, .un .not (.t 76), [45, 42], some (73, false)⟩,
    ⟨some 78, .pick (.t 73) (.c (.val (.bool true))) (.t 77), [42, 46], none⟩])
  (.cond (.t 78)
    (.seq (.reg [
      ⟨some 0, .mv (.c (.val (.bool false))), [], none⟩])
    .ret)
    .skip))
  (.seq (.reg [
    ⟨some 79, .call 27 [(.c (.val (.int .i64 0))), (.c (.val (.int .i64 1)))], [], none⟩,
    ⟨some 80, .bslice 14 [(.t 79)], [0], none⟩,
    ⟨some 81, .call 28 [], [0], none⟩,
    ⟨some 82, .build [(.val (.int .i64 0)), (.val (.slice none 0 0)), (.val (.int .i64 0)), (.val (.int .i64 0)), (.val (.int .i64 0)), (.val (.int .i64 0)), (.val (.int .i64 0)), (.val (.slice none 0 0)), (.val (.int .i64 0)), (.val (.int .i64 0)), (.val (.int .i64 0)), (.val (.int .i64 0)), (.val (.int .i64 0)), (.val (.string ⟨#[]⟩))] [(0, 1, (.c (.val (.int .i64 5)))), (1, 1, (.t 80)), (2, 1, (.c (.val (.int .i64 1)))), (6, 8, (.t 81))], [1, 2], none⟩,
    ⟨some 11, .box (.c (.agg [(.val (.int .i64 0)), (.val (.slice none 0 0)), (.val (.int .i64 0)), (.val (.int .i64 0)), (.val (.int .i64 0)), (.val (.int .i64 0)), (.val (.int .i64 0)), (.val (.slice none 0 0)), (.val (.int .i64 0)), (.val (.int .i64 0)), (.val (.int .i64 0)), (.val (.int .i64 0)), (.val (.int .i64 0)), (.val (.string ⟨#[]⟩))])), [], none⟩,
    ⟨none, .st 14 (.t 11) (.t 82), [4, 3, 2, 0, 1, 2, 3, 4], none⟩])
  (.seq (.reg [
    ⟨some 83, .ld 14 true (.t 11), [], none⟩,
    ⟨some 84, .call 12 [(.t 83)], [0], none⟩,
    ⟨some 85, .bin .eql (.t 84) (.c (.val (.int .i64 0))), [1], none⟩,
    ⟨some 86, .mv (.t 85), [2, 1], none⟩,
    ⟨some 87, .ld 14 true (.t 11), [3], some (86, true)⟩,
    ⟨some 88, .call 20 [(.t 87)], [4, 3, 3], some (86, true)⟩,
    ⟨some 89, .bslice 1 [(.c (.val (.int .i64 1)))], [3], some (86, true)⟩,
    ⟨some 90, .call 16 [(.t 88), (.t 89)], [5, 6, 5, 3], some (86, true)⟩,
    ⟨some 91, .pick (.t 86) (.t 90) (.c (.val (.bool false))), [3, 7], none⟩,
    ⟨some 0, .mv (.t 91), [8, 7, 0, 1, 2, 3, 4, 5, 6, 7, 8], none⟩])
  .ret))))))))
theorem Trydp8 : (Tryd.f8.body.map (prep Tryd.prog 92)) = some Trydc8 := by kernel_rfl
def Trydc11 : ACode :=
  (.seq (.reg [
    ⟨some 2, .box (.t 0), [], none⟩,
    ⟨some 3, .box (.t 1), [], none⟩,
    ⟨some 4, .mv (.c (.val (.bool false))), [], none⟩])
  (.seq (.seq (.reg [
    ⟨some 6, .fa 0 (.t 2), [], none⟩,
    ⟨some 7, .ld 1 false (.t 6), [0], none⟩,
    ⟨some 8, .fa 0 (.t 3), [], none⟩,
    ⟨some 9, .ld 1 false (.t 8), [2], none⟩,
    ⟨some 10, .bin .neq (.t 7) (.t 9), [1, 3], none⟩,
    ⟨some 11, .mv (.t 10), [4], none⟩,
    ⟨some 12, .fa 2 (.t 2), [5], some (11, false)⟩,
    ⟨some 13, .ld 1 false (.t 12), [6, 5], some (11, false)⟩,
    ⟨some 14, .fa 2 (.t 3), [5], some (11, false)⟩,
    ⟨some 15, .ld 1 false (.t 14), [8, 5], some (11, false)⟩,
    ⟨some 16, .bin .neq (.t 13) (.t 15), [7, 9, 5], some (11, false)⟩,
    ⟨some 17, .pick (.t 11) (.c (.val (.bool true))) (.t 16), [5, 10], none⟩,
    ⟨some 18, .mv (.t 17), [11, 5], none⟩,
    ⟨some 19, .fa 3 (.t 2), [12], some (18, false)⟩,
    ⟨some 20, .ld 1 false (.t 19), [13, 12], some (18, false)⟩,
    ⟨some 21, .fa 3 (.t 3), [12], some (18, false)⟩,
    ⟨some 22, .ld 1 false (.t 21), [15, 12], some (18, false)⟩,
    ⟨some 23, .bin .neq (.t 20) (.t 22), [14, 16, 12], some (18, false)⟩,
    ⟨some 24, .pick (.t 18) (.c (.val (.bool true))) (.t 23), [12, 17], none⟩,
    ⟨some 25, .mv (.t 24), [18, 12], none⟩,
    ⟨some 26, .fa 4 (.t 2), [19], some (25, false)⟩,
    ⟨some 27, .ld 1 false (.t 26), [20, 19], some (25, false)⟩,
    ⟨some 28, .fa 4 (.t 3), [19], some (25, false)⟩,
    ⟨some 29, .ld 1 false (.t 28), [22, 19], some (25, false)⟩,
    ⟨some 30, .bin .neq (.t 27) (.t 29), [21, 23, 19], some (25, false)⟩,
    ⟨some 31, .pick (.t 25) (.c (.val (.bool true))) (.t 30), [19, 24], none⟩,
    ⟨some 32, .mv (.t 31), [25, 19], none⟩,
    ⟨some 33, .fa 5 (.t 2), [26], some (32, false)⟩,
    ⟨some 34, .ld 1 false (.t 33), [27, 26], some (32, false)⟩,
    ⟨some 35, .fa 5 (.t 3), [26], some (32, false)⟩,
    ⟨some 36, .ld 1 false (.t 35), [29, 26], some (32, false)⟩,
    ⟨some 37, .bin .neq (.t 34) (.t 36), [28, 30, 26], some (32, false)⟩,
    ⟨some 38, .pick (.t 32) (.c (.val (.bool true))) (.t 37), [26, 31], none⟩,
    ⟨some 39, .mv (.t 38), [32, 26], none⟩,
    ⟨some 40, .fa 6 (.t 2), [33], some (39, false)⟩,
    ⟨some 41, .ld 8 true (.t 40), [34, 33], some (39, false)⟩,
    ⟨some 42, .fa 6 (.t 3), [33], some (39, false)⟩,
    ⟨some 43, .ld 8 true (.t 42), [36, 33], some (39, false)⟩,
    ⟨some 44, .call 30 [(.t 41), (.t 43)], [35, 37, 33, 33], some (39, false)⟩,
    ⟨some 45, .un .not (.t 44), [38, 33], some (39, false)⟩,
    ⟨some 46, .pick (.t 39) (.c (.val (.bool true))) (.t 45), [33, 39], none⟩,
    ⟨some 47, .mv (.t 46), [40, 38], none⟩,
    ⟨some 48, .fa 1 (.t 2), [41], some (47, false)⟩,
    ⟨some 49, .ld 1 false (.t 48), [42, 41], some (47, false)⟩,
    ⟨some 50, .len (.t 49), [43, 41], some (47, false)⟩,
    ⟨some 51, .fa 1 (.t 3), [41], some (47, false)⟩,
    ⟨some 52, .ld 1 false (.t 51), [45, 41], some (47, false)⟩,
    ⟨some 53, .len (.t 52), [46, 41], some (47, false)⟩,
    ⟨some 54, .bin .neq (.t 50) (.t 53), [44, 47, 41], some (47, false)⟩,
    ⟨some 55, .pick (.t 47) (.c (.val (.bool true))) (.t 54), [41, 48], none⟩])
  (.cond (.t 55)
    (.seq (.reg [
      ⟨some 4, .mv (.c (.val (.bool false))), [], none⟩])
    .ret)
    .skip))
  (.seq (.seq (.reg [
    ⟨some 5, .mv (.c (.val (.int .i64 0))), [], none⟩])
  (.block 0
    (.loop
      (.seq (.seq (.reg [
        ⟨some 56, .mv (.t 5), [], none⟩,
        ⟨some 57, .fa 1 (.t 2), [], none⟩,
        ⟨some 58, .ld 1 false (.t 57), [1], none⟩,
        ⟨some 59, .len (.t 58), [2], none⟩,
        ⟨some 60, .bin .lss (.t 56) (.t 59), [0, 3], none⟩])
      (.cond (.t 60)
        .skip
        (.exit 0)))
      (.seq (.block 1
        (.seq (.draw [
          ⟨some 63, .fa 1 (.t 2), [], none⟩,
          ⟨some 64, .ld 1 false (.t 63), [0], none⟩,
          ⟨some 65, .mv (.t 5), [], none⟩,
          ⟨some 66, .ia 14 (.t 64) (.t 65), [1, 2], none⟩,
          ⟨some 67, .ld 14 true (.t 66), [3], none⟩,
          ⟨some 68, .fa 1 (.t 3), [], none⟩,
          ⟨some 69, .ld 1 false (.t 68), [5], none⟩,
          ⟨some 70, .mv (.t 5), [], none⟩,
          ⟨some 71, .ia 14 (.t 69) (.t 70), [6, 7], none⟩,
          ⟨some 72, .ld 14 true (.t 71), [8], none⟩,
          ⟨some 73, .call 11 [(.t 67), (.t 72)], [4, 9], none⟩,
          ⟨some 74, .un .not (.t 73), [10], none⟩])
        (.cond (.t 74)
          (.seq (.reg [
            ⟨some 4, .mv (.c (.val (.bool false))), [], none⟩])
          .ret)
          .skip)))
      (.reg [
        ⟨some 61, .mv (.t 5), [], none⟩,
        ⟨some 62, .bin .add (.t 61) (.c (.val (.int .i64 1))), [0], none⟩,
        ⟨some 5, .mv (.t 62), [1, 0, 1], none⟩]))))))
  (.seq (.reg [
    ⟨some 4, .mv (.c (.val (.bool true))), [], none⟩])
  .ret))))
theorem Trydp11 : (Tryd.f11.body.map (prep Tryd.prog 75)) = some Trydc11 := by kernel_rfl
def Trydc12 : ACode :=
  (.seq (.reg [
    ⟨some 1, .box (.t 0), [], none⟩,
    ⟨some 2, .mv (.c (.val (.int .i64 0))), [], none⟩])
  (.seq (.seq (.reg [
    ⟨some 7, .ld 14 true (.t 1), [], none⟩,
    ⟨some 8, .call 31 [(.t 7)], [0], none⟩,
    ⟨some 3, .mv (.t 8), [1, 1, 0, 1], none⟩])
  (.seq (.reg [
    ⟨some 9, .mv (.t 3), [], none⟩,
    ⟨some 10, .bin .neq (.t 9) (.c (.val (.int .i64 0))), [0], none⟩])
  (.cond (.t 10)
    (.seq (.reg [
      ⟨some 11, .mv (.t 3), [], none⟩,
      ⟨some 2, .mv (.t 11), [0, 0], none⟩])
    .ret)
    .skip)))
  (.seq (.seq (.reg [
    ⟨some 13, .ld 14 true (.t 1), [], none⟩,
    ⟨some 14, .call 32 [(.t 13)], [0], none⟩,
    ⟨some 12, .mv (.t 14), [1], none⟩,
    ⟨some 15, .ext (.t 12) 0, [2], none⟩,
    ⟨some 16, .ext (.t 12) 1, [2], none⟩,
    ⟨some 17, .ext (.t 12) 2, [2], none⟩,
    ⟨some 4, .mv (.t 15), [3, 1, 0, 1, 2, 3], none⟩,
    ⟨some 5, .mv (.t 16), [4, 6, 0, 1, 2, 3, 4, 6], none⟩,
    ⟨some 6, .mv (.t 17), [5, 7, 0, 1, 2, 3, 4, 5, 6, 7], none⟩])
  (.seq (.reg [
    ⟨some 18, .mv (.t 6), [], none⟩,
    ⟨some 19, .un .not (.t 18), [0], none⟩])
  (.cond (.t 19)
    (.seq (.reg [
      ⟨some 2, .mv (.c (.val (.int .i64 14))), [], none⟩])
    .ret)
    .skip)))
  (.seq (.reg [
    ⟨some 2, .mv (.c (.val (.int .i64 0))), [], none⟩])
  .ret))))
theorem Trydp12 : (Tryd.f12.body.map (prep Tryd.prog 20)) = some Trydc12 := by kernel_rfl
def Trydc13 : ACode :=
  (.seq (.reg [
    ⟨some 1, .box (.t 0), [], none⟩,
    ⟨some 2, .mv (.c (.val (.int .i64 0))), [], none⟩,
    ⟨some 3, .mv (.c (.val (.int .i64 0))), [1], none⟩])
  (.seq (.reg [
    ⟨some 4, .mv (.c (.val (.int .i64 1))), [], none⟩,
    ⟨some 5, .mv (.c (.val (.int .i64 0))), [0, 0], none⟩])
  (.seq (.seq (.reg [
    ⟨some 10, .fa 1 (.t 1), [], none⟩,
    ⟨some 11, .ld 1 false (.t 10), [0], none⟩,
    ⟨some 12, .len (.t 11), [1], none⟩,
    ⟨some 13, .mv (.c (.val (.int .i64 0))), [], none⟩])
  (.block 0
    (.loop
      (.seq (.reg [
        ⟨some 14, .bin .lss (.t 13) (.t 12), [], none⟩])
      (.seq (.cond (.t 14)
        .skip
        (.exit 0))
      (.seq (.block 1
        (.seq (.reg [
          ⟨some 15, .ia 14 (.t 11) (.t 13), [], none⟩,
          ⟨some 16, .ld 14 true (.t 15), [0], none⟩,
          ⟨some 7, .box (.c (.agg [(.val (.int .i64 0)), (.val (.slice none 0 0)), (.val (.int .i64 0)), (.val (.int .i64 0)), (.val (.int .i64 0)), (.val (.int .i64 0)), (.val (.int .i64 0)), (.val (.slice none 0 0)), (.val (.int .i64 0)), (.val (.int .i64 0)), (.val (.int .i64 0)), (.val (.int .i64 0)), (.val (.int .i64 0)), (.val (.string ⟨#[]⟩))])), [], none⟩,
          ⟨none, .st 14 (.t 7) (.t 16), [2, 1, 0, 1, 2], none⟩])
        (.seq (.reg [
          ⟨some 18, .ld 14 true (.t 7), [], none⟩,
          ⟨some 19, .call 13 [(.t 18)], [0], none⟩,
          ⟨some 17, .mv (.t 19), [1], none⟩,
          ⟨some 20, .ext (.t 17) 0, [2], none⟩,
          ⟨some 21, .ext (.t 17) 1, [2], none⟩,
          ⟨some 8, .mv (.t 20), [3, 1, 0, 1, 2, 3], none⟩,
          ⟨some 9, .mv (.t 21), [4, 5, 0, 1, 2, 3, 4, 5], none⟩])
        (.reg [
          ⟨some 22, .mv (.t 4), [], none⟩,
          ⟨some 23, .mv (.t 8), [], none⟩,
          ⟨some 24, .bin .add (.t 22) (.t 23), [0, 1], none⟩,
          ⟨some 25, .mv (.t 5), [], none⟩,
          ⟨some 26, .mv (.t 9), [], none⟩,
          ⟨some 27, .mx [(.t 25), (.t 26)], [3, 4], none⟩,
          ⟨some 4, .mv (.t 24), [2, 0, 1, 2], none⟩,
          ⟨some 5, .mv (.t 27), [5, 6, 0, 1, 2, 3, 4, 5, 6], none⟩]))))
      (.reg [
        ⟨some 28, .bin .add (.t 13) (.c (.val (.int .i64 1))), [], none⟩,
        ⟨some 13, .mv (.t 28), [0], none⟩])))))))
  (.seq (.reg [
    ⟨some 29, .mv (.t 4), [], none⟩,
    ⟨some 30, .mv (.t 5), [], none⟩,
    ⟨some 31, .bin .add (.t 30) (.c (.val (.int .i64 1))), [1], none⟩,
    ⟨some 2, .mv (.t 29), [0, 0], none⟩,
    ⟨some 3, .mv (.t 31), [2, 3, 0, 1, 2, 3], none⟩])
  .ret))))
theorem Trydp13 : (Tryd.f13.body.map (prep Tryd.prog 32)) = some Trydc13 := by kernel_rfl
def Trydc14 : ACode :=
  (.seq (.reg [
    ⟨some 2, .box (.t 0), [], none⟩,
    ⟨some 4, .mv (.c (.val (.slice none 0 0))), [], none⟩,
    ⟨some 5, .mv (.c (.val (.slice none 0 0))), [1], none⟩,
    ⟨some 6, .mv (.c (.val (.int .i64 0))), [2], none⟩])
  (.seq (.seq (.reg [
    ⟨some 13, .ld 14 true (.t 2), [], none⟩,
    ⟨some 14, .call 18 [(.t 13)], [0], none⟩,
    ⟨some 7, .mv (.t 14), [1, 1, 0, 1], none⟩])
  (.seq (.reg [
    ⟨some 15, .mv (.t 7), [], none⟩,
    ⟨some 16, .bin .neq (.t 15) (.c (.val (.int .i64 0))), [0], none⟩])
  (.cond (.t 16)
    (.seq (.reg [
      ⟨some 17, .mv (.t 7), [], none⟩,
      ⟨some 4, .mv (.c (.val (.slice none 0 0))), [], none⟩,
      ⟨some 5, .mv (.c (.val (.slice none 0 0))), [1, 1], none⟩,
      ⟨some 6, .mv (.t 17), [0, 2, 0, 1, 2], none⟩])
    .ret)
    .skip)))
  (.seq (.reg [
    ⟨some 18, .ld 14 true (.t 2), [], none⟩,
    ⟨some 19, .mv (.t 1), [], none⟩,
    ⟨some 20, .call 33 [(.t 18), (.t 19)], [0, 1], none⟩,
    ⟨some 8, .mv (.t 20), [2, 2, 0, 1, 2], none⟩])
  (.seq (.seq (.reg [
    ⟨some 21, .mv (.t 8), [], none⟩,
    ⟨some 22, .len (.t 21), [0], none⟩,
    ⟨some 23, .bin .eql (.t 22) (.c (.val (.int .i64 0))), [1], none⟩])
  (.cond (.t 23)
    (.seq (.reg [
      ⟨some 4, .mv (.c (.val (.slice none 0 0))), [], none⟩,
      ⟨some 5, .mv (.c (.val (.slice none 0 0))), [0, 0], none⟩,
      ⟨some 6, .mv (.c (.val (.int .i64 6))), [1, 0, 1], none⟩])
    .ret)
    .skip))
  (.seq (.reg [
    ⟨some 9, .mv (.c (.val (.slice none 0 0))), [], none⟩])
  (.seq (.reg [
    ⟨some 10, .mv (.c (.val (.slice none 0 0))), [], none⟩])
  (.seq (.seq (.reg [
    ⟨some 24, .mv (.t 8), [], none⟩,
    ⟨some 25, .len (.t 24), [0], none⟩,
    ⟨some 26, .mv (.c (.val (.int .i64 0))), [], none⟩])
  (.block 0
    (.loop
      (.seq (.reg [
        ⟨some 27, .bin .lss (.t 26) (.t 25), [], none⟩])
      (.seq (.cond (.t 27)
        .skip
        (.exit 0))
      (.seq (.block 1
        (.seq (.reg [
          ⟨some 28, .ia 14 (.t 24) (.t 26), [], none⟩,
          ⟨some 29, .ld 14 true (.t 28), [0], none⟩,
          ⟨some 12, .box (.c (.agg [(.val (.int .i64 0)), (.val (.slice none 0 0)), (.val (.int .i64 0)), (.val (.int .i64 0)), (.val (.int .i64 0)), (.val (.int .i64 0)), (.val (.int .i64 0)), (.val (.slice none 0 0)), (.val (.int .i64 0)), (.val (.int .i64 0)), (.val (.int .i64 0)), (.val (.int .i64 0)), (.val (.int .i64 0)), (.val (.string ⟨#[]⟩))])), [], none⟩,
          ⟨none, .st 14 (.t 12) (.t 29), [2, 1, 0, 1, 2], none⟩])
        (.seq (.reg [
          ⟨some 30, .fa 0 (.t 12), [], none⟩,
          ⟨some 31, .ld 1 false (.t 30), [0], none⟩])
        (.block 2
          (.seq (.seq (.reg [
            ⟨some 33, .bin .eql (.t 31) (.c (.val (.int .i64 6))), [], none⟩,
            ⟨some 32, .mv (.t 33), [0], none⟩])
          (.cond (.t 32)
            .skip
            (.reg [
              ⟨some 34, .bin .eql (.t 31) (.c (.val (.int .i64 10))), [], none⟩,
              ⟨some 32, .mv (.t 34), [0], none⟩])))
          (.cond (.t 32)
            (.reg [
              ⟨some 35, .mv (.t 9), [], none⟩,
              ⟨some 36, .fa 4 (.t 12), [], none⟩,
              ⟨some 37, .ld 1 false (.t 36), [1], none⟩,
              ⟨some 38, .fa 5 (.t 12), [], none⟩,
              ⟨some 39, .ld 1 false (.t 38), [3], none⟩,
              ⟨some 40, .build [(.val (.int .i64 0)), (.val (.int .i64 0))] [(0, 1, (.t 37)), (1, 1, (.t 39))], [2, 4], none⟩,
              ⟨some 41, .bslice 2 [(.t 40)], [5], none⟩,
              ⟨some 42, .app 2 16 (.t 35) (.t 41), [0, 6], none⟩,
              ⟨some 9, .mv (.t 42), [7, 7, 0, 1, 2, 3, 4, 5, 6, 7], none⟩])
            (.seq (.seq (.reg [
              ⟨some 44, .bin .eql (.t 31) (.c (.val (.int .i64 5))), [], none⟩,
              ⟨some 43, .mv (.t 44), [0], none⟩])
            (.cond (.t 43)
              .skip
              (.reg [
                ⟨some 45, .bin .eql (.t 31) (.c (.val (.int .i64 9))), [], none⟩,
                ⟨some 43, .mv (.t 45), [0], none⟩])))
            (.cond (.t 43)
              (.reg [
                ⟨some 46, .mv (.t 10), [], none⟩,
                ⟨some 47, .fa 4 (.t 12), [], none⟩,
                ⟨some 48, .ld 1 false (.t 47), [1], none⟩,
                ⟨some 49, .bslice 1 [(.t 48)], [2], none⟩,
                ⟨some 50, .app 1 8 (.t 46) (.t 49), [0, 3], none⟩,
                ⟨some 10, .mv (.t 50), [4, 4, 0, 1, 2, 3, 4], none⟩])
              .skip))))))))
      (.reg [
        ⟨some 51, .bin .add (.t 26) (.c (.val (.int .i64 1))), [], none⟩,
        ⟨some 26, .mv (.t 51), [0], none⟩])))))))
  (.seq (.reg [
    ⟨some 52, .mv (.t 9), [], none⟩,
    ⟨some 53, .mv (.t 10), [], none⟩,
    ⟨some 4, .mv (.t 52), [0, 0], none⟩,
    ⟨some 5, .mv (.t 53), [1, 2, 0, 1, 2], none⟩,
    ⟨some 6, .mv (.c (.val (.int .i64 0))), [3, 0, 1, 2, 3], none⟩])
  .ret))))))))
theorem Trydp14 : (Tryd.f14.body.map (prep Tryd.prog 54)) = some Trydc14 := by kernel_rfl
def Trydc15 : ACode :=
  (.seq (.reg [
    ⟨some 4, .mv (.c (.val (.bool false))), [], none⟩])
  (.seq (.seq (.reg [
    ⟨some 6, .mv (.t 0), [], none⟩,
    ⟨some 7, .len (.t 6), [0], none⟩,
    ⟨some 8, .mv (.t 1), [], none⟩,
    ⟨some 9, .len (.t 8), [2], none⟩,
    ⟨some 10, .bin .neq (.t 7) (.t 9), [1, 3], none⟩])
  (.cond (.t 10)
    (.seq (.reg [
      ⟨some 4, .mv (.c (.val (.bool false))), [], none⟩])
    .ret)
    .skip))
  (.seq (.seq (.reg [
    ⟨some 5, .mv (.c (.val (.int .i64 0))), [], none⟩])
  (.block 0
    (.loop
      (.seq (.seq (.reg [
        ⟨some 11, .mv (.t 5), [], none⟩,
        ⟨some 12, .mv (.t 0), [], none⟩,
        ⟨some 13, .len (.t 12), [1], none⟩,
        ⟨some 14, .bin .lss (.t 11) (.t 13), [0, 2], none⟩])
      (.cond (.t 14)
        .skip
        (.exit 0)))
      (.seq (.block 1
        (.seq (.draw [
          ⟨some 17, .mv (.t 0), [], none⟩,
          ⟨some 18, .mv (.t 5), [], none⟩,
          ⟨some 19, .ia 2 (.t 17) (.t 18), [0, 1], none⟩,
          ⟨some 20, .ld 2 true (.t 19), [2], none⟩,
          ⟨some 21, .mv (.t 1), [], none⟩,
          ⟨some 22, .mv (.t 5), [], none⟩,
          ⟨some 23, .ia 2 (.t 21) (.t 22), [4, 5], none⟩,
          ⟨some 24, .ld 2 true (.t 23), [6], none⟩,
          ⟨some 25, .eqst true [.int, .int] (.t 20) (.t 24), [3, 7], none⟩])
        (.cond (.t 25)
          (.seq (.reg [
            ⟨some 4, .mv (.c (.val (.bool false))), [], none⟩])
          .ret)
          .skip)))
      (.reg [
        ⟨some 15, .mv (.t 5), [], none⟩,
        ⟨some 16, .bin .add (.t 15) (.c (.val (.int .i64 1))), [0], none⟩,
        ⟨some 5, .mv (.t 16), [1, 0, 1], none⟩]))))))
  (.seq (.reg [
    ⟨some 4, .mv (.c (.val (.bool true))), [], none⟩])
  .ret))))
theorem Trydp15 : (Tryd.f15.body.map (prep Tryd.prog 26)) = some Trydc15 := by kernel_rfl
def Trydc16 : ACode :=
  (.seq (.reg [
    ⟨some 4, .mv (.c (.val (.bool false))), [], none⟩])
  (.seq (.seq (.reg [
    ⟨some 6, .mv (.t 0), [], none⟩,
    ⟨some 7, .len (.t 6), [0], none⟩,
    ⟨some 8, .mv (.t 1), [], none⟩,
    ⟨some 9, .len (.t 8), [2], none⟩,
    ⟨some 10, .bin .neq (.t 7) (.t 9), [1, 3], none⟩])
  (.cond (.t 10)
    (.seq (.reg [
      ⟨some 4, .mv (.c (.val (.bool false))), [], none⟩])
    .ret)
    .skip))
  (.seq (.seq (.reg [
    ⟨some 5, .mv (.c (.val (.int .i64 0))), [], none⟩])
  (.block 0
    (.loop
      (.seq (.seq (.reg [
        ⟨some 11, .mv (.t 5), [], none⟩,
        ⟨some 12, .mv (.t 0), [], none⟩,
        ⟨some 13, .len (.t 12), [1], none⟩,
        ⟨some 14, .bin .lss (.t 11) (.t 13), [0, 2], none⟩])
      (.cond (.t 14)
        .skip
        (.exit 0)))
      (.seq (.block 1
        (.seq (.draw [
          ⟨some 17, .mv (.t 0), [], none⟩,
          ⟨some 18, .mv (.t 5), [], none⟩,
          ⟨some 19, .ia 1 (.t 17) (.t 18), [0, 1], none⟩,
          ⟨some 20, .ld 1 false (.t 19), [2], none⟩,
          ⟨some 21, .mv (.t 1), [], none⟩,
          ⟨some 22, .mv (.t 5), [], none⟩,
          ⟨some 23, .ia 1 (.t 21) (.t 22), [4, 5], none⟩,
          ⟨some 24, .ld 1 false (.t 23), [6], none⟩,
          ⟨some 25, .bin .neq (.t 20) (.t 24), [3, 7], none⟩])
        (.cond (.t 25)
          (.seq (.reg [
            ⟨some 4, .mv (.c (.val (.bool false))), [], none⟩])
          .ret)
          .skip)))
      (.reg [
        ⟨some 15, .mv (.t 5), [], none⟩,
        ⟨some 16, .bin .add (.t 15) (.c (.val (.int .i64 1))), [0], none⟩,
        ⟨some 5, .mv (.t 16), [1, 0, 1], none⟩]))))))
  (.seq (.reg [
    ⟨some 4, .mv (.c (.val (.bool true))), [], none⟩])
  .ret))))
theorem Trydp16 : (Tryd.f16.body.map (prep Tryd.prog 26)) = some Trydc16 := by kernel_rfl
def Trydc17 : ACode :=
  (.seq (.reg [
    ⟨some 2, .box (.t 0), [], none⟩,
    ⟨some 3, .box (.t 1), [], none⟩,
    ⟨some 4, .mv (.c (.val (.bool false))), [], none⟩])
  (.seq (.seq (.reg [
    ⟨some 5, .fa 0 (.t 2), [], none⟩,
    ⟨some 6, .ld 1 false (.t 5), [0], none⟩,
    ⟨some 7, .fa 0 (.t 3), [], none⟩,
    ⟨some 8, .ld 1 false (.t 7), [2], none⟩,
    ⟨some 9, .bin .neq (.t 6) (.t 8), [1, 3], none⟩,
    ⟨some 10, .mv (.t 9), [4], none⟩,
    ⟨some 11, .fa 2 (.t 2), [5], some (10, false)⟩,
    ⟨some 12, .ld 1 false (.t 11), [6, 5], some (10, false)⟩,
    ⟨some 13, .fa 2 (.t 3), [5], some (10, false)⟩,
    ⟨some 14, .ld 1 false (.t 13), [8, 5], some (10, false)⟩,
    ⟨some 15, .bin .neq (.t 12) (.t 14), [7, 9, 5], some (10, false)⟩,
    ⟨some 16, .pick (.t 10) (.c (.val (.bool true))) (.t 15), [5, 10], none⟩,
    ⟨some 17, .mv (.t 16), [11, 5], none⟩,
    ⟨some 18, .fa 3 (.t 2), [12], some (17, false)⟩,
    ⟨some 19, .ld 1 false (.t 18), [13, 12], some (17, false)⟩,
    ⟨some 20, .fa 3 (.t 3), [12], some (17, false)⟩,
    ⟨some 21, .ld 1 false (.t 20), [15, 12], some (17, false)⟩,
    ⟨some 22, .bin .neq (.t 19) (.t 21), [14, 16, 12], some (17, false)⟩,
    ⟨some 23, .pick (.t 17) (.c (.val (.bool true))) (.t 22), [12, 17], none⟩,
    ⟨some 24, .mv (.t 23), [18, 12], none⟩,
    ⟨some 25, .fa 4 (.t 2), [19], some (24, false)⟩,
    ⟨some 26, .ld 1 false (.t 25), [20, 19], some (24, false)⟩,
    ⟨some 27, .fa 4 (.t 3), [19], some (24, false)⟩,
    ⟨some 28, .ld 1 false (.t 27), [22, 19], some (24, false)⟩,
    ⟨some 29, .bin .neq (.t 26) (.t 28), [21, 23, 19], some (24, false)⟩,
    ⟨some 30, .pick (.t 24) (.c (.val (.bool true))) (.t 29), [19, 24], none⟩,
    ⟨some 31, .mv (.t 30), [25, 19], none⟩,
    ⟨some 32, .fa 5 (.t 2), [26], some (31, false)⟩,
    ⟨some 33, .ld 1 false (.t 32), [27, 26], some (31, false)⟩,
    ⟨some 34, .fa 5 (.t 3), [26], some (31, false)⟩,
    ⟨some 35, .ld 1 false (.t 34), [29, 26], some (31, false)⟩,
    ⟨some 36, .bin .neq (.t 33) (.t 35), [28, 30, 26], some (31, false)⟩,
    ⟨some 37, .pick (.t 31) (.c (.val (.bool true))) (.t 36), [26, 31], none⟩,
    ⟨some 38, .mv (.t 37), [32, 26], none⟩,
    ⟨some 39, .fa 6 (.t 2), [33], some (38, false)⟩,
    ⟨some 40, .ld 8 true (.t 39), [34, 33], some (38, false)⟩,
    ⟨some 41, .fa 6 (.t 3), [33], some (38, false)⟩,
    ⟨some 42, .ld 8 true (.t 41), [36, 33], some (38, false)⟩,
    ⟨some 43, .call 34 [(.t 40), (.t 42)], [35, 37, 33, 33], some (38, false)⟩,
    ⟨some 44, .un .not (.t 43), [38, 33], some (38, false)⟩,
    ⟨some 45, .pick (.t 38) (.c (.val (.bool true))) (.t 44), [33, 39], none⟩])
  (.cond (.t 45)
    (.seq (.reg [
      ⟨some 4, .mv (.c (.val (.bool false))), [], none⟩])
    .ret)
    .skip))
  (.seq (.reg [
    ⟨some 46, .fa 1 (.t 2), [], none⟩,
    ⟨some 47, .ld 1 false (.t 46), [0], none⟩,
    ⟨some 48, .fa 1 (.t 3), [], none⟩,
    ⟨some 49, .ld 1 false (.t 48), [2], none⟩,
    ⟨some 50, .call 35 [(.t 47), (.t 49), (.c (.fn 17 []))], [1, 3], none⟩,
    ⟨some 4, .mv (.t 50), [4, 4, 0, 1, 2, 3, 4], none⟩])
  .ret)))
theorem Trydp17 : (Tryd.f17.body.map (prep Tryd.prog 51)) = some Trydc17 := by kernel_rfl
def Trydc18 : ACode :=
  (.seq (.reg [
    ⟨some 1, .box (.t 0), [], none⟩,
    ⟨some 2, .box (.c (.val (.int .i64 0))), [], none⟩])
  (.seq (.reg [
    ⟨some 8, .ld 14 true (.t 1), [], none⟩,
    ⟨some 9, .call 13 [(.t 8)], [0], none⟩,
    ⟨some 7, .mv (.t 9), [1], none⟩,
    ⟨some 10, .ext (.t 7) 0, [2], none⟩,
    ⟨some 11, .ext (.t 7) 1, [2], none⟩,
    ⟨some 3, .mv (.t 10), [3, 1, 0, 1, 2, 3], none⟩,
    ⟨some 4, .mv (.t 11), [4, 5, 0, 1, 2, 3, 4, 5], none⟩])
  (.seq (.seq (.reg [
    ⟨some 12, .mv (.t 3), [], none⟩,
    ⟨some 13, .bin .gtr (.t 12) (.c (.val (.int .i64 64))), [0], none⟩])
  (.cond (.t 13)
    (.seq (.reg [
      ⟨none, .st 1 (.t 2) (.c (.val (.int .i64 5))), [], none⟩])
    .ret)
    .skip))
  (.seq (.seq (.reg [
    ⟨some 14, .mv (.t 4), [], none⟩,
    ⟨some 15, .bin .gtr (.t 14) (.c (.val (.int .i64 12))), [0], none⟩])
  (.cond (.t 15)
    (.seq (.reg [
      ⟨none, .st 1 (.t 2) (.c (.val (.int .i64 12))), [], none⟩])
    .ret)
    .skip))
  (.seq (.seq (.reg [
    ⟨some 16, .ld 14 true (.t 1), [], none⟩,
    ⟨some 17, .call 29 [(.t 16)], [0], none⟩])
  (.block 0
    (.rfun (.t 17) [18]
      (.reg [
        ⟨some 5, .box (.c (.agg [(.val (.int .i64 0)), (.val (.slice none 0 0)), (.val (.int .i64 0)), (.val (.int .i64 0)), (.val (.int .i64 0)), (.val (.int .i64 0)), (.val (.int .i64 0)), (.val (.slice none 0 0)), (.val (.int .i64 0)), (.val (.int .i64 0)), (.val (.int .i64 0)), (.val (.int .i64 0)), (.val (.int .i64 0)), (.val (.string ⟨#[]⟩))])), [], none⟩,
        ⟨none, .st 14 (.t 5) (.t 18), [0, 0], none⟩])
      (.block 1
        (.seq (.reg [
          ⟨some 19, .ld 14 true (.t 5), [], none⟩,
          ⟨some 20, .call 36 [(.t 19)], [0], none⟩,
          ⟨some 6, .mv (.t 20), [1, 1, 0, 1], none⟩])
        (.seq (.reg [
          ⟨some 21, .mv (.t 6), [], none⟩,
          ⟨some 22, .bin .neq (.t 21) (.c (.val (.int .i64 0))), [0], none⟩])
        (.cond (.t 22)
          (.seq (.reg [
            ⟨some 23, .mv (.t 6), [], none⟩,
            ⟨none, .st 1 (.t 2) (.t 23), [0, 0], none⟩])
          .ret)
          .skip)))))))
  (.seq (.reg [
    ⟨none, .st 1 (.t 2) (.c (.val (.int .i64 0))), [], none⟩])
  .ret))))))
theorem Trydp18 : (Tryd.f18.body.map (prep Tryd.prog 24)) = some Trydc18 := by kernel_rfl
def Trydc19 : ACode :=
  (.seq (.reg [
    ⟨some 2, .box (.t 0), [], none⟩,
    ⟨some 3, .box (.t 1), [], none⟩,
    ⟨some 4, .box (.c (.agg [(.val (.int .i64 0)), (.val (.slice none 0 0)), (.val (.int .i64 0)), (.val (.int .i64 0)), (.val (.int .i64 0)), (.val (.int .i64 0)), (.val (.int .i64 0)), (.val (.slice none 0 0)), (.val (.int .i64 0)), (.val (.int .i64 0)), (.val (.int .i64 0)), (.val (.int .i64 0)), (.val (.int .i64 0)), (.val (.string ⟨#[]⟩))])), [], none⟩,
    ⟨some 5, .box (.c (.val (.int .i64 0))), [], none⟩])
  (.seq (.seq (.reg [
    ⟨some 11, .ld 14 true (.t 2), [], none⟩,
    ⟨some 12, .call 18 [(.t 11)], [0], none⟩,
    ⟨some 6, .mv (.t 12), [1, 1, 0, 1], none⟩])
  (.seq (.reg [
    ⟨some 13, .mv (.t 6), [], none⟩,
    ⟨some 14, .bin .neq (.t 13) (.c (.val (.int .i64 0))), [0], none⟩])
  (.cond (.t 14)
    (.seq (.reg [
      ⟨some 15, .build [(.val (.int .i64 0)), (.val (.slice none 0 0)), (.val (.int .i64 0)), (.val (.int .i64 0)), (.val (.int .i64 0)), (.val (.int .i64 0)), (.val (.int .i64 0)), (.val (.slice none 0 0)), (.val (.int .i64 0)), (.val (.int .i64 0)), (.val (.int .i64 0)), (.val (.int .i64 0)), (.val (.int .i64 0)), (.val (.string ⟨#[]⟩))] [], [], none⟩,
      ⟨some 16, .mv (.t 6), [], none⟩,
      ⟨none, .st 14 (.t 4) (.t 15), [0, 0], none⟩,
      ⟨none, .st 1 (.t 5) (.t 16), [1, 2, 0, 1, 2], none⟩])
    .ret)
    .skip)))
  (.seq (.seq (.reg [
    ⟨some 17, .ld 14 true (.t 2), [], none⟩,
    ⟨some 18, .call 29 [(.t 17)], [0], none⟩])
  (.block 0
    (.rfun (.t 18) [19]
      (.reg [
        ⟨some 7, .box (.c (.agg [(.val (.int .i64 0)), (.val (.slice none 0 0)), (.val (.int .i64 0)), (.val (.int .i64 0)), (.val (.int .i64 0)), (.val (.int .i64 0)), (.val (.int .i64 0)), (.val (.slice none 0 0)), (.val (.int .i64 0)), (.val (.int .i64 0)), (.val (.int .i64 0)), (.val (.int .i64 0)), (.val (.int .i64 0)), (.val (.string ⟨#[]⟩))])), [], none⟩,
        ⟨none, .st 14 (.t 7) (.t 19), [0, 0], none⟩])
      (.block 1
        (.seq (.reg [
          ⟨some 20, .fa 0 (.t 7), [], none⟩,
          ⟨some 21, .ld 1 false (.t 20), [0], none⟩,
          ⟨some 22, .iaA 6 11 (.g 0) (.t 21), [1], none⟩,
          ⟨some 23, .ld 6 true (.t 22), [2], none⟩,
          ⟨some 8, .box (.c (.agg [(.val (.int .i64 0)), (.val (.int .i64 0)), (.val (.bool false)), (.val (.bool false)), (.val (.bool false)), (.val (.bool false))])), [], none⟩,
          ⟨none, .st 6 (.t 8) (.t 23), [4, 3, 0, 1, 2, 3, 4], none⟩])
        (.seq (.seq (.reg [
          ⟨some 24, .fa 2 (.t 8), [], none⟩,
          ⟨some 25, .ld 1 false (.t 24), [0], none⟩,
          ⟨some 26, .mv (.t 25), [1], none⟩,
          ⟨some 27, .fa 3 (.t 7), [2], some (26, true)⟩,
          ⟨some 28, .ld 1 false (.t 27), [3, 2], some (26, true)⟩,
          ⟨some 29, .ld 1 false (.t 3), [2], some (26, true)⟩,
          ⟨some 30, .len (.t 29), [5, 2], some (26, true)⟩,
          ⟨some 31, .bin .geq (.t 28) (.t 30), [4, 6, 2], some (26, true)⟩,
          ⟨some 32, .pick (.t 26) (.t 31) (.c (.val (.bool false))), [2, 7], none⟩])
        (.cond (.t 32)
          (.seq (.reg [
            ⟨some 33, .build [(.val (.int .i64 0)), (.val (.slice none 0 0)), (.val (.int .i64 0)), (.val (.int .i64 0)), (.val (.int .i64 0)), (.val (.int .i64 0)), (.val (.int .i64 0)), (.val (.slice none 0 0)), (.val (.int .i64 0)), (.val (.int .i64 0)), (.val (.int .i64 0)), (.val (.int .i64 0)), (.val (.int .i64 0)), (.val (.string ⟨#[]⟩))] [], [], none⟩,
            ⟨none, .st 14 (.t 4) (.t 33), [0, 0], none⟩,
            ⟨none, .st 1 (.t 5) (.c (.val (.int .i64 6))), [1, 0, 1], none⟩])
          .ret)
          .skip))
        (.seq (.seq (.reg [
          ⟨some 34, .fa 2 (.t 8), [], none⟩,
          ⟨some 35, .ld 1 false (.t 34), [0], none⟩,
          ⟨some 36, .mv (.t 35), [1], none⟩,
          ⟨some 37, .ld 1 false (.t 3), [2], some (36, true)⟩,
          ⟨some 38, .fa 3 (.t 7), [2], some (36, true)⟩,
          ⟨some 39, .ld 1 false (.t 38), [4, 2], some (36, true)⟩,
          ⟨some 40, .ia 1 (.t 37) (.t 39), [3, 5, 2], some (36, true)⟩,
          ⟨some 41, .ld 1 false (.t 40), [6, 2], some (36, true)⟩,
          ⟨some 42, .bin .lss (.t 41) (.c (.val (.int .i64 0))), [7, 2], some (36, true)⟩,
          ⟨some 43, .mv (.t 42), [8, 2, 2], some (36, true)⟩,
          ⟨some 44, .ld 1 false (.t 3), [9], some (43, false)⟩,
          ⟨some 45, .fa 3 (.t 7), [9], some (43, false)⟩,
          ⟨some 46, .ld 1 false (.t 45), [11, 9], some (43, false)⟩,
          ⟨some 47, .ia 1 (.t 44) (.t 46), [10, 12, 9], some (43, false)⟩,
          ⟨some 48, .ld 1 false (.t 47), [13, 9], some (43, false)⟩,
          ⟨some 49, .bin .geq (.t 48) (.c (.val (.int .i64 16))), [14, 9], some (43, false)⟩,
          ⟨some 50, .pick (.t 43) (.c (.val (.bool true))) (.t 49), [9, 15, 2], some (36, true)⟩,
          ⟨some 51, .pick (.t 36) (.t 50) (.c (.val (.bool false))), [2, 16], none⟩])
        (.cond (.t 51)
          (.seq (.reg [
            ⟨some 52, .build [(.val (.int .i64 0)), (.val (.slice none 0 0)), (.val (.int .i64 0)), (.val (.int .i64 0)), (.val (.int .i64 0)), (.val (.int .i64 0)), (.val (.int .i64 0)), (.val (.slice none 0 0)), (.val (.int .i64 0)), (.val (.int .i64 0)), (.val (.int .i64 0)), (.val (.int .i64 0)), (.val (.int .i64 0)), (.val (.string ⟨#[]⟩))] [], [], none⟩,
            ⟨none, .st 14 (.t 4) (.t 52), [0, 0], none⟩,
            ⟨none, .st 1 (.t 5) (.c (.val (.int .i64 2))), [1, 0, 1], none⟩])
          .ret)
          .skip))
        (.seq (.reg [
          ⟨some 53, .fa 3 (.t 8), [], none⟩,
          ⟨some 54, .ld 1 false (.t 53), [0], none⟩])
        (.cond (.t 54)
          (.seq (.reg [
            ⟨some 56, .fa 6 (.t 7), [], none⟩,
            ⟨some 57, .ld 8 true (.t 56), [0], none⟩,
            ⟨some 58, .ld 1 false (.t 3), [], none⟩,
            ⟨some 59, .call 37 [(.t 57), (.t 58)], [1, 2], none⟩,
            ⟨some 55, .mv (.t 59), [3], none⟩,
            ⟨some 60, .ext (.t 55) 0, [4], none⟩,
            ⟨some 61, .ext (.t 55) 1, [4], none⟩,
            ⟨some 9, .box (.c (.agg [(.val (.int .i64 0)), (.val (.slice none 0 0)), (.val (.int .i64 0)), (.val (.int .i64 0)), (.val (.int .i64 0)), (.val (.int .i64 0)), (.val (.int .i64 0)), (.val (.string ⟨#[]⟩))])), [], none⟩,
            ⟨none, .st 8 (.t 9) (.t 60), [7, 5, 3, 0, 1, 2, 3, 4, 5, 7], none⟩,
            ⟨some 10, .mv (.t 61), [6, 8, 0, 1, 2, 3, 4, 5, 6, 7, 8], none⟩])
          (.seq (.reg [
            ⟨some 62, .mv (.t 10), [], none⟩,
            ⟨some 63, .bin .neq (.t 62) (.c (.val (.int .i64 0))), [0], none⟩])
          (.cond (.t 63)
            (.seq (.reg [
              ⟨some 64, .build [(.val (.int .i64 0)), (.val (.slice none 0 0)), (.val (.int .i64 0)), (.val (.int .i64 0)), (.val (.int .i64 0)), (.val (.int .i64 0)), (.val (.int .i64 0)), (.val (.slice none 0 0)), (.val (.int .i64 0)), (.val (.int .i64 0)), (.val (.int .i64 0)), (.val (.int .i64 0)), (.val (.int .i64 0)), (.val (.string ⟨#[]⟩))] [], [], none⟩,
              ⟨some 65, .mv (.t 10), [], none⟩,
              ⟨none, .st 14 (.t 4) (.t 64), [0, 0], none⟩,
              ⟨none, .st 1 (.t 5) (.t 65), [1, 2, 0, 1, 2], none⟩])
            .ret)
            .skip)))
          .skip)))))))))
  (.seq (.reg [
    ⟨some 66, .ld 14 true (.t 2), [], none⟩,
    ⟨some 67, .ld 1 false (.t 3), [], none⟩,
    ⟨some 68, .call 38 [(.t 66), (.t 67)], [0, 1], none⟩,
    ⟨none, .st 14 (.t 4) (.t 68), [2, 2, 0, 1, 2], none⟩,
    ⟨none, .st 1 (.t 5) (.c (.val (.int .i64 0))), [3, 0, 1, 2, 3], none⟩])
  .ret))))
theorem Trydp19 : (Tryd.f19.body.map (prep Tryd.prog 69)) = some Trydc19 := by kernel_rfl
def Trydc20 : ACode :=
  (.seq (.reg [
    ⟨some 1, .box (.t 0), [], none⟩,
    ⟨some 2, .mv (.c (.val (.slice none 0 0))), [], none⟩])
  (.seq (.reg [
    ⟨some 3, .box (.c (.val (.slice none 0 0))), [], none⟩])
  (.seq (.seq (.reg [
    ⟨some 5, .ld 14 true (.t 1), [], none⟩,
    ⟨some 6, .call 29 [(.t 5)], [0], none⟩])
  (.block 0
    (.rfun (.t 6) [7]
      (.reg [
        ⟨some 4, .box (.c (.agg [(.val (.int .i64 0)), (.val (.slice none 0 0)), (.val (.int .i64 0)), (.val (.int .i64 0)), (.val (.int .i64 0)), (.val (.int .i64 0)), (.val (.int .i64 0)), (.val (.slice none 0 0)), (.val (.int .i64 0)), (.val (.int .i64 0)), (.val (.int .i64 0)), (.val (.int .i64 0)), (.val (.int .i64 0)), (.val (.string ⟨#[]⟩))])), [], none⟩,
        ⟨none, .st 14 (.t 4) (.t 7), [0, 0], none⟩])
      (.block 1
        (.seq (.reg [
          ⟨some 8, .fa 0 (.t 4), [], none⟩,
          ⟨some 9, .ld 1 false (.t 8), [0], none⟩,
          ⟨some 10, .bin .eql (.t 9) (.c (.val (.int .i64 0))), [1], none⟩])
        (.cond (.t 10)
          (.reg [
            ⟨some 11, .ld 1 false (.t 3), [], none⟩,
            ⟨some 12, .fa 3 (.t 4), [], none⟩,
            ⟨some 13, .ld 1 false (.t 12), [1], none⟩,
            ⟨some 14, .bslice 1 [(.t 13)], [2], none⟩,
            ⟨some 15, .app 1 8 (.t 11) (.t 14), [0, 3], none⟩,
            ⟨none, .st 1 (.t 3) (.t 15), [4, 4, 0, 1, 2, 3, 4], none⟩])
          .skip))))))
  (.seq (.reg [
    ⟨some 16, .ld 1 false (.t 3), [], none⟩,
    ⟨some 17, .call 39 [(.t 16)], [0], none⟩])
  (.seq (.reg [
    ⟨some 18, .ld 1 false (.t 3), [], none⟩,
    ⟨some 19, .call 40 [(.t 18)], [0], none⟩,
    ⟨some 2, .mv (.t 19), [1, 1, 0, 1], none⟩])
  .ret)))))
theorem Trydp20 : (Tryd.f20.body.map (prep Tryd.prog 20)) = some Trydc20 := by kernel_rfl
def Trydc21 : ACode :=
  (.seq (.reg [
    ⟨some 2, .box (.t 0), [], none⟩,
    ⟨some 4, .mv (.c (.val (.int .i64 0))), [], none⟩])
  (.seq (.reg [
    ⟨some 5, .mv (.c (.val (.int .i64 1))), [], none⟩])
  (.seq (.seq (.reg [
    ⟨some 6, .mv (.c (.val (.int .i64 0))), [], none⟩])
  (.block 0
    (.loop
      (.seq (.seq (.reg [
        ⟨some 7, .mv (.t 6), [], none⟩,
        ⟨some 8, .fa 1 (.t 2), [], none⟩,
        ⟨some 9, .ld 1 false (.t 8), [1], none⟩,
        ⟨some 10, .len (.t 9), [2], none⟩,
        ⟨some 11, .bin .lss (.t 7) (.t 10), [0, 3], none⟩,
        ⟨some 12, .mv (.t 11), [4], none⟩,
        ⟨some 13, .mv (.t 5), [5], some (12, true)⟩,
        ⟨some 14, .mv (.t 1), [5], some (12, true)⟩,
        ⟨some 15, .bin .leq (.t 13) (.t 14), [6, 7, 5], some (12, true)⟩,
        ⟨some 16, .pick (.t 12) (.t 15) (.c (.val (.bool false))), [5, 8], none⟩])
      (.cond (.t 16)
        .skip
        (.exit 0)))
      (.seq (.block 1
        (.reg [
          ⟨some 19, .mv (.t 5), [], none⟩,
          ⟨some 20, .fa 1 (.t 2), [], none⟩,
          ⟨some 21, .ld 1 false (.t 20), [1], none⟩,
          ⟨some 22, .mv (.t 6), [], none⟩,
          ⟨some 23, .ia 14 (.t 21) (.t 22), [2, 3], none⟩,
          ⟨some 24, .ld 14 true (.t 23), [4], none⟩,
          ⟨some 25, .mv (.t 1), [], none⟩,
          ⟨some 26, .call 21 [(.t 24), (.t 25)], [5, 6], none⟩,
          ⟨some 27, .bin .add (.t 19) (.t 26), [0, 7], none⟩,
          ⟨some 5, .mv (.t 27), [8, 7, 0, 1, 2, 3, 4, 5, 6, 7, 8], none⟩]))
      (.reg [
        ⟨some 17, .mv (.t 6), [], none⟩,
        ⟨some 18, .bin .add (.t 17) (.c (.val (.int .i64 1))), [0], none⟩,
        ⟨some 6, .mv (.t 18), [1, 0, 1], none⟩]))))))
  (.seq (.reg [
    ⟨some 28, .mv (.t 5), [], none⟩,
    ⟨some 4, .mv (.t 28), [0, 0], none⟩])
  .ret))))
theorem Trydp21 : (Tryd.f21.body.map (prep Tryd.prog 29)) = some Trydc21 := by kernel_rfl
def Trydc22 : ACode :=
  (.seq (.reg [
    ⟨some 1, .box (.t 0), [], none⟩,
    ⟨some 2, .mv (.c (.val (.int .i64 0))), [], none⟩])
  (.seq (.reg [
    ⟨some 3, .mv (.c (.val (.int .i64 0))), [], none⟩])
  (.seq (.seq (.reg [
    ⟨some 4, .mv (.c (.val (.int .i64 0))), [], none⟩])
  (.block 0
    (.loop
      (.seq (.seq (.reg [
        ⟨some 5, .mv (.t 4), [], none⟩,
        ⟨some 6, .fa 1 (.t 1), [], none⟩,
        ⟨some 7, .ld 1 false (.t 6), [1], none⟩,
        ⟨some 8, .len (.t 7), [2], none⟩,
        ⟨some 9, .bin .lss (.t 5) (.t 8), [0, 3], none⟩])
      (.cond (.t 9)
        .skip
        (.exit 0)))
      (.seq (.block 1
        (.reg [
          ⟨some 12, .mv (.t 3), [], none⟩,
          ⟨some 13, .fa 1 (.t 1), [], none⟩,
          ⟨some 14, .ld 1 false (.t 13), [1], none⟩,
          ⟨some 15, .mv (.t 4), [], none⟩,
          ⟨some 16, .ia 14 (.t 14) (.t 15), [2, 3], none⟩,
          ⟨some 17, .ld 14 true (.t 16), [4], none⟩,
          ⟨some 18, .call 22 [(.t 17)], [5], none⟩,
          ⟨some 19, .mx [(.t 12), (.t 18)], [0, 6], none⟩,
          ⟨some 3, .mv (.t 19), [7, 6, 0, 1, 2, 3, 4, 5, 6, 7], none⟩]))
      (.reg [
        ⟨some 10, .mv (.t 4), [], none⟩,
        ⟨some 11, .bin .add (.t 10) (.c (.val (.int .i64 1))), [0], none⟩,
        ⟨some 4, .mv (.t 11), [1, 0, 1], none⟩]))))))
  (.seq (.reg [
    ⟨some 20, .mv (.t 3), [], none⟩,
    ⟨some 21, .bin .add (.t 20) (.c (.val (.int .i64 1))), [0], none⟩,
    ⟨some 2, .mv (.t 21), [1, 0, 1], none⟩])
  .ret))))
theorem Trydp22 : (Tryd.f22.body.map (prep Tryd.prog 22)) = some Trydc22 := by kernel_rfl
def Trydc23 : ACode :=
  (.seq (.reg [
    ⟨some 1, .box (.t 0), [], none⟩,
    ⟨some 2, .mv (.c (.val (.slice none 0 0))), [], none⟩])
  (.seq (.reg [
    ⟨some 5, .ld 14 true (.t 1), [], none⟩,
    ⟨some 6, .bslice 14 [(.t 5)], [0], none⟩,
    ⟨some 3, .mv (.t 6), [1, 0, 1], none⟩])
  (.seq (.seq (.reg [
    ⟨some 4, .mv (.c (.val (.int .i64 0))), [], none⟩])
  (.block 0
    (.loop
      (.seq (.seq (.reg [
        ⟨some 7, .mv (.t 4), [], none⟩,
        ⟨some 8, .fa 1 (.t 1), [], none⟩,
        ⟨some 9, .ld 1 false (.t 8), [1], none⟩,
        ⟨some 10, .len (.t 9), [2], none⟩,
        ⟨some 11, .bin .lss (.t 7) (.t 10), [0, 3], none⟩])
      (.cond (.t 11)
        .skip
        (.exit 0)))
      (.seq (.block 1
        (.reg [
          ⟨some 14, .mv (.t 3), [], none⟩,
          ⟨some 15, .fa 1 (.t 1), [], none⟩,
          ⟨some 16, .ld 1 false (.t 15), [1], none⟩,
          ⟨some 17, .mv (.t 4), [], none⟩,
          ⟨some 18, .ia 14 (.t 16) (.t 17), [2, 3], none⟩,
          ⟨some 19, .ld 14 true (.t 18), [4], none⟩,
          ⟨some 20, .call 23 [(.t 19)], [5], none⟩,
          ⟨some 21, .app 14 152 (.t 14) (.t 20), [0, 6, 6], none⟩,
          ⟨some 3, .mv (.t 21), [7, 7, 0, 1, 2, 3, 4, 5, 6, 7], none⟩]))
      (.reg [
        ⟨some 12, .mv (.t 4), [], none⟩,
        ⟨some 13, .bin .add (.t 12) (.c (.val (.int .i64 1))), [0], none⟩,
        ⟨some 4, .mv (.t 13), [1, 0, 1], none⟩]))))))
  (.seq (.reg [
    ⟨some 22, .mv (.t 3), [], none⟩,
    ⟨some 2, .mv (.t 22), [0, 0], none⟩])
  .ret))))
theorem Trydp23 : (Tryd.f23.body.map (prep Tryd.prog 23)) = some Trydc23 := by kernel_rfl
def Trydc24 : ACode :=
  (.seq (.reg [
    ⟨some 1, .box (.t 0), [], none⟩,
    ⟨some 2, .mv (.c (.val (.bool false))), [], none⟩])
  (.seq (.reg [
    ⟨some 3, .ld 8 true (.t 1), [], none⟩,
    ⟨some 4, .call 41 [(.t 3), (.c (.val (.int .i64 200)))], [0], none⟩,
    ⟨some 5, .bin .leq (.t 4) (.c (.val (.int .i64 200))), [1], none⟩,
    ⟨some 6, .mv (.t 5), [2, 1], none⟩,
    ⟨some 7, .ld 8 true (.t 1), [3], some (6, true)⟩,
    ⟨some 8, .call 42 [(.t 7)], [4, 3, 3], some (6, true)⟩,
    ⟨some 9, .bin .leq (.t 8) (.c (.val (.int .i64 100))), [5, 3], some (6, true)⟩,
    ⟨some 10, .pick (.t 6) (.t 9) (.c (.val (.bool false))), [3, 6], none⟩,
    ⟨some 2, .mv (.t 10), [7, 5, 0, 1, 2, 3, 4, 5, 6, 7], none⟩])
  .ret))
theorem Trydp24 : (Tryd.f24.body.map (prep Tryd.prog 11)) = some Trydc24 := by kernel_rfl
def Trydc25 : ACode :=
  (.seq (.reg [
    ⟨some 4, .box (.c (.agg [(.val (.int .i64 0)), (.val (.slice none 0 0)), (.val (.int .i64 0)), (.val (.int .i64 0)), (.val (.int .i64 0)), (.val (.int .i64 0)), (.val (.int .i64 0)), (.val (.slice none 0 0)), (.val (.int .i64 0)), (.val (.int .i64 0)), (.val (.int .i64 0)), (.val (.int .i64 0)), (.val (.int .i64 0)), (.val (.string ⟨#[]⟩))])), [], none⟩])
  (.seq (.reg [
    ⟨some 6, .mv (.t 1), [], none⟩,
    ⟨some 7, .call 27 [(.c (.val (.int .i64 1))), (.t 6)], [0], none⟩,
    ⟨some 8, .bslice 14 [(.t 7)], [1], none⟩,
    ⟨some 9, .build [(.val (.int .i64 0)), (.val (.slice none 0 0)), (.val (.int .i64 0)), (.val (.int .i64 0)), (.val (.int .i64 0)), (.val (.int .i64 0)), (.val (.int .i64 0)), (.val (.slice none 0 0)), (.val (.int .i64 0)), (.val (.int .i64 0)), (.val (.int .i64 0)), (.val (.int .i64 0)), (.val (.int .i64 0)), (.val (.string ⟨#[]⟩))] [(0, 1, (.c (.val (.int .i64 4)))), (1, 1, (.t 8))], [2], none⟩,
    ⟨some 5, .box (.c (.agg [(.val (.int .i64 0)), (.val (.slice none 0 0)), (.val (.int .i64 0)), (.val (.int .i64 0)), (.val (.int .i64 0)), (.val (.int .i64 0)), (.val (.int .i64 0)), (.val (.slice none 0 0)), (.val (.int .i64 0)), (.val (.int .i64 0)), (.val (.int .i64 0)), (.val (.int .i64 0)), (.val (.int .i64 0)), (.val (.string ⟨#[]⟩))])), [], none⟩,
    ⟨none, .st 14 (.t 5) (.t 9), [4, 3, 1, 0, 1, 2, 3, 4], none⟩])
  (.seq (.draw [
    ⟨some 10, .mv (.t 0), [], none⟩,
    ⟨some 11, .call 27 [(.c (.val (.int .i64 0))), (.t 10)], [0], none⟩,
    ⟨some 12, .ld 14 true (.t 5), [], none⟩,
    ⟨some 13, .bslice 14 [(.t 12)], [2], none⟩,
    ⟨some 14, .build [(.val (.int .i64 0)), (.val (.slice none 0 0)), (.val (.int .i64 0)), (.val (.int .i64 0)), (.val (.int .i64 0)), (.val (.int .i64 0)), (.val (.int .i64 0)), (.val (.slice none 0 0)), (.val (.int .i64 0)), (.val (.int .i64 0)), (.val (.int .i64 0)), (.val (.int .i64 0)), (.val (.int .i64 0)), (.val (.string ⟨#[]⟩))] [(0, 1, (.c (.val (.int .i64 6)))), (1, 1, (.t 13)), (5, 1, (.c (.val (.int .i64 5))))], [3], none⟩,
    ⟨some 15, .bslice 14 [(.t 11), (.t 14)], [1, 4], none⟩,
    ⟨some 16, .build [(.val (.int .i64 0)), (.val (.slice none 0 0)), (.val (.int .i64 0)), (.val (.int .i64 0)), (.val (.int .i64 0)), (.val (.int .i64 0)), (.val (.int .i64 0)), (.val (.slice none 0 0)), (.val (.int .i64 0)), (.val (.int .i64 0)), (.val (.int .i64 0)), (.val (.int .i64 0)), (.val (.int .i64 0)), (.val (.string ⟨#[]⟩))] [(0, 1, (.c (.val (.int .i64 1)))), (1, 1, (.t 15))], [5], none⟩,
    ⟨none, .st 14 (.t 4) (.t 16), [6, 1, 0, 1, 2, 3, 4, 5, 6], none⟩])
  .ret)))
theorem Trydp25 : (Tryd.f25.body.map (prep Tryd.prog 17)) = some Trydc25 := by kernel_rfl
def Trydc26 : ACode :=
  (.seq (.reg [
    ⟨some 1, .box (.t 0), [], none⟩,
    ⟨some 2, .box (.c (.agg [(.val (.int .i64 0)), (.val (.slice none 0 0)), (.val (.int .i64 0)), (.val (.int .i64 0)), (.val (.int .i64 0)), (.val (.int .i64 0)), (.val (.int .i64 0)), (.val (.slice none 0 0)), (.val (.int .i64 0)), (.val (.int .i64 0)), (.val (.int .i64 0)), (.val (.int .i64 0)), (.val (.int .i64 0)), (.val (.string ⟨#[]⟩))])), [], none⟩,
    ⟨some 3, .box (.c (.val (.slice none 0 0))), [], none⟩,
    ⟨some 4, .box (.c (.val (.int .i64 0))), [], none⟩])
  (.seq (.seq (.reg [
    ⟨some 12, .ld 14 true (.t 1), [], none⟩,
    ⟨some 13, .call 31 [(.t 12)], [0], none⟩,
    ⟨some 5, .mv (.t 13), [1, 1, 0, 1], none⟩])
  (.seq (.reg [
    ⟨some 14, .mv (.t 5), [], none⟩,
    ⟨some 15, .bin .neq (.t 14) (.c (.val (.int .i64 0))), [0], none⟩])
  (.cond (.t 15)
    (.seq (.reg [
      ⟨some 16, .build [(.val (.int .i64 0)), (.val (.slice none 0 0)), (.val (.int .i64 0)), (.val (.int .i64 0)), (.val (.int .i64 0)), (.val (.int .i64 0)), (.val (.int .i64 0)), (.val (.slice none 0 0)), (.val (.int .i64 0)), (.val (.int .i64 0)), (.val (.int .i64 0)), (.val (.int .i64 0)), (.val (.int .i64 0)), (.val (.string ⟨#[]⟩))] [], [], none⟩,
      ⟨some 17, .mv (.t 5), [], none⟩,
      ⟨none, .st 14 (.t 2) (.t 16), [0, 0], none⟩,
      ⟨none, .st 1 (.t 3) (.c (.val (.slice none 0 0))), [2, 0, 2], none⟩,
      ⟨none, .st 1 (.t 4) (.t 17), [1, 3, 0, 1, 2, 3], none⟩])
    .ret)
    .skip)))
  (.seq (.reg [
    ⟨some 18, .bslice 1 [(.c (.val (.int .i64 (-1))))], [], none⟩,
    ⟨some 19, .call 43 [(.t 18), (.c (.val (.int .i64 16)))], [0], none⟩,
    ⟨some 6, .box (.c (.val (.slice none 0 0))), [], none⟩,
    ⟨none, .st 1 (.t 6) (.t 19), [2, 1, 1, 0, 1, 2], none⟩])
  (.seq (.reg [
    ⟨some 7, .box (.c (.val (.slice none 0 0))), [], none⟩])
  (.seq (.seq (.reg [
    ⟨some 20, .ld 14 true (.t 1), [], none⟩,
    ⟨some 21, .call 29 [(.t 20)], [0], none⟩])
  (.block 0
    (.rfun (.t 21) [22]
      (.reg [
        ⟨some 8, .box (.c (.agg [(.val (.int .i64 0)), (.val (.slice none 0 0)), (.val (.int .i64 0)), (.val (.int .i64 0)), (.val (.int .i64 0)), (.val (.int .i64 0)), (.val (.int .i64 0)), (.val (.slice none 0 0)), (.val (.int .i64 0)), (.val (.int .i64 0)), (.val (.int .i64 0)), (.val (.int .i64 0)), (.val (.int .i64 0)), (.val (.string ⟨#[]⟩))])), [], none⟩,
        ⟨none, .st 14 (.t 8) (.t 22), [0, 0], none⟩])
      (.block 1
        (.seq (.reg [
          ⟨some 23, .fa 0 (.t 8), [], none⟩,
          ⟨some 24, .ld 1 false (.t 23), [0], none⟩,
          ⟨some 25, .iaA 6 11 (.g 0) (.t 24), [1], none⟩,
          ⟨some 26, .fa 2 (.t 25), [2], none⟩,
          ⟨some 27, .ld 1 false (.t 26), [3], none⟩])
        (.cond (.t 27)
          (.seq (.seq (.reg [
            ⟨some 28, .ld 1 false (.t 7), [], none⟩,
            ⟨some 29, .fa 3 (.t 8), [], none⟩,
            ⟨some 30, .ld 1 false (.t 29), [1], none⟩,
            ⟨some 31, .call 44 [(.t 28), (.t 30)], [0, 2], none⟩])
          (.cond (.t 31)
            (.seq (.reg [
              ⟨some 32, .build [(.val (.int .i64 0)), (.val (.slice none 0 0)), (.val (.int .i64 0)), (.val (.int .i64 0)), (.val (.int .i64 0)), (.val (.int .i64 0)), (.val (.int .i64 0)), (.val (.slice none 0 0)), (.val (.int .i64 0)), (.val (.int .i64 0)), (.val (.int .i64 0)), (.val (.int .i64 0)), (.val (.int .i64 0)), (.val (.string ⟨#[]⟩))] [], [], none⟩,
              ⟨none, .st 14 (.t 2) (.t 32), [0, 0], none⟩,
              ⟨none, .st 1 (.t 3) (.c (.val (.slice none 0 0))), [1, 0, 1], none⟩,
              ⟨none, .st 1 (.t 4) (.c (.val (.int .i64 7))), [2, 0, 1, 2], none⟩])
            .ret)
            .skip))
          (.seq (.reg [
            ⟨some 33, .ld 1 false (.t 6), [], none⟩,
            ⟨some 34, .fa 3 (.t 8), [], none⟩,
            ⟨some 35, .ld 1 false (.t 34), [1], none⟩,
            ⟨some 36, .ld 1 false (.t 7), [], none⟩,
            ⟨some 37, .len (.t 36), [3], none⟩,
            ⟨some 38, .ia 1 (.t 33) (.t 35), [0, 2, 0, 1, 2, 3, 4], none⟩,
            ⟨none, .st 1 (.t 38) (.t 37), [5, 4, 0, 1, 2, 3, 4], none⟩])
          (.reg [
            ⟨some 39, .ld 1 false (.t 7), [], none⟩,
            ⟨some 40, .fa 3 (.t 8), [], none⟩,
            ⟨some 41, .ld 1 false (.t 40), [1], none⟩,
            ⟨some 42, .bslice 1 [(.t 41)], [2], none⟩,
            ⟨some 43, .app 1 8 (.t 39) (.t 42), [0, 3], none⟩,
            ⟨none, .st 1 (.t 7) (.t 43), [4, 4, 0, 1, 2, 3, 4], none⟩])))
          .skip))))))
  (.seq (.seq (.reg [
    ⟨some 44, .ld 14 true (.t 1), [], none⟩,
    ⟨some 45, .call 29 [(.t 44)], [0], none⟩])
  (.block 2
    (.rfun (.t 45) [46]
      (.reg [
        ⟨some 9, .box (.c (.agg [(.val (.int .i64 0)), (.val (.slice none 0 0)), (.val (.int .i64 0)), (.val (.int .i64 0)), (.val (.int .i64 0)), (.val (.int .i64 0)), (.val (.int .i64 0)), (.val (.slice none 0 0)), (.val (.int .i64 0)), (.val (.int .i64 0)), (.val (.int .i64 0)), (.val (.int .i64 0)), (.val (.int .i64 0)), (.val (.string ⟨#[]⟩))])), [], none⟩,
        ⟨none, .st 14 (.t 9) (.t 46), [0, 0], none⟩])
      (.block 3
        (.seq (.reg [
          ⟨some 47, .fa 0 (.t 9), [], none⟩,
          ⟨some 48, .ld 1 false (.t 47), [0], none⟩,
          ⟨some 49, .iaA 6 11 (.g 0) (.t 48), [1], none⟩,
          ⟨some 50, .fa 3 (.t 49), [2], none⟩,
          ⟨some 51, .ld 1 false (.t 50), [3], none⟩,
          ⟨some 52, .mv (.t 51), [4], none⟩,
          ⟨some 53, .fa 6 (.t 9), [5], some (52, true)⟩,
          ⟨some 54, .ld 8 true (.t 53), [6, 5], some (52, true)⟩,
          ⟨some 55, .call 46 [(.t 54)], [7, 5, 5], some (52, true)⟩,
          ⟨some 56, .mkfn 47 [(.t 6)], [5], some (52, true)⟩,
          ⟨some 57, .call 45 [(.t 55), (.t 56)], [8, 9, 8, 5], some (52, true)⟩,
          ⟨some 58, .pick (.t 52) (.t 57) (.c (.val (.bool false))), [5, 10], none⟩])
        (.cond (.t 58)
          (.seq (.reg [
            ⟨some 59, .build [(.val (.int .i64 0)), (.val (.slice none 0 0)), (.val (.int .i64 0)), (.val (.int .i64 0)), (.val (.int .i64 0)), (.val (.int .i64 0)), (.val (.int .i64 0)), (.val (.slice none 0 0)), (.val (.int .i64 0)), (.val (.int .i64 0)), (.val (.int .i64 0)), (.val (.int .i64 0)), (.val (.int .i64 0)), (.val (.string ⟨#[]⟩))] [], [], none⟩,
            ⟨none, .st 14 (.t 2) (.t 59), [0, 0], none⟩,
            ⟨none, .st 1 (.t 3) (.c (.val (.slice none 0 0))), [1, 0, 1], none⟩,
            ⟨none, .st 1 (.t 4) (.c (.val (.int .i64 6))), [2, 0, 1, 2], none⟩])
          .ret)
          .skip))))))
  (.seq (.reg [
    ⟨some 61, .ld 14 true (.t 1), [], none⟩,
    ⟨some 62, .ld 1 false (.t 6), [], none⟩,
    ⟨some 63, .call 38 [(.t 61), (.t 62)], [0, 1], none⟩,
    ⟨some 64, .call 48 [(.t 63), (.c (.val (.int .i64 0)))], [2, 2], none⟩,
    ⟨some 60, .mv (.t 64), [3], none⟩,
    ⟨some 65, .ext (.t 60) 0, [4], none⟩,
    ⟨some 66, .ext (.t 60) 1, [4], none⟩,
    ⟨some 10, .box (.c (.agg [(.val (.int .i64 0)), (.val (.slice none 0 0)), (.val (.int .i64 0)), (.val (.int .i64 0)), (.val (.int .i64 0)), (.val (.int .i64 0)), (.val (.int .i64 0)), (.val (.slice none 0 0)), (.val (.int .i64 0)), (.val (.int .i64 0)), (.val (.int .i64 0)), (.val (.int .i64 0)), (.val (.int .i64 0)), (.val (.string ⟨#[]⟩))])), [], none⟩,
    ⟨none, .st 14 (.t 10) (.t 65), [7, 5, 3, 0, 1, 2, 3, 4, 5, 7], none⟩,
    ⟨some 11, .mv (.t 66), [6, 8, 0, 1, 2, 3, 4, 5, 6, 7, 8], none⟩])
  (.seq (.draw [
    ⟨some 67, .ld 14 true (.t 10), [], none⟩,
    ⟨some 68, .ld 1 false (.t 7), [], none⟩,
    ⟨none, .st 14 (.t 2) (.t 67), [0, 0], none⟩,
    ⟨none, .st 1 (.t 3) (.t 68), [1, 2, 0, 1, 2], none⟩,
    ⟨none, .st 1 (.t 4) (.c (.val (.int .i64 0))), [3, 0, 1, 2, 3], none⟩])
  .ret))))))))
theorem Trydp26 : (Tryd.f26.body.map (prep Tryd.prog 69)) = some Trydc26 := by kernel_rfl
def Trydc27 : ACode :=
  (.seq (.reg [
    ⟨some 4, .box (.c (.agg [(.val (.int .i64 0)), (.val (.slice none 0 0)), (.val (.int .i64 0)), (.val (.int .i64 0)), (.val (.int .i64 0)), (.val (.int .i64 0)), (.val (.int .i64 0)), (.val (.slice none 0 0)), (.val (.int .i64 0)), (.val (.int .i64 0)), (.val (.int .i64 0)), (.val (.int .i64 0)), (.val (.int .i64 0)), (.val (.string ⟨#[]⟩))])), [], none⟩])
  (.seq (.reg [
    ⟨some 5, .mv (.t 0), [], none⟩,
    ⟨some 6, .mv (.t 1), [], none⟩,
    ⟨some 7, .call 28 [], [], none⟩,
    ⟨some 8, .build [(.val (.int .i64 0)), (.val (.slice none 0 0)), (.val (.int .i64 0)), (.val (.int .i64 0)), (.val (.int .i64 0)), (.val (.int .i64 0)), (.val (.int .i64 0)), (.val (.slice none 0 0)), (.val (.int .i64 0)), (.val (.int .i64 0)), (.val (.int .i64 0)), (.val (.int .i64 0)), (.val (.int .i64 0)), (.val (.string ⟨#[]⟩))] [(2, 1, (.t 5)), (3, 1, (.t 6)), (6, 8, (.t 7))], [0, 1, 2], none⟩,
    ⟨none, .st 14 (.t 4) (.t 8), [3, 2, 0, 1, 2, 3], none⟩])
  .ret))
theorem Trydp27 : (Tryd.f27.body.map (prep Tryd.prog 9)) = some Trydc27 := by kernel_rfl
def Trydc28 : ACode :=
  (.seq (.reg [
    ⟨some 0, .box (.c (.agg [(.val (.int .i64 0)), (.val (.slice none 0 0)), (.val (.int .i64 0)), (.val (.int .i64 0)), (.val (.int .i64 0)), (.val (.int .i64 0)), (.val (.int .i64 0)), (.val (.string ⟨#[]⟩))])), [], none⟩])
  (.seq (.reg [
    ⟨some 1, .call 49 [(.c (.val (.bool true)))], [], none⟩,
    ⟨some 2, .build [(.val (.int .i64 0)), (.val (.slice none 0 0)), (.val (.int .i64 0)), (.val (.int .i64 0)), (.val (.int .i64 0)), (.val (.int .i64 0)), (.val (.int .i64 0)), (.val (.string ⟨#[]⟩))] [(0, 1, (.c (.val (.int .i64 0)))), (5, 3, (.t 1))], [0], none⟩,
    ⟨none, .st 8 (.t 0) (.t 2), [1, 0, 0, 1], none⟩])
  .ret))
theorem Trydp28 : (Tryd.f28.body.map (prep Tryd.prog 3)) = some Trydc28 := by kernel_rfl
def Trydc29 : ACode :=
  (.seq (.reg [
    ⟨some 1, .box (.t 0), [], none⟩,
    ⟨some 2, .mv (.c (.val .nilFunc)), [], none⟩])
  (.seq (.reg [
    ⟨some 3, .mkfn 50 [(.t 1)], [], none⟩,
    ⟨some 2, .mv (.t 3), [0, 0], none⟩])
  .ret))
theorem Trydp29 : (Tryd.f29.body.map (prep Tryd.prog 4)) = some Trydc29 := by kernel_rfl
def Trydc30 : ACode :=
  (.seq (.reg [
    ⟨some 2, .box (.t 0), [], none⟩,
    ⟨some 3, .box (.t 1), [], none⟩,
    ⟨some 4, .mv (.c (.val (.bool false))), [], none⟩])
  (.seq (.seq (.reg [
    ⟨some 6, .fa 0 (.t 2), [], none⟩,
    ⟨some 7, .ld 1 false (.t 6), [0], none⟩,
    ⟨some 8, .fa 0 (.t 3), [], none⟩,
    ⟨some 9, .ld 1 false (.t 8), [2], none⟩,
    ⟨some 10, .bin .neq (.t 7) (.t 9), [1, 3], none⟩,
    ⟨some 11, .mv (.t 10), [4], none⟩,
    ⟨some 12, .fa 2 (.t 2), [5], some (11, false)⟩,
    ⟨some 13, .ld 1 false (.t 12), [6, 5], some (11, false)⟩,
    ⟨some 14, .fa 2 (.t 3), [5], some (11, false)⟩,
    ⟨some 15, .ld 1 false (.t 14), [8, 5], some (11, false)⟩,
    ⟨some 16, .bin .neq (.t 13) (.t 15), [7, 9, 5], some (11, false)⟩,
    ⟨some 17, .pick (.t 11) (.c (.val (.bool true))) (.t 16), [5, 10], none⟩,
    ⟨some 18, .mv (.t 17), [11, 5], none⟩,
    ⟨some 19, .fa 3 (.t 2), [12], some (18, false)⟩,
    ⟨some 20, .ld 1 false (.t 19), [13, 12], some (18, false)⟩,
    ⟨some 21, .fa 3 (.t 3), [12], some (18, false)⟩,
    ⟨some 22, .ld 1 false (.t 21), [15, 12], some (18, false)⟩,
    ⟨some 23, .bin .neq (.t 20) (.t 22), [14, 16, 12], some (18, false)⟩,
    ⟨some 24, .pick (.t 18) (.c (.val (.bool true))) (.t 23), [12, 17], none⟩,
    ⟨some 25, .mv (.t 24), [18, 12], none⟩,
    ⟨some 26, .fa 4 (.t 2), [19], some (25, false)⟩,
    ⟨some 27, .ld 1 false (.t 26), [20, 19], some (25, false)⟩,
    ⟨some 28, .fa 4 (.t 3), [19], some (25, false)⟩,
    ⟨some 29, .ld 1 false (.t 28), [22, 19], some (25, false)⟩,
    ⟨some 30, .bin .neq (.t 27) (.t 29), [21, 23, 19], some (25, false)⟩,
    ⟨some 31, .pick (.t 25) (.c (.val (.bool true))) (.t 30), [19, 24], none⟩,
    ⟨some 32, .mv (.t 31), [25, 19], none⟩,
    ⟨some 33, .fa 5 (.t 2), [26], some (32, false)⟩,
    ⟨some 34, .ld 3 true (.t 33), [27, 26], some (32, false)⟩,
    ⟨some 35, .fa 5 (.t 3), [26], some (32, false)⟩,
    ⟨some 36, .ld 3 true (.t 35), [29, 26], some (32, false)⟩,
    ⟨some 37, .eqst true [.int, .int, .str] (.t 34) (.t 36), [28, 30, 26], some (32, false)⟩,
    ⟨some 38, .pick (.t 32) (.c (.val (.bool true))) (.t 37), [26, 31], none⟩,
    ⟨some 39, .mv (.t 38), [32, 26], none⟩,
    ⟨some 40, .fa 1 (.t 2), [33], some (39, false)⟩,
    ⟨some 41, .ld 1 false (.t 40), [34, 33], some (39, false)⟩,
    ⟨some 42, .len (.t 41), [35, 33], some (39, false)⟩,
    ⟨some 43, .fa 1 (.t 3), [33], some (39, false)⟩,
    ⟨some 44, .ld 1 false (.t 43), [37, 33], some (39, false)⟩,
    ⟨some 45, .len (.t 44), [38, 33], some (39, false)⟩,
    ⟨some 46, .bin .neq (.t 42) (.t 45), [36, 39, 33], some (39, false)⟩,
    ⟨some 47, .pick (.t 39) (.c (.val (.bool true))) (.t 46), [33, 40], none⟩])
  (.cond (.t 47)
    (.seq (.reg [
      ⟨some 4, .mv (.c (.val (.bool false))), [], none⟩])
    .ret)
    .skip))
  (.seq (.seq (.reg [
    ⟨some 5, .mv (.c (.val (.int .i64 0))), [], none⟩])
  (.block 0
    (.loop
      (.seq (.seq (.reg [
        ⟨some 48, .mv (.t 5), [], none⟩,
        ⟨some 49, .fa 1 (.t 2), [], none⟩,
        ⟨some 50, .ld 1 false (.t 49), [1], none⟩,
        ⟨some 51, .len (.t 50), [2], none⟩,
        ⟨some 52, .bin .lss (.t 48) (.t 51), [0, 3], none⟩])
      (.cond (.t 52)
        .skip
        (.exit 0)))
      (.seq (.block 1
        (.seq (.draw [
          ⟨some 55, .fa 1 (.t 2), [], none⟩,
          ⟨some 56, .ld 1 false (.t 55), [0], none⟩,
          ⟨some 57, .mv (.t 5), [], none⟩,
          ⟨some 58, .ia 8 (.t 56) (.t 57), [1, 2], none⟩,
          ⟨some 59, .ld 8 true (.t 58), [3], none⟩,
          ⟨some 60, .fa 1 (.t 3), [], none⟩,
          ⟨some 61, .ld 1 false (.t 60), [5], none⟩,
          ⟨some 62, .mv (.t 5), [], none⟩,
          ⟨some 63, .ia 8 (.t 61) (.t 62), [6, 7], none⟩,
          ⟨some 64, .ld 8 true (.t 63), [8], none⟩,
          ⟨some 65, .call 30 [(.t 59), (.t 64)], [4, 9], none⟩,
          ⟨some 66, .un .not (.t 65), [10], none⟩])
        (.cond (.t 66)
          (.seq (.reg [
            ⟨some 4, .mv (.c (.val (.bool false))), [], none⟩])
          .ret)
          .skip)))
      (.reg [
        ⟨some 53, .mv (.t 5), [], none⟩,
        ⟨some 54, .bin .add (.t 53) (.c (.val (.int .i64 1))), [0], none⟩,
        ⟨some 5, .mv (.t 54), [1, 0, 1], none⟩]))))))
  (.seq (.reg [
    ⟨some 4, .mv (.c (.val (.bool true))), [], none⟩])
  .ret))))
theorem Trydp30 : (Tryd.f30.body.map (prep Tryd.prog 67)) = some Trydc30 := by kernel_rfl
def Trydc31 : ACode :=
  (.seq (.reg [
    ⟨some 1, .box (.t 0), [], none⟩,
    ⟨some 2, .box (.c (.val (.int .i64 0))), [], none⟩])
  (.seq (.seq (.reg [
    ⟨some 5, .ld 14 true (.t 1), [], none⟩,
    ⟨some 6, .call 18 [(.t 5)], [0], none⟩,
    ⟨some 3, .mv (.t 6), [1, 1, 0, 1], none⟩])
  (.seq (.reg [
    ⟨some 7, .mv (.t 3), [], none⟩,
    ⟨some 8, .bin .neq (.t 7) (.c (.val (.int .i64 0))), [0], none⟩])
  (.cond (.t 8)
    (.seq (.reg [
      ⟨some 9, .mv (.t 3), [], none⟩,
      ⟨none, .st 1 (.t 2) (.t 9), [0, 0], none⟩])
    .ret)
    .skip)))
  (.seq (.seq (.reg [
    ⟨some 10, .ld 14 true (.t 1), [], none⟩,
    ⟨some 11, .call 29 [(.t 10)], [0], none⟩])
  (.block 0
    (.rfun (.t 11) [12]
      (.reg [
        ⟨some 4, .box (.c (.agg [(.val (.int .i64 0)), (.val (.slice none 0 0)), (.val (.int .i64 0)), (.val (.int .i64 0)), (.val (.int .i64 0)), (.val (.int .i64 0)), (.val (.int .i64 0)), (.val (.slice none 0 0)), (.val (.int .i64 0)), (.val (.int .i64 0)), (.val (.int .i64 0)), (.val (.int .i64 0)), (.val (.int .i64 0)), (.val (.string ⟨#[]⟩))])), [], none⟩,
        ⟨none, .st 14 (.t 4) (.t 12), [0, 0], none⟩])
      (.block 1
        (.seq (.reg [
          ⟨some 13, .fa 0 (.t 4), [], none⟩,
          ⟨some 14, .ld 1 false (.t 13), [0], none⟩,
          ⟨some 15, .bin .geq (.t 14) (.c (.val (.int .i64 8))), [1], none⟩])
        (.cond (.t 15)
          (.seq (.reg [
            ⟨none, .st 1 (.t 2) (.c (.val (.int .i64 1))), [], none⟩])
          .ret)
          .skip))))))
  (.seq (.reg [
    ⟨none, .st 1 (.t 2) (.c (.val (.int .i64 0))), [], none⟩])
  .ret))))
theorem Trydp31 : (Tryd.f31.body.map (prep Tryd.prog 16)) = some Trydc31 := by kernel_rfl
def Trydc32 : ACode :=
  (.seq (.reg [
    ⟨some 1, .box (.t 0), [], none⟩,
    ⟨some 2, .mv (.c (.val (.int .i64 0))), [], none⟩,
    ⟨some 3, .mv (.c (.val (.int .i64 0))), [1], none⟩,
    ⟨some 4, .mv (.c (.val (.bool false))), [2], none⟩])
  (.seq (.reg [
    ⟨some 5, .box (.c (.val (.int .i64 0))), [], none⟩,
    ⟨some 6, .box (.c (.val (.int .i64 0))), [], none⟩,
    ⟨some 7, .box (.c (.val (.bool false))), [], none⟩,
    ⟨none, .st 1 (.t 5) (.c (.val (.int .i64 0))), [0, 0, 1, 2], none⟩,
    ⟨none, .st 1 (.t 6) (.c (.val (.int .i64 0))), [1, 3, 0, 1, 2, 3], none⟩,
    ⟨none, .st 1 (.t 7) (.c (.val (.bool true))), [2, 4, 0, 1, 2, 3, 4], none⟩])
  (.seq (.seq (.reg [
    ⟨some 10, .ld 14 true (.t 1), [], none⟩,
    ⟨some 11, .call 29 [(.t 10)], [0], none⟩])
  (.block 0
    (.rfun (.t 11) [12]
      (.reg [
        ⟨some 8, .box (.c (.agg [(.val (.int .i64 0)), (.val (.slice none 0 0)), (.val (.int .i64 0)), (.val (.int .i64 0)), (.val (.int .i64 0)), (.val (.int .i64 0)), (.val (.int .i64 0)), (.val (.slice none 0 0)), (.val (.int .i64 0)), (.val (.int .i64 0)), (.val (.int .i64 0)), (.val (.int .i64 0)), (.val (.int .i64 0)), (.val (.string ⟨#[]⟩))])), [], none⟩,
        ⟨none, .st 14 (.t 8) (.t 12), [0, 0], none⟩])
      (.block 1
        (.seq (.reg [
          ⟨some 13, .fa 0 (.t 8), [], none⟩,
          ⟨some 14, .ld 1 false (.t 13), [0], none⟩,
          ⟨some 15, .iaA 6 11 (.g 0) (.t 14), [1], none⟩,
          ⟨some 16, .ld 6 true (.t 15), [2], none⟩,
          ⟨some 9, .box (.c (.agg [(.val (.int .i64 0)), (.val (.int .i64 0)), (.val (.bool false)), (.val (.bool false)), (.val (.bool false)), (.val (.bool false))])), [], none⟩,
          ⟨none, .st 6 (.t 9) (.t 16), [4, 3, 0, 1, 2, 3, 4], none⟩])
        (.seq (.seq (.reg [
          ⟨some 17, .fa 2 (.t 9), [], none⟩,
          ⟨some 18, .ld 1 false (.t 17), [0], none⟩])
        (.cond (.t 18)
          (.seq (.reg [
            ⟨some 19, .ld 1 false (.t 7), [], none⟩,
            ⟨some 20, .mv (.t 19), [0], none⟩,
            ⟨some 21, .fa 3 (.t 8), [1], some (20, true)⟩,
            ⟨some 22, .ld 1 false (.t 21), [2, 1], some (20, true)⟩,
            ⟨some 23, .ld 1 false (.t 5), [1], some (20, true)⟩,
            ⟨some 24, .bin .eql (.t 22) (.t 23), [3, 4, 1], some (20, true)⟩,
            ⟨some 25, .pick (.t 20) (.t 24) (.c (.val (.bool false))), [1, 5], none⟩,
            ⟨none, .st 1 (.t 7) (.t 25), [6, 1, 0, 1, 2, 3, 4, 5, 6], none⟩])
          (.reg [
            ⟨some 26, .ld 1 false (.t 5), [], none⟩,
            ⟨some 27, .bin .add (.t 26) (.c (.val (.int .i64 1))), [0], none⟩,
            ⟨none, .st 1 (.t 5) (.t 27), [1, 0, 1], none⟩]))
          .skip))
        (.seq (.reg [
          ⟨some 28, .fa 4 (.t 9), [], none⟩,
          ⟨some 29, .ld 1 false (.t 28), [0], none⟩])
        (.cond (.t 29)
          (.seq (.reg [
            ⟨some 30, .ld 1 false (.t 7), [], none⟩,
            ⟨some 31, .mv (.t 30), [0], none⟩,
            ⟨some 32, .fa 4 (.t 8), [1], some (31, true)⟩,
            ⟨some 33, .ld 1 false (.t 32), [2, 1], some (31, true)⟩,
            ⟨some 34, .ld 1 false (.t 6), [1], some (31, true)⟩,
            ⟨some 35, .bin .eql (.t 33) (.t 34), [3, 4, 1], some (31, true)⟩,
            ⟨some 36, .pick (.t 31) (.t 35) (.c (.val (.bool false))), [1, 5], none⟩,
            ⟨none, .st 1 (.t 7) (.t 36), [6, 1, 0, 1, 2, 3, 4, 5, 6], none⟩])
          (.reg [
            ⟨some 37, .ld 1 false (.t 6), [], none⟩,
            ⟨some 38, .bin .add (.t 37) (.c (.val (.int .i64 1))), [0], none⟩,
            ⟨none, .st 1 (.t 6) (.t 38), [1, 0, 1], none⟩]))
          .skip))))))))
  (.seq (.draw [
    ⟨some 39, .ld 1 false (.t 5), [], none⟩,
    ⟨some 40, .ld 1 false (.t 6), [], none⟩,
    ⟨some 41, .ld 1 false (.t 7), [], none⟩,
    ⟨some 2, .mv (.t 39), [0, 0], none⟩,
    ⟨some 3, .mv (.t 40), [1, 3, 0, 1, 3], none⟩,
    ⟨some 4, .mv (.t 41), [2, 4, 0, 1, 2, 3, 4], none⟩])
  .ret))))
theorem Trydp32 : (Tryd.f32.body.map (prep Tryd.prog 42)) = some Trydc32 := by kernel_rfl
def Trydc33 : ACode :=
  (.seq (.reg [
    ⟨some 2, .box (.t 0), [], none⟩,
    ⟨some 4, .mv (.c (.val (.slice none 0 0))), [], none⟩])
  (.seq (.seq (.reg [
    ⟨some 8, .fa 0 (.t 2), [], none⟩,
    ⟨some 9, .ld 1 false (.t 8), [0], none⟩,
    ⟨some 10, .bin .eql (.t 9) (.c (.val (.int .i64 0))), [1], none⟩,
    ⟨some 11, .mv (.t 10), [2], none⟩,
    ⟨some 12, .fa 3 (.t 2), [3], some (11, true)⟩,
    ⟨some 13, .ld 1 false (.t 12), [4, 3], some (11, true)⟩,
    ⟨some 14, .mv (.t 1), [3], some (11, true)⟩,
    ⟨some 15, .bin .eql (.t 13) (.t 14), [5, 6, 3], some (11, true)⟩,
    ⟨some 16, .pick (.t 11) (.t 15) (.c (.val (.bool false))), [3, 7], none⟩])
  (.cond (.t 16)
    (.seq (.reg [
      ⟨some 17, .ld 14 true (.t 2), [], none⟩,
      ⟨some 18, .bslice 14 [(.t 17)], [0], none⟩,
      ⟨some 4, .mv (.t 18), [1, 0, 1], none⟩])
    .ret)
    .skip))
  (.seq (.seq (.reg [
    ⟨some 19, .fa 1 (.t 2), [], none⟩,
    ⟨some 20, .ld 1 false (.t 19), [0], none⟩,
    ⟨some 21, .len (.t 20), [1], none⟩,
    ⟨some 22, .mv (.c (.val (.int .i64 0))), [], none⟩])
  (.block 0
    (.loop
      (.seq (.reg [
        ⟨some 23, .bin .lss (.t 22) (.t 21), [], none⟩])
      (.seq (.cond (.t 23)
        .skip
        (.exit 0))
      (.seq (.block 1
        (.seq (.reg [
          ⟨some 24, .ia 14 (.t 20) (.t 22), [], none⟩,
          ⟨some 25, .ld 14 true (.t 24), [0], none⟩,
          ⟨some 6, .box (.c (.agg [(.val (.int .i64 0)), (.val (.slice none 0 0)), (.val (.int .i64 0)), (.val (.int .i64 0)), (.val (.int .i64 0)), (.val (.int .i64 0)), (.val (.int .i64 0)), (.val (.slice none 0 0)), (.val (.int .i64 0)), (.val (.int .i64 0)), (.val (.int .i64 0)), (.val (.int .i64 0)), (.val (.int .i64 0)), (.val (.string ⟨#[]⟩))])), [], none⟩,
          ⟨none, .st 14 (.t 6) (.t 25), [2, 1, 0, 1, 2], none⟩])
        (.seq (.reg [
          ⟨some 26, .ld 14 true (.t 6), [], none⟩,
          ⟨some 27, .mv (.t 1), [], none⟩,
          ⟨some 28, .call 33 [(.t 26), (.t 27)], [0, 1], none⟩,
          ⟨some 7, .mv (.t 28), [2, 2, 0, 1, 2], none⟩])
        (.seq (.reg [
          ⟨some 29, .mv (.t 7), [], none⟩,
          ⟨some 30, .len (.t 29), [0], none⟩,
          ⟨some 31, .bin .gtr (.t 30) (.c (.val (.int .i64 0))), [1], none⟩])
        (.cond (.t 31)
          (.seq (.reg [
            ⟨some 32, .ld 14 true (.t 2), [], none⟩,
            ⟨some 33, .bslice 14 [(.t 32)], [0], none⟩,
            ⟨some 34, .mv (.t 7), [], none⟩,
            ⟨some 35, .app 14 152 (.t 33) (.t 34), [1, 2], none⟩,
            ⟨some 4, .mv (.t 35), [3, 3, 0, 1, 2, 3], none⟩])
          .ret)
          .skip)))))
      (.reg [
        ⟨some 36, .bin .add (.t 22) (.c (.val (.int .i64 1))), [], none⟩,
        ⟨some 22, .mv (.t 36), [0], none⟩])))))))
  (.seq (.reg [
    ⟨some 4, .mv (.c (.val (.slice none 0 0))), [], none⟩])
  .ret))))
theorem Trydp33 : (Tryd.f33.body.map (prep Tryd.prog 37)) = some Trydc33 := by kernel_rfl
def Trydc34 : ACode :=
  (.seq (.reg [
    ⟨some 2, .box (.t 0), [], none⟩,
    ⟨some 3, .box (.t 1), [], none⟩,
    ⟨some 4, .mv (.c (.val (.bool false))), [], none⟩])
  (.seq (.seq (.reg [
    ⟨some 6, .fa 0 (.t 2), [], none⟩,
    ⟨some 7, .ld 1 false (.t 6), [0], none⟩,
    ⟨some 8, .fa 0 (.t 3), [], none⟩,
    ⟨some 9, .ld 1 false (.t 8), [2], none⟩,
    ⟨some 10, .bin .neq (.t 7) (.t 9), [1, 3], none⟩,
    ⟨some 11, .mv (.t 10), [4], none⟩,
    ⟨some 12, .fa 2 (.t 2), [5], some (11, false)⟩,
    ⟨some 13, .ld 1 false (.t 12), [6, 5], some (11, false)⟩,
    ⟨some 14, .fa 2 (.t 3), [5], some (11, false)⟩,
    ⟨some 15, .ld 1 false (.t 14), [8, 5], some (11, false)⟩,
    ⟨some 16, .bin .neq (.t 13) (.t 15), [7, 9, 5], some (11, false)⟩,
    ⟨some 17, .pick (.t 11) (.c (.val (.bool true))) (.t 16), [5, 10], none⟩,
    ⟨some 18, .mv (.t 17), [11, 5], none⟩,
    ⟨some 19, .fa 3 (.t 2), [12], some (18, false)⟩,
    ⟨some 20, .ld 1 false (.t 19), [13, 12], some (18, false)⟩,
    ⟨some 21, .fa 3 (.t 3), [12], some (18, false)⟩,
    ⟨some 22, .ld 1 false (.t 21), [15, 12], some (18, false)⟩,
    ⟨some 23, .bin .neq (.t 20) (.t 22), [14, 16, 12], some (18, false)⟩,
    ⟨some 24, .pick (.t 18) (.c (.val (.bool true))) (.t 23), [12, 17], none⟩,
    ⟨some 25, .mv (.t 24), [18, 12], none⟩,
    ⟨some 26, .fa 4 (.t 2), [19], some (25, false)⟩,
    ⟨some 27, .ld 1 false (.t 26), [20, 19], some (25, false)⟩,
    ⟨some 28, .fa 4 (.t 3), [19], some (25, false)⟩,
    ⟨some 29, .ld 1 false (.t 28), [22, 19], some (25, false)⟩,
    ⟨some 30, .bin .neq (.t 27) (.t 29), [21, 23, 19], some (25, false)⟩,
    ⟨some 31, .pick (.t 25) (.c (.val (.bool true))) (.t 30), [19, 24], none⟩,
    ⟨some 32, .mv (.t 31), [25, 19], none⟩,
    ⟨some 33, .fa 5 (.t 2), [26], some (32, false)⟩,
    ⟨some 34, .ld 3 true (.t 33), [27, 26], some (32, false)⟩,
    ⟨some 35, .fa 5 (.t 3), [26], some (32, false)⟩,
    ⟨some 36, .ld 3 true (.t 35), [29, 26], some (32, false)⟩,
    ⟨some 37, .eqst true [.int, .int, .str] (.t 34) (.t 36), [28, 30, 26], some (32, false)⟩,
    ⟨some 38, .pick (.t 32) (.c (.val (.bool true))) (.t 37), [26, 31], none⟩,
    ⟨some 39, .mv (.t 38), [32, 26], none⟩,
    ⟨some 40, .fa 1 (.t 2), [33], some (39, false)⟩,
    ⟨some 41, .ld 1 false (.t 40), [34, 33], some (39, false)⟩,
    ⟨some 42, .len (.t 41), [35, 33], some (39, false)⟩,
    ⟨some 43, .fa 1 (.t 3), [33], some (39, false)⟩,
    ⟨some 44, .ld 1 false (.t 43), [37, 33], some (39, false)⟩,
    ⟨some 45, .len (.t 44), [38, 33], some (39, false)⟩,
    ⟨some 46, .bin .neq (.t 42) (.t 45), [36, 39, 33], some (39, false)⟩,
    ⟨some 47, .pick (.t 39) (.c (.val (.bool true))) (.t 46), [33, 40], none⟩])
  (.cond (.t 47)
    (.seq (.reg [
      ⟨some 4, .mv (.c (.val (.bool false))), [], none⟩])
    .ret)
    .skip))
  (.seq (.seq (.reg [
    ⟨some 48, .fa 1 (.t 2), [], none⟩,
    ⟨some 49, .ld 1 false (.t 48), [0], none⟩,
    ⟨some 50, .len (.t 49), [1], none⟩,
    ⟨some 51, .mv (.c (.val (.int .i64 0))), [], none⟩])
  (.block 0
    (.loop
      (.seq (.reg [
        ⟨some 52, .bin .lss (.t 51) (.t 50), [], none⟩])
      (.seq (.cond (.t 52)
        .skip
        (.exit 0))
      (.seq (.block 1
        (.seq (.reg [
          ⟨some 53, .mv (.t 51), [], none⟩,
          ⟨some 5, .mv (.t 53), [0, 0], none⟩])
        (.seq (.draw [
          ⟨some 54, .fa 1 (.t 2), [], none⟩,
          ⟨some 55, .ld 1 false (.t 54), [0], none⟩,
          ⟨some 56, .mv (.t 5), [], none⟩,
          ⟨some 57, .ia 8 (.t 55) (.t 56), [1, 2], none⟩,
          ⟨some 58, .ld 8 true (.t 57), [3], none⟩,
          ⟨some 59, .fa 1 (.t 3), [], none⟩,
          ⟨some 60, .ld 1 false (.t 59), [5], none⟩,
          ⟨some 61, .mv (.t 5), [], none⟩,
          ⟨some 62, .ia 8 (.t 60) (.t 61), [6, 7], none⟩,
          ⟨some 63, .ld 8 true (.t 62), [8], none⟩,
          ⟨some 64, .call 34 [(.t 58), (.t 63)], [4, 9], none⟩,
          ⟨some 65, .un .not (.t 64), [10], none⟩])
        (.cond (.t 65)
          (.seq (.reg [
            ⟨some 4, .mv (.c (.val (.bool false))), [], none⟩])
          .ret)
          .skip))))
      (.reg [
        ⟨some 66, .bin .add (.t 51) (.c (.val (.int .i64 1))), [], none⟩,
        ⟨some 51, .mv (.t 66), [0], none⟩])))))))
  (.seq (.reg [
    ⟨some 4, .mv (.c (.val (.bool true))), [], none⟩])
  .ret))))
theorem Trydp34 : (Tryd.f34.body.map (prep Tryd.prog 67)) = some Trydc34 := by kernel_rfl
def Trydc35 : ACode :=
  (.seq (.reg [
    ⟨some 6, .mv (.c (.val (.bool false))), [], none⟩])
  (.seq (.seq (.reg [
    ⟨some 10, .mv (.t 0), [], none⟩,
    ⟨some 11, .len (.t 10), [0], none⟩,
    ⟨some 12, .mv (.t 1), [], none⟩,
    ⟨some 13, .len (.t 12), [2], none⟩,
    ⟨some 14, .bin .neq (.t 11) (.t 13), [1, 3], none⟩])
  (.cond (.t 14)
    (.seq (.reg [
      ⟨some 6, .mv (.c (.val (.bool false))), [], none⟩])
    .ret)
    .skip))
  (.seq (.seq (.reg [
    ⟨some 15, .mv (.t 0), [], none⟩,
    ⟨some 16, .len (.t 15), [0], none⟩,
    ⟨some 17, .mv (.c (.val (.int .i64 0))), [], none⟩])
  (.block 0
    (.loop
      (.seq (.reg [
        ⟨some 18, .bin .lss (.t 17) (.t 16), [], none⟩])
      (.seq (.cond (.t 18)
        .skip
        (.exit 0))
      (.seq (.block 1
        (.seq (.reg [
          ⟨some 19, .mv (.t 17), [], none⟩,
          ⟨some 20, .ia 14 (.t 15) (.t 17), [], none⟩,
          ⟨some 21, .ld 14 true (.t 20), [1], none⟩,
          ⟨some 8, .box (.c (.agg [(.val (.int .i64 0)), (.val (.slice none 0 0)), (.val (.int .i64 0)), (.val (.int .i64 0)), (.val (.int .i64 0)), (.val (.int .i64 0)), (.val (.int .i64 0)), (.val (.slice none 0 0)), (.val (.int .i64 0)), (.val (.int .i64 0)), (.val (.int .i64 0)), (.val (.int .i64 0)), (.val (.int .i64 0)), (.val (.string ⟨#[]⟩))])), [], none⟩,
          ⟨some 7, .mv (.t 19), [0, 0, 1, 2, 3], none⟩,
          ⟨none, .st 14 (.t 8) (.t 21), [3, 2, 4, 0, 1, 2, 3, 4], none⟩])
        (.seq (.reg [
          ⟨some 22, .mv (.t 1), [], none⟩,
          ⟨some 23, .mv (.t 7), [], none⟩,
          ⟨some 24, .ia 14 (.t 22) (.t 23), [0, 1], none⟩,
          ⟨some 25, .ld 14 true (.t 24), [2], none⟩,
          ⟨some 9, .box (.c (.agg [(.val (.int .i64 0)), (.val (.slice none 0 0)), (.val (.int .i64 0)), (.val (.int .i64 0)), (.val (.int .i64 0)), (.val (.int .i64 0)), (.val (.int .i64 0)), (.val (.slice none 0 0)), (.val (.int .i64 0)), (.val (.int .i64 0)), (.val (.int .i64 0)), (.val (.int .i64 0)), (.val (.int .i64 0)), (.val (.string ⟨#[]⟩))])), [], none⟩,
          ⟨none, .st 14 (.t 9) (.t 25), [4, 3, 0, 1, 2, 3, 4], none⟩])
        (.seq (.reg [
          ⟨some 26, .mv (.t 2), [], none⟩,
          ⟨some 27, .ld 14 true (.t 8), [], none⟩,
          ⟨some 28, .ld 14 true (.t 9), [], none⟩,
          ⟨some 29, .callv (.t 26) [(.t 27), (.t 28)], [0, 1, 2], none⟩,
          ⟨some 30, .un .not (.t 29), [3], none⟩])
        (.cond (.t 30)
          (.seq (.reg [
            ⟨some 6, .mv (.c (.val (.bool false))), [], none⟩])
          .ret)
          .skip)))))
      (.reg [
        ⟨some 31, .bin .add (.t 17) (.c (.val (.int .i64 1))), [], none⟩,
        ⟨some 17, .mv (.t 31), [0], none⟩])))))))
  (.seq (.reg [
    ⟨some 6, .mv (.c (.val (.bool true))), [], none⟩])
  .ret))))
theorem Trydp35 : (Tryd.f35.body.map (prep Tryd.prog 32)) = some Trydc35 := by kernel_rfl
def Trydc36 : ACode :=
  (.seq (.reg [
    ⟨some 1, .box (.t 0), [], none⟩,
    ⟨some 2, .mv (.c (.val (.int .i64 0))), [], none⟩])
  (.seq (.seq (.reg [
    ⟨some 5, .fa 0 (.t 1), [], none⟩,
    ⟨some 6, .ld 1 false (.t 5), [0], none⟩,
    ⟨some 7, .bin .lss (.t 6) (.c (.val (.int .i64 0))), [1], none⟩,
    ⟨some 8, .mv (.t 7), [2], none⟩,
    ⟨some 9, .fa 0 (.t 1), [3], some (8, false)⟩,
    ⟨some 10, .ld 1 false (.t 9), [4, 3], some (8, false)⟩,
    ⟨some 11, .bin .geq (.t 10) (.c (.val (.int .i64 11))), [5, 3], some (8, false)⟩,
    ⟨some 12, .pick (.t 8) (.c (.val (.bool true))) (.t 11), [3, 6], none⟩])
  (.cond (.t 12)
    (.seq (.reg [
      ⟨some 2, .mv (.c (.val (.int .i64 1))), [], none⟩])
    .ret)
    .skip))
  (.seq (.reg [
    ⟨some 13, .fa 0 (.t 1), [], none⟩,
    ⟨some 14, .ld 1 false (.t 13), [0], none⟩,
    ⟨some 15, .iaA 6 11 (.g 0) (.t 14), [1], none⟩,
    ⟨some 16, .ld 6 true (.t 15), [2], none⟩,
    ⟨some 3, .box (.c (.agg [(.val (.int .i64 0)), (.val (.int .i64 0)), (.val (.bool false)), (.val (.bool false)), (.val (.bool false)), (.val (.bool false))])), [], none⟩,
    ⟨none, .st 6 (.t 3) (.t 16), [4, 3, 0, 1, 2, 3, 4], none⟩])
  (.seq (.block 0
    (.seq (.reg [
      ⟨some 18, .fa 1 (.t 1), [], none⟩,
      ⟨some 19, .ld 1 false (.t 18), [0], none⟩,
      ⟨some 20, .len (.t 19), [1], none⟩,
      ⟨some 21, .fa 0 (.t 3), [], none⟩,
      ⟨some 22, .ld 1 false (.t 21), [3], none⟩,
      ⟨some 23, .bin .lss (.t 20) (.t 22), [2, 4], none⟩,
      ⟨some 24, .mv (.t 23), [5], none⟩,
      ⟨some 25, .fa 1 (.t 1), [6], some (24, false)⟩,
      ⟨some 26, .ld 1 false (.t 25), [7, 6], some (24, false)⟩,
      ⟨some 27, .len (.t 26), [8, 6], some (24, false)⟩,
      ⟨some 28, .fa 1 (.t 3), [6], some (24, false)⟩,
      ⟨some 29, .ld 1 false (.t 28), [10, 6], some (24, false)⟩,
      ⟨some 30, .bin .gtr (.t 27) (.t 29), [9, 11, 6], some (24, false)⟩,
      ⟨some 31, .pick (.t 24) (.c (.val (.bool true))) (.t 30), [6, 12], none⟩,
      ⟨some 17, .mv (.t 31), [13, 6], none⟩])
    (.cond (.t 17)
      (.seq (.reg [
        ⟨some 2, .mv (.c (.val (.int .i64 15))), [], none⟩])
      .ret)
      (.seq (.reg [
        ⟨some 33, .fa 2 (.t 3), [], none⟩,
        ⟨some 34, .ld 1 false (.t 33), [0], none⟩,
        ⟨some 35, .fa 2 (.t 1), [], none⟩,
        ⟨some 36, .ld 1 false (.t 35), [2], none⟩,
        ⟨some 37, .call 52 [(.t 34), (.t 36), (.c (.val (.int .i64 15)))], [1, 3], none⟩,
        ⟨some 38, .un .not (.t 37), [4], none⟩,
        ⟨some 39, .mv (.t 38), [5, 4], none⟩,
        ⟨some 40, .fa 2 (.t 3), [6], some (39, false)⟩,
        ⟨some 41, .ld 1 false (.t 40), [7, 6], some (39, false)⟩,
        ⟨some 42, .fa 3 (.t 1), [6], some (39, false)⟩,
        ⟨some 43, .ld 1 false (.t 42), [9, 6], some (39, false)⟩,
        ⟨some 44, .call 52 [(.t 41), (.t 43), (.c (.val (.int .i64 15)))], [8, 10, 6, 6], some (39, false)⟩,
        ⟨some 45, .un .not (.t 44), [11, 6], some (39, false)⟩,
        ⟨some 46, .pick (.t 39) (.c (.val (.bool true))) (.t 45), [6, 12], none⟩,
        ⟨some 47, .mv (.t 46), [13, 11], none⟩,
        ⟨some 48, .fa 4 (.t 3), [14], some (47, false)⟩,
        ⟨some 49, .ld 1 false (.t 48), [15, 14], some (47, false)⟩,
        ⟨some 50, .fa 4 (.t 1), [14], some (47, false)⟩,
        ⟨some 51, .ld 1 false (.t 50), [17, 14], some (47, false)⟩,
        ⟨some 52, .call 52 [(.t 49), (.t 51), (.c (.val (.int .i64 63)))], [16, 18, 14, 14], some (47, false)⟩,
        ⟨some 53, .un .not (.t 52), [19, 14], some (47, false)⟩,
        ⟨some 54, .pick (.t 47) (.c (.val (.bool true))) (.t 53), [14, 20], none⟩,
        ⟨some 55, .mv (.t 54), [21, 19], none⟩,
        ⟨some 56, .fa 5 (.t 3), [22], some (55, false)⟩,
        ⟨some 57, .ld 1 false (.t 56), [23, 22], some (55, false)⟩,
        ⟨some 58, .fa 5 (.t 1), [22], some (55, false)⟩,
        ⟨some 59, .ld 1 false (.t 58), [25, 22], some (55, false)⟩,
        ⟨some 60, .call 52 [(.t 57), (.t 59), (.c (.val (.int .i64 1099511627776)))], [24, 26, 22, 22], some (55, false)⟩,
        ⟨some 61, .un .not (.t 60), [27, 22], some (55, false)⟩,
        ⟨some 62, .pick (.t 55) (.c (.val (.bool true))) (.t 61), [22, 28], none⟩,
        ⟨some 32, .mv (.t 62), [29, 27], none⟩])
      (.cond (.t 32)
        (.seq (.reg [
          ⟨some 2, .mv (.c (.val (.int .i64 2))), [], none⟩])
        .ret)
        .skip)))))
  (.seq (.seq (.reg [
    ⟨some 63, .fa 3 (.t 3), [], none⟩,
    ⟨some 64, .ld 1 false (.t 63), [0], none⟩])
  (.cond (.t 64)
    (.seq (.reg [
      ⟨some 65, .fa 6 (.t 1), [], none⟩,
      ⟨some 66, .ld 8 true (.t 65), [0], none⟩,
      ⟨some 67, .call 53 [(.t 66)], [1], none⟩,
      ⟨some 4, .mv (.t 67), [2, 2, 0, 1, 2], none⟩])
    (.seq (.reg [
      ⟨some 68, .mv (.t 4), [], none⟩,
      ⟨some 69, .bin .neq (.t 68) (.c (.val (.int .i64 0))), [0], none⟩])
    (.cond (.t 69)
      (.seq (.reg [
        ⟨some 70, .mv (.t 4), [], none⟩,
        ⟨some 2, .mv (.t 70), [0, 0], none⟩])
      .ret)
      .skip)))
    .skip))
  (.seq (.seq (.reg [
    ⟨some 71, .fa 3 (.t 3), [], none⟩,
    ⟨some 72, .ld 1 false (.t 71), [0], none⟩,
    ⟨some 73, .un .not (.t 72), [1], none⟩,
    ⟨some 74, .mv (.t 73), [2], none⟩,
    ⟨some 75, .fa 6 (.t 1), [3], some (74, true)⟩,
    ⟨some 76, .ld 8 true (.t 75), [4, 3], some (74, true)⟩,
    ⟨some 77, .build [(.val (.int .i64 0)), (.val (.slice none 0 0)), (.val (.int .i64 0)), (.val (.int .i64 0)), (.val (.int .i64 0)), (.val (.int .i64 0)), (.val (.int .i64 0)), (.val (.string ⟨#[]⟩))] [], [3], some (74, true)⟩,
    ⟨some 78, .call 34 [(.t 76), (.t 77)], [5, 6, 3, 3], some (74, true)⟩,
    ⟨some 79, .un .not (.t 78), [7, 3], some (74, true)⟩,
    ⟨some 80, .pick (.t 74) (.t 79) (.c (.val (.bool false))), [3, 8], none⟩,
    ⟨some 81, .mv (.t 80), [9, 7], none⟩,
    ⟨some 82, .fa 2 (.t 3), [10], some (81, false)⟩,
    ⟨some 83, .ld 1 false (.t 82), [11, 10], some (81, false)⟩,
    ⟨some 84, .fa 2 (.t 1), [10], some (81, false)⟩,
    ⟨some 85, .ld 1 false (.t 84), [13, 10], some (81, false)⟩,
    ⟨some 86, .call 54 [(.t 83), (.t 85)], [12, 14, 10, 10], some (81, false)⟩,
    ⟨some 87, .un .not (.t 86), [15, 10], some (81, false)⟩,
    ⟨some 88, .pick (.t 81) (.c (.val (.bool true))) (.t 87), [10, 16], none⟩,
    ⟨some 89, .mv (.t 88), [17, 15], none⟩,
    ⟨some 90, .fa 2 (.t 3), [18], some (89, false)⟩,
    ⟨some 91, .ld 1 false (.t 90), [19, 18], some (89, false)⟩,
    ⟨some 92, .fa 3 (.t 1), [18], some (89, false)⟩,
    ⟨some 93, .ld 1 false (.t 92), [21, 18], some (89, false)⟩,
    ⟨some 94, .call 54 [(.t 91), (.t 93)], [20, 22, 18, 18], some (89, false)⟩,
    ⟨some 95, .un .not (.t 94), [23, 18], some (89, false)⟩,
    ⟨some 96, .pick (.t 89) (.c (.val (.bool true))) (.t 95), [18, 24], none⟩,
    ⟨some 97, .mv (.t 96), [25, 23], none⟩,
    ⟨some 98, .fa 4 (.t 3), [26], some (97, false)⟩,
    ⟨some 99, .ld 1 false (.t 98), [27, 26], some (97, false)⟩,
    ⟨some 100, .fa 4 (.t 1), [26], some (97, false)⟩,
    ⟨some 101, .ld 1 false (.t 100), [29, 26], some (97, false)⟩,
    ⟨some 102, .call 54 [(.t 99), (.t 101)], [28, 30, 26, 26], some (97, false)⟩,
    ⟨some 103, .un .not (.t 102), [31, 26], some (97, false)⟩,
    ⟨some 104, .pick (.t 97) (.c (.val (.bool true))) (.t 103), [26, 32], none⟩,
    ⟨some 105, .mv (.t 104), [33, 31], none⟩,
    ⟨some 106, .fa 5 (.t 3), [34], some (105, false)⟩,
    ⟨some 107, .ld 1 false (.t 106), [35, 34], some (105, false)⟩,
    ⟨some 108, .fa 5 (.t 1), [34], some (105, false)⟩,
    ⟨some 109, .ld 1 false (.t 108), [37, 34], some (105, false)⟩,
    ⟨some 110, .call 54 [(.t 107), (.t 109)], [36, 38, 34, 34], some (105, false)⟩,
    ⟨some 111, .un .not (.t 110), [39, 34], some (105, false)⟩,
    ⟨some 112, .pick (.t 105) (.c (.val (.bool true))) (.t 111), [34, 40], none⟩])
  (.cond (.t 112)
    (.seq (.reg [
      ⟨some 2, .mv (.c (.val (.int .i64 3))), [], none⟩])
    .ret)
    .skip))
  (.seq (.reg [
    ⟨some 2, .mv (.c (.val (.int .i64 0))), [], none⟩])
  .ret)))))))
theorem Trydp36 : (Tryd.f36.body.map (prep Tryd.prog 113)) = some Trydc36 := by kernel_rfl
def Trydc37 : ACode :=
  (.seq (.reg [
    ⟨some 2, .box (.t 0), [], none⟩,
    ⟨some 3, .box (.t 1), [], none⟩,
    ⟨some 4, .box (.c (.agg [(.val (.int .i64 0)), (.val (.slice none 0 0)), (.val (.int .i64 0)), (.val (.int .i64 0)), (.val (.int .i64 0)), (.val (.int .i64 0)), (.val (.int .i64 0)), (.val (.string ⟨#[]⟩))])), [], none⟩,
    ⟨some 5, .mv (.c (.val (.int .i64 0))), [], none⟩])
  (.seq (.seq (.reg [
    ⟨some 8, .ld 8 true (.t 2), [], none⟩,
    ⟨some 9, .call 53 [(.t 8)], [0], none⟩,
    ⟨some 6, .mv (.t 9), [1, 1, 0, 1], none⟩])
  (.seq (.reg [
    ⟨some 10, .mv (.t 6), [], none⟩,
    ⟨some 11, .bin .neq (.t 10) (.c (.val (.int .i64 0))), [0], none⟩])
  (.cond (.t 11)
    (.seq (.reg [
      ⟨some 12, .build [(.val (.int .i64 0)), (.val (.slice none 0 0)), (.val (.int .i64 0)), (.val (.int .i64 0)), (.val (.int .i64 0)), (.val (.int .i64 0)), (.val (.int .i64 0)), (.val (.string ⟨#[]⟩))] [], [], none⟩,
      ⟨some 13, .mv (.t 6), [], none⟩,
      ⟨none, .st 8 (.t 4) (.t 12), [0, 0], none⟩,
      ⟨some 5, .mv (.t 13), [1, 2, 0, 1, 2], none⟩])
    .ret)
    .skip)))
  (.seq (.reg [
    ⟨some 14, .ld 8 true (.t 2), [], none⟩,
    ⟨some 15, .mkfn 56 [(.t 3)], [], none⟩,
    ⟨some 16, .call 55 [(.t 14), (.t 15)], [0, 1], none⟩,
    ⟨some 7, .mv (.t 16), [2, 2, 0, 1, 2], none⟩])
  (.seq (.seq (.reg [
    ⟨some 17, .mv (.t 7), [], none⟩,
    ⟨some 18, .bin .neq (.t 17) (.c (.val (.int .i64 0))), [0], none⟩])
  (.cond (.t 18)
    (.seq (.reg [
      ⟨some 19, .build [(.val (.int .i64 0)), (.val (.slice none 0 0)), (.val (.int .i64 0)), (.val (.int .i64 0)), (.val (.int .i64 0)), (.val (.int .i64 0)), (.val (.int .i64 0)), (.val (.string ⟨#[]⟩))] [], [], none⟩,
      ⟨some 20, .mv (.t 7), [], none⟩,
      ⟨none, .st 8 (.t 4) (.t 19), [0, 0], none⟩,
      ⟨some 5, .mv (.t 20), [1, 2, 0, 1, 2], none⟩])
    .ret)
    .skip))
  (.seq (.reg [
    ⟨some 21, .ld 8 true (.t 2), [], none⟩,
    ⟨some 22, .mkfn 59 [(.t 3)], [], none⟩,
    ⟨some 23, .call 58 [(.t 21), (.t 22)], [0, 1], none⟩,
    ⟨none, .st 8 (.t 4) (.t 23), [2, 2, 0, 1, 2], none⟩,
    ⟨some 5, .mv (.c (.val (.int .i64 0))), [3, 0, 1, 2, 3], none⟩])
  .ret)))))
theorem Trydp37 : (Tryd.f37.body.map (prep Tryd.prog 24)) = some Trydc37 := by kernel_rfl
def Trydc38 : ACode :=
  (.seq (.reg [
    ⟨some 2, .box (.t 0), [], none⟩,
    ⟨some 4, .box (.c (.agg [(.val (.int .i64 0)), (.val (.slice none 0 0)), (.val (.int .i64 0)), (.val (.int .i64 0)), (.val (.int .i64 0)), (.val (.int .i64 0)), (.val (.int .i64 0)), (.val (.slice none 0 0)), (.val (.int .i64 0)), (.val (.int .i64 0)), (.val (.int .i64 0)), (.val (.int .i64 0)), (.val (.int .i64 0)), (.val (.string ⟨#[]⟩))])), [], none⟩])
  (.seq (.reg [
    ⟨some 9, .fa 0 (.t 2), [], none⟩,
    ⟨some 10, .ld 1 false (.t 9), [0], none⟩,
    ⟨some 11, .iaA 6 11 (.g 0) (.t 10), [1], none⟩,
    ⟨some 12, .ld 6 true (.t 11), [2], none⟩,
    ⟨some 5, .box (.c (.agg [(.val (.int .i64 0)), (.val (.int .i64 0)), (.val (.bool false)), (.val (.bool false)), (.val (.bool false)), (.val (.bool false))])), [], none⟩,
    ⟨none, .st 6 (.t 5) (.t 12), [4, 3, 0, 1, 2, 3, 4], none⟩])
  (.seq (.seq (.reg [
    ⟨some 13, .fa 2 (.t 5), [], none⟩,
    ⟨some 14, .ld 1 false (.t 13), [0], none⟩])
  (.cond (.t 14)
    (.reg [
      ⟨some 15, .mv (.t 1), [], none⟩,
      ⟨some 16, .fa 3 (.t 2), [], none⟩,
      ⟨some 17, .ld 1 false (.t 16), [1], none⟩,
      ⟨some 18, .ia 1 (.t 15) (.t 17), [0, 2], none⟩,
      ⟨some 19, .ld 1 false (.t 18), [3], none⟩,
      ⟨some 20, .fa 3 (.t 2), [0, 1, 2, 3, 4], none⟩,
      ⟨none, .st 1 (.t 20) (.t 19), [5, 4, 0, 1, 2, 3, 4], none⟩])
    .skip))
  (.seq (.seq (.reg [
    ⟨some 21, .fa 3 (.t 5), [], none⟩,
    ⟨some 22, .ld 1 false (.t 21), [0], none⟩])
  (.cond (.t 22)
    (.reg [
      ⟨some 24, .fa 6 (.t 2), [], none⟩,
      ⟨some 25, .ld 8 true (.t 24), [0], none⟩,
      ⟨some 26, .mv (.t 1), [], none⟩,
      ⟨some 27, .call 37 [(.t 25), (.t 26)], [1, 2], none⟩,
      ⟨some 23, .mv (.t 27), [3], none⟩,
      ⟨some 28, .ext (.t 23) 0, [4], none⟩,
      ⟨some 29, .ext (.t 23) 1, [4], none⟩,
      ⟨some 30, .fa 6 (.t 2), [0, 1, 2, 3, 4, 5], none⟩,
      ⟨none, .st 8 (.t 30) (.t 28), [7, 5, 3, 0, 1, 2, 3, 4, 5], none⟩])
    .skip))
  (.seq (.reg [
    ⟨some 31, .fa 1 (.t 2), [], none⟩,
    ⟨some 32, .ld 1 false (.t 31), [0], none⟩,
    ⟨some 33, .len (.t 32), [1], none⟩,
    ⟨some 34, .mkslice 14 152 (.agg [(.val (.int .i64 0)), (.val (.slice none 0 0)), (.val (.int .i64 0)), (.val (.int .i64 0)), (.val (.int .i64 0)), (.val (.int .i64 0)), (.val (.int .i64 0)), (.val (.slice none 0 0)), (.val (.int .i64 0)), (.val (.int .i64 0)), (.val (.int .i64 0)), (.val (.int .i64 0)), (.val (.int .i64 0)), (.val (.string ⟨#[]⟩))]) (.t 33) (.t 33), [2, 2], none⟩,
    ⟨some 6, .mv (.t 34), [3, 0, 1, 2, 3], none⟩])
  (.seq (.seq (.reg [
    ⟨some 35, .fa 1 (.t 2), [], none⟩,
    ⟨some 36, .ld 1 false (.t 35), [0], none⟩,
    ⟨some 37, .len (.t 36), [1], none⟩,
    ⟨some 38, .mv (.c (.val (.int .i64 0))), [], none⟩])
  (.block 0
    (.loop
      (.seq (.reg [
        ⟨some 39, .bin .lss (.t 38) (.t 37), [], none⟩])
      (.seq (.cond (.t 39)
        .skip
        (.exit 0))
      (.seq (.block 1
        (.seq (.reg [
          ⟨some 40, .mv (.t 38), [], none⟩,
          ⟨some 41, .ia 14 (.t 36) (.t 38), [], none⟩,
          ⟨some 42, .ld 14 true (.t 41), [1], none⟩,
          ⟨some 8, .box (.c (.agg [(.val (.int .i64 0)), (.val (.slice none 0 0)), (.val (.int .i64 0)), (.val (.int .i64 0)), (.val (.int .i64 0)), (.val (.int .i64 0)), (.val (.int .i64 0)), (.val (.slice none 0 0)), (.val (.int .i64 0)), (.val (.int .i64 0)), (.val (.int .i64 0)), (.val (.int .i64 0)), (.val (.int .i64 0)), (.val (.string ⟨#[]⟩))])), [], none⟩,
          ⟨some 7, .mv (.t 40), [0, 0, 1, 2, 3], none⟩,
          ⟨none, .st 14 (.t 8) (.t 42), [3, 2, 4, 0, 1, 2, 3, 4], none⟩])
        (.reg [
          ⟨some 43, .mv (.t 6), [], none⟩,
          ⟨some 44, .mv (.t 7), [], none⟩,
          ⟨some 45, .ld 14 true (.t 8), [], none⟩,
          ⟨some 46, .mv (.t 1), [], none⟩,
          ⟨some 47, .call 38 [(.t 45), (.t 46)], [2, 3], none⟩,
          ⟨some 48, .ia 14 (.t 43) (.t 44), [0, 1, 0, 1, 2, 3, 4], none⟩,
          ⟨none, .st 14 (.t 48) (.t 47), [5, 4, 4, 0, 1, 2, 3, 4], none⟩])))
      (.reg [
        ⟨some 49, .bin .add (.t 38) (.c (.val (.int .i64 1))), [], none⟩,
        ⟨some 38, .mv (.t 49), [0], none⟩])))))))
  (.seq (.reg [
    ⟨some 50, .mv (.t 6), [], none⟩,
    ⟨some 51, .fa 1 (.t 2), [0], none⟩,
    ⟨none, .st 1 (.t 51) (.t 50), [1, 0, 0], none⟩])
  (.seq (.reg [
    ⟨some 52, .ld 14 true (.t 2), [], none⟩,
    ⟨none, .st 14 (.t 4) (.t 52), [0, 0], none⟩])
  .ret))))))))
theorem Trydp38 : (Tryd.f38.body.map (prep Tryd.prog 53)) = some Trydc38 := by kernel_rfl
def Trydc39 : ACode :=
  (.seq (.reg [
    ⟨some 3, .mv (.t 0), [], none⟩,
    ⟨some 4, .len (.t 3), [0], none⟩,
    ⟨some 2, .mv (.t 4), [1, 0, 1], none⟩])
  (.reg [
    ⟨some 5, .mv (.t 0), [], none⟩,
    ⟨some 6, .mv (.t 2), [], none⟩,
    ⟨some 7, .mv (.t 2), [], none⟩,
    ⟨some 8, .cvi .u64 (.t 7), [2], none⟩,
    ⟨some 9, .call 61 [(.t 8)], [3], none⟩,
    ⟨some 10, .call 60 [(.t 5), (.c (.val (.int .i64 0))), (.t 6), (.t 9)], [0, 1, 4, 4], none⟩]))
theorem Trydp39 : (Tryd.f39.body.map (prep Tryd.prog 11)) = some Trydc39 := by kernel_rfl
def Trydc40 : ACode :=
  (.seq (.reg [
    ⟨some 2, .mv (.c (.val (.slice none 0 0))), [], none⟩])
  (.seq (.seq (.reg [
    ⟨some 6, .mv (.t 0), [], none⟩,
    ⟨some 7, .len (.t 6), [0], none⟩,
    ⟨some 8, .bin .lss (.t 7) (.c (.val (.int .i64 2))), [1], none⟩])
  (.cond (.t 8)
    (.seq (.reg [
      ⟨some 9, .mv (.t 0), [], none⟩,
      ⟨some 2, .mv (.t 9), [0, 0], none⟩])
    .ret)
    .skip))
  (.seq (.seq (.reg [
    ⟨some 3, .mv (.c (.val (.int .i64 1))), [], none⟩])
  (.block 0
    (.loop
      (.seq (.seq (.reg [
        ⟨some 10, .mv (.t 3), [], none⟩,
        ⟨some 11, .mv (.t 0), [], none⟩,
        ⟨some 12, .len (.t 11), [1], none⟩,
        ⟨some 13, .bin .lss (.t 10) (.t 12), [0, 2], none⟩])
      (.cond (.t 13)
        .skip
        (.exit 0)))
      (.seq (.block 1
        (.seq (.draw [
          ⟨some 16, .mv (.t 0), [], none⟩,
          ⟨some 17, .mv (.t 3), [], none⟩,
          ⟨some 18, .ia 1 (.t 16) (.t 17), [0, 1], none⟩,
          ⟨some 19, .ld 1 false (.t 18), [2], none⟩,
          ⟨some 20, .mv (.t 0), [], none⟩,
          ⟨some 21, .mv (.t 3), [], none⟩,
          ⟨some 22, .bin .sub (.t 21) (.c (.val (.int .i64 1))), [5], none⟩,
          ⟨some 23, .ia 1 (.t 20) (.t 22), [4, 6], none⟩,
          ⟨some 24, .ld 1 false (.t 23), [7], none⟩,
          ⟨some 25, .bin .eql (.t 19) (.t 24), [3, 8], none⟩])
        (.cond (.t 25)
          (.seq (.reg [
            ⟨some 26, .mv (.t 0), [], none⟩,
            ⟨some 27, .mv (.t 3), [], none⟩,
            ⟨some 28, .slc 1 (.t 26) (some (.t 27)) none, [0, 1], none⟩,
            ⟨some 4, .mv (.t 28), [2, 0, 1, 2], none⟩])
          (.seq (.seq (.reg [
            ⟨some 5, .mv (.c (.val (.int .i64 1))), [], none⟩])
          (.block 2
            (.loop
              (.seq (.seq (.reg [
                ⟨some 29, .mv (.t 5), [], none⟩,
                ⟨some 30, .mv (.t 4), [], none⟩,
                ⟨some 31, .len (.t 30), [1], none⟩,
                ⟨some 32, .bin .lss (.t 29) (.t 31), [0, 2], none⟩])
              (.cond (.t 32)
                .skip
                (.exit 2)))
              (.seq (.block 3
                (.seq (.draw [
                  ⟨some 35, .mv (.t 4), [], none⟩,
                  ⟨some 36, .mv (.t 5), [], none⟩,
                  ⟨some 37, .ia 1 (.t 35) (.t 36), [0, 1], none⟩,
                  ⟨some 38, .ld 1 false (.t 37), [2], none⟩,
                  ⟨some 39, .mv (.t 4), [], none⟩,
                  ⟨some 40, .mv (.t 5), [], none⟩,
                  ⟨some 41, .bin .sub (.t 40) (.c (.val (.int .i64 1))), [5], none⟩,
                  ⟨some 42, .ia 1 (.t 39) (.t 41), [4, 6], none⟩,
                  ⟨some 43, .ld 1 false (.t 42), [7], none⟩,
                  ⟨some 44, .bin .neq (.t 38) (.t 43), [3, 8], none⟩])
                (.cond (.t 44)
                  (.seq (.reg [
                    ⟨some 45, .mv (.t 0), [], none⟩,
                    ⟨some 46, .mv (.t 3), [], none⟩,
                    ⟨some 47, .mv (.t 4), [], none⟩,
                    ⟨some 48, .mv (.t 5), [], none⟩,
                    ⟨some 49, .ia 1 (.t 47) (.t 48), [2, 3], none⟩,
                    ⟨some 50, .ld 1 false (.t 49), [4], none⟩,
                    ⟨some 51, .ia 1 (.t 45) (.t 46), [0, 1, 0, 1, 2, 3, 4, 5], none⟩,
                    ⟨none, .st 1 (.t 51) (.t 50), [6, 5, 0, 1, 2, 3, 4, 5], none⟩])
                  (.reg [
                    ⟨some 52, .mv (.t 3), [], none⟩,
                    ⟨some 53, .bin .add (.t 52) (.c (.val (.int .i64 1))), [0], none⟩,
                    ⟨some 3, .mv (.t 53), [1, 0, 1], none⟩]))
                  .skip)))
              (.reg [
                ⟨some 33, .mv (.t 5), [], none⟩,
                ⟨some 34, .bin .add (.t 33) (.c (.val (.int .i64 1))), [0], none⟩,
                ⟨some 5, .mv (.t 34), [1, 0, 1], none⟩]))))))
          (.seq (.reg [
            ⟨some 54, .mv (.t 0), [], none⟩,
            ⟨some 55, .mv (.t 3), [], none⟩,
            ⟨some 56, .slc 1 (.t 54) (some (.t 55)) none, [0, 1], none⟩,
            ⟨none, .bad, [2], none⟩])
          (.seq (.reg [
            ⟨some 57, .mv (.t 0), [], none⟩,
            ⟨some 58, .mv (.t 3), [], none⟩,
            ⟨some 59, .slc 1 (.t 57) none (some (.t 58)), [0, 1], none⟩,
            ⟨some 2, .mv (.t 59), [2, 0, 1, 2], none⟩])
          .ret))))
          .skip)))
      (.reg [
        ⟨some 14, .mv (.t 3), [], none⟩,
        ⟨some 15, .bin .add (.t 14) (.c (.val (.int .i64 1))), [0], none⟩,
        ⟨some 3, .mv (.t 15), [1, 0, 1], none⟩]))))))
  (.seq (.reg [
    ⟨some 60, .mv (.t 0), [], none⟩,
    ⟨some 2, .mv (.t 60), [0, 0], none⟩])
  .ret))))
theorem Trydp40 : (Tryd.f40.body.map (prep Tryd.prog 61)) = some Trydc40 := by kernel_rfl
def Trydc41 : ACode :=
  (.seq (.reg [
    ⟨some 2, .box (.t 0), [], none⟩,
    ⟨some 4, .mv (.c (.val (.int .i64 0))), [], none⟩])
  (.seq (.reg [
    ⟨some 5, .mv (.c (.val (.int .i64 1))), [], none⟩])
  (.seq (.seq (.reg [
    ⟨some 6, .mv (.c (.val (.int .i64 0))), [], none⟩])
  (.block 0
    (.loop
      (.seq (.seq (.reg [
        ⟨some 7, .mv (.t 6), [], none⟩,
        ⟨some 8, .fa 1 (.t 2), [], none⟩,
        ⟨some 9, .ld 1 false (.t 8), [1], none⟩,
        ⟨some 10, .len (.t 9), [2], none⟩,
        ⟨some 11, .bin .lss (.t 7) (.t 10), [0, 3], none⟩,
        ⟨some 12, .mv (.t 11), [4], none⟩,
        ⟨some 13, .mv (.t 5), [5], some (12, true)⟩,
        ⟨some 14, .mv (.t 1), [5], some (12, true)⟩,
        ⟨some 15, .bin .leq (.t 13) (.t 14), [6, 7, 5], some (12, true)⟩,
        ⟨some 16, .pick (.t 12) (.t 15) (.c (.val (.bool false))), [5, 8], none⟩])
      (.cond (.t 16)
        .skip
        (.exit 0)))
      (.seq (.block 1
        (.reg [
          ⟨some 19, .mv (.t 5), [], none⟩,
          ⟨some 20, .fa 1 (.t 2), [], none⟩,
          ⟨some 21, .ld 1 false (.t 20), [1], none⟩,
          ⟨some 22, .mv (.t 6), [], none⟩,
          ⟨some 23, .ia 8 (.t 21) (.t 22), [2, 3], none⟩,
          ⟨some 24, .ld 8 true (.t 23), [4], none⟩,
          ⟨some 25, .mv (.t 1), [], none⟩,
          ⟨some 26, .call 41 [(.t 24), (.t 25)], [5, 6], none⟩,
          ⟨some 27, .bin .add (.t 19) (.t 26), [0, 7], none⟩,
          ⟨some 5, .mv (.t 27), [8, 7, 0, 1, 2, 3, 4, 5, 6, 7, 8], none⟩]))
      (.reg [
        ⟨some 17, .mv (.t 6), [], none⟩,
        ⟨some 18, .bin .add (.t 17) (.c (.val (.int .i64 1))), [0], none⟩,
        ⟨some 6, .mv (.t 18), [1, 0, 1], none⟩]))))))
  (.seq (.reg [
    ⟨some 28, .mv (.t 5), [], none⟩,
    ⟨some 4, .mv (.t 28), [0, 0], none⟩])
  .ret))))
theorem Trydp41 : (Tryd.f41.body.map (prep Tryd.prog 29)) = some Trydc41 := by kernel_rfl
def Trydc42 : ACode :=
  (.seq (.reg [
    ⟨some 1, .box (.t 0), [], none⟩,
    ⟨some 2, .mv (.c (.val (.int .i64 0))), [], none⟩])
  (.seq (.reg [
    ⟨some 3, .mv (.c (.val (.int .i64 0))), [], none⟩])
  (.seq (.seq (.reg [
    ⟨some 4, .mv (.c (.val (.int .i64 0))), [], none⟩])
  (.block 0
    (.loop
      (.seq (.seq (.reg [
        ⟨some 5, .mv (.t 4), [], none⟩,
        ⟨some 6, .fa 1 (.t 1), [], none⟩,
        ⟨some 7, .ld 1 false (.t 6), [1], none⟩,
        ⟨some 8, .len (.t 7), [2], none⟩,
        ⟨some 9, .bin .lss (.t 5) (.t 8), [0, 3], none⟩])
      (.cond (.t 9)
        .skip
        (.exit 0)))
      (.seq (.block 1
        (.reg [
          ⟨some 12, .mv (.t 3), [], none⟩,
          ⟨some 13, .fa 1 (.t 1), [], none⟩,
          ⟨some 14, .ld 1 false (.t 13), [1], none⟩,
          ⟨some 15, .mv (.t 4), [], none⟩,
          ⟨some 16, .ia 8 (.t 14) (.t 15), [2, 3], none⟩,
          ⟨some 17, .ld 8 true (.t 16), [4], none⟩,
          ⟨some 18, .call 42 [(.t 17)], [5], none⟩,
          ⟨some 19, .mx [(.t 12), (.t 18)], [0, 6], none⟩,
          ⟨some 3, .mv (.t 19), [7, 6, 0, 1, 2, 3, 4, 5, 6, 7], none⟩]))
      (.reg [
        ⟨some 10, .mv (.t 4), [], none⟩,
        ⟨some 11, .bin .add (.t 10) (.c (.val (.int .i64 1))), [0], none⟩,
        ⟨some 4, .mv (.t 11), [1, 0, 1], none⟩]))))))
  (.seq (.reg [
    ⟨some 20, .mv (.t 3), [], none⟩,
    ⟨some 21, .bin .add (.t 20) (.c (.val (.int .i64 1))), [0], none⟩,
    ⟨some 2, .mv (.t 21), [1, 0, 1], none⟩])
  .ret))))
theorem Trydp42 : (Tryd.f42.body.map (prep Tryd.prog 22)) = some Trydc42 := by kernel_rfl
def Trydc43 : ACode :=
  (.seq (.reg [
    ⟨some 4, .mv (.c (.val (.slice none 0 0))), [], none⟩])
  (.seq (.seq (.reg [
    ⟨some 9, .mv (.t 1), [], none⟩,
    ⟨some 10, .bin .lss (.t 9) (.c (.val (.int .i64 0))), [0], none⟩])
  (.cond (.t 10)
    (.reg [
      ⟨some 11, .mkif 9 (.c (.val (.string ⟨#[99, 97, 110, 110, 111, 116, 32, 98, 101, 32, 110, 101, 103, 97, 116, 105, 118, 101]⟩))), [], none⟩,
      ⟨none, .bad, [0], none⟩])
    .skip))
  (.seq (.reg [
    ⟨some 13, .mv (.t 0), [], none⟩,
    ⟨some 14, .len (.t 13), [0], none⟩,
    ⟨some 15, .cvi .u64 (.t 14), [1], none⟩,
    ⟨some 16, .mv (.t 1), [], none⟩,
    ⟨some 17, .cvi .u64 (.t 16), [3], none⟩,
    ⟨some 18, .call 62 [(.t 15), (.t 17)], [2, 4], none⟩,
    ⟨some 12, .mv (.t 18), [5], none⟩,
    ⟨some 19, .ext (.t 12) 0, [6], none⟩,
    ⟨some 20, .ext (.t 12) 1, [6], none⟩,
    ⟨some 5, .mv (.t 19), [7, 5, 0, 1, 2, 3, 4, 5, 6, 7], none⟩,
    ⟨some 6, .mv (.t 20), [8, 9, 0, 1, 2, 3, 4, 5, 6, 7, 8, 9], none⟩])
  (.seq (.seq (.reg [
    ⟨some 21, .mv (.t 5), [], none⟩,
    ⟨some 22, .bin .gtr (.t 21) (.c (.val (.int .u64 0))), [0], none⟩,
    ⟨some 23, .mv (.t 22), [1], none⟩,
    ⟨some 24, .mv (.t 6), [2], some (23, false)⟩,
    ⟨some 25, .bin .gtr (.t 24) (.c (.val (.int .u64 9223372036854775807))), [3, 2], some (23, false)⟩,
    ⟨some 26, .pick (.t 23) (.c (.val (.bool true))) (.t 25), [2, 4], none⟩])
  (.cond (.t 26)
    (.reg [
      ⟨some 27, .mkif 9 (.c (.val (.string ⟨#[116, 104, 101, 32, 114, 101, 115, 117, 108, 116, 32, 111, 102, 32, 40, 108, 101, 110, 40, 120, 41, 32, 42, 32, 99, 111, 117, 110, 116, 41, 32, 111, 118, 101, 114, 102, 108, 111, 119, 115]⟩))), [], none⟩,
      ⟨none, .bad, [0], none⟩])
    .skip))
  (.seq (.reg [
    ⟨some 28, .mv (.t 6), [], none⟩,
    ⟨some 29, .cvi .i64 (.t 28), [0], none⟩,
    ⟨some 30, .mkslice 1 8 (.val (.int .i64 0)) (.t 29) (.t 29), [1, 1], none⟩,
    ⟨some 7, .mv (.t 30), [2, 0, 1, 2], none⟩])
  (.seq (.reg [
    ⟨some 31, .mv (.t 7), [], none⟩,
    ⟨some 32, .mv (.t 0), [], none⟩,
    ⟨some 33, .copy 1 (.t 31) (.t 32), [0, 1], none⟩,
    ⟨some 8, .mv (.t 33), [2, 2, 0, 1, 2], none⟩])
  (.seq (.block 0
    (.loop
      (.seq (.seq (.reg [
        ⟨some 34, .mv (.t 8), [], none⟩,
        ⟨some 35, .mv (.t 7), [], none⟩,
        ⟨some 36, .len (.t 35), [1], none⟩,
        ⟨some 37, .bin .lss (.t 34) (.t 36), [0, 2], none⟩])
      (.cond (.t 37)
        .skip
        (.exit 0)))
      (.block 1
        (.draw [
          ⟨some 38, .mv (.t 8), [], none⟩,
          ⟨some 39, .mv (.t 7), [], none⟩,
          ⟨some 40, .mv (.t 8), [], none⟩,
          ⟨some 41, .slc 1 (.t 39) (some (.t 40)) none, [1, 2], none⟩,
          ⟨some 42, .mv (.t 7), [], none⟩,
          ⟨some 43, .mv (.t 8), [], none⟩,
          ⟨some 44, .slc 1 (.t 42) none (some (.t 43)), [4, 5], none⟩,
          ⟨some 45, .copy 1 (.t 41) (.t 44), [3, 6], none⟩,
          ⟨some 46, .bin .add (.t 38) (.t 45), [0, 7], none⟩,
          ⟨some 8, .mv (.t 46), [8, 7, 0, 1, 2, 3, 4, 5, 6, 7, 8], none⟩])))))
  (.seq (.reg [
    ⟨some 47, .mv (.t 7), [], none⟩,
    ⟨some 4, .mv (.t 47), [0, 0], none⟩])
  .ret))))))))
theorem Trydp43 : (Tryd.f43.body.map (prep Tryd.prog 48)) = some Trydc43 := by kernel_rfl
def Trydc44 : ACode :=
  (.seq (.reg [
    ⟨some 4, .mv (.c (.val (.bool false))), [], none⟩])
  (.seq (.reg [
    ⟨some 5, .mv (.t 0), [], none⟩,
    ⟨some 6, .mv (.t 1), [], none⟩,
    ⟨some 7, .call 63 [(.t 5), (.t 6)], [0, 1], none⟩,
    ⟨some 8, .bin .geq (.t 7) (.c (.val (.int .i64 0))), [2], none⟩,
    ⟨some 4, .mv (.t 8), [3, 2, 0, 1, 2, 3], none⟩])
  .ret))
theorem Trydp44 : (Tryd.f44.body.map (prep Tryd.prog 9)) = some Trydc44 := by kernel_rfl
def Trydc45 : ACode :=
  (.seq (.reg [
    ⟨some 4, .mv (.c (.val (.bool false))), [], none⟩])
  (.seq (.reg [
    ⟨some 5, .mv (.t 0), [], none⟩,
    ⟨some 6, .mv (.t 1), [], none⟩,
    ⟨some 7, .call 64 [(.t 5), (.t 6)], [0, 1], none⟩,
    ⟨some 8, .bin .geq (.t 7) (.c (.val (.int .i64 0))), [2], none⟩,
    ⟨some 4, .mv (.t 8), [3, 2, 0, 1, 2, 3], none⟩])
  .ret))
theorem Trydp45 : (Tryd.f45.body.map (prep Tryd.prog 9)) = some Trydc45 := by kernel_rfl
def Trydc46 : ACode :=
  (.seq (.reg [
    ⟨some 1, .box (.t 0), [], none⟩,
    ⟨some 2, .mv (.c (.val (.slice none 0 0))), [], none⟩])
  (.seq (.reg [
    ⟨some 3, .box (.c (.agg [(.val (.bool false)), (.val (.bool false)), (.val (.bool false)), (.val (.bool false)), (.val (.bool false)), (.val (.bool false)), (.val (.bool false)), (.val (.bool false)), (.val (.bool false)), (.val (.bool false)), (.val (.bool false)), (.val (.bool false)), (.val (.bool false)), (.val (.bool false)), (.val (.bool false)), (.val (.bool false))])), [], none⟩])
  (.seq (.reg [
    ⟨some 7, .ld 8 true (.t 1), [], none⟩,
    ⟨some 8, .mkfn 65 [(.t 3)], [], none⟩,
    ⟨some 9, .call 55 [(.t 7), (.t 8)], [0, 1], none⟩])
  (.seq (.reg [
    ⟨some 4, .mv (.c (.val (.slice none 0 0))), [], none⟩])
  (.seq (.seq (.reg [
    ⟨some 10, .ld 16 true (.t 3), [], none⟩,
    ⟨some 11, .mv (.c (.val (.int .i64 0))), [], none⟩])
  (.block 0
    (.loop
      (.seq (.reg [
        ⟨some 12, .bin .lss (.t 11) (.c (.val (.int .i64 16))), [], none⟩])
      (.seq (.cond (.t 12)
        .skip
        (.exit 0))
      (.seq (.block 1
        (.seq (.reg [
          ⟨some 13, .mv (.t 11), [], none⟩,
          ⟨some 14, .ixA 1 16 false (.t 10) (.t 11), [], none⟩,
          ⟨some 5, .mv (.t 13), [0, 0, 1], none⟩,
          ⟨some 6, .mv (.t 14), [1, 2, 0, 1, 2], none⟩])
        (.seq (.reg [
          ⟨some 15, .mv (.t 6), [], none⟩])
        (.cond (.t 15)
          (.reg [
            ⟨some 16, .mv (.t 4), [], none⟩,
            ⟨some 17, .mv (.t 5), [], none⟩,
            ⟨some 18, .bslice 1 [(.t 17)], [1], none⟩,
            ⟨some 19, .app 1 8 (.t 16) (.t 18), [0, 2], none⟩,
            ⟨some 4, .mv (.t 19), [3, 3, 0, 1, 2, 3], none⟩])
          .skip))))
      (.reg [
        ⟨some 20, .bin .add (.t 11) (.c (.val (.int .i64 1))), [], none⟩,
        ⟨some 11, .mv (.t 20), [0], none⟩])))))))
  (.seq (.reg [
    ⟨some 21, .mv (.t 4), [], none⟩,
    ⟨some 2, .mv (.t 21), [0, 0], none⟩])
  .ret))))))
theorem Trydp46 : (Tryd.f46.body.map (prep Tryd.prog 22)) = some Trydc46 := by kernel_rfl
def Trydc47 : ACode :=
  (.seq (.reg [
    ⟨some 3, .mv (.c (.val (.bool false))), [], none⟩])
  (.seq (.reg [
    ⟨some 4, .ld 1 false (.t 1), [], none⟩,
    ⟨some 5, .mv (.t 0), [], none⟩,
    ⟨some 6, .ia 1 (.t 4) (.t 5), [0, 1], none⟩,
    ⟨some 7, .ld 1 false (.t 6), [2], none⟩,
    ⟨some 8, .bin .lss (.t 7) (.c (.val (.int .i64 0))), [3], none⟩,
    ⟨some 3, .mv (.t 8), [4, 0, 1, 2, 3, 4], none⟩])
  .ret))
theorem Trydp47 : (Tryd.f47.body.map (prep Tryd.prog 9)) = some Trydc47 := by kernel_rfl
def Trydc48 : ACode :=
  (.seq (.reg [
    ⟨some 2, .box (.t 0), [], none⟩,
    ⟨some 4, .box (.c (.agg [(.val (.int .i64 0)), (.val (.slice none 0 0)), (.val (.int .i64 0)), (.val (.int .i64 0)), (.val (.int .i64 0)), (.val (.int .i64 0)), (.val (.int .i64 0)), (.val (.slice none 0 0)), (.val (.int .i64 0)), (.val (.int .i64 0)), (.val (.int .i64 0)), (.val (.int .i64 0)), (.val (.int .i64 0)), (.val (.string ⟨#[]⟩))])), [], none⟩,
    ⟨some 5, .mv (.c (.val (.int .i64 0))), [], none⟩])
  (.seq (.seq (.reg [
    ⟨some 9, .fa 0 (.t 2), [], none⟩,
    ⟨some 10, .ld 1 false (.t 9), [0], none⟩,
    ⟨some 11, .iaA 6 11 (.g 0) (.t 10), [1], none⟩,
    ⟨some 12, .fa 4 (.t 11), [2], none⟩,
    ⟨some 13, .ld 1 false (.t 12), [3], none⟩])
  (.cond (.t 13)
    (.seq (.reg [
      ⟨some 14, .mv (.t 1), [], none⟩,
      ⟨some 15, .fa 4 (.t 2), [0], none⟩,
      ⟨none, .st 1 (.t 15) (.t 14), [1, 0, 0], none⟩])
    (.reg [
      ⟨some 16, .mv (.t 1), [], none⟩,
      ⟨some 17, .bin .add (.t 16) (.c (.val (.int .i64 1))), [0], none⟩,
      ⟨some 1, .mv (.t 17), [1, 0, 1], none⟩]))
    .skip))
  (.seq (.reg [
    ⟨some 18, .fa 1 (.t 2), [], none⟩,
    ⟨some 19, .ld 1 false (.t 18), [0], none⟩,
    ⟨some 20, .len (.t 19), [1], none⟩,
    ⟨some 21, .mkslice 14 152 (.agg [(.val (.int .i64 0)), (.val (.slice none 0 0)), (.val (.int .i64 0)), (.val (.int .i64 0)), (.val (.int .i64 0)), (.val (.int .i64 0)), (.val (.int .i64 0)), (.val (.slice none 0 0)), (.val (.int .i64 0)), (.val (.int .i64 0)), (.val (.int .i64 0)), (.val (.int .i64 0)), (.val (.int .i64 0)), (.val (.string ⟨#[]⟩))]) (.t 20) (.t 20), [2, 2], none⟩,
    ⟨some 6, .mv (.t 21), [3, 0, 1, 2, 3], none⟩])
  (.seq (.seq (.reg [
    ⟨some 22, .fa 1 (.t 2), [], none⟩,
    ⟨some 23, .ld 1 false (.t 22), [0], none⟩,
    ⟨some 24, .len (.t 23), [1], none⟩,
    ⟨some 25, .mv (.c (.val (.int .i64 0))), [], none⟩])
  (.block 0
    (.loop
      (.seq (.reg [
        ⟨some 26, .bin .lss (.t 25) (.t 24), [], none⟩])
      (.seq (.cond (.t 26)
        .skip
        (.exit 0))
      (.seq (.block 1
        (.seq (.reg [
          ⟨some 27, .mv (.t 25), [], none⟩,
          ⟨some 28, .ia 14 (.t 23) (.t 25), [], none⟩,
          ⟨some 29, .ld 14 true (.t 28), [1], none⟩,
          ⟨some 8, .box (.c (.agg [(.val (.int .i64 0)), (.val (.slice none 0 0)), (.val (.int .i64 0)), (.val (.int .i64 0)), (.val (.int .i64 0)), (.val (.int .i64 0)), (.val (.int .i64 0)), (.val (.slice none 0 0)), (.val (.int .i64 0)), (.val (.int .i64 0)), (.val (.int .i64 0)), (.val (.int .i64 0)), (.val (.int .i64 0)), (.val (.string ⟨#[]⟩))])), [], none⟩,
          ⟨some 7, .mv (.t 27), [0, 0, 1, 2, 3], none⟩,
          ⟨none, .st 14 (.t 8) (.t 29), [3, 2, 4, 0, 1, 2, 3, 4], none⟩])
        (.reg [
          ⟨some 31, .mv (.t 6), [], none⟩,
          ⟨some 32, .mv (.t 7), [], none⟩,
          ⟨some 33, .ld 14 true (.t 8), [], none⟩,
          ⟨some 34, .mv (.t 1), [], none⟩,
          ⟨some 35, .call 48 [(.t 33), (.t 34)], [2, 3], none⟩,
          ⟨some 30, .mv (.t 35), [4], none⟩,
          ⟨some 36, .ext (.t 30) 0, [5], none⟩,
          ⟨some 37, .ext (.t 30) 1, [5], none⟩,
          ⟨some 38, .ia 14 (.t 31) (.t 32), [0, 1, 0, 1, 2, 3, 4, 5, 6], none⟩,
          ⟨none, .st 14 (.t 38) (.t 36), [8, 6, 4, 0, 1, 2, 3, 4, 5, 6], none⟩,
          ⟨some 1, .mv (.t 37), [7, 9, 0, 1, 2, 3, 4, 5, 6, 7, 8, 9], none⟩])))
      (.reg [
        ⟨some 39, .bin .add (.t 25) (.c (.val (.int .i64 1))), [], none⟩,
        ⟨some 25, .mv (.t 39), [0], none⟩])))))))
  (.seq (.reg [
    ⟨some 40, .mv (.t 6), [], none⟩,
    ⟨some 41, .fa 1 (.t 2), [0], none⟩,
    ⟨none, .st 1 (.t 41) (.t 40), [1, 0, 0], none⟩])
  (.seq (.reg [
    ⟨some 42, .ld 14 true (.t 2), [], none⟩,
    ⟨some 43, .mv (.t 1), [], none⟩,
    ⟨none, .st 14 (.t 4) (.t 42), [0, 0], none⟩,
    ⟨some 5, .mv (.t 43), [1, 2, 0, 1, 2], none⟩])
  .ret))))))
theorem Trydp48 : (Tryd.f48.body.map (prep Tryd.prog 44)) = some Trydc48 := by kernel_rfl
def Trydc49 : ACode :=
  (.seq (.reg [
    ⟨some 2, .box (.c (.agg [(.val (.int .i64 0)), (.val (.int .i64 0)), (.val (.string ⟨#[]⟩))])), [], none⟩])
  (.seq (.seq (.reg [
    ⟨some 3, .mv (.t 0), [], none⟩])
  (.cond (.t 3)
    (.seq (.reg [
      ⟨some 4, .build [(.val (.int .i64 0)), (.val (.int .i64 0)), (.val (.string ⟨#[]⟩))] [(0, 1, (.c (.val (.int .i64 1)))), (1, 1, (.c (.val (.int .i64 1))))], [], none⟩,
      ⟨none, .st 3 (.t 2) (.t 4), [0, 0], none⟩])
    .ret)
    .skip))
  (.seq (.reg [
    ⟨some 5, .build [(.val (.int .i64 0)), (.val (.int .i64 0)), (.val (.string ⟨#[]⟩))] [(0, 1, (.c (.val (.int .i64 1))))], [], none⟩,
    ⟨none, .st 3 (.t 2) (.t 5), [0, 0], none⟩])
  .ret)))
theorem Trydp49 : (Tryd.f49.body.map (prep Tryd.prog 6)) = some Trydc49 := by kernel_rfl
def Trydc50 : ACode :=
  (.reg [
    ⟨some 3, .ld 14 true (.t 1), [], none⟩,
    ⟨some 4, .mv (.t 0), [], none⟩,
    ⟨some 5, .call 51 [(.t 3), (.t 4)], [0, 1], none⟩])
theorem Trydp50 : (Tryd.f50.body.map (prep Tryd.prog 6)) = some Trydc50 := by kernel_rfl
def Trydc51 : ACode :=
  (.seq (.reg [
    ⟨some 2, .box (.t 0), [], none⟩,
    ⟨some 4, .mv (.c (.val (.bool false))), [], none⟩])
  (.seq (.seq (.reg [
    ⟨some 7, .mv (.t 1), [], none⟩,
    ⟨some 8, .ld 14 true (.t 2), [], none⟩,
    ⟨some 9, .callv (.t 7) [(.t 8)], [0, 1], none⟩,
    ⟨some 10, .un .not (.t 9), [2], none⟩])
  (.cond (.t 10)
    (.seq (.reg [
      ⟨some 4, .mv (.c (.val (.bool false))), [], none⟩])
    .ret)
    .skip))
  (.seq (.seq (.reg [
    ⟨some 11, .fa 1 (.t 2), [], none⟩,
    ⟨some 12, .ld 1 false (.t 11), [0], none⟩,
    ⟨some 13, .len (.t 12), [1], none⟩,
    ⟨some 14, .mv (.c (.val (.int .i64 0))), [], none⟩])
  (.block 0
    (.loop
      (.seq (.reg [
        ⟨some 15, .bin .lss (.t 14) (.t 13), [], none⟩])
      (.seq (.cond (.t 15)
        .skip
        (.exit 0))
      (.seq (.block 1
        (.seq (.reg [
          ⟨some 16, .ia 14 (.t 12) (.t 14), [], none⟩,
          ⟨some 17, .ld 14 true (.t 16), [0], none⟩,
          ⟨some 6, .box (.c (.agg [(.val (.int .i64 0)), (.val (.slice none 0 0)), (.val (.int .i64 0)), (.val (.int .i64 0)), (.val (.int .i64 0)), (.val (.int .i64 0)), (.val (.int .i64 0)), (.val (.slice none 0 0)), (.val (.int .i64 0)), (.val (.int .i64 0)), (.val (.int .i64 0)), (.val (.int .i64 0)), (.val (.int .i64 0)), (.val (.string ⟨#[]⟩))])), [], none⟩,
          ⟨none, .st 14 (.t 6) (.t 17), [2, 1, 0, 1, 2], none⟩])
        (.seq (.reg [
          ⟨some 18, .ld 14 true (.t 6), [], none⟩,
          ⟨some 19, .mv (.t 1), [], none⟩,
          ⟨some 20, .call 51 [(.t 18), (.t 19)], [0, 1], none⟩,
          ⟨some 21, .un .not (.t 20), [2], none⟩])
        (.cond (.t 21)
          (.seq (.reg [
            ⟨some 4, .mv (.c (.val (.bool false))), [], none⟩])
          .ret)
          .skip))))
      (.reg [
        ⟨some 22, .bin .add (.t 14) (.c (.val (.int .i64 1))), [], none⟩,
        ⟨some 14, .mv (.t 22), [0], none⟩])))))))
  (.seq (.reg [
    ⟨some 4, .mv (.c (.val (.bool true))), [], none⟩])
  .ret))))
theorem Trydp51 : (Tryd.f51.body.map (prep Tryd.prog 23)) = some Trydc51 := by kernel_rfl
def Trydc52 : ACode :=
  (.seq (.reg [
    ⟨some 6, .mv (.c (.val (.bool false))), [], none⟩])
  (.seq (.reg [
    ⟨some 7, .mv (.t 0), [], none⟩,
    ⟨some 8, .un .not (.t 7), [0], none⟩,
    ⟨some 9, .mv (.t 8), [1], none⟩,
    ⟨some 10, .mv (.t 1), [2], some (9, false)⟩,
    ⟨some 11, .bin .geq (.t 10) (.c (.val (.int .i64 0))), [3, 2], some (9, false)⟩,
    ⟨some 12, .mv (.t 11), [4, 2, 2], some (9, false)⟩,
    ⟨some 13, .mv (.t 1), [5], some (12, true)⟩,
    ⟨some 14, .mv (.t 2), [5], some (12, true)⟩,
    ⟨some 15, .bin .leq (.t 13) (.t 14), [6, 7, 5], some (12, true)⟩,
    ⟨some 16, .pick (.t 12) (.t 15) (.c (.val (.bool false))), [5, 8, 2], some (9, false)⟩,
    ⟨some 17, .pick (.t 9) (.c (.val (.bool true))) (.t 16), [2, 9], none⟩,
    ⟨some 6, .mv (.t 17), [10, 5, 0, 1, 2, 3, 4, 5, 6, 7, 8, 9, 10], none⟩])
  .ret))
theorem Trydp52 : (Tryd.f52.body.map (prep Tryd.prog 18)) = some Trydc52 := by kernel_rfl
def Trydc53 : ACode :=
  (.seq (.reg [
    ⟨some 1, .box (.t 0), [], none⟩,
    ⟨some 2, .mv (.c (.val (.int .i64 0))), [], none⟩])
  (.seq (.reg [
    ⟨some 6, .ld 8 true (.t 1), [], none⟩,
    ⟨some 7, .call 66 [(.t 6)], [0], none⟩,
    ⟨some 5, .mv (.t 7), [1], none⟩,
    ⟨some 8, .ext (.t 5) 0, [2], none⟩,
    ⟨some 9, .ext (.t 5) 1, [2], none⟩,
    ⟨some 3, .mv (.t 8), [3, 1, 0, 1, 2, 3], none⟩,
    ⟨some 4, .mv (.t 9), [4, 5, 0, 1, 2, 3, 4, 5], none⟩])
  (.seq (.block 0
    (.seq (.reg [
      ⟨some 11, .mv (.t 3), [], none⟩,
      ⟨some 12, .bin .gtr (.t 11) (.c (.val (.int .i64 64))), [0], none⟩,
      ⟨some 10, .mv (.t 12), [1], none⟩])
    (.cond (.t 10)
      (.seq (.reg [
        ⟨some 2, .mv (.c (.val (.int .i64 5))), [], none⟩])
      .ret)
      (.seq (.reg [
        ⟨some 14, .mv (.t 4), [], none⟩,
        ⟨some 15, .bin .gtr (.t 14) (.c (.val (.int .i64 12))), [0], none⟩,
        ⟨some 13, .mv (.t 15), [1], none⟩])
      (.cond (.t 13)
        (.seq (.reg [
          ⟨some 2, .mv (.c (.val (.int .i64 12))), [], none⟩])
        .ret)
        .skip)))))
  (.seq (.reg [
    ⟨some 16, .ld 8 true (.t 1), [], none⟩,
    ⟨some 17, .call 55 [(.t 16), (.c (.fn 67 []))], [0], none⟩,
    ⟨some 2, .mv (.t 17), [1, 1, 0, 1], none⟩])
  .ret))))
theorem Trydp53 : (Tryd.f53.body.map (prep Tryd.prog 18)) = some Trydc53 := by kernel_rfl
def Trydc54 : ACode :=
  (.seq (.reg [
    ⟨some 4, .mv (.c (.val (.bool false))), [], none⟩])
  (.seq (.reg [
    ⟨some 5, .mv (.t 0), [], none⟩,
    ⟨some 6, .mv (.t 5), [0], none⟩,
    ⟨some 7, .mv (.t 1), [1], some (6, false)⟩,
    ⟨some 8, .bin .eql (.t 7) (.c (.val (.int .i64 0))), [2, 1], some (6, false)⟩,
    ⟨some 9, .pick (.t 6) (.c (.val (.bool true))) (.t 8), [1, 3], none⟩,
    ⟨some 4, .mv (.t 9), [4, 1, 0, 1, 2, 3, 4], none⟩])
  .ret))
theorem Trydp54 : (Tryd.f54.body.map (prep Tryd.prog 10)) = some Trydc54 := by kernel_rfl
def Trydc55 : ACode :=
  (.seq (.reg [
    ⟨some 2, .box (.t 0), [], none⟩,
    ⟨some 4, .mv (.c (.val (.int .i64 0))), [], none⟩])
  (.seq (.seq (.reg [
    ⟨some 9, .mv (.t 1), [], none⟩,
    ⟨some 10, .ld 8 true (.t 2), [], none⟩,
    ⟨some 11, .callv (.t 9) [(.t 10)], [0, 1], none⟩,
    ⟨some 5, .mv (.t 11), [2, 2, 0, 1, 2], none⟩])
  (.seq (.reg [
    ⟨some 12, .mv (.t 5), [], none⟩,
    ⟨some 13, .bin .neq (.t 12) (.c (.val (.int .i64 0))), [0], none⟩])
  (.cond (.t 13)
    (.seq (.reg [
      ⟨some 14, .mv (.t 5), [], none⟩,
      ⟨some 4, .mv (.t 14), [0, 0], none⟩])
    .ret)
    .skip)))
  (.seq (.seq (.reg [
    ⟨some 15, .fa 1 (.t 2), [], none⟩,
    ⟨some 16, .ld 1 false (.t 15), [0], none⟩,
    ⟨some 17, .len (.t 16), [1], none⟩,
    ⟨some 18, .mv (.c (.val (.int .i64 0))), [], none⟩])
  (.block 0
    (.loop
      (.seq (.reg [
        ⟨some 19, .bin .lss (.t 18) (.t 17), [], none⟩])
      (.seq (.cond (.t 19)
        .skip
        (.exit 0))
      (.seq (.block 1
        (.seq (.reg [
          ⟨some 20, .ia 8 (.t 16) (.t 18), [], none⟩,
          ⟨some 21, .ld 8 true (.t 20), [0], none⟩,
          ⟨some 7, .box (.c (.agg [(.val (.int .i64 0)), (.val (.slice none 0 0)), (.val (.int .i64 0)), (.val (.int .i64 0)), (.val (.int .i64 0)), (.val (.int .i64 0)), (.val (.int .i64 0)), (.val (.string ⟨#[]⟩))])), [], none⟩,
          ⟨none, .st 8 (.t 7) (.t 21), [2, 1, 0, 1, 2], none⟩])
        (.seq (.reg [
          ⟨some 22, .ld 8 true (.t 7), [], none⟩,
          ⟨some 23, .mv (.t 1), [], none⟩,
          ⟨some 24, .call 55 [(.t 22), (.t 23)], [0, 1], none⟩,
          ⟨some 8, .mv (.t 24), [2, 2, 0, 1, 2], none⟩])
        (.seq (.reg [
          ⟨some 25, .mv (.t 8), [], none⟩,
          ⟨some 26, .bin .neq (.t 25) (.c (.val (.int .i64 0))), [0], none⟩])
        (.cond (.t 26)
          (.seq (.reg [
            ⟨some 27, .mv (.t 8), [], none⟩,
            ⟨some 4, .mv (.t 27), [0, 0], none⟩])
          .ret)
          .skip)))))
      (.reg [
        ⟨some 28, .bin .add (.t 18) (.c (.val (.int .i64 1))), [], none⟩,
        ⟨some 18, .mv (.t 28), [0], none⟩])))))))
  (.seq (.reg [
    ⟨some 4, .mv (.c (.val (.int .i64 0))), [], none⟩])
  .ret))))
theorem Trydp55 : (Tryd.f55.body.map (prep Tryd.prog 29)) = some Trydc55 := by kernel_rfl
def Trydc56 : ACode :=
  (.seq (.reg [
    ⟨some 2, .box (.t 0), [], none⟩,
    ⟨some 3, .mv (.c (.val (.int .i64 0))), [], none⟩])
  (.seq (.reg [
    ⟨some 7, .fa 0 (.t 2), [], none⟩,
    ⟨some 8, .ld 1 false (.t 7), [0], none⟩,
    ⟨some 9, .call 57 [(.t 8)], [1], none⟩,
    ⟨some 6, .mv (.t 9), [2], none⟩,
    ⟨some 10, .ext (.t 6) 0, [3], none⟩,
    ⟨some 11, .ext (.t 6) 1, [3], none⟩,
    ⟨some 4, .mv (.t 10), [4, 2, 0, 1, 2, 3, 4], none⟩,
    ⟨some 5, .mv (.t 11), [5, 6, 0, 1, 2, 3, 4, 5, 6], none⟩])
  (.seq (.block 0
    (.seq (.reg [
      ⟨some 13, .mv (.t 4), [], none⟩,
      ⟨some 14, .un .not (.t 13), [0], none⟩,
      ⟨some 12, .mv (.t 14), [1], none⟩])
    (.cond (.t 12)
      (.seq (.reg [
        ⟨some 3, .mv (.c (.val (.int .i64 0))), [], none⟩])
      .ret)
      (.seq (.reg [
        ⟨some 16, .fa 2 (.t 2), [], none⟩,
        ⟨some 17, .ld 1 false (.t 16), [0], none⟩,
        ⟨some 18, .ld 1 false (.t 1), [], none⟩,
        ⟨some 19, .len (.t 18), [2], none⟩,
        ⟨some 20, .bin .geq (.t 17) (.t 19), [1, 3], none⟩,
        ⟨some 15, .mv (.t 20), [4], none⟩])
      (.cond (.t 15)
        (.seq (.reg [
          ⟨some 3, .mv (.c (.val (.int .i64 6))), [], none⟩])
        .ret)
        (.seq (.reg [
          ⟨some 22, .ld 1 false (.t 1), [], none⟩,
          ⟨some 23, .fa 2 (.t 2), [], none⟩,
          ⟨some 24, .ld 1 false (.t 23), [1], none⟩,
          ⟨some 25, .ia 1 (.t 22) (.t 24), [0, 2], none⟩,
          ⟨some 26, .ld 1 false (.t 25), [3], none⟩,
          ⟨some 27, .bin .lss (.t 26) (.c (.val (.int .i64 0))), [4], none⟩,
          ⟨some 28, .mv (.t 27), [5], none⟩,
          ⟨some 29, .ld 1 false (.t 1), [6], some (28, false)⟩,
          ⟨some 30, .fa 2 (.t 2), [6], some (28, false)⟩,
          ⟨some 31, .ld 1 false (.t 30), [8, 6], some (28, false)⟩,
          ⟨some 32, .ia 1 (.t 29) (.t 31), [7, 9, 6], some (28, false)⟩,
          ⟨some 33, .ld 1 false (.t 32), [10, 6], some (28, false)⟩,
          ⟨some 34, .bin .geq (.t 33) (.c (.val (.int .i64 16))), [11, 6], some (28, false)⟩,
          ⟨some 35, .pick (.t 28) (.c (.val (.bool true))) (.t 34), [6, 12], none⟩,
          ⟨some 21, .mv (.t 35), [13, 6], none⟩])
        (.cond (.t 21)
          (.seq (.reg [
            ⟨some 3, .mv (.c (.val (.int .i64 2))), [], none⟩])
          .ret)
          .skip)))))))
  (.seq (.reg [
    ⟨some 3, .mv (.c (.val (.int .i64 0))), [], none⟩])
  .ret))))
theorem Trydp56 : (Tryd.f56.body.map (prep Tryd.prog 36)) = some Trydc56 := by kernel_rfl
def Trydc57 : ACode :=
  (.seq (.reg [
    ⟨some 2, .mv (.c (.val (.bool false))), [], none⟩,
    ⟨some 3, .mv (.c (.val (.bool false))), [0], none⟩])
  (.seq (.seq (.reg [
    ⟨some 4, .mv (.t 0), [], none⟩])
  (.block 0
    (.seq (.seq (.reg [
      ⟨some 6, .bin .eql (.t 4) (.c (.val (.int .i64 1))), [], none⟩,
      ⟨some 5, .mv (.t 6), [0], none⟩])
    (.cond (.t 5)
      .skip
      (.reg [
        ⟨some 7, .bin .eql (.t 4) (.c (.val (.int .i64 4))), [], none⟩,
        ⟨some 5, .mv (.t 7), [0], none⟩])))
    (.cond (.t 5)
      (.seq (.reg [
        ⟨some 2, .mv (.c (.val (.bool true))), [], none⟩,
        ⟨some 3, .mv (.c (.val (.bool true))), [0, 0], none⟩])
      .ret)
      (.seq (.seq (.reg [
        ⟨some 9, .bin .eql (.t 4) (.c (.val (.int .i64 2))), [], none⟩,
        ⟨some 8, .mv (.t 9), [0], none⟩])
      (.cond (.t 8)
        .skip
        (.reg [
          ⟨some 10, .bin .eql (.t 4) (.c (.val (.int .i64 3))), [], none⟩,
          ⟨some 8, .mv (.t 10), [0], none⟩])))
      (.cond (.t 8)
        (.seq (.reg [
          ⟨some 2, .mv (.c (.val (.bool true))), [], none⟩,
          ⟨some 3, .mv (.c (.val (.bool false))), [0, 0], none⟩])
        .ret)
        .skip))))))
  (.seq (.reg [
    ⟨some 2, .mv (.c (.val (.bool false))), [], none⟩,
    ⟨some 3, .mv (.c (.val (.bool false))), [0, 0], none⟩])
  .ret)))
theorem Trydp57 : (Tryd.f57.body.map (prep Tryd.prog 11)) = some Trydc57 := by kernel_rfl
def Trydc58 : ACode :=
  (.seq (.reg [
    ⟨some 2, .box (.t 0), [], none⟩,
    ⟨some 4, .box (.c (.agg [(.val (.int .i64 0)), (.val (.slice none 0 0)), (.val (.int .i64 0)), (.val (.int .i64 0)), (.val (.int .i64 0)), (.val (.int .i64 0)), (.val (.int .i64 0)), (.val (.string ⟨#[]⟩))])), [], none⟩])
  (.seq (.reg [
    ⟨some 8, .ld 8 true (.t 2), [], none⟩,
    ⟨some 5, .box (.c (.agg [(.val (.int .i64 0)), (.val (.slice none 0 0)), (.val (.int .i64 0)), (.val (.int .i64 0)), (.val (.int .i64 0)), (.val (.int .i64 0)), (.val (.int .i64 0)), (.val (.string ⟨#[]⟩))])), [], none⟩,
    ⟨none, .st 8 (.t 5) (.t 8), [1, 0, 0, 1], none⟩])
  (.seq (.reg [
    ⟨some 9, .fa 1 (.t 5), [], none⟩,
    ⟨none, .st 1 (.t 9) (.c (.val (.slice none 0 0))), [0], none⟩])
  (.seq (.seq (.reg [
    ⟨some 10, .fa 1 (.t 2), [], none⟩,
    ⟨some 11, .ld 1 false (.t 10), [0], none⟩,
    ⟨some 12, .len (.t 11), [1], none⟩,
    ⟨some 13, .mv (.c (.val (.int .i64 0))), [], none⟩])
  (.block 0
    (.loop
      (.seq (.reg [
        ⟨some 14, .bin .lss (.t 13) (.t 12), [], none⟩])
      (.seq (.cond (.t 14)
        .skip
        (.exit 0))
      (.seq (.block 1
        (.seq (.reg [
          ⟨some 15, .ia 8 (.t 11) (.t 13), [], none⟩,
          ⟨some 16, .ld 8 true (.t 15), [0], none⟩,
          ⟨some 7, .box (.c (.agg [(.val (.int .i64 0)), (.val (.slice none 0 0)), (.val (.int .i64 0)), (.val (.int .i64 0)), (.val (.int .i64 0)), (.val (.int .i64 0)), (.val (.int .i64 0)), (.val (.string ⟨#[]⟩))])), [], none⟩,
          ⟨none, .st 8 (.t 7) (.t 16), [2, 1, 0, 1, 2], none⟩])
        (.draw [
          ⟨some 17, .fa 1 (.t 5), [], none⟩,
          ⟨some 18, .ld 1 false (.t 17), [0], none⟩,
          ⟨some 19, .ld 8 true (.t 7), [], none⟩,
          ⟨some 20, .mv (.t 1), [], none⟩,
          ⟨some 21, .call 58 [(.t 19), (.t 20)], [2, 3], none⟩,
          ⟨some 22, .bslice 8 [(.t 21)], [4], none⟩,
          ⟨some 23, .app 8 88 (.t 18) (.t 22), [1, 5, 4], none⟩,
          ⟨some 24, .fa 1 (.t 5), [0, 1, 2, 3, 4, 5, 6], none⟩,
          ⟨none, .st 1 (.t 24) (.t 23), [7, 6, 6, 0, 1, 2, 3, 4, 5, 6], none⟩])))
      (.reg [
        ⟨some 25, .bin .add (.t 13) (.c (.val (.int .i64 1))), [], none⟩,
        ⟨some 13, .mv (.t 25), [0], none⟩])))))))
  (.seq (.reg [
    ⟨some 26, .mv (.t 1), [], none⟩,
    ⟨some 27, .ld 8 true (.t 5), [], none⟩,
    ⟨some 28, .callv (.t 26) [(.t 27)], [0, 1], none⟩,
    ⟨none, .st 8 (.t 4) (.t 28), [2, 2, 0, 1, 2], none⟩])
  .ret)))))
theorem Trydp58 : (Tryd.f58.body.map (prep Tryd.prog 29)) = some Trydc58 := by kernel_rfl
def Trydc59 : ACode :=
  (.seq (.reg [
    ⟨some 2, .box (.t 0), [], none⟩,
    ⟨some 3, .box (.c (.agg [(.val (.int .i64 0)), (.val (.slice none 0 0)), (.val (.int .i64 0)), (.val (.int .i64 0)), (.val (.int .i64 0)), (.val (.int .i64 0)), (.val (.int .i64 0)), (.val (.string ⟨#[]⟩))])), [], none⟩])
  (.seq (.seq (.reg [
    ⟨some 7, .fa 0 (.t 2), [], none⟩,
    ⟨some 8, .ld 1 false (.t 7), [0], none⟩,
    ⟨some 9, .call 57 [(.t 8)], [1], none⟩,
    ⟨some 6, .mv (.t 9), [2], none⟩,
    ⟨some 10, .ext (.t 6) 0, [3], none⟩,
    ⟨some 11, .ext (.t 6) 1, [3], none⟩,
    ⟨some 4, .mv (.t 10), [4, 2, 0, 1, 2, 3, 4], none⟩,
    ⟨some 5, .mv (.t 11), [5, 6, 0, 1, 2, 3, 4, 5, 6], none⟩])
  (.seq (.reg [
    ⟨some 12, .mv (.t 4), [], none⟩])
  (.cond (.t 12)
    (.reg [
      ⟨some 13, .ld 1 false (.t 1), [], none⟩,
      ⟨some 14, .fa 2 (.t 2), [], none⟩,
      ⟨some 15, .ld 1 false (.t 14), [1], none⟩,
      ⟨some 16, .ia 1 (.t 13) (.t 15), [0, 2], none⟩,
      ⟨some 17, .ld 1 false (.t 16), [3], none⟩,
      ⟨some 18, .fa 2 (.t 2), [0, 1, 2, 3, 4], none⟩,
      ⟨none, .st 1 (.t 18) (.t 17), [5, 4, 0, 1, 2, 3, 4], none⟩])
    .skip)))
  (.seq (.reg [
    ⟨some 19, .ld 8 true (.t 2), [], none⟩,
    ⟨none, .st 8 (.t 3) (.t 19), [0, 0], none⟩])
  .ret)))
theorem Trydp59 : (Tryd.f59.body.map (prep Tryd.prog 20)) = some Trydc59 := by kernel_rfl
def Trydc62 : ACode :=
  (.seq (.reg [
    ⟨some 4, .mv (.c (.val (.int .u64 0))), [], none⟩,
    ⟨some 5, .mv (.c (.val (.int .u64 0))), [0], none⟩])
  (.seq (.cond (.c (.val (.bool false)))
    (.seq (.reg [
      ⟨some 11, .mv (.t 0), [], none⟩,
      ⟨some 12, .cvi .u32 (.t 11), [0], none⟩,
      ⟨some 13, .mv (.t 1), [], none⟩,
      ⟨some 14, .cvi .u32 (.t 13), [2], none⟩,
      ⟨some 15, .call 79 [(.t 12), (.t 14)], [1, 3], none⟩,
      ⟨some 10, .mv (.t 15), [4], none⟩,
      ⟨some 16, .ext (.t 10) 0, [5], none⟩,
      ⟨some 17, .ext (.t 10) 1, [5], none⟩,
      ⟨some 6, .mv (.t 16), [6, 4, 0, 1, 2, 3, 4, 5, 6], none⟩,
      ⟨some 7, .mv (.t 17), [7, 8, 0, 1, 2, 3, 4, 5, 6, 7, 8], none⟩])
    (.seq (.reg [
      ⟨some 18, .mv (.t 6), [], none⟩,
      ⟨some 19, .cvi .u64 (.t 18), [0], none⟩,
      ⟨some 20, .mv (.t 7), [], none⟩,
      ⟨some 21, .cvi .u64 (.t 20), [2], none⟩,
      ⟨some 4, .mv (.t 19), [1, 0, 1], none⟩,
      ⟨some 5, .mv (.t 21), [3, 4, 0, 1, 2, 3, 4], none⟩])
    .ret))
    .skip)
  (.seq (.reg [
    ⟨some 23, .mv (.t 0), [], none⟩,
    ⟨some 24, .mv (.t 1), [], none⟩,
    ⟨some 25, .call 80 [(.t 23), (.t 24)], [0, 1], none⟩,
    ⟨some 22, .mv (.t 25), [2], none⟩,
    ⟨some 26, .ext (.t 22) 0, [3], none⟩,
    ⟨some 27, .ext (.t 22) 1, [3], none⟩,
    ⟨some 8, .mv (.t 26), [4, 2, 0, 1, 2, 3, 4], none⟩,
    ⟨some 9, .mv (.t 27), [5, 6, 0, 1, 2, 3, 4, 5, 6], none⟩])
  (.seq (.reg [
    ⟨some 28, .mv (.t 8), [], none⟩,
    ⟨some 29, .mv (.t 9), [], none⟩,
    ⟨some 4, .mv (.t 28), [0, 0], none⟩,
    ⟨some 5, .mv (.t 29), [1, 2, 0, 1, 2], none⟩])
  .ret))))
theorem Trydp62 : (Tryd.f62.body.map (prep Tryd.prog 30)) = some Trydc62 := by kernel_rfl
def Trydc63 : ACode :=
  (.seq (.reg [
    ⟨some 4, .mv (.c (.val (.int .i64 0))), [], none⟩])
  (.seq (.seq (.reg [
    ⟨some 6, .mv (.t 0), [], none⟩,
    ⟨some 7, .len (.t 6), [0], none⟩,
    ⟨some 8, .mv (.c (.val (.int .i64 0))), [], none⟩])
  (.block 0
    (.loop
      (.seq (.reg [
        ⟨some 9, .bin .lss (.t 8) (.t 7), [], none⟩])
      (.seq (.cond (.t 9)
        .skip
        (.exit 0))
      (.seq (.block 1
        (.seq (.reg [
          ⟨some 10, .mv (.t 8), [], none⟩,
          ⟨some 5, .mv (.t 10), [0, 0], none⟩])
        (.seq (.reg [
          ⟨some 11, .mv (.t 1), [], none⟩,
          ⟨some 12, .mv (.t 0), [], none⟩,
          ⟨some 13, .mv (.t 5), [], none⟩,
          ⟨some 14, .ia 1 (.t 12) (.t 13), [1, 2], none⟩,
          ⟨some 15, .ld 1 false (.t 14), [3], none⟩,
          ⟨some 16, .bin .eql (.t 11) (.t 15), [0, 4], none⟩])
        (.cond (.t 16)
          (.seq (.reg [
            ⟨some 17, .mv (.t 5), [], none⟩,
            ⟨some 4, .mv (.t 17), [0, 0], none⟩])
          .ret)
          .skip))))
      (.reg [
        ⟨some 18, .bin .add (.t 8) (.c (.val (.int .i64 1))), [], none⟩,
        ⟨some 8, .mv (.t 18), [0], none⟩])))))))
  (.seq (.reg [
    ⟨some 4, .mv (.c (.val (.int .i64 (-1)))), [], none⟩])
  .ret)))
theorem Trydp63 : (Tryd.f63.body.map (prep Tryd.prog 19)) = some Trydc63 := by kernel_rfl
def Trydc64 : ACode :=
  (.seq (.reg [
    ⟨some 4, .mv (.c (.val (.int .i64 0))), [], none⟩])
  (.seq (.seq (.reg [
    ⟨some 6, .mv (.t 0), [], none⟩,
    ⟨some 7, .len (.t 6), [0], none⟩,
    ⟨some 8, .mv (.c (.val (.int .i64 0))), [], none⟩])
  (.block 0
    (.loop
      (.seq (.reg [
        ⟨some 9, .bin .lss (.t 8) (.t 7), [], none⟩])
      (.seq (.cond (.t 9)
        .skip
        (.exit 0))
      (.seq (.block 1
        (.seq (.reg [
          ⟨some 10, .mv (.t 8), [], none⟩,
          ⟨some 5, .mv (.t 10), [0, 0], none⟩])
        (.seq (.reg [
          ⟨some 11, .mv (.t 1), [], none⟩,
          ⟨some 12, .mv (.t 0), [], none⟩,
          ⟨some 13, .mv (.t 5), [], none⟩,
          ⟨some 14, .ia 1 (.t 12) (.t 13), [1, 2], none⟩,
          ⟨some 15, .ld 1 false (.t 14), [3], none⟩,
          ⟨some 16, .callv (.t 11) [(.t 15)], [0, 4], none⟩])
        (.cond (.t 16)
          (.seq (.reg [
            ⟨some 17, .mv (.t 5), [], none⟩,
            ⟨some 4, .mv (.t 17), [0, 0], none⟩])
          .ret)
          .skip))))
      (.reg [
        ⟨some 18, .bin .add (.t 8) (.c (.val (.int .i64 1))), [], none⟩,
        ⟨some 8, .mv (.t 18), [0], none⟩])))))))
  (.seq (.reg [
    ⟨some 4, .mv (.c (.val (.int .i64 (-1)))), [], none⟩])
  .ret)))
theorem Trydp64 : (Tryd.f64.body.map (prep Tryd.prog 19)) = some Trydc64 := by kernel_rfl
def Trydc65 : ACode :=
  (.seq (.reg [
    ⟨some 2, .box (.t 0), [], none⟩,
    ⟨some 3, .mv (.c (.val (.int .i64 0))), [], none⟩])
  (.seq (.seq (.reg [
    ⟨some 7, .fa 0 (.t 2), [], none⟩,
    ⟨some 8, .ld 1 false (.t 7), [0], none⟩,
    ⟨some 9, .call 57 [(.t 8)], [1], none⟩,
    ⟨some 6, .mv (.t 9), [2], none⟩,
    ⟨some 10, .ext (.t 6) 0, [3], none⟩,
    ⟨some 11, .ext (.t 6) 1, [3], none⟩,
    ⟨some 4, .mv (.t 10), [4, 2, 0, 1, 2, 3, 4], none⟩,
    ⟨some 5, .mv (.t 11), [5, 6, 0, 1, 2, 3, 4, 5, 6], none⟩])
  (.seq (.reg [
    ⟨some 12, .mv (.t 4), [], none⟩,
    ⟨some 13, .mv (.t 12), [0], none⟩,
    ⟨some 14, .fa 2 (.t 2), [1], some (13, true)⟩,
    ⟨some 15, .ld 1 false (.t 14), [2, 1], some (13, true)⟩,
    ⟨some 16, .bin .geq (.t 15) (.c (.val (.int .i64 0))), [3, 1], some (13, true)⟩,
    ⟨some 17, .pick (.t 13) (.t 16) (.c (.val (.bool false))), [1, 4], none⟩,
    ⟨some 18, .mv (.t 17), [5, 1], none⟩,
    ⟨some 19, .fa 2 (.t 2), [6], some (18, true)⟩,
    ⟨some 20, .ld 1 false (.t 19), [7, 6], some (18, true)⟩,
    ⟨some 21, .bin .lss (.t 20) (.c (.val (.int .i64 16))), [8, 6], some (18, true)⟩,
    ⟨some 22, .pick (.t 18) (.t 21) (.c (.val (.bool false))), [6, 9], none⟩])
  (.cond (.t 22)
    (.reg [
      ⟨some 23, .fa 2 (.t 2), [], none⟩,
      ⟨some 24, .ld 1 false (.t 23), [0], none⟩,
      ⟨some 25, .iaA 1 16 (.t 1) (.t 24), [1, 0, 1], none⟩,
      ⟨none, .st 1 (.t 25) (.c (.val (.bool true))), [2, 0, 1], none⟩])
    .skip)))
  (.seq (.reg [
    ⟨some 3, .mv (.c (.val (.int .i64 0))), [], none⟩])
  .ret)))
theorem Trydp65 : (Tryd.f65.body.map (prep Tryd.prog 26)) = some Trydc65 := by kernel_rfl
def Trydc66 : ACode :=
  (.seq (.reg [
    ⟨some 1, .box (.t 0), [], none⟩,
    ⟨some 2, .mv (.c (.val (.int .i64 0))), [], none⟩,
    ⟨some 3, .mv (.c (.val (.int .i64 0))), [1], none⟩])
  (.seq (.reg [
    ⟨some 4, .mv (.c (.val (.int .i64 1))), [], none⟩,
    ⟨some 5, .mv (.c (.val (.int .i64 0))), [0, 0], none⟩])
  (.seq (.seq (.reg [
    ⟨some 10, .fa 1 (.t 1), [], none⟩,
    ⟨some 11, .ld 1 false (.t 10), [0], none⟩,
    ⟨some 12, .len (.t 11), [1], none⟩,
    ⟨some 13, .mv (.c (.val (.int .i64 0))), [], none⟩])
  (.block 0
    (.loop
      (.seq (.reg [
        ⟨some 14, .bin .lss (.t 13) (.t 12), [], none⟩])
      (.seq (.cond (.t 14)
        .skip
        (.exit 0))
      (.seq (.block 1
        (.seq (.reg [
          ⟨some 15, .ia 8 (.t 11) (.t 13), [], none⟩,
          ⟨some 16, .ld 8 true (.t 15), [0], none⟩,
          ⟨some 7, .box (.c (.agg [(.val (.int .i64 0)), (.val (.slice none 0 0)), (.val (.int .i64 0)), (.val (.int .i64 0)), (.val (.int .i64 0)), (.val (.int .i64 0)), (.val (.int .i64 0)), (.val (.string ⟨#[]⟩))])), [], none⟩,
          ⟨none, .st 8 (.t 7) (.t 16), [2, 1, 0, 1, 2], none⟩])
        (.seq (.reg [
          ⟨some 18, .ld 8 true (.t 7), [], none⟩,
          ⟨some 19, .call 66 [(.t 18)], [0], none⟩,
          ⟨some 17, .mv (.t 19), [1], none⟩,
          ⟨some 20, .ext (.t 17) 0, [2], none⟩,
          ⟨some 21, .ext (.t 17) 1, [2], none⟩,
          ⟨some 8, .mv (.t 20), [3, 1, 0, 1, 2, 3], none⟩,
          ⟨some 9, .mv (.t 21), [4, 5, 0, 1, 2, 3, 4, 5], none⟩])
        (.reg [
          ⟨some 22, .mv (.t 4), [], none⟩,
          ⟨some 23, .mv (.t 8), [], none⟩,
          ⟨some 24, .bin .add (.t 22) (.t 23), [0, 1], none⟩,
          ⟨some 25, .mv (.t 5), [], none⟩,
          ⟨some 26, .mv (.t 9), [], none⟩,
          ⟨some 27, .mx [(.t 25), (.t 26)], [3, 4], none⟩,
          ⟨some 4, .mv (.t 24), [2, 0, 1, 2], none⟩,
          ⟨some 5, .mv (.t 27), [5, 6, 0, 1, 2, 3, 4, 5, 6], none⟩]))))
      (.reg [
        ⟨some 28, .bin .add (.t 13) (.c (.val (.int .i64 1))), [], none⟩,
        ⟨some 13, .mv (.t 28), [0], none⟩])))))))
  (.seq (.reg [
    ⟨some 29, .mv (.t 4), [], none⟩,
    ⟨some 30, .mv (.t 5), [], none⟩,
    ⟨some 31, .bin .add (.t 30) (.c (.val (.int .i64 1))), [1], none⟩,
    ⟨some 2, .mv (.t 29), [0, 0], none⟩,
    ⟨some 3, .mv (.t 31), [2, 3, 0, 1, 2, 3], none⟩])
  .ret))))
theorem Trydp66 : (Tryd.f66.body.map (prep Tryd.prog 32)) = some Trydc66 := by kernel_rfl
def Trydc67 : ACode :=
  (.seq (.reg [
    ⟨some 1, .box (.t 0), [], none⟩,
    ⟨some 2, .mv (.c (.val (.int .i64 0))), [], none⟩])
  (.seq (.reg [
    ⟨some 11, .fa 0 (.t 1), [], none⟩,
    ⟨some 12, .ld 1 false (.t 11), [0], none⟩,
    ⟨some 13, .call 81 [(.t 12)], [1], none⟩,
    ⟨some 10, .mv (.t 13), [2], none⟩,
    ⟨some 14, .ext (.t 10) 0, [3], none⟩,
    ⟨some 15, .ext (.t 10) 1, [3], none⟩,
    ⟨some 3, .mv (.t 14), [4, 2, 0, 1, 2, 3, 4], none⟩,
    ⟨some 4, .mv (.t 15), [5, 6, 0, 1, 2, 3, 4, 5, 6], none⟩])
  (.seq (.seq (.reg [
    ⟨some 16, .mv (.t 4), [], none⟩,
    ⟨some 17, .un .not (.t 16), [0], none⟩])
  (.cond (.t 17)
    (.seq (.reg [
      ⟨some 2, .mv (.c (.val (.int .i64 1))), [], none⟩])
    .ret)
    .skip))
  (.seq (.seq (.reg [
    ⟨some 18, .fa 1 (.t 1), [], none⟩,
    ⟨some 19, .ld 1 false (.t 18), [0], none⟩,
    ⟨some 20, .len (.t 19), [1], none⟩,
    ⟨some 21, .mv (.t 3), [], none⟩,
    ⟨some 22, .bin .neq (.t 20) (.t 21), [2, 3], none⟩])
  (.cond (.t 22)
    (.seq (.reg [
      ⟨some 2, .mv (.c (.val (.int .i64 15))), [], none⟩])
    .ret)
    .skip))
  (.seq (.reg [
    ⟨some 24, .fa 0 (.t 1), [], none⟩,
    ⟨some 25, .ld 1 false (.t 24), [0], none⟩,
    ⟨some 26, .call 57 [(.t 25)], [1], none⟩,
    ⟨some 23, .mv (.t 26), [2], none⟩,
    ⟨some 27, .ext (.t 23) 0, [3], none⟩,
    ⟨some 28, .ext (.t 23) 1, [3], none⟩,
    ⟨some 5, .mv (.t 27), [4, 2, 0, 1, 2, 3, 4], none⟩,
    ⟨some 6, .mv (.t 28), [5, 6, 0, 1, 2, 3, 4, 5, 6], none⟩])
  (.seq (.seq (.reg [
    ⟨some 29, .mv (.t 5), [], none⟩,
    ⟨some 30, .mv (.t 29), [0], none⟩,
    ⟨some 31, .fa 2 (.t 1), [1], some (30, true)⟩,
    ⟨some 32, .ld 1 false (.t 31), [2, 1], some (30, true)⟩,
    ⟨some 33, .bin .lss (.t 32) (.c (.val (.int .i64 0))), [3, 1], some (30, true)⟩,
    ⟨some 34, .mv (.t 33), [4, 1, 1], some (30, true)⟩,
    ⟨some 35, .fa 2 (.t 1), [5], some (34, false)⟩,
    ⟨some 36, .ld 1 false (.t 35), [6, 5], some (34, false)⟩,
    ⟨some 37, .bin .geq (.t 36) (.c (.val (.int .i64 16))), [7, 5], some (34, false)⟩,
    ⟨some 38, .pick (.t 34) (.c (.val (.bool true))) (.t 37), [5, 8, 1], some (30, true)⟩,
    ⟨some 39, .pick (.t 30) (.t 38) (.c (.val (.bool false))), [1, 9], none⟩,
    ⟨some 40, .mv (.t 39), [10, 5], none⟩,
    ⟨some 41, .mv (.t 6), [11], some (40, false)⟩,
    ⟨some 42, .mv (.t 41), [12, 11, 11], some (40, false)⟩,
    ⟨some 43, .fa 3 (.t 1), [13], some (42, true)⟩,
    ⟨some 44, .ld 1 false (.t 43), [14, 13], some (42, true)⟩,
    ⟨some 45, .bin .lss (.t 44) (.c (.val (.int .i64 0))), [15, 13], some (42, true)⟩,
    ⟨some 46, .mv (.t 45), [16, 13, 13], some (42, true)⟩,
    ⟨some 47, .fa 3 (.t 1), [17], some (46, false)⟩,
    ⟨some 48, .ld 1 false (.t 47), [18, 17], some (46, false)⟩,
    ⟨some 49, .bin .geq (.t 48) (.c (.val (.int .i64 8))), [19, 17], some (46, false)⟩,
    ⟨some 50, .pick (.t 46) (.c (.val (.bool true))) (.t 49), [17, 20, 13], some (42, true)⟩,
    ⟨some 51, .pick (.t 42) (.t 50) (.c (.val (.bool false))), [13, 21, 11], some (40, false)⟩,
    ⟨some 52, .pick (.t 40) (.c (.val (.bool true))) (.t 51), [11, 22], none⟩])
  (.cond (.t 52)
    (.seq (.reg [
      ⟨some 2, .mv (.c (.val (.int .i64 2))), [], none⟩])
    .ret)
    .skip))
  (.seq (.reg [
    ⟨some 53, .fa 0 (.t 1), [], none⟩,
    ⟨some 54, .ld 1 false (.t 53), [0], none⟩,
    ⟨some 55, .bin .eql (.t 54) (.c (.val (.int .i64 4))), [1], none⟩,
    ⟨some 7, .mv (.t 55), [2, 0, 1, 2], none⟩])
  (.seq (.seq (.reg [
    ⟨some 56, .mv (.t 7), [], none⟩,
    ⟨some 57, .mv (.t 56), [0], none⟩,
    ⟨some 58, .fa 4 (.t 1), [1], some (57, true)⟩,
    ⟨some 59, .ld 1 false (.t 58), [2, 1], some (57, true)⟩,
    ⟨some 60, .bin .lss (.t 59) (.c (.val (.int .i64 1))), [3, 1], some (57, true)⟩,
    ⟨some 61, .mv (.t 60), [4, 1, 1], some (57, true)⟩,
    ⟨some 62, .fa 4 (.t 1), [5], some (61, false)⟩,
    ⟨some 63, .ld 1 false (.t 62), [6, 5], some (61, false)⟩,
    ⟨some 64, .bin .gtr (.t 63) (.c (.val (.int .i64 5))), [7, 5], some (61, false)⟩,
    ⟨some 65, .pick (.t 61) (.c (.val (.bool true))) (.t 64), [5, 8, 1], some (57, true)⟩,
    ⟨some 66, .pick (.t 57) (.t 65) (.c (.val (.bool false))), [1, 9], none⟩])
  (.cond (.t 66)
    (.seq (.reg [
      ⟨some 2, .mv (.c (.val (.int .i64 1))), [], none⟩])
    .ret)
    .skip))
  (.seq (.reg [
    ⟨some 67, .mv (.t 7), [], none⟩,
    ⟨some 68, .mv (.t 67), [0], none⟩,
    ⟨some 69, .fa 0 (.t 1), [1], some (68, false)⟩,
    ⟨some 70, .ld 1 false (.t 69), [2, 1], some (68, false)⟩,
    ⟨some 71, .bin .eql (.t 70) (.c (.val (.int .i64 0))), [3, 1], some (68, false)⟩,
    ⟨some 72, .pick (.t 68) (.c (.val (.bool true))) (.t 71), [1, 4], none⟩,
    ⟨some 8, .mv (.t 72), [5, 1, 0, 1, 2, 3, 4, 5], none⟩])
  (.seq (.seq (.reg [
    ⟨some 73, .mv (.t 8), [], none⟩])
  (.cond (.t 73)
    (.seq (.reg [
      ⟨some 74, .ld 8 true (.t 1), [], none⟩,
      ⟨some 75, .call 82 [(.t 74)], [0], none⟩,
      ⟨some 9, .mv (.t 75), [1, 1, 0, 1], none⟩])
    (.seq (.reg [
      ⟨some 76, .mv (.t 9), [], none⟩,
      ⟨some 77, .bin .neq (.t 76) (.c (.val (.int .i64 0))), [0], none⟩])
    (.cond (.t 77)
      (.seq (.reg [
        ⟨some 78, .mv (.t 9), [], none⟩,
        ⟨some 2, .mv (.t 78), [0, 0], none⟩])
      .ret)
      .skip)))
    .skip))
  (.seq (.seq (.reg [
    ⟨some 79, .mv (.t 5), [], none⟩,
    ⟨some 80, .un .not (.t 79), [0], none⟩,
    ⟨some 81, .mv (.t 80), [1], none⟩,
    ⟨some 82, .fa 2 (.t 1), [2], some (81, true)⟩,
    ⟨some 83, .ld 1 false (.t 82), [3, 2], some (81, true)⟩,
    ⟨some 84, .bin .neq (.t 83) (.c (.val (.int .i64 0))), [4, 2], some (81, true)⟩,
    ⟨some 85, .pick (.t 81) (.t 84) (.c (.val (.bool false))), [2, 5], none⟩,
    ⟨some 86, .mv (.t 85), [6, 2], none⟩,
    ⟨some 87, .mv (.t 6), [7], some (86, false)⟩,
    ⟨some 88, .un .not (.t 87), [8, 7], some (86, false)⟩,
    ⟨some 89, .mv (.t 88), [9, 7, 7], some (86, false)⟩,
    ⟨some 90, .fa 3 (.t 1), [10], some (89, true)⟩,
    ⟨some 91, .ld 1 false (.t 90), [11, 10], some (89, true)⟩,
    ⟨some 92, .bin .neq (.t 91) (.c (.val (.int .i64 0))), [12, 10], some (89, true)⟩,
    ⟨some 93, .pick (.t 89) (.t 92) (.c (.val (.bool false))), [10, 13, 7], some (86, false)⟩,
    ⟨some 94, .pick (.t 86) (.c (.val (.bool true))) (.t 93), [7, 14], none⟩,
    ⟨some 95, .mv (.t 94), [15, 10], none⟩,
    ⟨some 96, .mv (.t 7), [16], some (95, false)⟩,
    ⟨some 97, .un .not (.t 96), [17, 16], some (95, false)⟩,
    ⟨some 98, .mv (.t 97), [18, 16, 16], some (95, false)⟩,
    ⟨some 99, .fa 4 (.t 1), [19], some (98, true)⟩,
    ⟨some 100, .ld 1 false (.t 99), [20, 19], some (98, true)⟩,
    ⟨some 101, .bin .neq (.t 100) (.c (.val (.int .i64 0))), [21, 19], some (98, true)⟩,
    ⟨some 102, .pick (.t 98) (.t 101) (.c (.val (.bool false))), [19, 22, 16], some (95, false)⟩,
    ⟨some 103, .pick (.t 95) (.c (.val (.bool true))) (.t 102), [16, 23], none⟩,
    ⟨some 104, .mv (.t 103), [24, 19], none⟩,
    ⟨some 105, .mv (.t 8), [25], some (104, false)⟩,
    ⟨some 106, .un .not (.t 105), [26, 25], some (104, false)⟩,
    ⟨some 107, .mv (.t 106), [27, 25, 25], some (104, false)⟩,
    ⟨some 108, .fa 5 (.t 1), [28], some (107, true)⟩,
    ⟨some 109, .ld 3 true (.t 108), [29, 28], some (107, true)⟩,
    ⟨some 110, .build [(.val (.int .i64 0)), (.val (.int .i64 0)), (.val (.string ⟨#[]⟩))] [], [28], some (107, true)⟩,
    ⟨some 111, .eqst true [.int, .int, .str] (.t 109) (.t 110), [30, 31, 28], some (107, true)⟩,
    ⟨some 112, .pick (.t 107) (.t 111) (.c (.val (.bool false))), [28, 32, 25], some (104, false)⟩,
    ⟨some 113, .pick (.t 104) (.c (.val (.bool true))) (.t 112), [25, 33], none⟩])
  (.cond (.t 113)
    (.seq (.reg [
      ⟨some 2, .mv (.c (.val (.int .i64 3))), [], none⟩])
    .ret)
    .skip))
  (.seq (.reg [
    ⟨some 2, .mv (.c (.val (.int .i64 0))), [], none⟩])
  .ret))))))))))))
theorem Trydp67 : (Tryd.f67.body.map (prep Tryd.prog 114)) = some Trydc67 := by kernel_rfl
def Trydc81 : ACode :=
  (.seq (.reg [
    ⟨some 2, .mv (.c (.val (.int .i64 0))), [], none⟩,
    ⟨some 3, .mv (.c (.val (.bool false))), [0], none⟩])
  (.seq (.block 0
    (.seq (.reg [
      ⟨some 5, .mv (.t 0), [], none⟩,
      ⟨some 6, .bin .lss (.t 5) (.c (.val (.int .i64 0))), [0], none⟩,
      ⟨some 7, .mv (.t 6), [1], none⟩,
      ⟨some 8, .mv (.t 0), [2], some (7, false)⟩,
      ⟨some 9, .bin .gtr (.t 8) (.c (.val (.int .i64 12))), [3, 2], some (7, false)⟩,
      ⟨some 10, .pick (.t 7) (.c (.val (.bool true))) (.t 9), [2, 4], none⟩,
      ⟨some 4, .mv (.t 10), [5, 2], none⟩])
    (.cond (.t 4)
      (.seq (.reg [
        ⟨some 2, .mv (.c (.val (.int .i64 0))), [], none⟩,
        ⟨some 3, .mv (.c (.val (.bool false))), [0, 0], none⟩])
      .ret)
      (.seq (.reg [
        ⟨some 12, .mv (.t 0), [], none⟩,
        ⟨some 13, .bin .lss (.t 12) (.c (.val (.int .i64 5))), [0], none⟩,
        ⟨some 11, .mv (.t 13), [1], none⟩])
      (.cond (.t 11)
        (.seq (.reg [
          ⟨some 2, .mv (.c (.val (.int .i64 0))), [], none⟩,
          ⟨some 3, .mv (.c (.val (.bool true))), [0, 0], none⟩])
        .ret)
        (.seq (.reg [
          ⟨some 15, .mv (.t 0), [], none⟩,
          ⟨some 16, .bin .eql (.t 15) (.c (.val (.int .i64 12))), [0], none⟩,
          ⟨some 14, .mv (.t 16), [1], none⟩])
        (.cond (.t 14)
          (.seq (.reg [
            ⟨some 2, .mv (.c (.val (.int .i64 1))), [], none⟩,
            ⟨some 3, .mv (.c (.val (.bool true))), [0, 0], none⟩])
          .ret)
          .skip)))))))
  (.seq (.reg [
    ⟨some 2, .mv (.c (.val (.int .i64 2))), [], none⟩,
    ⟨some 3, .mv (.c (.val (.bool true))), [0, 0], none⟩])
  .ret)))
theorem Trydp81 : (Tryd.f81.body.map (prep Tryd.prog 17)) = some Trydc81 := by kernel_rfl
def Trydc82 : ACode :=
  (.seq (.reg [
    ⟨some 1, .box (.t 0), [], none⟩,
    ⟨some 2, .mv (.c (.val (.int .i64 0))), [], none⟩])
  (.seq (.seq (.reg [
    ⟨some 4, .fa 5 (.t 1), [], none⟩,
    ⟨some 5, .ld 3 true (.t 4), [0], none⟩,
    ⟨some 6, .call 89 [(.t 5)], [1], none⟩,
    ⟨some 3, .mv (.t 6), [2, 2, 0, 1, 2], none⟩])
  (.seq (.reg [
    ⟨some 7, .mv (.t 3), [], none⟩,
    ⟨some 8, .bin .neq (.t 7) (.c (.val (.int .i64 0))), [0], none⟩])
  (.cond (.t 8)
    (.seq (.reg [
      ⟨some 9, .mv (.t 3), [], none⟩,
      ⟨some 2, .mv (.t 9), [0, 0], none⟩])
    .ret)
    .skip)))
  (.seq (.seq (.reg [
    ⟨some 10, .fa 0 (.t 1), [], none⟩,
    ⟨some 11, .ld 1 false (.t 10), [0], none⟩,
    ⟨some 12, .bin .eql (.t 11) (.c (.val (.int .i64 4))), [1], none⟩,
    ⟨some 13, .mv (.t 12), [2], none⟩,
    ⟨some 14, .fa 4 (.t 1), [3], some (13, true)⟩,
    ⟨some 15, .ld 1 false (.t 14), [4, 3], some (13, true)⟩,
    ⟨some 16, .fa 5 (.t 1), [3], some (13, true)⟩,
    ⟨some 17, .ld 3 true (.t 16), [6, 3], some (13, true)⟩,
    ⟨some 18, .call 90 [(.t 15), (.t 17)], [5, 7, 3, 3], some (13, true)⟩,
    ⟨some 19, .un .not (.t 18), [8, 3], some (13, true)⟩,
    ⟨some 20, .mv (.t 19), [9, 8, 3], some (13, true)⟩,
    ⟨some 21, .fa 4 (.t 1), [10], some (20, false)⟩,
    ⟨some 22, .ld 1 false (.t 21), [11, 10], some (20, false)⟩,
    ⟨some 23, .bin .eql (.t 22) (.c (.val (.int .i64 1))), [12, 10], some (20, false)⟩,
    ⟨some 24, .mv (.t 23), [13, 10, 10], some (20, false)⟩,
    ⟨some 25, .fa 5 (.t 1), [14], some (24, true)⟩,
    ⟨some 26, .ld 3 true (.t 25), [15, 14], some (24, true)⟩,
    ⟨some 27, .build [(.val (.int .i64 0)), (.val (.int .i64 0)), (.val (.string ⟨#[]⟩))] [], [14], some (24, true)⟩,
    ⟨some 28, .eqst true [.int, .int, .str] (.t 26) (.t 27), [16, 17, 14], some (24, true)⟩,
    ⟨some 29, .pick (.t 24) (.t 28) (.c (.val (.bool false))), [14, 18, 10], some (20, false)⟩,
    ⟨some 30, .pick (.t 20) (.c (.val (.bool true))) (.t 29), [10, 19, 3], some (13, true)⟩,
    ⟨some 31, .pick (.t 13) (.t 30) (.c (.val (.bool false))), [3, 20], none⟩])
  (.cond (.t 31)
    (.seq (.reg [
      ⟨some 2, .mv (.c (.val (.int .i64 9))), [], none⟩])
    .ret)
    .skip))
  (.seq (.reg [
    ⟨some 2, .mv (.c (.val (.int .i64 0))), [], none⟩])
  .ret))))
theorem Trydp82 : (Tryd.f82.body.map (prep Tryd.prog 32)) = some Trydc82 := by kernel_rfl
def Trydc89 : ACode :=
  (.seq (.reg [
    ⟨some 1, .box (.t 0), [], none⟩,
    ⟨some 2, .mv (.c (.val (.int .i64 0))), [], none⟩])
  (.seq (.seq (.reg [
    ⟨some 3, .fa 0 (.t 1), [], none⟩,
    ⟨some 4, .ld 1 false (.t 3), [0], none⟩])
  (.block 0
    (.seq (.seq (.reg [
      ⟨some 6, .bin .eql (.t 4) (.c (.val (.int .i64 0))), [], none⟩,
      ⟨some 5, .mv (.t 6), [0], none⟩])
    (.cond (.t 5)
      .skip
      (.reg [
        ⟨some 7, .bin .eql (.t 4) (.c (.val (.int .i64 1))), [], none⟩,
        ⟨some 5, .mv (.t 7), [0], none⟩])))
    (.cond (.t 5)
      (.seq (.reg [
        ⟨some 8, .fa 2 (.t 1), [], none⟩,
        ⟨some 9, .ld 1 false (.t 8), [0], none⟩,
        ⟨some 10, .bin .neq (.t 9) (.c (.val (.string ⟨#[]⟩))), [1], none⟩])
      (.cond (.t 10)
        (.seq (.reg [
          ⟨some 2, .mv (.c (.val (.int .i64 3))), [], none⟩])
        .ret)
        .skip))
      (.seq (.reg [
        ⟨some 12, .bin .eql (.t 4) (.c (.val (.int .i64 2))), [], none⟩,
        ⟨some 11, .mv (.t 12), [0], none⟩])
      (.cond (.t 11)
        (.seq (.reg [
          ⟨some 13, .fa 1 (.t 1), [], none⟩,
          ⟨some 14, .ld 1 false (.t 13), [0], none⟩,
          ⟨some 15, .bin .neq (.t 14) (.c (.val (.int .i64 0))), [1], none⟩])
        (.cond (.t 15)
          (.seq (.reg [
            ⟨some 2, .mv (.c (.val (.int .i64 3))), [], none⟩])
          .ret)
          .skip))
        (.seq (.reg [
          ⟨some 2, .mv (.c (.val (.int .i64 1))), [], none⟩])
        .ret)))))))
  (.seq (.reg [
    ⟨some 16, .ld 3 true (.t 1), [], none⟩,
    ⟨some 17, .call 92 [(.t 16)], [0], none⟩,
    ⟨some 2, .mv (.t 17), [1, 1, 0, 1], none⟩])
  .ret)))
theorem Trydp89 : (Tryd.f89.body.map (prep Tryd.prog 18)) = some Trydc89 := by kernel_rfl
def Trydc90 : ACode :=
  (.seq (.reg [
    ⟨some 3, .box (.t 1), [], none⟩,
    ⟨some 4, .mv (.c (.val (.bool false))), [], none⟩])
  (.seq (.reg [
    ⟨some 5, .fa 0 (.t 3), [], none⟩,
    ⟨some 6, .ld 1 false (.t 5), [0], none⟩,
    ⟨some 7, .bin .eql (.t 6) (.c (.val (.int .i64 0))), [1], none⟩,
    ⟨some 8, .mv (.t 7), [2], none⟩,
    ⟨some 9, .mv (.t 0), [3], some (8, false)⟩,
    ⟨some 10, .bin .eql (.t 9) (.c (.val (.int .i64 4))), [4, 3], some (8, false)⟩,
    ⟨some 11, .pick (.t 8) (.c (.val (.bool true))) (.t 10), [3, 5], none⟩,
    ⟨some 12, .mv (.t 11), [6, 3], none⟩,
    ⟨some 13, .mv (.t 0), [7], some (12, false)⟩,
    ⟨some 14, .bin .eql (.t 13) (.c (.val (.int .i64 5))), [8, 7], some (12, false)⟩,
    ⟨some 15, .pick (.t 12) (.c (.val (.bool true))) (.t 14), [7, 9], none⟩,
    ⟨some 4, .mv (.t 15), [10, 7, 0, 1, 2, 3, 4, 5, 6, 7, 8, 9, 10], none⟩])
  .ret))
theorem Trydp90 : (Tryd.f90.body.map (prep Tryd.prog 16)) = some Trydc90 := by kernel_rfl
def Trydc92 : ACode :=
  (.seq (.reg [
    ⟨some 1, .box (.t 0), [], none⟩,
    ⟨some 2, .mv (.c (.val (.int .i64 0))), [], none⟩])
  (.seq (.block 0
    (.seq (.reg [
      ⟨some 4, .fa 0 (.t 1), [], none⟩,
      ⟨some 5, .ld 1 false (.t 4), [0], none⟩,
      ⟨some 6, .bin .eql (.t 5) (.c (.val (.int .i64 0))), [1], none⟩,
      ⟨some 7, .mv (.t 6), [2], none⟩,
      ⟨some 8, .fa 1 (.t 1), [3], some (7, true)⟩,
      ⟨some 9, .ld 1 false (.t 8), [4, 3], some (7, true)⟩,
      ⟨some 10, .bin .lss (.t 9) (.c (.val (.int .i64 (-1099511627776)))), [5, 3], some (7, true)⟩,
      ⟨some 11, .mv (.t 10), [6, 3, 3], some (7, true)⟩,
      ⟨some 12, .fa 1 (.t 1), [7], some (11, false)⟩,
      ⟨some 13, .ld 1 false (.t 12), [8, 7], some (11, false)⟩,
      ⟨some 14, .bin .gtr (.t 13) (.c (.val (.int .i64 1099511627776))), [9, 7], some (11, false)⟩,
      ⟨some 15, .pick (.t 11) (.c (.val (.bool true))) (.t 14), [7, 10, 3], some (7, true)⟩,
      ⟨some 16, .pick (.t 7) (.t 15) (.c (.val (.bool false))), [3, 11], none⟩,
      ⟨some 3, .mv (.t 16), [12, 7], none⟩])
    (.cond (.t 3)
      (.seq (.reg [
        ⟨some 2, .mv (.c (.val (.int .i64 2))), [], none⟩])
      .ret)
      (.seq (.reg [
        ⟨some 18, .fa 0 (.t 1), [], none⟩,
        ⟨some 19, .ld 1 false (.t 18), [0], none⟩,
        ⟨some 20, .bin .eql (.t 19) (.c (.val (.int .i64 1))), [1], none⟩,
        ⟨some 21, .mv (.t 20), [2], none⟩,
        ⟨some 22, .fa 1 (.t 1), [3], some (21, true)⟩,
        ⟨some 23, .ld 1 false (.t 22), [4, 3], some (21, true)⟩,
        ⟨some 24, .bin .neq (.t 23) (.c (.val (.int .i64 0))), [5, 3], some (21, true)⟩,
        ⟨some 25, .pick (.t 21) (.t 24) (.c (.val (.bool false))), [3, 6], none⟩,
        ⟨some 26, .mv (.t 25), [7, 3], none⟩,
        ⟨some 27, .fa 1 (.t 1), [8], some (26, true)⟩,
        ⟨some 28, .ld 1 false (.t 27), [9, 8], some (26, true)⟩,
        ⟨some 29, .bin .neq (.t 28) (.c (.val (.int .i64 1))), [10, 8], some (26, true)⟩,
        ⟨some 30, .pick (.t 26) (.t 29) (.c (.val (.bool false))), [8, 11], none⟩,
        ⟨some 17, .mv (.t 30), [12, 8], none⟩])
      (.cond (.t 17)
        (.seq (.reg [
          ⟨some 2, .mv (.c (.val (.int .i64 2))), [], none⟩])
        .ret)
        (.seq (.reg [
          ⟨some 32, .fa 2 (.t 1), [], none⟩,
          ⟨some 33, .ld 1 false (.t 32), [0], none⟩,
          ⟨some 34, .lens (.t 33), [1], none⟩,
          ⟨some 35, .bin .gtr (.t 34) (.c (.val (.int .i64 64))), [2], none⟩,
          ⟨some 31, .mv (.t 35), [3], none⟩])
        (.cond (.t 31)
          (.seq (.reg [
            ⟨some 2, .mv (.c (.val (.int .i64 13))), [], none⟩])
          .ret)
          .skip)))))))
  (.seq (.reg [
    ⟨some 2, .mv (.c (.val (.int .i64 0))), [], none⟩])
  .ret)))
theorem Trydp92 : (Tryd.f92.body.map (prep Tryd.prog 36)) = some Trydc92 := by kernel_rfl
end Go.Am
end

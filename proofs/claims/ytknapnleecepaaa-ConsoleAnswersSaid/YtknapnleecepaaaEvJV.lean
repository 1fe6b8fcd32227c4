/- A part of the proof: symbolic evaluation of the program's functions, proved sound against the model; no condition. -/
import Derived.Test.YtknapnleecepaaaEvJU
namespace Go.Proofs.Ytknapnleecepaaa
open Go Go.RowKit Go.Ev
set_option linter.unusedSimpArgs false
set_option linter.unusedVariables false
set_option maxRecDepth 20000
/-- baseboard/baseboardlaw36.ConsoleAnswers [22, 22, 22, 3] -/
def rc5 : RC :=
  (.seq
   (.region [
     ⟨(some 8), .mov (.c (.bool false)), none, []⟩] false)
   (.seq
    (.seq
     (.region [
       ⟨(some 30), .call 8 [], none, []⟩,
       ⟨(some 31), .not (.t 30), none, [0]⟩] false)
     (.cond (.t 31)
      (.seq
       (.region [
         ⟨(some 8), .mov (.c (.bool false)), none, []⟩] false)
       .ret)
      .skip))
    (.seq
     (.seq
      (.region [
        ⟨(some 32), .mov (.t 1), none, []⟩,
        ⟨(some 33), .len 0 (.t 32), none, [0]⟩,
        ⟨(some 34), .cmp .gtr 0 (.t 33) (.c (.int .i64 300)), none, [1]⟩,
        ⟨(some 35), .mov (.t 34), none, [2]⟩,
        ⟨(some 36), .mov (.t 2), (some (35, false)), [3]⟩,
        ⟨(some 37), .len 0 (.t 36), (some (35, false)), [4, 3]⟩,
        ⟨(some 38), .cmp .gtr 0 (.t 37) (.c (.int .i64 1500)), (some (35, false)), [5, 3]⟩,
        ⟨(some 39), .pick (.t 35) (.c (.bool true)) (.t 38), none, [3, 6]⟩] false)
      (.cond (.t 39)
       (.seq
        (.region [
          ⟨(some 8), .mov (.c (.bool true)), none, []⟩] false)
        .ret)
       .skip))
     (.seq
      (.region [
        ⟨(some 40), .mov (.t 0), none, []⟩,
        ⟨(some 41), .call 14 [(.t 40), (.c (.int .i64 300))], none, [0]⟩,
        ⟨(some 9), .mov (.t 41), none, [1, 1, 0, 1]⟩] false)
      (.seq
       (.region [
         ⟨(some 43), .mov (.t 9), none, []⟩,
         ⟨(some 44), .call 15 [(.t 43), (.c (.int .i64 24))], none, [0]⟩,
         ⟨(some 42), .mov (.t 44), none, [1]⟩,
         ⟨(some 45), .extract 0 (.t 42), none, [2]⟩,
         ⟨(some 46), .extract 1 (.t 42), none, [2]⟩,
         ⟨(some 47), .extract 2 (.t 42), none, [2]⟩,
         ⟨(some 10), .alloc [.nil, .bool false, .nil, .bool false, .bool false, .int .i64 0, .int .i64 0, .int .i64 0, .int .i64 0, .int .i64 0], none, []⟩,
         ⟨(some 11), .alloc [.nil, .bool false, .nil, .bool false, .bool false, .int .i64 0, .int .i64 0, .int .i64 0, .int .i64 0, .int .i64 0], none, []⟩,
         ⟨none, .store 10 (.t 10) (.t 45), none, [6, 3, 1, 0, 1, 2, 3, 6, 7]⟩,
         ⟨none, .store 10 (.t 11) (.t 46), none, [7, 4, 8, 0, 1, 2, 3, 4, 6, 7, 8]⟩,
         ⟨(some 12), .mov (.t 47), none, [5, 9, 0, 1, 2, 3, 4, 5, 6, 7, 8, 9]⟩] false)
       (.seq
        (.seq
         (.region [
           ⟨(some 48), .load 10 true (.t 10), none, []⟩,
           ⟨(some 49), .load 10 true (.t 11), none, []⟩,
           ⟨(some 50), .mov (.t 9), none, []⟩,
           ⟨(some 51), .load 10 true (.t 10), none, []⟩,
           ⟨(some 52), .call 19 [(.t 50), (.t 51)], none, [3, 2]⟩,
           ⟨(some 53), .mov (.t 9), none, []⟩,
           ⟨(some 54), .load 10 true (.t 11), none, []⟩,
           ⟨(some 55), .call 19 [(.t 53), (.t 54)], none, [2, 3, 4, 6, 5]⟩,
           ⟨(some 56), .bsliceO 38 4 [.nil, .bool false, .nil, .bool false, .bool false, .int .i64 0, .int .i64 0, .int .i64 0, .int .i64 0, .int .i64 0] [(0, (.t 48)), (1, (.t 49)), (2, (.t 52)), (3, (.t 55))], none, [5, 6, 2, 3, 7, 4, 1, 0]⟩,
           ⟨(some 57), .len 0 (.t 56), none, [0, 1, 4, 7, 3, 2, 6, 5, 8]⟩,
           ⟨(some 58), .mov (.c (.int .i64 0)), none, []⟩] true)
         (.block 0
          (.loop 0
           (.seq
            (.region [
              ⟨(some 59), .cmp .lss 0 (.t 58) (.t 57), none, []⟩] false)
            (.seq
             (.cond (.t 59)
              .skip
              (.exit 0))
             (.seq
              (.block 1
               (.seq
                (.region [
                  ⟨(some 60), .iaddrS [.nil, .bool false, .nil, .bool false, .bool false, .int .i64 0, .int .i64 0, .int .i64 0, .int .i64 0, .int .i64 0] (.t 56) (.t 58), none, []⟩,
                  ⟨(some 61), .load 10 true (.t 60), none, [0]⟩,
                  ⟨(some 14), .alloc [.nil, .bool false, .nil, .bool false, .bool false, .int .i64 0, .int .i64 0, .int .i64 0, .int .i64 0, .int .i64 0], none, []⟩,
                  ⟨none, .store 10 (.t 14) (.t 61), none, [2, 1, 0, 1, 2]⟩] false)
                (.seq
                 (.region [
                   ⟨(some 62), .mov (.t 1), none, []⟩,
                   ⟨(some 15), .mov (.t 62), none, [0, 0]⟩] false)
                 (.seq
                  (.seq
                   (.region [
                     ⟨(some 63), .mov (.t 12), none, []⟩,
                     ⟨(some 64), .len 0 (.t 63), none, [0]⟩,
                     ⟨(some 65), .cmp .gtr 0 (.t 64) (.c (.int .i64 0)), none, [1]⟩,
                     ⟨(some 66), .mov (.t 65), none, [2]⟩,
                     ⟨(some 67), .mov (.t 9), (some (66, true)), [3]⟩,
                     ⟨(some 68), .call 20 [(.t 67), (.c (.int .i64 6))], (some (66, true)), [4, 3, 3]⟩,
                     ⟨(some 69), .cmp .gtr 0 (.t 68) (.c (.int .i64 0)), (some (66, true)), [5, 3]⟩,
                     ⟨(some 70), .pick (.t 66) (.t 69) (.c (.bool false)), none, [3, 6]⟩] false)
                   (.cond (.t 70)
                    (.seq
                     (.region [
                       ⟨(some 71), .mov (.t 12), none, []⟩,
                       ⟨(some 72), .mov (.t 12), none, []⟩,
                       ⟨(some 73), .len 0 (.t 72), none, [1]⟩,
                       ⟨(some 74), .arith .sub (.t 73) (.c (.int .i64 1)), none, [2]⟩,
                       ⟨(some 75), .mov (.t 9), none, []⟩,
                       ⟨(some 76), .mov (.t 12), none, []⟩,
                       ⟨(some 77), .len 0 (.t 76), none, [5]⟩,
                       ⟨(some 78), .minmax false [(.t 77), (.c (.int .i64 3))], none, [6]⟩,
                       ⟨(some 79), .call 20 [(.t 75), (.t 78)], none, [4, 7]⟩,
                       ⟨(some 80), .arith .sub (.t 74) (.t 79), none, [3, 8]⟩,
                       ⟨(some 81), .iaddrS [.nil] (.t 71) (.t 80), none, [0, 9]⟩,
                       ⟨(some 82), .load 1 false (.t 81), none, [10]⟩,
                       ⟨(some 83), .append 5 1 [.int .u8 0] (.c (.nil)) (.t 82), none, [11, 8]⟩,
                       ⟨(some 15), .mov (.t 83), none, [12, 12, 0, 1, 2, 3, 4, 5, 6, 7, 8, 9, 10, 11, 12]⟩] false)
                     (.seq
                      (.region [
                        ⟨(some 84), .mov (.t 9), none, []⟩,
                        ⟨(some 85), .call 20 [(.t 84), (.c (.int .i64 4))], none, [0]⟩,
                        ⟨(some 86), .cmp .eql 0 (.t 85) (.c (.int .i64 3)), none, [1]⟩] false)
                      (.cond (.t 86)
                       (.region [
                         ⟨(some 87), .mov (.t 15), none, []⟩,
                         ⟨(some 88), .mov (.t 9), none, []⟩,
                         ⟨(some 89), .call 20 [(.t 88), (.c (.int .i64 4))], none, [1]⟩,
                         ⟨(some 90), .mov (.t 9), none, []⟩,
                         ⟨(some 91), .call 20 [(.t 90), (.c (.int .i64 18))], none, [3, 2]⟩,
                         ⟨(some 92), .conv .u8 (.t 91), none, [4]⟩,
                         ⟨(some 93), .iaddrS [.int .u8 0] (.t 87) (.t 89), none, [0, 2, 0, 1, 2, 3, 4, 5]⟩,
                         ⟨none, .store 1 (.t 93) (.t 92), none, [6, 5, 4, 0, 1, 2, 3, 4, 5]⟩] false)
                       .skip)))
                    .skip))
                  (.seq
                   (.region [
                     ⟨(some 95), .load 10 true (.t 14), none, []⟩,
                     ⟨(some 96), .mov (.t 2), none, []⟩,
                     ⟨(some 97), .call 21 [(.t 95), (.t 96)], none, [0, 1]⟩,
                     ⟨(some 94), .mov (.t 97), none, [2]⟩,
                     ⟨(some 98), .extract 0 (.t 94), none, [3]⟩,
                     ⟨(some 99), .extract 1 (.t 94), none, [3]⟩,
                     ⟨(some 16), .alloc [.nil, .bool false, .nil, .bool false, .bool false, .int .i64 0, .int .i64 0, .int .i64 0, .int .i64 0, .int .i64 0], none, []⟩,
                     ⟨none, .store 10 (.t 16) (.t 98), none, [6, 4, 2, 0, 1, 2, 3, 4, 6]⟩,
                     ⟨(some 17), .mov (.t 99), none, [5, 7, 0, 1, 2, 3, 4, 5, 6, 7]⟩] false)
                   (.seq
                    (.region [
                      ⟨(some 101), .load 10 true (.t 14), none, []⟩,
                      ⟨(some 102), .mov (.t 2), none, []⟩,
                      ⟨(some 103), .call 22 [(.t 101), (.t 102)], none, [0, 1]⟩,
                      ⟨(some 100), .mov (.t 103), none, [2]⟩,
                      ⟨(some 104), .extract 0 (.t 100), none, [3]⟩,
                      ⟨(some 105), .extract 1 (.t 100), none, [3]⟩,
                      ⟨(some 18), .alloc [.nil, .bool false, .nil, .bool false, .bool false, .int .i64 0, .int .i64 0, .int .i64 0, .int .i64 0, .int .i64 0], none, []⟩,
                      ⟨none, .store 10 (.t 18) (.t 104), none, [6, 4, 2, 0, 1, 2, 3, 4, 6]⟩,
                      ⟨(some 19), .mov (.t 105), none, [5, 7, 0, 1, 2, 3, 4, 5, 6, 7]⟩] false)
                    (.seq
                     (.region [
                       ⟨(some 107), .load 10 true (.t 14), none, []⟩,
                       ⟨(some 108), .call 23 [(.t 107)], none, [0]⟩,
                       ⟨(some 106), .mov (.t 108), none, [1]⟩,
                       ⟨(some 109), .extract 0 (.t 106), none, [2]⟩,
                       ⟨(some 110), .extract 1 (.t 106), none, [2]⟩,
                       ⟨(some 111), .extract 2 (.t 106), none, [2]⟩,
                       ⟨(some 20), .alloc [.nil, .bool false, .nil, .bool false, .bool false, .int .i64 0, .int .i64 0, .int .i64 0, .int .i64 0, .int .i64 0], none, []⟩,
                       ⟨none, .store 10 (.t 20) (.t 109), none, [6, 3, 1, 0, 1, 2, 3, 6]⟩,
                       ⟨(some 21), .mov (.t 110), none, [4, 7, 0, 1, 2, 3, 4, 6, 7]⟩,
                       ⟨(some 22), .mov (.t 111), none, [5, 8, 0, 1, 2, 3, 4, 5, 6, 7, 8]⟩] false)
                     (.seq
                      (.region [
                        ⟨(some 113), .load 10 true (.t 14), none, []⟩,
                        ⟨(some 114), .call 24 [(.t 113)], none, [0]⟩,
                        ⟨(some 112), .mov (.t 114), none, [1]⟩,
                        ⟨(some 115), .extract 0 (.t 112), none, [2]⟩,
                        ⟨(some 116), .extract 1 (.t 112), none, [2]⟩,
                        ⟨(some 117), .extract 2 (.t 112), none, [2]⟩,
                        ⟨(some 23), .alloc [.nil, .bool false, .nil, .bool false, .bool false, .int .i64 0, .int .i64 0, .int .i64 0, .int .i64 0, .int .i64 0], none, []⟩,
                        ⟨none, .store 10 (.t 23) (.t 115), none, [6, 3, 1, 0, 1, 2, 3, 6]⟩,
                        ⟨(some 24), .mov (.t 116), none, [4, 7, 0, 1, 2, 3, 4, 6, 7]⟩,
                        ⟨(some 25), .mov (.t 117), none, [5, 8, 0, 1, 2, 3, 4, 5, 6, 7, 8]⟩] false)
                      (.seq
                       (.seq
                        (.region [
                          ⟨(some 118), .load 10 true (.t 14), none, []⟩,
                          ⟨(some 119), .call 25 [(.t 118)], none, [0]⟩,
                          ⟨(some 120), .load 10 true (.t 14), none, []⟩,
                          ⟨(some 121), .call 26 [(.t 120)], none, [0, 1, 2]⟩,
                          ⟨(some 122), .cmp .neq 1 (.t 119) (.t 121), none, [2, 0, 3, 1]⟩,
                          ⟨(some 123), .mov (.t 122), none, [1, 0, 2, 3, 4]⟩,
                          ⟨(some 124), .mov (.t 17), (some (123, false)), [4, 3, 2, 0, 1, 5]⟩,
                          ⟨(some 125), .mov (.t 19), (some (123, false)), [4, 3, 2, 0, 1, 5]⟩,
                          ⟨(some 126), .cmp .neq 0 (.t 124) (.t 125), (some (123, false)), [1, 0, 2, 3, 4, 5, 7, 6]⟩,
                          ⟨(some 127), .pick (.t 123) (.c (.bool true)) (.t 126), none, [6, 7, 4, 3, 2, 0, 1, 8, 5]⟩,
                          ⟨(some 128), .mov (.t 127), none, [8, 1, 0, 2, 3, 4, 7, 6, 5, 9]⟩,
                          ⟨(some 129), .mov (.t 22), (some (128, false)), [9, 5, 6, 7, 4, 3, 2, 0, 1, 8, 10]⟩,
                          ⟨(some 130), .mov (.t 25), (some (128, false)), [9, 5, 6, 7, 4, 3, 2, 0, 1, 8, 10]⟩,
                          ⟨(some 131), .cmp .neq 1 (.t 129) (.t 130), (some (128, false)), [8, 1, 0, 2, 3, 4, 7, 6, 5, 9, 10, 12, 11]⟩,
                          ⟨(some 132), .pick (.t 128) (.c (.bool true)) (.t 131), none, [11, 12, 9, 5, 6, 7, 4, 3, 2, 0, 1, 8, 13, 10]⟩,
                          ⟨(some 133), .mov (.t 132), none, [13, 8, 1, 0, 2, 3, 4, 7, 6, 5, 9, 12, 11, 10, 14]⟩,
                          ⟨(some 134), .mov (.t 21), (some (133, false)), [14, 10, 11, 12, 9, 5, 6, 7, 4, 3, 2, 0, 1, 8, 13, 15]⟩,
                          ⟨(some 135), .b2s (.t 134), (some (133, false)), [13, 8, 1, 0, 2, 3, 4, 7, 6, 5, 9, 12, 11, 10, 14, 15, 16]⟩,
                          ⟨(some 136), .mov (.t 24), (some (133, false)), [14, 10, 11, 12, 9, 5, 6, 7, 4, 3, 2, 0, 1, 8, 13, 15]⟩,
                          ⟨(some 137), .b2s (.t 136), (some (133, false)), [13, 8, 1, 0, 2, 3, 4, 7, 6, 5, 9, 12, 11, 10, 14, 15, 18]⟩,
                          ⟨(some 138), .cmp .neq 2 (.t 135) (.t 137), (some (133, false)), [18, 16, 14, 10, 11, 12, 9, 5, 6, 7, 4, 3, 2, 0, 1, 8, 13, 15, 19, 17]⟩,
                          ⟨(some 139), .pick (.t 133) (.c (.bool true)) (.t 138), none, [17, 19, 16, 18, 14, 10, 11, 12, 9, 5, 6, 7, 4, 3, 2, 0, 1, 8, 13, 20, 15]⟩,
                          ⟨(some 140), .mov (.t 139), none, [20, 13, 8, 1, 0, 2, 3, 4, 7, 6, 5, 9, 12, 11, 10, 14, 18, 16, 19, 17, 15, 21]⟩,
                          ⟨(some 141), .load 10 true (.t 16), (some (140, false)), [21, 15, 17, 19, 16, 18, 14, 10, 11, 12, 9, 5, 6, 7, 4, 3, 2, 0, 1, 8, 13, 20, 22]⟩,
                          ⟨(some 142), .load 10 true (.t 18), (some (140, false)), [21, 15, 17, 19, 16, 18, 14, 10, 11, 12, 9, 5, 6, 7, 4, 3, 2, 0, 1, 8, 13, 20, 22]⟩,
                          ⟨(some 143), .call 27 [(.t 141), (.t 142)], (some (140, false)), [20, 13, 8, 1, 0, 2, 3, 4, 7, 6, 5, 9, 12, 11, 10, 14, 18, 16, 19, 17, 15, 21, 22, 24, 23]⟩,
                          ⟨(some 144), .not (.t 143), (some (140, false)), [23, 24, 21, 15, 17, 19, 16, 18, 14, 10, 11, 12, 9, 5, 6, 7, 4, 3, 2, 0, 1, 8, 13, 20, 22, 25]⟩,
                          ⟨(some 145), .pick (.t 140) (.c (.bool true)) (.t 144), none, [25, 24, 23, 21, 15, 17, 19, 16, 18, 14, 10, 11, 12, 9, 5, 6, 7, 4, 3, 2, 0, 1, 8, 13, 20, 26, 22]⟩,
                          ⟨(some 146), .mov (.t 145), none, [22, 26, 20, 13, 8, 1, 0, 2, 3, 4, 7, 6, 5, 9, 12, 11, 10, 14, 18, 16, 19, 17, 15, 21, 23, 24, 25, 27]⟩,
                          ⟨(some 147), .load 10 true (.t 20), (some (146, false)), [27, 25, 24, 23, 21, 15, 17, 19, 16, 18, 14, 10, 11, 12, 9, 5, 6, 7, 4, 3, 2, 0, 1, 8, 13, 20, 26, 22, 28]⟩,
                          ⟨(some 148), .load 10 true (.t 23), (some (146, false)), [27, 25, 24, 23, 21, 15, 17, 19, 16, 18, 14, 10, 11, 12, 9, 5, 6, 7, 4, 3, 2, 0, 1, 8, 13, 20, 26, 22, 28]⟩,
                          ⟨(some 149), .call 27 [(.t 147), (.t 148)], (some (146, false)), [22, 26, 20, 13, 8, 1, 0, 2, 3, 4, 7, 6, 5, 9, 12, 11, 10, 14, 18, 16, 19, 17, 15, 21, 23, 24, 25, 27, 28, 30, 29]⟩,
                          ⟨(some 150), .not (.t 149), (some (146, false)), [29, 30, 27, 25, 24, 23, 21, 15, 17, 19, 16, 18, 14, 10, 11, 12, 9, 5, 6, 7, 4, 3, 2, 0, 1, 8, 13, 20, 26, 22, 28, 31]⟩,
                          ⟨(some 151), .pick (.t 146) (.c (.bool true)) (.t 150), none, [31, 30, 29, 27, 25, 24, 23, 21, 15, 17, 19, 16, 18, 14, 10, 11, 12, 9, 5, 6, 7, 4, 3, 2, 0, 1, 8, 13, 20, 26, 22, 32, 28]⟩] true)
                        (.cond (.t 151)
                         (.seq
                          (.region [
                            ⟨(some 8), .mov (.c (.bool false)), none, []⟩] false)
                          .ret)
                         .skip))
                       (.seq
                        (.ghost 15 (.region [
                          ⟨(some 153), .load 10 true (.t 14), none, []⟩,
                          ⟨(some 154), .mov (.t 15), none, []⟩,
                          ⟨(some 155), .call 18 [(.t 153), (.t 154)], none, [0, 1]⟩,
                          ⟨(some 152), .mov (.t 155), none, [2]⟩,
                          ⟨(some 156), .extract 0 (.t 152), none, [3]⟩,
                          ⟨(some 157), .extract 1 (.t 152), none, [3]⟩,
                          ⟨(some 158), .extract 2 (.t 152), none, [3]⟩,
                          ⟨(some 159), .extract 3 (.t 152), none, [3]⟩,
                          ⟨none, .store 10 (.t 20) (.t 156), none, [4, 2, 0, 1, 2, 3, 4]⟩,
                          ⟨(some 21), .mov (.t 157), none, [5, 8, 0, 1, 2, 3, 4, 5, 8]⟩,
                          ⟨(some 26), .mov (.t 158), none, [6, 9, 0, 1, 2, 3, 4, 5, 6, 8, 9]⟩,
                          ⟨(some 27), .mov (.t 159), none, [7, 10, 0, 1, 2, 3, 4, 5, 6, 7, 8, 9, 10]⟩] false))
                        (.seq
                         (.region [
                           ⟨(some 161), .load 10 true (.t 14), none, []⟩,
                           ⟨(some 162), .mov (.t 15), none, []⟩,
                           ⟨(some 163), .call 28 [(.t 161), (.t 162)], none, [0, 1]⟩,
                           ⟨(some 160), .mov (.t 163), none, [2]⟩,
                           ⟨(some 164), .extract 0 (.t 160), none, [3]⟩,
                           ⟨(some 165), .extract 1 (.t 160), none, [3]⟩,
                           ⟨(some 166), .extract 2 (.t 160), none, [3]⟩,
                           ⟨(some 167), .extract 3 (.t 160), none, [3]⟩,
                           ⟨none, .store 10 (.t 23) (.t 164), none, [4, 2, 0, 1, 2, 3, 4]⟩,
                           ⟨(some 24), .mov (.t 165), none, [5, 8, 0, 1, 2, 3, 4, 5, 8]⟩,
                           ⟨(some 28), .mov (.t 166), none, [6, 9, 0, 1, 2, 3, 4, 5, 6, 8, 9]⟩,
                           ⟨(some 29), .mov (.t 167), none, [7, 10, 0, 1, 2, 3, 4, 5, 6, 7, 8, 9, 10]⟩] false)
                         (.seq
                          (.region [
                            ⟨(some 168), .mov (.t 27), none, []⟩,
                            ⟨(some 169), .mov (.t 29), none, []⟩,
                            ⟨(some 170), .cmp .neq 0 (.t 168) (.t 169), none, [1, 0]⟩,
                            ⟨(some 171), .mov (.t 170), none, [0, 1, 2]⟩,
                            ⟨(some 172), .mov (.t 26), (some (171, false)), [2, 1, 0, 3]⟩,
                            ⟨(some 173), .mov (.t 28), (some (171, false)), [2, 1, 0, 3]⟩,
                            ⟨(some 174), .cmp .neq 1 (.t 172) (.t 173), (some (171, false)), [0, 1, 2, 3, 5, 4]⟩,
                            ⟨(some 175), .pick (.t 171) (.c (.bool true)) (.t 174), none, [4, 5, 2, 1, 0, 6, 3]⟩,
                            ⟨(some 176), .mov (.t 175), none, [6, 0, 1, 2, 5, 4, 3, 7]⟩,
                            ⟨(some 177), .mov (.t 21), (some (176, false)), [7, 3, 4, 5, 2, 1, 0, 6, 8]⟩,
                            ⟨(some 178), .b2s (.t 177), (some (176, false)), [6, 0, 1, 2, 5, 4, 3, 7, 8, 9]⟩,
                            ⟨(some 179), .mov (.t 24), (some (176, false)), [7, 3, 4, 5, 2, 1, 0, 6, 8]⟩,
                            ⟨(some 180), .b2s (.t 179), (some (176, false)), [6, 0, 1, 2, 5, 4, 3, 7, 8, 11]⟩,
                            ⟨(some 181), .cmp .neq 2 (.t 178) (.t 180), (some (176, false)), [11, 9, 7, 3, 4, 5, 2, 1, 0, 6, 8, 12, 10]⟩,
                            ⟨(some 182), .pick (.t 176) (.c (.bool true)) (.t 181), none, [10, 12, 9, 11, 7, 3, 4, 5, 2, 1, 0, 6, 13, 8]⟩,
                            ⟨(some 183), .mov (.t 182), none, [13, 6, 0, 1, 2, 5, 4, 3, 7, 11, 9, 12, 10, 8, 14]⟩,
                            ⟨(some 184), .load 10 true (.t 20), (some (183, false)), [14, 8, 10, 12, 9, 11, 7, 3, 4, 5, 2, 1, 0, 6, 13, 15]⟩,
                            ⟨(some 185), .load 10 true (.t 23), (some (183, false)), [14, 8, 10, 12, 9, 11, 7, 3, 4, 5, 2, 1, 0, 6, 13, 15]⟩,
                            ⟨(some 186), .call 27 [(.t 184), (.t 185)], (some (183, false)), [13, 6, 0, 1, 2, 5, 4, 3, 7, 11, 9, 12, 10, 8, 14, 15, 17, 16]⟩,
                            ⟨(some 187), .not (.t 186), (some (183, false)), [16, 17, 14, 8, 10, 12, 9, 11, 7, 3, 4, 5, 2, 1, 0, 6, 13, 15, 18]⟩,
                            ⟨(some 188), .pick (.t 183) (.c (.bool true)) (.t 187), none, [18, 17, 16, 14, 8, 10, 12, 9, 11, 7, 3, 4, 5, 2, 1, 0, 6, 13, 19, 15]⟩,
                            ⟨(some 189), .mov (.t 188), none, [15, 19, 13, 6, 0, 1, 2, 5, 4, 3, 7, 11, 9, 12, 10, 8, 14, 16, 17, 18, 20]⟩,
                            ⟨(some 190), .load 10 true (.t 14), (some (189, false)), [20, 18, 17, 16, 14, 8, 10, 12, 9, 11, 7, 3, 4, 5, 2, 1, 0, 6, 13, 19, 15, 21]⟩,
                            ⟨(some 191), .call 29 [(.t 190)], (some (189, false)), [15, 19, 13, 6, 0, 1, 2, 5, 4, 3, 7, 11, 9, 12, 10, 8, 14, 16, 17, 18, 20, 21, 22]⟩,
                            ⟨(some 192), .load 10 true (.t 14), (some (189, false)), [20, 18, 17, 16, 14, 8, 10, 12, 9, 11, 7, 3, 4, 5, 2, 1, 0, 6, 13, 19, 15, 21]⟩,
                            ⟨(some 193), .call 30 [(.t 192)], (some (189, false)), [22, 15, 19, 13, 6, 0, 1, 2, 5, 4, 3, 7, 11, 9, 12, 10, 8, 14, 16, 17, 18, 20, 21, 23, 24]⟩,
                            ⟨(some 194), .call 27 [(.t 191), (.t 193)], (some (189, false)), [24, 22, 20, 18, 17, 16, 14, 8, 10, 12, 9, 11, 7, 3, 4, 5, 2, 1, 0, 6, 13, 19, 15, 21, 25, 23]⟩,
                            ⟨(some 195), .not (.t 194), (some (189, false)), [23, 25, 15, 19, 13, 6, 0, 1, 2, 5, 4, 3, 7, 11, 9, 12, 10, 8, 14, 16, 17, 18, 20, 22, 24, 21, 26]⟩,
                            ⟨(some 196), .pick (.t 189) (.c (.bool true)) (.t 195), none, [26, 24, 22, 25, 23, 20, 18, 17, 16, 14, 8, 10, 12, 9, 11, 7, 3, 4, 5, 2, 1, 0, 6, 13, 19, 15, 27, 21]⟩,
                            ⟨(some 197), .mov (.t 196), none, [21, 27, 15, 19, 13, 6, 0, 1, 2, 5, 4, 3, 7, 11, 9, 12, 10, 8, 14, 16, 17, 18, 20, 23, 25, 22, 24, 26, 28]⟩,
                            ⟨(some 198), .load 10 true (.t 14), (some (197, false)), [28, 26, 24, 22, 25, 23, 20, 18, 17, 16, 14, 8, 10, 12, 9, 11, 7, 3, 4, 5, 2, 1, 0, 6, 13, 19, 15, 27, 21, 29]⟩,
                            ⟨(some 199), .mov (.t 3), (some (197, false)), [28, 26, 24, 22, 25, 23, 20, 18, 17, 16, 14, 8, 10, 12, 9, 11, 7, 3, 4, 5, 2, 1, 0, 6, 13, 19, 15, 27, 21, 29]⟩,
                            ⟨(some 200), .call 16 [(.t 198), (.t 199)], (some (197, false)), [21, 27, 15, 19, 13, 6, 0, 1, 2, 5, 4, 3, 7, 11, 9, 12, 10, 8, 14, 16, 17, 18, 20, 23, 25, 22, 24, 26, 28, 29, 31, 30]⟩,
                            ⟨(some 201), .load 10 true (.t 14), (some (197, false)), [28, 26, 24, 22, 25, 23, 20, 18, 17, 16, 14, 8, 10, 12, 9, 11, 7, 3, 4, 5, 2, 1, 0, 6, 13, 19, 15, 27, 21, 29]⟩,
                            ⟨(some 202), .mov (.t 3), (some (197, false)), [28, 26, 24, 22, 25, 23, 20, 18, 17, 16, 14, 8, 10, 12, 9, 11, 7, 3, 4, 5, 2, 1, 0, 6, 13, 19, 15, 27, 21, 29]⟩,
                            ⟨(some 203), .call 31 [(.t 201), (.t 202)], (some (197, false)), [30, 31, 21, 27, 15, 19, 13, 6, 0, 1, 2, 5, 4, 3, 7, 11, 9, 12, 10, 8, 14, 16, 17, 18, 20, 23, 25, 22, 24, 26, 28, 29, 32, 34, 33]⟩,
                            ⟨(some 204), .call 27 [(.t 200), (.t 203)], (some (197, false)), [33, 34, 30, 31, 28, 26, 24, 22, 25, 23, 20, 18, 17, 16, 14, 8, 10, 12, 9, 11, 7, 3, 4, 5, 2, 1, 0, 6, 13, 19, 15, 27, 21, 29, 35, 32]⟩,
                            ⟨(some 205), .not (.t 204), (some (197, false)), [32, 35, 21, 27, 15, 19, 13, 6, 0, 1, 2, 5, 4, 3, 7, 11, 9, 12, 10, 8, 14, 16, 17, 18, 20, 23, 25, 22, 24, 26, 28, 31, 30, 34, 33, 29, 36]⟩,
                            ⟨(some 206), .pick (.t 197) (.c (.bool true)) (.t 205), none, [36, 33, 34, 30, 31, 35, 32, 28, 26, 24, 22, 25, 23, 20, 18, 17, 16, 14, 8, 10, 12, 9, 11, 7, 3, 4, 5, 2, 1, 0, 6, 13, 19, 15, 27, 21, 37, 29]⟩] true)
                          (.cond (.t 206)
                           (.seq
                            (.region [
                              ⟨(some 8), .mov (.c (.bool false)), none, []⟩] false)
                            .ret)
                           .skip)))))))))))))
              (.region [
                ⟨(some 207), .arith .add (.t 58) (.c (.int .i64 1)), none, []⟩,
                ⟨(some 58), .mov (.t 207), none, [0]⟩] false)))))))
        (.seq
         (.region [
           ⟨(some 8), .mov (.c (.bool true)), none, []⟩] false)
         .ret)))))))
def rv5 : List RV := [.t 8]
theorem rc5_ok : comp Try.prog Try.f5.ntmps (Try.f5.body.getD .skip) = some (erase rc5) := by kernel_rfl
theorem rv5_ok : compRes Try.prog Try.f5.results.toList = some rv5 := by kernel_rfl
def pk4 (i : Nat) (a b c d : Ln) : Ln := if i = 0 then a else if i = 1 then b else if i = 2 then c else d
theorem getE_ln4 (a b c d : Ln) (i : Nat) (h : decide ((i : Int) < 4) = true) : getE [.nil, .bool false, .nil, .bool false, .bool false, .int .i64 0, .int .i64 0, .int .i64 0, .int .i64 0, .int .i64 0]
    [[.lst [.int .u8 0] (u8s a.w), .bool a.wi, .lst [.int .u8 0] (u8s a.s), .bool a.sb, .bool a.bu, .int .i64 a.sq, .int .i64 a.rc, .int .i64 a.ro, .int .i64 a.ak, .int .i64 a.ct], [.lst [.int .u8 0] (u8s b.w), .bool b.wi, .lst [.int .u8 0] (u8s b.s), .bool b.sb, .bool b.bu, .int .i64 b.sq, .int .i64 b.rc, .int .i64 b.ro, .int .i64 b.ak, .int .i64 b.ct], [.lst [.int .u8 0] (u8s c.w), .bool c.wi, .lst [.int .u8 0] (u8s c.s), .bool c.sb, .bool c.bu, .int .i64 c.sq, .int .i64 c.rc, .int .i64 c.ro, .int .i64 c.ak, .int .i64 c.ct], [.lst [.int .u8 0] (u8s d.w), .bool d.wi, .lst [.int .u8 0] (u8s d.s), .bool d.sb, .bool d.bu, .int .i64 d.sq, .int .i64 d.rc, .int .i64 d.ro, .int .i64 d.ak, .int .i64 d.ct]] i = [.lst [.int .u8 0] (u8s (pk4 i a b c d).w), .bool (pk4 i a b c d).wi, .lst [.int .u8 0] (u8s (pk4 i a b c d).s), .bool (pk4 i a b c d).sb, .bool (pk4 i a b c d).bu, .int .i64 (pk4 i a b c d).sq, .int .i64 (pk4 i a b c d).rc, .int .i64 (pk4 i a b c d).ro, .int .i64 (pk4 i a b c d).ak, .int .i64 (pk4 i a b c d).ct] := by
  have h := of_decide_eq_true h
  have : i = 0 ∨ i = 1 ∨ i = 2 ∨ i = 3 := by omega
  rcases this with rfl | rfl | rfl | rfl <;> rfl
/-- A line of bounded size. -/
def OkX (l : Ln) : Prop := Bd l ∧ Okb l.w ∧ Okb l.s
theorem OkX.pk {a b c d : Ln} (ha : OkX a) (hb : OkX b) (hc : OkX c) (hd : OkX d) (i : Nat) : OkX (pk4 i a b c d) := by
  unfold pk4
  split
  · exact ha
  · split
    · exact hb
    · split
      · exact hc
      · exact hd
theorem OkL.X {l : Ln} (h : OkL l) : OkX l := ⟨h.bd, h.w, h.s⟩
theorem wi_ix {W : List (List Int)} {L : List Int} {t : Int} (hL : Okb L) (h1 : W.length ≤ 256) (h2 : 0 < W.length) : 0 ≤ IntKind.i64.wrap (IntKind.i64.wrap ((W.length : Int) - 1) - cnV L t (min (W.length : Int) 3)) ∧ IntKind.i64.wrap (IntKind.i64.wrap ((W.length : Int) - 1) - cnV L t (min (W.length : Int) 3)) < W.length := by
  have v := cn_bd hL (a := t) (n := min (W.length : Int) 3) (by omega)
  rw [wr_in ((W.length : Int) - 1) (by omega) (by omega), wr_in _ (by omega) (by omega)]
  omega
theorem getE_wi {W : List (List Int)} {L : List Int} {t : Int} (hL : Okb L) (h1 : W.length ≤ 256) (h2 : decide (0 < (W.length : Int)) = true) :
    getE [.nil] (wrs W) (IntKind.i64.wrap (IntKind.i64.wrap ((W.length : Int) - 1) - cnV L t (min (W.length : Int) 3))).toNat = [.lst [.int .u8 0] (u8s (W.getD (IntKind.i64.wrap (IntKind.i64.wrap ((W.length : Int) - 1) - cnV L t (min (W.length : Int) 3))).toNat []))] := by
  have h2 := of_decide_eq_true h2
  have := wi_ix (W := W) (L := L) (t := t) hL h1 (by omega)
  exact getE_wr' W _ (by omega)
theorem and_t1 {a b : Bool} (h : (a && b) = true) : a = true := by cases a <;> simp_all
theorem cn_0 {L : List Int} (h : Okb L) (a : Int) : 0 ≤ cnV L a 4 := (cn_bd h (by omega)).1
theorem cn_lt {L : List Int} (h : Okb L) (a : Int) {n : Nat} (h4 : 4 ≤ n) : cnV L a 4 < (n : Int) := by have := cn_bd h (a := a) (n := 4) (by omega); omega
theorem cn_ix {L : List Int} (h : Okb L) (a : Int) {n : Nat} (h4 : 4 ≤ n) : (cnV L a 4).toNat < n := by have := cn_bd h (a := a) (n := 4) (by omega); omega
theorem okb_setw {p : List Int} (h : Okb p) (k : Nat) (v : Int) : Okb (p.set k (IntKind.u8.wrap v)) := fun x hx => (List.mem_or_eq_of_mem_set hx).elim (h x) fun e => by rw [e, IntKind.wrap_u8]; omega
theorem OkW.at {W : List (List Int)} (h : OkW W) {i : Nat} (hi : i < W.length) : OkQ (W.getD i []) := by
  refine h _ ?_
  rw [List.getD_eq_getElem?_getD, List.getElem?_eq_getElem hi]; exact List.getElem_mem hi
theorem cond_nn {c : Bool} {a b : Int} (ha : 0 ≤ a) (hb : 0 ≤ b) : 0 ≤ (bif c then a else b) := by cases c <;> assumption
structure K5a (raw data : List Int) (m : Int) (L : List Int) where
  i : Nat
  a : Ln
  b : Ln
  c : Ln
  d : Ln
  W : List (List Int)
  t : Int
  hi : i ≤ 4
  ha : OkX a
  hb : OkX b
  hc : OkX c
  hd : OkX d
  hW : OkW W
  hl : W.length ≤ 256
  ht : 0 ≤ t
def S5a (raw data : List Int) (m : Int) (L : List Int) (p : K5a raw data m L) : SL := ⟨[(1, .lst [.int .u8 0] (u8s raw)), (2, .lst [.int .u8 0] (u8s data)), (3, .int .i64 m), (9, .ptr 2688 0), (12, .lst [.nil] (wrs p.W)), (56, .lst [.nil, .bool false, .nil, .bool false, .bool false, .int .i64 0, .int .i64 0, .int .i64 0, .int .i64 0, .int .i64 0] [[.lst [.int .u8 0] (u8s p.a.w), .bool p.a.wi, .lst [.int .u8 0] (u8s p.a.s), .bool p.a.sb, .bool p.a.bu, .int .i64 p.a.sq, .int .i64 p.a.rc, .int .i64 p.a.ro, .int .i64 p.a.ak, .int .i64 p.a.ct], [.lst [.int .u8 0] (u8s p.b.w), .bool p.b.wi, .lst [.int .u8 0] (u8s p.b.s), .bool p.b.sb, .bool p.b.bu, .int .i64 p.b.sq, .int .i64 p.b.rc, .int .i64 p.b.ro, .int .i64 p.b.ak, .int .i64 p.b.ct], [.lst [.int .u8 0] (u8s p.c.w), .bool p.c.wi, .lst [.int .u8 0] (u8s p.c.s), .bool p.c.sb, .bool p.c.bu, .int .i64 p.c.sq, .int .i64 p.c.rc, .int .i64 p.c.ro, .int .i64 p.c.ak, .int .i64 p.c.ct], [.lst [.int .u8 0] (u8s p.d.w), .bool p.d.wi, .lst [.int .u8 0] (u8s p.d.s), .bool p.d.sb, .bool p.d.bu, .int .i64 p.d.sq, .int .i64 p.d.rc, .int .i64 p.d.ro, .int .i64 p.d.ak, .int .i64 p.d.ct]]), (57, .int .i64 4), (58, .int .i64 p.i)], [(2688, .cells [.lst [.int .u8 0] (u8s L), .int .i64 p.t])]⟩
abbrev L5a (raw data : List Int) (m : Int) (L : List Int) : LI := ⟨K5a raw data m L, S5a raw data m L, fun p => 4 - p.i, fun p q => True⟩
theorem L5aS (raw data : List Int) (m : Int) (L : List Int) : (L5a raw data m L).S = S5a raw data m L := rfl
theorem L5aM (raw data : List Int) (m : Int) (L : List Int) (p : K5a raw data m L) : (L5a raw data m L).μ p = 4 - p.i := rfl
theorem L5aR (raw data : List Int) (m : Int) (L : List Int) (p q : K5a raw data m L) : (L5a raw data m L).R p q = (True) := rfl
def I5 (raw data : List Int) (m : Int) (L : List Int) : Nat → LI := fun n => L5a raw data m L
theorem I5_0 (raw data : List Int) (m : Int) (L : List Int) : I5 raw data m L 0 = L5a raw data m L := rfl
end Go.Proofs.Ytknapnleecepaaa

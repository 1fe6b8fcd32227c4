/- A part of the proof: symbolic evaluation of the program's functions, proved sound against the model; no condition. -/
import Derived.Test.YtknapnleecepaaaEvJP
namespace Go.Proofs.Ytknapnleecepaaa
open Go Go.RowKit Go.Ev
set_option linter.unusedSimpArgs false
set_option linter.unusedVariables false
set_option maxRecDepth 20000
/-- baseboard/baseboardlaw36.ConsoleRooms [22, 3] -/
def rc4 : RC :=
  (.seq
   (.region [
     ⟨(some 4), .mov (.c (.bool false)), none, []⟩] false)
   (.seq
    (.seq
     (.region [
       ⟨(some 21), .call 8 [], none, []⟩,
       ⟨(some 22), .not (.t 21), none, [0]⟩] false)
     (.cond (.t 22)
      (.seq
       (.region [
         ⟨(some 4), .mov (.c (.bool false)), none, []⟩] false)
       .ret)
      .skip))
    (.seq
     (.region [
       ⟨(some 23), .mov (.t 0), none, []⟩,
       ⟨(some 24), .call 14 [(.t 23), (.c (.int .i64 300))], none, [0]⟩,
       ⟨(some 5), .mov (.t 24), none, [1, 1, 0, 1]⟩] false)
     (.seq
      (.region [
        ⟨(some 26), .mov (.t 5), none, []⟩,
        ⟨(some 27), .call 15 [(.t 26), (.c (.int .i64 20))], none, [0]⟩,
        ⟨(some 25), .mov (.t 27), none, [1]⟩,
        ⟨(some 28), .extract 0 (.t 25), none, [2]⟩,
        ⟨(some 29), .extract 1 (.t 25), none, [2]⟩,
        ⟨(some 30), .extract 2 (.t 25), none, [2]⟩,
        ⟨(some 6), .alloc [.nil, .bool false, .nil, .bool false, .bool false, .int .i64 0, .int .i64 0, .int .i64 0, .int .i64 0, .int .i64 0], none, []⟩,
        ⟨(some 7), .alloc [.nil, .bool false, .nil, .bool false, .bool false, .int .i64 0, .int .i64 0, .int .i64 0, .int .i64 0, .int .i64 0], none, []⟩,
        ⟨none, .store 10 (.t 6) (.t 28), none, [6, 3, 1, 0, 1, 2, 3, 6, 7]⟩,
        ⟨none, .store 10 (.t 7) (.t 29), none, [7, 4, 8, 0, 1, 2, 3, 4, 6, 7, 8]⟩,
        ⟨(some 8), .mov (.t 30), none, [5, 9, 0, 1, 2, 3, 4, 5, 6, 7, 8, 9]⟩] false)
      (.seq
       (.seq
        (.region [
          ⟨(some 31), .load 10 true (.t 6), none, []⟩,
          ⟨(some 32), .load 10 true (.t 7), none, []⟩,
          ⟨(some 33), .bsliceO 38 2 [.nil, .bool false, .nil, .bool false, .bool false, .int .i64 0, .int .i64 0, .int .i64 0, .int .i64 0, .int .i64 0] [(0, (.t 31)), (1, (.t 32))], none, [0, 1]⟩,
          ⟨(some 34), .len 0 (.t 33), none, [2]⟩,
          ⟨(some 35), .mov (.c (.int .i64 0)), none, []⟩] false)
        (.block 0
         (.loop 0
          (.seq
           (.region [
             ⟨(some 36), .cmp .lss 0 (.t 35) (.t 34), none, []⟩] false)
           (.seq
            (.cond (.t 36)
             .skip
             (.exit 0))
            (.seq
             (.block 1
              (.seq
               (.region [
                 ⟨(some 37), .iaddrS [.nil, .bool false, .nil, .bool false, .bool false, .int .i64 0, .int .i64 0, .int .i64 0, .int .i64 0, .int .i64 0] (.t 33) (.t 35), none, []⟩,
                 ⟨(some 38), .load 10 true (.t 37), none, [0]⟩,
                 ⟨(some 10), .alloc [.nil, .bool false, .nil, .bool false, .bool false, .int .i64 0, .int .i64 0, .int .i64 0, .int .i64 0, .int .i64 0], none, []⟩,
                 ⟨none, .store 10 (.t 10) (.t 38), none, [2, 1, 0, 1, 2]⟩] false)
               (.seq
                (.region [
                  ⟨(some 39), .load 10 true (.t 10), none, []⟩,
                  ⟨(some 40), .mov (.t 1), none, []⟩,
                  ⟨(some 41), .call 16 [(.t 39), (.t 40)], none, [0, 1]⟩,
                  ⟨(some 11), .alloc [.nil, .bool false, .nil, .bool false, .bool false, .int .i64 0, .int .i64 0, .int .i64 0, .int .i64 0, .int .i64 0], none, []⟩,
                  ⟨none, .store 10 (.t 11) (.t 41), none, [3, 2, 2, 0, 1, 2, 3]⟩] false)
                (.seq
                 (.seq
                  (.region [
                    ⟨(some 42), .faddr 7 (.t 11), none, []⟩,
                    ⟨(some 43), .load 1 false (.t 42), none, [0]⟩,
                    ⟨(some 44), .faddr 7 (.t 10), none, []⟩,
                    ⟨(some 45), .load 1 false (.t 44), none, [2]⟩,
                    ⟨(some 46), .cmp .lss 0 (.t 43) (.t 45), none, [1, 3]⟩,
                    ⟨(some 47), .mov (.t 46), none, [4]⟩,
                    ⟨(some 48), .faddr 7 (.t 11), (some (47, false)), [5]⟩,
                    ⟨(some 49), .load 1 false (.t 48), (some (47, false)), [6, 5]⟩,
                    ⟨(some 50), .cmp .gtr 0 (.t 49) (.c (.int .i64 1024)), (some (47, false)), [7, 5]⟩,
                    ⟨(some 51), .pick (.t 47) (.c (.bool true)) (.t 50), none, [5, 8]⟩,
                    ⟨(some 52), .mov (.t 51), none, [9, 5]⟩,
                    ⟨(some 53), .mov (.t 1), (some (52, false)), [10]⟩,
                    ⟨(some 54), .cmp .leq 0 (.t 53) (.c (.int .i64 0)), (some (52, false)), [11, 10]⟩,
                    ⟨(some 55), .mov (.t 54), (some (52, false)), [12, 10, 10]⟩,
                    ⟨(some 56), .faddr 7 (.t 11), (some (55, true)), [13]⟩,
                    ⟨(some 57), .load 1 false (.t 56), (some (55, true)), [14, 13]⟩,
                    ⟨(some 58), .faddr 7 (.t 10), (some (55, true)), [13]⟩,
                    ⟨(some 59), .load 1 false (.t 58), (some (55, true)), [16, 13]⟩,
                    ⟨(some 60), .cmp .neq 0 (.t 57) (.t 59), (some (55, true)), [15, 17, 13]⟩,
                    ⟨(some 61), .pick (.t 55) (.t 60) (.c (.bool false)), (some (52, false)), [13, 18, 10]⟩,
                    ⟨(some 62), .pick (.t 52) (.c (.bool true)) (.t 61), none, [10, 19]⟩,
                    ⟨(some 63), .mov (.t 62), none, [20, 13]⟩,
                    ⟨(some 64), .mov (.t 1), (some (63, false)), [21]⟩,
                    ⟨(some 65), .cmp .gtr 0 (.t 64) (.c (.int .i64 0)), (some (63, false)), [22, 21]⟩,
                    ⟨(some 66), .mov (.t 65), (some (63, false)), [23, 21, 21]⟩,
                    ⟨(some 67), .mov (.t 1), (some (66, true)), [24]⟩,
                    ⟨(some 68), .faddr 7 (.t 10), (some (66, true)), [24]⟩,
                    ⟨(some 69), .load 1 false (.t 68), (some (66, true)), [26, 24]⟩,
                    ⟨(some 70), .arith .sub (.c (.int .i64 1024)) (.t 69), (some (66, true)), [27, 24]⟩,
                    ⟨(some 71), .cmp .leq 0 (.t 67) (.t 70), (some (66, true)), [25, 28, 24]⟩,
                    ⟨(some 72), .pick (.t 66) (.t 71) (.c (.bool false)), (some (63, false)), [24, 29, 21]⟩,
                    ⟨(some 73), .mov (.t 72), (some (63, false)), [30, 24, 21]⟩,
                    ⟨(some 74), .faddr 7 (.t 11), (some (73, true)), [31]⟩,
                    ⟨(some 75), .load 1 false (.t 74), (some (73, true)), [32, 31]⟩,
                    ⟨(some 76), .faddr 7 (.t 10), (some (73, true)), [31]⟩,
                    ⟨(some 77), .load 1 false (.t 76), (some (73, true)), [34, 31]⟩,
                    ⟨(some 78), .mov (.t 1), (some (73, true)), [31]⟩,
                    ⟨(some 79), .arith .add (.t 77) (.t 78), (some (73, true)), [35, 36, 31]⟩,
                    ⟨(some 80), .cmp .neq 0 (.t 75) (.t 79), (some (73, true)), [33, 37, 31]⟩,
                    ⟨(some 81), .pick (.t 73) (.t 80) (.c (.bool false)), (some (63, false)), [31, 38, 21]⟩,
                    ⟨(some 82), .pick (.t 63) (.c (.bool true)) (.t 81), none, [21, 39]⟩] false)
                  (.cond (.t 82)
                   (.seq
                    (.region [
                      ⟨(some 4), .mov (.c (.bool false)), none, []⟩] false)
                    .ret)
                   .skip))
                 (.seq
                  (.region [
                    ⟨(some 84), .faddr 6 (.t 10), none, []⟩,
                    ⟨(some 85), .load 1 false (.t 84), none, [0]⟩,
                    ⟨(some 86), .arith .rem (.t 85) (.c (.int .i64 15)), none, [0, 1]⟩,
                    ⟨(some 87), .arith .add (.t 86) (.c (.int .i64 1)), none, [1, 0, 2]⟩,
                    ⟨(some 88), .mov (.t 5), none, []⟩,
                    ⟨(some 89), .call 17 [(.t 88), (.c (.int .i64 60))], none, [4]⟩,
                    ⟨(some 90), .build [.int .i64 0, .int .i64 0, .int .i64 0, .bool false, .nil] [(0, 1, (.t 87)), (4, 1, (.t 89))], none, [4, 2, 0, 1, 5, 3]⟩,
                    ⟨(some 91), .call 9 [(.t 90)], none, [3, 1, 0, 2, 4, 5, 6]⟩,
                    ⟨(some 83), .mov (.t 91), none, [6, 5, 4, 2, 0, 1, 3, 7]⟩,
                    ⟨(some 92), .extract 0 (.t 83), none, [7, 3, 1, 0, 2, 4, 5, 6, 8]⟩,
                    ⟨(some 93), .extract 1 (.t 83), none, [7, 3, 1, 0, 2, 4, 5, 6, 8]⟩,
                    ⟨(some 12), .mov (.t 92), none, [8, 6, 5, 4, 3, 2, 1, 0, 7, 9]⟩,
                    ⟨(some 13), .mov (.t 93), none, [9, 8, 7, 6, 5, 4, 3, 2, 1, 0, 11, 10]⟩] true)
                  (.seq
                   (.region [
                     ⟨(some 95), .load 10 true (.t 10), none, []⟩,
                     ⟨(some 96), .mov (.t 12), none, []⟩,
                     ⟨(some 97), .call 18 [(.t 95), (.t 96)], none, [0, 1]⟩,
                     ⟨(some 94), .mov (.t 97), none, [2]⟩,
                     ⟨(some 98), .extract 0 (.t 94), none, [3]⟩,
                     ⟨(some 99), .extract 1 (.t 94), none, [3]⟩,
                     ⟨(some 100), .extract 2 (.t 94), none, [3]⟩,
                     ⟨(some 101), .extract 3 (.t 94), none, [3]⟩,
                     ⟨(some 14), .alloc [.nil, .bool false, .nil, .bool false, .bool false, .int .i64 0, .int .i64 0, .int .i64 0, .int .i64 0, .int .i64 0], none, []⟩,
                     ⟨none, .store 10 (.t 14) (.t 98), none, [8, 4, 2, 0, 1, 2, 3, 4, 8]⟩,
                     ⟨(some 15), .mov (.t 99), none, [5, 9, 0, 1, 2, 3, 4, 5, 8, 9]⟩,
                     ⟨(some 16), .mov (.t 100), none, [6, 10, 0, 1, 2, 3, 4, 5, 6, 8, 9, 10]⟩,
                     ⟨(some 17), .mov (.t 101), none, [7, 11, 0, 1, 2, 3, 4, 5, 6, 7, 8, 9, 10, 11]⟩] false)
                   (.seq
                    (.seq
                     (.region [
                       ⟨(some 102), .mov (.t 13), none, []⟩,
                       ⟨(some 103), .cmp .neq 0 (.t 102) (.c (.int .i64 0)), none, [0]⟩,
                       ⟨(some 104), .mov (.t 103), none, [1]⟩,
                       ⟨(some 105), .mov (.t 17), (some (104, false)), [2]⟩,
                       ⟨(some 106), .cmp .neq 0 (.t 105) (.c (.int .i64 0)), (some (104, false)), [3, 2]⟩,
                       ⟨(some 107), .pick (.t 104) (.c (.bool true)) (.t 106), none, [2, 4]⟩,
                       ⟨(some 108), .mov (.t 107), none, [5, 2]⟩,
                       ⟨(some 109), .mov (.t 15), (some (108, false)), [6]⟩,
                       ⟨(some 110), .len 0 (.t 109), (some (108, false)), [7, 6]⟩,
                       ⟨(some 111), .faddr 7 (.t 10), (some (108, false)), [6]⟩,
                       ⟨(some 112), .load 1 false (.t 111), (some (108, false)), [9, 6]⟩,
                       ⟨(some 113), .cmp .gtr 0 (.t 110) (.t 112), (some (108, false)), [8, 10, 6]⟩,
                       ⟨(some 114), .pick (.t 108) (.c (.bool true)) (.t 113), none, [6, 11]⟩,
                       ⟨(some 115), .mov (.t 114), none, [12, 6]⟩,
                       ⟨(some 116), .faddr 7 (.t 14), (some (115, false)), [13]⟩,
                       ⟨(some 117), .load 1 false (.t 116), (some (115, false)), [14, 13]⟩,
                       ⟨(some 118), .faddr 7 (.t 10), (some (115, false)), [13]⟩,
                       ⟨(some 119), .load 1 false (.t 118), (some (115, false)), [16, 13]⟩,
                       ⟨(some 120), .mov (.t 15), (some (115, false)), [13]⟩,
                       ⟨(some 121), .len 0 (.t 120), (some (115, false)), [18, 13]⟩,
                       ⟨(some 122), .arith .sub (.t 119) (.t 121), (some (115, false)), [17, 19, 13]⟩,
                       ⟨(some 123), .cmp .neq 0 (.t 117) (.t 122), (some (115, false)), [15, 20, 13]⟩,
                       ⟨(some 124), .pick (.t 115) (.c (.bool true)) (.t 123), none, [13, 21]⟩,
                       ⟨(some 125), .mov (.t 124), none, [22, 13]⟩,
                       ⟨(some 126), .faddr 9 (.t 14), (some (125, false)), [23]⟩,
                       ⟨(some 127), .load 1 false (.t 126), (some (125, false)), [24, 23]⟩,
                       ⟨(some 128), .mov (.t 15), (some (125, false)), [23]⟩,
                       ⟨(some 129), .len 0 (.t 128), (some (125, false)), [26, 23]⟩,
                       ⟨(some 130), .cmp .neq 0 (.t 127) (.t 129), (some (125, false)), [25, 27, 23]⟩,
                       ⟨(some 131), .pick (.t 125) (.c (.bool true)) (.t 130), none, [23, 28]⟩,
                       ⟨(some 132), .mov (.t 131), none, [29, 23]⟩,
                       ⟨(some 133), .faddr 8 (.t 14), (some (132, false)), [30]⟩,
                       ⟨(some 134), .load 1 false (.t 133), (some (132, false)), [31, 30]⟩,
                       ⟨(some 135), .faddr 6 (.t 14), (some (132, false)), [30]⟩,
                       ⟨(some 136), .load 1 false (.t 135), (some (132, false)), [33, 30]⟩,
                       ⟨(some 137), .cmp .neq 0 (.t 134) (.t 136), (some (132, false)), [32, 34, 30]⟩,
                       ⟨(some 138), .pick (.t 132) (.c (.bool true)) (.t 137), none, [30, 35]⟩] false)
                     (.cond (.t 138)
                      (.seq
                       (.region [
                         ⟨(some 4), .mov (.c (.bool false)), none, []⟩] false)
                       .ret)
                      .skip))
                    (.seq
                     (.region [
                       ⟨(some 140), .load 10 true (.t 14), none, []⟩,
                       ⟨(some 141), .mov (.t 12), none, []⟩,
                       ⟨(some 142), .call 18 [(.t 140), (.t 141)], none, [0, 1]⟩,
                       ⟨(some 139), .mov (.t 142), none, [2]⟩,
                       ⟨(some 143), .extract 0 (.t 139), none, [3]⟩,
                       ⟨(some 144), .extract 1 (.t 139), none, [3]⟩,
                       ⟨(some 145), .extract 2 (.t 139), none, [3]⟩,
                       ⟨(some 146), .extract 3 (.t 139), none, [3]⟩,
                       ⟨(some 18), .alloc [.nil, .bool false, .nil, .bool false, .bool false, .int .i64 0, .int .i64 0, .int .i64 0, .int .i64 0, .int .i64 0], none, []⟩,
                       ⟨none, .store 10 (.t 18) (.t 143), none, [8, 4, 2, 0, 1, 2, 3, 4, 8]⟩,
                       ⟨(some 19), .mov (.t 144), none, [5, 9, 0, 1, 2, 3, 4, 5, 8, 9]⟩,
                       ⟨(some 20), .mov (.t 145), none, [6, 10, 0, 1, 2, 3, 4, 5, 6, 8, 9, 10]⟩,
                       ⟨(some 17), .mov (.t 146), none, [7, 11, 0, 1, 2, 3, 4, 5, 6, 7, 8, 9, 10, 11]⟩] false)
                     (.seq
                      (.region [
                        ⟨(some 147), .mov (.t 17), none, []⟩,
                        ⟨(some 148), .cmp .neq 0 (.t 147) (.c (.int .i64 0)), none, [0]⟩,
                        ⟨(some 149), .mov (.t 148), none, [1]⟩,
                        ⟨(some 150), .mov (.t 19), (some (149, false)), [2]⟩,
                        ⟨(some 151), .len 0 (.t 150), (some (149, false)), [3, 2]⟩,
                        ⟨(some 152), .cmp .neq 0 (.t 151) (.c (.int .i64 0)), (some (149, false)), [4, 2]⟩,
                        ⟨(some 153), .pick (.t 149) (.c (.bool true)) (.t 152), none, [2, 5]⟩,
                        ⟨(some 154), .mov (.t 153), none, [6, 2]⟩,
                        ⟨(some 155), .faddr 8 (.t 18), (some (154, false)), [7]⟩,
                        ⟨(some 156), .load 1 false (.t 155), (some (154, false)), [8, 7]⟩,
                        ⟨(some 157), .faddr 8 (.t 14), (some (154, false)), [7]⟩,
                        ⟨(some 158), .load 1 false (.t 157), (some (154, false)), [10, 7]⟩,
                        ⟨(some 159), .cmp .neq 0 (.t 156) (.t 158), (some (154, false)), [9, 11, 7]⟩,
                        ⟨(some 160), .pick (.t 154) (.c (.bool true)) (.t 159), none, [7, 12]⟩,
                        ⟨(some 161), .mov (.t 160), none, [13, 7]⟩,
                        ⟨(some 162), .faddr 9 (.t 18), (some (161, false)), [14]⟩,
                        ⟨(some 163), .load 1 false (.t 162), (some (161, false)), [15, 14]⟩,
                        ⟨(some 164), .faddr 9 (.t 14), (some (161, false)), [14]⟩,
                        ⟨(some 165), .load 1 false (.t 164), (some (161, false)), [17, 14]⟩,
                        ⟨(some 166), .cmp .neq 0 (.t 163) (.t 165), (some (161, false)), [16, 18, 14]⟩,
                        ⟨(some 167), .pick (.t 161) (.c (.bool true)) (.t 166), none, [14, 19]⟩,
                        ⟨(some 168), .mov (.t 167), none, [20, 14]⟩,
                        ⟨(some 169), .faddr 7 (.t 18), (some (168, false)), [21]⟩,
                        ⟨(some 170), .load 1 false (.t 169), (some (168, false)), [22, 21]⟩,
                        ⟨(some 171), .faddr 7 (.t 14), (some (168, false)), [21]⟩,
                        ⟨(some 172), .load 1 false (.t 171), (some (168, false)), [24, 21]⟩,
                        ⟨(some 173), .cmp .neq 0 (.t 170) (.t 172), (some (168, false)), [23, 25, 21]⟩,
                        ⟨(some 174), .pick (.t 168) (.c (.bool true)) (.t 173), none, [21, 26]⟩] false)
                      (.cond (.t 174)
                       (.seq
                        (.region [
                          ⟨(some 4), .mov (.c (.bool false)), none, []⟩] false)
                        .ret)
                       .skip))))))))))
             (.region [
               ⟨(some 175), .arith .add (.t 35) (.c (.int .i64 1)), none, []⟩,
               ⟨(some 35), .mov (.t 175), none, [0]⟩] false)))))))
       (.seq
        (.region [
          ⟨(some 4), .mov (.c (.bool true)), none, []⟩] false)
        .ret))))))
def rv4 : List RV := [.t 4]
theorem rc4_ok : comp Try.prog Try.f4.ntmps (Try.f4.body.getD .skip) = some (erase rc4) := by kernel_rfl
theorem rv4_ok : compRes Try.prog Try.f4.results.toList = some rv4 := by kernel_rfl
def pkn (i : Nat) (a b : Ln) : Ln := if i = 0 then a else b
theorem getE_ln2 (a b : Ln) (i : Nat) (h : decide ((i : Int) < 2) = true) : getE [.nil, .bool false, .nil, .bool false, .bool false, .int .i64 0, .int .i64 0, .int .i64 0, .int .i64 0, .int .i64 0]
    [[.lst [.int .u8 0] (u8s a.w), .bool a.wi, .lst [.int .u8 0] (u8s a.s), .bool a.sb, .bool a.bu, .int .i64 a.sq, .int .i64 a.rc, .int .i64 a.ro, .int .i64 a.ak, .int .i64 a.ct], [.lst [.int .u8 0] (u8s b.w), .bool b.wi, .lst [.int .u8 0] (u8s b.s), .bool b.sb, .bool b.bu, .int .i64 b.sq, .int .i64 b.rc, .int .i64 b.ro, .int .i64 b.ak, .int .i64 b.ct]] i =
    [.lst [.int .u8 0] (u8s (pkn i a b).w), .bool (pkn i a b).wi, .lst [.int .u8 0] (u8s (pkn i a b).s), .bool (pkn i a b).sb, .bool (pkn i a b).bu, .int .i64 (pkn i a b).sq, .int .i64 (pkn i a b).rc, .int .i64 (pkn i a b).ro, .int .i64 (pkn i a b).ak, .int .i64 (pkn i a b).ct] := by
  have h := of_decide_eq_true h
  have : i = 0 ∨ i = 1 := by omega
  rcases this with rfl | rfl <;> rfl
theorem OkL.pkn {a b : Ln} (ha : OkL a) (hb : OkL b) (i : Nat) : OkL (pkn i a b) := by unfold Ytknapnleecepaaa.pkn; split <;> assumption
/-- A packet that is new to the line. -/
def cN (l : Ln) (d : List Int) : Ck := ⟨nx l.rc, 0, 0, false, d⟩
def lN (l : Ln) (d : List Int) : Ln := { l with ro := l.ro - reN l (cN l d), rc := nx l.rc, ak := nx l.rc, ct := reN l (cN l d) }
theorem cN_P {l : Ln} (h : OkL l) {d : List Int} (hd : d.length ≤ 64) : ckP (cN l d) := by
  obtain ⟨_, _, h3, _⟩ := h.P
  have hx := (nx_bd h3).1
  exact ⟨by dsimp only [cN]; omega, by dsimp only [cN]; omega, by dsimp only [cN]; omega, hd, fun _ => rfl, fun e => by dsimp only [cN] at e; omega⟩
theorem reA_0 {l : Ln} (h : lnP l) {c : Ck} (hc : c.ak = 0) : reA l c = l := by
  refine if_neg ?_
  rintro ⟨h1, h2⟩
  obtain ⟨_, _, _, _, _, _, h8, _⟩ := h
  exact h8 h1 (by rw [← h2, hc])
theorem rm_1 {l : Ln} (h : OkL l) {d : List Int} (hd : d.length ≤ 64) : enE (cN l d) = 0 ∧ reE l (enB (cN l d)) = 0 ∧ reD l (enB (cN l d)) = d.take (reN l (cN l d)) ∧ reR l (enB (cN l d)) = lN l d := by
  have hc := cN_P h hd
  obtain ⟨d1, d2⟩ := de_en hc
  obtain ⟨_, _, h3, _⟩ := h.P
  have hx := nx_bd h3
  obtain ⟨e1, e2, _, e4⟩ := re_3 (m := l) h.P d1 (by rw [d2]; exact reA_0 h.P rfl) (by rw [d2]; dsimp only [cN]; omega) (by rw [d2]; exact hx.2) (by rw [d2]; rfl)
  rw [d2] at e1 e2
  exact ⟨if_pos hc, e4, e2, e1⟩
theorem rm_2 {l : Ln} (h : OkL l) {d : List Int} (hd : d.length ≤ 64) : reE (lN l d) (enB (cN l d)) = 0 ∧ reD (lN l d) (enB (cN l d)) = [] ∧ reR (lN l d) (enB (cN l d)) = lN l d := by
  have hc := cN_P h hd
  obtain ⟨d1, d2⟩ := de_en hc
  obtain ⟨_, _, h3, _⟩ := h.P
  have hx := nx_bd h3
  have hl : OkL (lN l d) := by rw [← (rm_1 h hd).2.2.2]; exact h.re _
  obtain ⟨e1, e2, _, e4⟩ := re_2 (m := lN l d) hl.P d1 (by rw [d2]; exact reA_0 hl.P rfl) (by rw [d2]; dsimp only [cN]; omega) (by rw [d2]; rfl)
  rw [d2] at e1
  exact ⟨e4, e2, e1⟩
theorem rm_n {l : Ln} (h : OkL l) (d : List Int) : (d.take (reN l (cN l d))).length = reN l (cN l d) ∧ (reN l (cN l d) : Int) ≤ l.ro := by
  obtain ⟨_, _, _, h4, _⟩ := h.P
  have e : reN l (cN l d) = min d.length l.ro.toNat := rfl
  rw [List.length_take]; omega
theorem gr_ro {l : Ln} (h : OkL l) (n : Int) : (grL l n).ro = if 0 ≤ n then l.ro + min n (1024 - l.ro) else l.ro := by
  unfold grL
  by_cases hn : 0 ≤ n
  · rw [if_pos ⟨h.P, hn⟩, if_pos hn]
  · rw [if_neg (fun e => hn e.2), if_neg hn]
structure K4a (m : Int) (L : List Int) where
  i : Nat
  a : Ln
  b : Ln
  t : Int
  hi : i ≤ 2
  ha : OkL a
  hb : OkL b
  ht : 0 ≤ t
def S4a (m : Int) (L : List Int) (p : K4a m L) : SL := ⟨[(1, .int .i64 m), (5, .ptr 1600 0), (33, .lst [.nil, .bool false, .nil, .bool false, .bool false, .int .i64 0, .int .i64 0, .int .i64 0, .int .i64 0, .int .i64 0] [[.lst [.int .u8 0] (u8s p.a.w), .bool p.a.wi, .lst [.int .u8 0] (u8s p.a.s), .bool p.a.sb, .bool p.a.bu, .int .i64 p.a.sq, .int .i64 p.a.rc, .int .i64 p.a.ro, .int .i64 p.a.ak, .int .i64 p.a.ct], [.lst [.int .u8 0] (u8s p.b.w), .bool p.b.wi, .lst [.int .u8 0] (u8s p.b.s), .bool p.b.sb, .bool p.b.bu, .int .i64 p.b.sq, .int .i64 p.b.rc, .int .i64 p.b.ro, .int .i64 p.b.ak, .int .i64 p.b.ct]]), (34, .int .i64 2), (35, .int .i64 p.i)], [(1600, .cells [.lst [.int .u8 0] (u8s L), .int .i64 p.t])]⟩
abbrev L4a (m : Int) (L : List Int) : LI := ⟨K4a m L, S4a m L, fun p => 2 - p.i, fun p q => True⟩
theorem L4aS (m : Int) (L : List Int) : (L4a m L).S = S4a m L := rfl
theorem L4aM (m : Int) (L : List Int) (p : K4a m L) : (L4a m L).μ p = 2 - p.i := rfl
theorem L4aR (m : Int) (L : List Int) (p q : K4a m L) : (L4a m L).R p q = (True) := rfl
def I4 (m : Int) (L : List Int) : Nat → LI := fun n => L4a m L
theorem I4_0 (m : Int) (L : List Int) : I4 m L 0 = L4a m L := rfl
set_option maxHeartbeats 4000000 in
theorem walk4 {Phi : Nat → Option Ctr} (P8 : Phi 8 = some DAw) (P14 : Phi 14 = some DCo) (P15 : Phi 15 = some DPl) (P16 : Phi 16 = some DGr) (P17 : Phi 17 = some DBy) (P9 : Phi 9 = some DEn) (P18 : Phi 18 = some DRe) (l : List Int) (n : Int) (hL : Okb l) : evC Phi (I4 n (l.take 300)) rc4 ⟨initS [.lst [.int .u8 0] (u8s l), .int .i64 n], initM false []⟩ (kRet rv4 (.bool true) false []) := by
  simp (config := {maxSteps := 2000000, contextual := true}) only [rc4, initM_f, rv4, evC_seq, evC_region, eo_mov, evG_no, Option.getD_some, ev_mov, av_c, gv_bool, bind1_some', un1_mov, goOp_some, put_q, evOps_nil, kEnd_at, hasG_no, hasG_nil, kEndB_f, kSeq_n, eo_call, P8, DAw, evCl_mk, ev_call, avs_nil, clE_some, callE_pure, lends_nil, callN_some, callP_some, List.nil_append, c2_bool, flat2_bool, backOK_nil, Bool.and_self, clQ_t, eo_not, ev_not, av_t, upd_at, ↓reduceIte, un1_not, Bool.not_true, evC_cond, evC_ret, kSeq_r, kRet_r, retOK_eq, retL_cons, retV_t, retL_nil, consO_some, lkR_one, lk1_bool, lkT_f, applyL_nil, retOK_f, rtO_some, resV_one, leV1_bool, and_true, knowL_nil, askL_nil, evC_skip, Nat.reduceEqDiff, initS_at, List.getD_cons_zero, gv_lst, P14, DCo, evCl_ext, avs_cons, gv_int, evXV_some, evX_f, lends_cons, lend1_lst, lend1_int, consL_some', evXA_some, decU_u8s, and_self, Int.reduceLE, Int.reduceToNat, evXN_some, evXP_eq, wfX2_fp, List.all_cons, c0_lst, c0_int, List.all_nil, frs2_fp, idsOK_eq, List.map_cons, List.map_nil, nodupN_cons, List.contains_nil, Bool.not_false, nodupN_nil, Nat.reduceLT, decide_true, flatX2_fp, flat0_lst, flat0_int, Bool.and_true, flatL_cells, flatL_nil, evOpsk_at, backX_nil, putX_eq, unfr2_fp, Nat.reduceMul, Nat.reduceAdd, Nat.add_zero, addF_cons, addF_nil, putY_eq, gv_ptr, P15, DPl, Ln.av, evX_t, updM_at, evXC_cells, evXB_some, u8s_len, true_and, evXM_some, evXS_eq, wfX2_tup, wfX1_agg, wfX0_lst, wfX0_bool, wfX0_int, wfX1_lst, frs2_tup, frsV_cons, frs1_agg, frsL_cons, frs0_lst, frs0_bool, frs0_int, frsL_nil, frs1_lst, frsV_nil, flatX2_tup, flatX1_agg, flatX0_lst, flatX0_bool, flatX0_int, Bool.true_and, flatX1_lst, setB_eq, unfr2_tup, unfr1_agg, unfr0_lst, unfr0_bool, unfr0_int, unfr1_lst, gv_tup, eo_extract, ev_extract, un1_extract, List.getElem?_cons_zero, toR_some', List.getElem?_cons_succ, eo_alloc, ev_alloc, put_n, killB_cells, kill0_nil, kill0_bool, kill0_int, eo_store, ar_t, killS_at, kill3_agg, kill0_lst, kill3_ptr, vwsT_ptr, frzL_nil, goF_eq, Option.getD_none, ev_store, gv_agg, bind2_some', store_ptr, cells_agg, List.length_cons, List.length_nil, Nat.zero_add, killM_at, killO_some, stB_cells, Nat.reduceLeDiff, stC_true, setC_cons, List.set_cons_zero, List.set_cons_succ, setC_nil, put_s, liveB_cells, kill3_lst, eo_load, ev_load, load_ptr, ldB_cells, valOf_agg, valB_true, List.drop_zero, List.take_succ_cons, List.take_zero, ldV_some, eo_bsliceO, vwsG_cons, vws1_agg, vwsL_cons, vws0_lst, vws0_bool, vws0_int, vwsL_nil, vwsG_nil, ev_bsliceO, List.replicate_succ, List.replicate_zero, fillS_cons, fsK_some, fsC_some, c0_bool, fillS_nil, blO2_some, killB_buf, eo_len, ev_len, gv_vw, len_vw, lenV_buf, evC_block, evC_loop, I4_0, L4aS, S4a, SL_ge, lkL_cons, List.getD_cons_succ, kill3_int, lkS_int, lkS_ptr, lkS_vw_lst, lkL_nil, List.cons_append, lkM_cons, lkB_cells, lkC_cons, lkC0_lst, lkC0_int, lkC_nil, lkM_nil, applyL_frz, frzQ_buf, frzP_t, SL_ge0, leL_cons, frzSl_at, frz3_int, leV1_int, frz3_ptr, leV1_ptr, frz3_vw, leV1_lst, leL_nil, leM_cons, frzM_at, frzO_some, frzB_cells, frz0_lst, frz0_int, leB_cells, leAs_cons, leA_lst, leA_int, leAs_nil, leM_nil, L4aR, SL_st, eo_cmp, ev_cmp, lookL_cons, cmp2_some, cmp_lss, eo_iaddrS, ev_iaddrS, iaddrS_lst, beq_self_eq_true, iasB_true, Int.toNat_natCast, gv_ep, load_ep, knowL_cons, true_imp_iff, askL_cons, evC_exit, kSeq_e, kLoop_e, kBlk_e, kBlkB_t, condK_bool, getE_ln2, P16, DGr, lend1_agg, lendC_cons, lendA_lst, lendA_bool, lendA_int, lendC_nil, aggL_some, Ln.eta, c2_agg, flat2_agg, flat0_bool, eo_faddr, ev_faddr, faddr_ptr, valOf_one, evG_yes, pathG_bool, gG_some, guardR_q, guardL_nil, gv_gd, List.contains_cons, Bool.or_false, gvB_true, cmp_gtr, eo_pick, ev_pick, pick3_some, pickV_bool, Bool.cond_true_left, cmp_leq, pathG_gd, Bool.true_or, Bool.or_true, cmp_neq, Bool.cond_false_right, eo_arith, ev_arith, arith_sub, arith_add, hasG_yes, kEndB_t, kBlk_r, kLoop_r, evC_draw, preK_some, needD_faddr, preB_f, needD_load, needD_arith, needD_mov, needD_call, preB_t, needD_build, needD_extract, preK_nil, evD_cons, ungdS_at, ungd_ptr, evDk_some, newOK_none, arith_rem, nx_wr, P17, DBy, callE_state, lookM_cons, callC_cells, callB_some, callD_t, callS_some, c2_lst, flat2_lst, clU_t, put_u, ev_build, fillA_cons, faK_some, cells_int, faC_some, cells_lst, fillA_nil, blO_some, P9, DEn, c2_tup, c1_lst, c1_int, flat2_tup, flat1_lst, flat1_int, evD_nil, P18, DRe, c1_agg, c1_bool, flat1_agg, flat1_bool, kill3_bool, len_lst, ungd_lst, kBlk_n, ungd_int, kLoop_n, lkS_lst, ungd_bool, knowD_cons, knowD_nil, pairD_cons, pairOK_eq, newMen_none, Nat.reduceBEq, pairB_t, pairD_nil, pairB_f, chkR_eq, pslots_lst, optN_some, disjN_nil, pslots_int, newI_none, disjN_cons, pslots_ptr, implies_true, Bool.false_eq_true, false_imp_iff]
  intro _
  have h300 : (l.take 300).length ≤ 300 := by rw [List.length_take]; omega
  refine ⟨⟨by omega, hL.take 300⟩, ?_⟩
  rintro ⟨a, b, W, t⟩ ⟨⟨hA, hB⟩, _, ht⟩
  dsimp only at hA hB ht ⊢
  refine ⟨⟨0, a, b, t, by omega, hA, hB, ht⟩, ⟨⟨rfl, rfl, rfl⟩, rfl⟩, ?_⟩
  clear hA hB ht
  rintro ⟨i, a2, b2, t2, hi, hA, hB, ht⟩
  dsimp only
  intro hc
  have hc := of_decide_eq_true hc
  have hl := hA.pkn hB i
  have hD := byV_len (hL.take 300) (a := t2) (n := 60) (by omega)
  have hDo := byV_ok (hL.take 300) t2 60
  generalize pkn i a2 b2 = y at hl ⊢
  generalize byV (l.take 300) t2 60 = D at hD hDo ⊢
  have hbd := hl.bd
  obtain ⟨_, _, q3, q4, _⟩ := hl.P
  obtain ⟨e1, e2, e3, e4⟩ := rm_1 hl (d := D) (by omega)
  obtain ⟨f1, f2, f3⟩ := rm_2 hl (d := D) (by omega)
  obtain ⟨g1, g2⟩ := rm_n hl D
  have hen := enB_len (cN y D)
  have heo : Okb (enB (cN y D)) := enB_ok hDo
  have hl2 : OkL (lN y D) := by rw [← e4]; exact hl.re _
  change _ ∧ _ ∧ (_ → _) ∧ (_ → _ ∧ _ ∧ _ ∧ (_ ∧ (enB (cN y D)).length ≤ 100000 ∧ Okb (enB (cN y D))) ∧ ((!decide (enE (cN y D) = 0) || !decide (reE y (enB (cN y D)) = 0) || decide (y.ro < ((reD y (enB (cN y D))).length : Int)) || !decide ((reR y (enB (cN y D))).ro = IntKind.i64.wrap (y.ro - ((reD y (enB (cN y D))).length : Int))) || !decide ((reR y (enB (cN y D))).ct = ((reD y (enB (cN y D))).length : Int)) || !decide ((reR y (enB (cN y D))).ak = (reR y (enB (cN y D))).rc)) = true → _) ∧ (_ → (((reR y (enB (cN y D))).w.length ≤ 100000 ∧ (reR y (enB (cN y D))).s.length ≤ 100000) ∧ (enB (cN y D)).length ≤ 100000 ∧ Okb (enB (cN y D))) ∧ ((!decide (reE (reR y (enB (cN y D))) (enB (cN y D)) = 0) || !decide (((reD (reR y (enB (cN y D))) (enB (cN y D))).length : Int) = 0) || !decide ((reR (reR y (enB (cN y D))) (enB (cN y D))).ak = (reR y (enB (cN y D))).ak) || !decide ((reR (reR y (enB (cN y D))) (enB (cN y D))).ct = (reR y (enB (cN y D))).ct) || !decide ((reR (reR y (enB (cN y D))) (enB (cN y D))).ro = (reR y (enB (cN y D))).ro)) = true → _) ∧ _))
  rw [e1, e2, e3, e4, f1, f2, f3, g1]
  refine ⟨⟨by omega, by omega⟩, hbd, fun hz => ?_, fun _ => ⟨by decide, ⟨by omega, ht, hL.take 300⟩, by omega, ⟨hbd, by omega, heo⟩, fun hz => ?_, fun _ => ⟨⟨hl2.bd, by omega, heo⟩, fun hz => (by simp at hz), fun _ => ⟨⟨i + 1, a2, b2, byA (l.take 300) t2 60, by omega, hA, hB, byA_nn ht⟩, ⟨⟨rfl, AV.int_inj' (wr_succ i (by omega))⟩, rfl⟩, by dsimp only; omega⟩⟩⟩⟩
  · have hg := gr_ro hl n
    rw [wr_in (1024 - y.ro) (by omega) (by omega)] at hz
    simp only [Bool.or_eq_true, Bool.and_eq_true, decide_eq_true_eq, Bool.not_eq_true', decide_eq_false_iff_not] at hz
    rcases hz with ((hz | hz) | hz) | hz
    · split at hg <;> omega
    · split at hg <;> omega
    · split at hg <;> omega
    · rw [wr_in (y.ro + n) (by omega) (by omega)] at hz
      split at hg <;> omega
  · rw [wr_in (y.ro - (reN y (cN y D) : Int)) (by omega) (by omega)] at hz
    rw [decide_eq_false (show ¬ y.ro < (reN y (cN y D) : Int) by omega)] at hz
    simp [lN] at hz
end Go.Proofs.Ytknapnleecepaaa

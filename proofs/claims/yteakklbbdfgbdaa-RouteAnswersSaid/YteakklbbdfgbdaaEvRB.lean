/- A part of the proof: symbolic evaluation of the program's functions, proved sound against the model; no condition. -/
import Derived.Test.YteakklbbdfgbdaaEvZ
import Derived.Test.YteakklbbdfgbdaaChecked
namespace Go.Proofs.Yteakklbbdfgbdaa
open Go Go.RowKit Go.Ev
set_option linter.unusedSimpArgs false
set_option linter.unusedVariables false
set_option maxRecDepth 20000
/-- baseboard/baseboardlaw26.RouteAnswers [22, 26, 3, 3, 5] -/
def rc3 : RC :=
  (.seq
   (.region [
     ⟨(some 6), .box 3 (.t 1), none, []⟩,
     ⟨(some 10), .mov (.c (.bool false)), none, []⟩] false)
   (.seq
    (.seq
     (.region [
       ⟨(some 34), .call 9 [], none, []⟩,
       ⟨(some 35), .not (.t 34), none, [0]⟩] false)
     (.cond (.t 35)
      (.seq
       (.region [
         ⟨(some 10), .mov (.c (.bool false)), none, []⟩] false)
       .ret)
      .skip))
    (.seq
     (.seq
      (.region [
        ⟨(some 36), .faddr 1 (.t 6), none, []⟩,
        ⟨(some 37), .load 1 false (.t 36), none, [0]⟩,
        ⟨(some 38), .len 0 (.t 37), none, [1]⟩,
        ⟨(some 39), .cmp .gtr 0 (.t 38) (.c (.int .i64 40)), none, [2]⟩,
        ⟨(some 40), .mov (.t 39), none, [3]⟩,
        ⟨(some 41), .faddr 2 (.t 6), (some (40, false)), [4]⟩,
        ⟨(some 42), .load 1 false (.t 41), (some (40, false)), [5, 4]⟩,
        ⟨(some 43), .len 0 (.t 42), (some (40, false)), [6, 4]⟩,
        ⟨(some 44), .cmp .gtr 0 (.t 43) (.c (.int .i64 60)), (some (40, false)), [7, 4]⟩,
        ⟨(some 45), .pick (.t 40) (.c (.bool true)) (.t 44), none, [4, 8]⟩] false)
      (.cond (.t 45)
       (.seq
        (.region [
          ⟨(some 10), .mov (.c (.bool true)), none, []⟩] false)
        .ret)
       .skip))
     (.seq
      (.region [
        ⟨(some 46), .mov (.t 0), none, []⟩,
        ⟨(some 47), .call 10 [(.t 46), (.c (.int .i64 120))], none, [0]⟩,
        ⟨(some 11), .mov (.t 47), none, [1, 1, 0, 1]⟩] false)
      (.seq
       (.region [
         ⟨(some 48), .mov (.t 11), none, []⟩,
         ⟨(some 49), .call 11 [(.t 48)], none, [0]⟩,
         ⟨(some 12), .alloc [.int .i64 0, .nil, .nil], none, []⟩,
         ⟨none, .store 3 (.t 12) (.t 49), none, [2, 1, 1, 0, 1, 2]⟩] false)
       (.seq
        (.seq
         (.region [
           ⟨(some 50), .load 3 true (.t 12), none, []⟩,
           ⟨(some 51), .mov (.t 11), none, []⟩,
           ⟨(some 52), .load 3 true (.t 12), none, []⟩,
           ⟨(some 53), .call 12 [(.t 51), (.t 52)], none, [2, 1]⟩,
           ⟨(some 54), .load 3 true (.t 6), none, []⟩,
           ⟨(some 55), .bsliceO 26 3 [.int .i64 0, .nil, .nil] [(0, (.t 50)), (1, (.t 53)), (2, (.t 54))], none, [1, 2, 4, 3, 0]⟩,
           ⟨(some 56), .len 0 (.t 55), none, [0, 3, 4, 2, 1, 5]⟩,
           ⟨(some 57), .mov (.c (.int .i64 0)), none, []⟩] true)
         (.block 0
          (.loop 0
           (.seq
            (.region [
              ⟨(some 58), .cmp .lss 0 (.t 57) (.t 56), none, []⟩] false)
            (.seq
             (.cond (.t 58)
              .skip
              (.exit 0))
             (.seq
              (.block 1
               (.seq
                (.region [
                  ⟨(some 59), .iaddrS [.int .i64 0, .nil, .nil] (.t 55) (.t 57), none, []⟩,
                  ⟨(some 60), .load 3 true (.t 59), none, [0]⟩,
                  ⟨(some 14), .alloc [.int .i64 0, .nil, .nil], none, []⟩,
                  ⟨none, .store 3 (.t 14) (.t 60), none, [2, 1, 0, 1, 2]⟩] false)
                (.seq
                 (.region [
                   ⟨(some 61), .mov (.t 11), none, []⟩,
                   ⟨(some 62), .faddr 0 (.t 14), none, []⟩,
                   ⟨(some 63), .load 1 false (.t 62), none, [1]⟩,
                   ⟨(some 64), .call 13 [(.t 61), (.t 63)], none, [1, 2, 0]⟩,
                   ⟨(some 65), .mov (.t 11), none, []⟩,
                   ⟨(some 66), .faddr 0 (.t 14), none, []⟩,
                   ⟨(some 67), .load 1 false (.t 66), none, [5]⟩,
                   ⟨(some 68), .call 13 [(.t 65), (.t 67)], none, [0, 2, 1, 5, 3, 6, 4]⟩,
                   ⟨(some 15), .mov (.t 64), none, [4, 6, 5, 2, 1, 0, 7, 3]⟩,
                   ⟨(some 16), .mov (.t 68), none, [6, 5, 4, 3, 2, 1, 0, 8, 7]⟩] true)
                 (.seq
                  (.seq
                   (.region [
                     ⟨(some 69), .mov (.t 11), none, []⟩,
                     ⟨(some 70), .call 13 [(.t 69), (.c (.int .i64 6))], none, [0]⟩,
                     ⟨(some 71), .cmp .eql 0 (.t 70) (.c (.int .i64 5)), none, [1]⟩] false)
                   (.cond (.t 71)
                    (.region [
                      ⟨(some 72), .mov (.t 2), none, []⟩,
                      ⟨(some 73), .mov (.t 3), none, []⟩,
                      ⟨(some 15), .mov (.t 72), none, [0, 0]⟩,
                      ⟨(some 16), .mov (.t 73), none, [1, 2, 0, 1, 2]⟩] false)
                    .skip))
                  (.seq
                   (.cut 2 (.region [
                     ⟨(some 74), .mov (.t 11), none, []⟩,
                     ⟨(some 75), .call 13 [(.t 74), (.c (.int .i64 6))], none, [0]⟩,
                     ⟨(some 76), .arith .add (.c (.int .i64 1)) (.t 75), none, [1]⟩,
                     ⟨(some 77), .conv .u8 (.t 76), none, [2]⟩,
                     ⟨(some 17), .mov (.t 77), none, [3, 1, 0, 1, 2, 3]⟩] false))
                   (.seq
                    (.seq
                     (.region [
                       ⟨(some 78), .mov (.t 11), none, []⟩,
                       ⟨(some 79), .call 13 [(.t 78), (.c (.int .i64 6))], none, [0]⟩,
                       ⟨(some 80), .cmp .eql 0 (.t 79) (.c (.int .i64 5)), none, [1]⟩] false)
                     (.cond (.t 80)
                      (.region [
                        ⟨(some 81), .mov (.t 4), none, []⟩,
                        ⟨(some 17), .mov (.t 81), none, [0, 0]⟩] false)
                      .skip))
                    (.seq
                     (.cut 3 (.region [
                       ⟨(some 83), .load 3 true (.t 14), none, []⟩,
                       ⟨(some 84), .mov (.t 15), none, []⟩,
                       ⟨(some 85), .mov (.t 16), none, []⟩,
                       ⟨(some 86), .call 14 [(.t 83), (.t 84), (.t 85)], none, [0, 1, 2]⟩,
                       ⟨(some 82), .mov (.t 86), none, [3]⟩,
                       ⟨(some 87), .extract 0 (.t 82), none, [4]⟩,
                       ⟨(some 88), .extract 1 (.t 82), none, [4]⟩,
                       ⟨(some 18), .mov (.t 87), none, [5, 3, 0, 1, 2, 3, 4, 5]⟩,
                       ⟨(some 19), .mov (.t 88), none, [6, 7, 0, 1, 2, 3, 4, 5, 6, 7]⟩] false))
                     (.seq
                      (.region [
                        ⟨(some 90), .load 3 true (.t 14), none, []⟩,
                        ⟨(some 91), .mov (.t 15), none, []⟩,
                        ⟨(some 92), .mov (.t 16), none, []⟩,
                        ⟨(some 93), .call 15 [(.t 90), (.t 91), (.t 92)], none, [0, 1, 2]⟩,
                        ⟨(some 89), .mov (.t 93), none, [3]⟩,
                        ⟨(some 94), .extract 0 (.t 89), none, [4]⟩,
                        ⟨(some 95), .extract 1 (.t 89), none, [4]⟩,
                        ⟨(some 20), .mov (.t 94), none, [5, 3, 0, 1, 2, 3, 4, 5]⟩,
                        ⟨(some 21), .mov (.t 95), none, [6, 7, 0, 1, 2, 3, 4, 5, 6, 7]⟩] false)
                      (.seq
                       (.seq
                        (.region [
                          ⟨(some 96), .load 3 true (.t 14), none, []⟩,
                          ⟨(some 97), .call 16 [(.t 96)], none, [0]⟩,
                          ⟨(some 98), .load 3 true (.t 14), none, []⟩,
                          ⟨(some 99), .call 17 [(.t 98)], none, [0, 1, 2]⟩,
                          ⟨(some 100), .cmp .neq 0 (.t 97) (.t 99), none, [2, 0, 3, 1]⟩,
                          ⟨(some 101), .mov (.t 100), none, [1, 0, 2, 3, 4]⟩,
                          ⟨(some 102), .mov (.t 19), (some (101, false)), [4, 3, 2, 0, 1, 5]⟩,
                          ⟨(some 103), .mov (.t 21), (some (101, false)), [4, 3, 2, 0, 1, 5]⟩,
                          ⟨(some 104), .cmp .neq 0 (.t 102) (.t 103), (some (101, false)), [1, 0, 2, 3, 4, 5, 7, 6]⟩,
                          ⟨(some 105), .pick (.t 101) (.c (.bool true)) (.t 104), none, [6, 7, 4, 3, 2, 0, 1, 8, 5]⟩,
                          ⟨(some 106), .mov (.t 105), none, [8, 1, 0, 2, 3, 4, 7, 6, 5, 9]⟩,
                          ⟨(some 107), .mov (.t 18), (some (106, false)), [9, 5, 6, 7, 4, 3, 2, 0, 1, 8, 10]⟩,
                          ⟨(some 108), .mov (.t 20), (some (106, false)), [9, 5, 6, 7, 4, 3, 2, 0, 1, 8, 10]⟩,
                          ⟨(some 109), .cmp .neq 0 (.t 107) (.t 108), (some (106, false)), [8, 1, 0, 2, 3, 4, 7, 6, 5, 9, 10, 12, 11]⟩,
                          ⟨(some 110), .pick (.t 106) (.c (.bool true)) (.t 109), none, [11, 12, 9, 5, 6, 7, 4, 3, 2, 0, 1, 8, 13, 10]⟩] true)
                        (.cond (.t 110)
                         (.seq
                          (.region [
                            ⟨(some 10), .mov (.c (.bool false)), none, []⟩] false)
                          .ret)
                         .skip))
                       (.seq
                        (.region [
                          ⟨(some 112), .load 3 true (.t 14), none, []⟩,
                          ⟨(some 113), .mov (.t 15), none, []⟩,
                          ⟨(some 114), .mov (.t 17), none, []⟩,
                          ⟨(some 115), .call 18 [(.t 112), (.t 113), (.t 114)], none, [0, 1, 2]⟩,
                          ⟨(some 111), .mov (.t 115), none, [3]⟩,
                          ⟨(some 116), .extract 0 (.t 111), none, [4]⟩,
                          ⟨(some 117), .extract 1 (.t 111), none, [4]⟩,
                          ⟨(some 118), .extract 2 (.t 111), none, [4]⟩,
                          ⟨(some 22), .mov (.t 116), none, [5, 3, 0, 1, 2, 3, 4, 5]⟩,
                          ⟨(some 23), .mov (.t 117), none, [6, 8, 0, 1, 2, 3, 4, 5, 6, 8]⟩,
                          ⟨(some 19), .mov (.t 118), none, [7, 9, 0, 1, 2, 3, 4, 5, 6, 7, 8, 9]⟩] false)
                        (.seq
                         (.region [
                           ⟨(some 120), .load 3 true (.t 14), none, []⟩,
                           ⟨(some 121), .mov (.t 15), none, []⟩,
                           ⟨(some 122), .mov (.t 17), none, []⟩,
                           ⟨(some 123), .call 19 [(.t 120), (.t 121), (.t 122)], none, [0, 1, 2]⟩,
                           ⟨(some 119), .mov (.t 123), none, [3]⟩,
                           ⟨(some 124), .extract 0 (.t 119), none, [4]⟩,
                           ⟨(some 125), .extract 1 (.t 119), none, [4]⟩,
                           ⟨(some 126), .extract 2 (.t 119), none, [4]⟩,
                           ⟨(some 24), .mov (.t 124), none, [5, 3, 0, 1, 2, 3, 4, 5]⟩,
                           ⟨(some 25), .mov (.t 125), none, [6, 8, 0, 1, 2, 3, 4, 5, 6, 8]⟩,
                           ⟨(some 21), .mov (.t 126), none, [7, 9, 0, 1, 2, 3, 4, 5, 6, 7, 8, 9]⟩] false)
                         (.seq
                          (.seq
                           (.region [
                             ⟨(some 127), .mov (.t 19), none, []⟩,
                             ⟨(some 128), .mov (.t 21), none, []⟩,
                             ⟨(some 129), .cmp .neq 0 (.t 127) (.t 128), none, [0, 1]⟩,
                             ⟨(some 130), .mov (.t 129), none, [2]⟩,
                             ⟨(some 131), .mov (.t 22), (some (130, false)), [3]⟩,
                             ⟨(some 132), .mov (.t 24), (some (130, false)), [3]⟩,
                             ⟨(some 133), .cmp .neq 0 (.t 131) (.t 132), (some (130, false)), [4, 5, 3]⟩,
                             ⟨(some 134), .pick (.t 130) (.c (.bool true)) (.t 133), none, [3, 6]⟩,
                             ⟨(some 135), .mov (.t 134), none, [7, 3]⟩,
                             ⟨(some 136), .mov (.t 23), (some (135, false)), [8]⟩,
                             ⟨(some 137), .mov (.t 25), (some (135, false)), [8]⟩,
                             ⟨(some 138), .cmp .neq 0 (.t 136) (.t 137), (some (135, false)), [9, 10, 8]⟩,
                             ⟨(some 139), .pick (.t 135) (.c (.bool true)) (.t 138), none, [8, 11]⟩] false)
                           (.cond (.t 139)
                            (.seq
                             (.region [
                               ⟨(some 10), .mov (.c (.bool false)), none, []⟩] false)
                             .ret)
                            .skip))
                          (.seq
                           (.region [
                             ⟨(some 141), .load 3 true (.t 14), none, []⟩,
                             ⟨(some 142), .mov (.t 15), none, []⟩,
                             ⟨(some 143), .mov (.t 17), none, []⟩,
                             ⟨(some 144), .call 20 [(.t 141), (.t 142), (.t 143)], none, [0, 1, 2]⟩,
                             ⟨(some 140), .mov (.t 144), none, [3]⟩,
                             ⟨(some 145), .extract 0 (.t 140), none, [4]⟩,
                             ⟨(some 146), .extract 1 (.t 140), none, [4]⟩,
                             ⟨(some 26), .mov (.t 145), none, [5, 3, 0, 1, 2, 3, 4, 5]⟩,
                             ⟨(some 19), .mov (.t 146), none, [6, 7, 0, 1, 2, 3, 4, 5, 6, 7]⟩] false)
                           (.seq
                            (.region [
                              ⟨(some 148), .load 3 true (.t 14), none, []⟩,
                              ⟨(some 149), .mov (.t 15), none, []⟩,
                              ⟨(some 150), .mov (.t 17), none, []⟩,
                              ⟨(some 151), .call 21 [(.t 148), (.t 149), (.t 150)], none, [0, 1, 2]⟩,
                              ⟨(some 147), .mov (.t 151), none, [3]⟩,
                              ⟨(some 152), .extract 0 (.t 147), none, [4]⟩,
                              ⟨(some 153), .extract 1 (.t 147), none, [4]⟩,
                              ⟨(some 27), .mov (.t 152), none, [5, 3, 0, 1, 2, 3, 4, 5]⟩,
                              ⟨(some 21), .mov (.t 153), none, [6, 7, 0, 1, 2, 3, 4, 5, 6, 7]⟩] false)
                            (.seq
                             (.seq
                              (.region [
                                ⟨(some 154), .mov (.t 19), none, []⟩,
                                ⟨(some 155), .mov (.t 21), none, []⟩,
                                ⟨(some 156), .cmp .neq 0 (.t 154) (.t 155), none, [0, 1]⟩,
                                ⟨(some 157), .mov (.t 156), none, [2]⟩,
                                ⟨(some 158), .mov (.t 26), (some (157, false)), [3]⟩,
                                ⟨(some 159), .mov (.t 27), (some (157, false)), [3]⟩,
                                ⟨(some 160), .call 22 [(.t 158), (.t 159)], (some (157, false)), [4, 5, 3, 3]⟩,
                                ⟨(some 161), .not (.t 160), (some (157, false)), [6, 3]⟩,
                                ⟨(some 162), .pick (.t 157) (.c (.bool true)) (.t 161), none, [3, 7]⟩] false)
                              (.cond (.t 162)
                               (.seq
                                (.region [
                                  ⟨(some 10), .mov (.c (.bool false)), none, []⟩] false)
                                .ret)
                               .skip))
                             (.seq
                              (.region [
                                ⟨(some 163), .faddr 1 (.t 14), none, []⟩,
                                ⟨(some 164), .load 1 false (.t 163), none, [0]⟩,
                                ⟨(some 165), .len 0 (.t 164), none, [1]⟩,
                                ⟨(some 166), .mov (.c (.int .i64 0)), none, []⟩] false)
                              (.block 2
                               (.loop 1
                                (.seq
                                 (.region [
                                   ⟨(some 167), .cmp .lss 0 (.t 166) (.t 165), none, []⟩] false)
                                 (.seq
                                  (.cond (.t 167)
                                   .skip
                                   (.exit 2))
                                  (.seq
                                   (.block 3
                                    (.seq
                                     (.region [
                                       ⟨(some 168), .iaddrS [.int .u8 0, .int .i64 0, .int .i64 0] (.t 164) (.t 166), none, []⟩,
                                       ⟨(some 169), .load 3 true (.t 168), none, [0]⟩,
                                       ⟨(some 29), .alloc [.int .u8 0, .int .i64 0, .int .i64 0], none, []⟩,
                                       ⟨none, .store 3 (.t 29) (.t 169), none, [2, 1, 0, 1, 2]⟩] false)
                                     (.seq
                                      (.region [
                                        ⟨(some 171), .load 3 true (.t 29), none, []⟩,
                                        ⟨(some 172), .mov (.t 15), none, []⟩,
                                        ⟨(some 173), .call 23 [(.t 171), (.t 172)], none, [0, 1]⟩,
                                        ⟨(some 170), .mov (.t 173), none, [2]⟩,
                                        ⟨(some 174), .extract 0 (.t 170), none, [3]⟩,
                                        ⟨(some 175), .extract 1 (.t 170), none, [3]⟩,
                                        ⟨(some 30), .mov (.t 174), none, [4, 2, 0, 1, 2, 3, 4]⟩,
                                        ⟨(some 31), .mov (.t 175), none, [5, 6, 0, 1, 2, 3, 4, 5, 6]⟩] false)
                                      (.seq
                                       (.region [
                                         ⟨(some 177), .load 3 true (.t 29), none, []⟩,
                                         ⟨(some 178), .mov (.t 15), none, []⟩,
                                         ⟨(some 179), .call 24 [(.t 177), (.t 178)], none, [0, 1]⟩,
                                         ⟨(some 176), .mov (.t 179), none, [2]⟩,
                                         ⟨(some 180), .extract 0 (.t 176), none, [3]⟩,
                                         ⟨(some 181), .extract 1 (.t 176), none, [3]⟩,
                                         ⟨(some 32), .mov (.t 180), none, [4, 2, 0, 1, 2, 3, 4]⟩,
                                         ⟨(some 33), .mov (.t 181), none, [5, 6, 0, 1, 2, 3, 4, 5, 6]⟩] false)
                                       (.seq
                                        (.region [
                                          ⟨(some 182), .mov (.t 30), none, []⟩,
                                          ⟨(some 183), .mov (.t 32), none, []⟩,
                                          ⟨(some 184), .cmp .neq 0 (.t 182) (.t 183), none, [0, 1]⟩,
                                          ⟨(some 185), .mov (.t 184), none, [2]⟩,
                                          ⟨(some 186), .mov (.t 31), (some (185, false)), [3]⟩,
                                          ⟨(some 187), .mov (.t 33), (some (185, false)), [3]⟩,
                                          ⟨(some 188), .cmp .neq 1 (.t 186) (.t 187), (some (185, false)), [4, 5, 3]⟩,
                                          ⟨(some 189), .pick (.t 185) (.c (.bool true)) (.t 188), none, [3, 6]⟩] false)
                                        (.cond (.t 189)
                                         (.seq
                                          (.region [
                                            ⟨(some 10), .mov (.c (.bool false)), none, []⟩] false)
                                          .ret)
                                         .skip))))))
                                   (.region [
                                     ⟨(some 190), .arith .add (.t 166) (.c (.int .i64 1)), none, []⟩,
                                     ⟨(some 166), .mov (.t 190), none, [0]⟩] false))))))))))))))))))))))
              (.region [
                ⟨(some 191), .arith .add (.t 57) (.c (.int .i64 1)), none, []⟩,
                ⟨(some 57), .mov (.t 191), none, [0]⟩] false)))))))
        (.seq
         (.region [
           ⟨(some 10), .mov (.c (.bool true)), none, []⟩] false)
         .ret)))))))
def rv3 : List RV := [.t 10]
theorem rc3_ok : comp Try.prog Try.f3.ntmps (Try.f3.body.getD .skip) = some (erase rc3) := by kernel_rfl
theorem rv3_ok : compRes Try.prog Try.f3.results.toList = some rv3 := by kernel_rfl

/-- baseboard/baseboardlaw26.RoutePaths [22] -/
def rc4 : RC :=
  (.seq
   (.region [
     ⟨(some 2), .mov (.c (.bool false)), none, []⟩] false)
   (.seq
    (.seq
     (.region [
       ⟨(some 20), .call 9 [], none, []⟩,
       ⟨(some 21), .not (.t 20), none, [0]⟩] false)
     (.cond (.t 21)
      (.seq
       (.region [
         ⟨(some 2), .mov (.c (.bool false)), none, []⟩] false)
       .ret)
      .skip))
    (.seq
     (.region [
       ⟨(some 22), .mov (.t 0), none, []⟩,
       ⟨(some 23), .call 10 [(.t 22), (.c (.int .i64 120))], none, [0]⟩,
       ⟨(some 3), .mov (.t 23), none, [1, 1, 0, 1]⟩] false)
     (.seq
      (.region [
        ⟨(some 24), .mov (.t 3), none, []⟩,
        ⟨(some 25), .call 11 [(.t 24)], none, [0]⟩,
        ⟨(some 4), .alloc [.int .i64 0, .nil, .nil], none, []⟩,
        ⟨none, .store 3 (.t 4) (.t 25), none, [2, 1, 1, 0, 1, 2]⟩] false)
      (.seq
       (.seq
        (.region [
          ⟨(some 26), .load 3 true (.t 4), none, []⟩,
          ⟨(some 27), .call 16 [(.t 26)], none, [0]⟩,
          ⟨(some 28), .cmp .neq 0 (.t 27) (.c (.int .i64 0)), none, [1]⟩] false)
        (.cond (.t 28)
         (.seq
          (.region [
            ⟨(some 2), .mov (.c (.bool true)), none, []⟩] false)
          .ret)
         .skip))
       (.seq
        (.seq
         (.region [
           ⟨(some 29), .faddr 2 (.t 4), none, []⟩,
           ⟨(some 30), .load 1 false (.t 29), none, [0]⟩,
           ⟨(some 31), .len 0 (.t 30), none, [1]⟩,
           ⟨(some 32), .mov (.c (.int .i64 0)), none, []⟩] false)
         (.block 0
          (.loop 0
           (.seq
            (.region [
              ⟨(some 33), .cmp .lss 0 (.t 32) (.t 31), none, []⟩] false)
            (.seq
             (.cond (.t 33)
              .skip
              (.exit 0))
             (.seq
              (.block 1
               (.seq
                (.region [
                  ⟨(some 34), .iaddrS [.int .u8 0, .int .u8 0, .int .i64 0] (.t 30) (.t 32), none, []⟩,
                  ⟨(some 35), .load 3 true (.t 34), none, [0]⟩,
                  ⟨(some 6), .alloc [.int .u8 0, .int .u8 0, .int .i64 0], none, []⟩,
                  ⟨none, .store 3 (.t 6) (.t 35), none, [2, 1, 0, 1, 2]⟩] false)
                (.seq
                 (.region [
                   ⟨(some 36), .mov (.t 3), none, []⟩,
                   ⟨(some 37), .faddr 0 (.t 4), none, []⟩,
                   ⟨(some 38), .load 1 false (.t 37), none, [1]⟩,
                   ⟨(some 39), .call 13 [(.t 36), (.t 38)], none, [0, 2]⟩,
                   ⟨(some 7), .mov (.t 39), none, [3, 3, 0, 1, 2, 3]⟩] false)
                 (.seq
                  (.region [
                    ⟨(some 41), .load 3 true (.t 4), none, []⟩,
                    ⟨(some 42), .mov (.t 7), none, []⟩,
                    ⟨(some 43), .faddr 0 (.t 6), none, []⟩,
                    ⟨(some 44), .load 1 false (.t 43), none, [2]⟩,
                    ⟨(some 45), .call 20 [(.t 41), (.t 42), (.t 44)], none, [0, 1, 3]⟩,
                    ⟨(some 40), .mov (.t 45), none, [4]⟩,
                    ⟨(some 46), .extract 0 (.t 40), none, [5]⟩,
                    ⟨(some 47), .extract 1 (.t 40), none, [5]⟩,
                    ⟨(some 8), .mov (.t 46), none, [6, 4, 0, 1, 2, 3, 4, 5, 6]⟩,
                    ⟨(some 9), .mov (.t 47), none, [7, 8, 0, 1, 2, 3, 4, 5, 6, 7, 8]⟩] false)
                  (.seq
                   (.region [
                     ⟨(some 49), .load 3 true (.t 4), none, []⟩,
                     ⟨(some 50), .mov (.t 7), none, []⟩,
                     ⟨(some 51), .faddr 2 (.t 6), none, []⟩,
                     ⟨(some 52), .load 1 false (.t 51), none, [2]⟩,
                     ⟨(some 53), .call 14 [(.t 49), (.t 50), (.t 52)], none, [0, 1, 3]⟩,
                     ⟨(some 48), .mov (.t 53), none, [4]⟩,
                     ⟨(some 54), .extract 0 (.t 48), none, [5]⟩,
                     ⟨(some 55), .extract 1 (.t 48), none, [5]⟩,
                     ⟨(some 10), .mov (.t 54), none, [6, 4, 0, 1, 2, 3, 4, 5, 6]⟩,
                     ⟨(some 11), .mov (.t 55), none, [7, 8, 0, 1, 2, 3, 4, 5, 6, 7, 8]⟩] false)
                   (.seq
                    (.seq
                     (.region [
                       ⟨(some 56), .mov (.t 9), none, []⟩,
                       ⟨(some 57), .mov (.t 11), none, []⟩,
                       ⟨(some 58), .cmp .neq 0 (.t 56) (.t 57), none, [0, 1]⟩,
                       ⟨(some 59), .mov (.t 58), none, [2]⟩,
                       ⟨(some 60), .mov (.t 9), (some (59, false)), [3]⟩,
                       ⟨(some 61), .cmp .eql 0 (.t 60) (.c (.int .i64 0)), (some (59, false)), [4, 3]⟩,
                       ⟨(some 62), .mov (.t 61), (some (59, false)), [5, 3, 3]⟩,
                       ⟨(some 63), .mov (.t 8), (some (62, true)), [6]⟩,
                       ⟨(some 64), .len 0 (.t 63), (some (62, true)), [7, 6]⟩,
                       ⟨(some 65), .mov (.t 10), (some (62, true)), [6]⟩,
                       ⟨(some 66), .cmp .neq 0 (.t 64) (.t 65), (some (62, true)), [8, 9, 6]⟩,
                       ⟨(some 67), .pick (.t 62) (.t 66) (.c (.bool false)), (some (59, false)), [6, 10, 3]⟩,
                       ⟨(some 68), .pick (.t 59) (.c (.bool true)) (.t 67), none, [3, 11]⟩] false)
                     (.cond (.t 68)
                      (.seq
                       (.region [
                         ⟨(some 2), .mov (.c (.bool false)), none, []⟩] false)
                       .ret)
                      .skip))
                    (.seq
                     (.region [
                       ⟨(some 69), .mov (.t 7), none, []⟩,
                       ⟨(some 70), .bsliceO 3 1 [.int .i64 0] [(0, (.t 69))], none, [0]⟩,
                       ⟨(some 71), .mov (.t 7), none, []⟩,
                       ⟨(some 12), .mov (.t 70), none, [1, 0, 1]⟩,
                       ⟨(some 13), .mov (.t 71), none, [2, 3, 0, 1, 2, 3]⟩] false)
                     (.seq
                      (.seq
                       (.region [
                         ⟨(some 72), .mov (.t 8), none, []⟩,
                         ⟨(some 73), .len 0 (.t 72), none, [0]⟩,
                         ⟨(some 74), .mov (.c (.int .i64 0)), none, []⟩] false)
                       (.block 2
                        (.loop 1
                         (.seq
                          (.region [
                            ⟨(some 75), .cmp .lss 0 (.t 74) (.t 73), none, []⟩] false)
                          (.seq
                           (.cond (.t 75)
                            .skip
                            (.exit 2))
                           (.seq
                            (.block 3
                             (.seq
                              (.region [
                                ⟨(some 76), .iaddrS [.int .i64 0] (.t 72) (.t 74), none, []⟩,
                                ⟨(some 77), .load 1 false (.t 76), none, [0]⟩,
                                ⟨(some 15), .mov (.t 77), none, [1, 0, 1]⟩] false)
                              (.seq
                               (.seq
                                (.region [
                                  ⟨(some 78), .mov (.t 15), none, []⟩,
                                  ⟨(some 79), .cmp .lss 0 (.t 78) (.c (.int .i64 0)), none, [0]⟩,
                                  ⟨(some 80), .mov (.t 79), none, [1]⟩,
                                  ⟨(some 81), .mov (.t 15), (some (80, false)), [2]⟩,
                                  ⟨(some 82), .faddr 1 (.t 4), (some (80, false)), [2]⟩,
                                  ⟨(some 83), .load 1 false (.t 82), (some (80, false)), [4, 2]⟩,
                                  ⟨(some 84), .len 0 (.t 83), (some (80, false)), [5, 2]⟩,
                                  ⟨(some 85), .cmp .geq 0 (.t 81) (.t 84), (some (80, false)), [3, 6, 2]⟩,
                                  ⟨(some 86), .pick (.t 80) (.c (.bool true)) (.t 85), none, [2, 7]⟩] false)
                                (.cond (.t 86)
                                 (.seq
                                  (.region [
                                    ⟨(some 2), .mov (.c (.bool false)), none, []⟩] false)
                                  .ret)
                                 .skip))
                               (.seq
                                (.region [
                                  ⟨(some 88), .faddr 1 (.t 4), none, []⟩,
                                  ⟨(some 89), .load 1 false (.t 88), none, [0]⟩,
                                  ⟨(some 90), .mov (.t 15), none, []⟩,
                                  ⟨(some 91), .iaddrS [.int .u8 0, .int .i64 0, .int .i64 0] (.t 89) (.t 90), none, [1, 2]⟩,
                                  ⟨(some 92), .load 3 true (.t 91), none, [3]⟩,
                                  ⟨(some 93), .mov (.t 13), none, []⟩,
                                  ⟨(some 94), .call 23 [(.t 92), (.t 93)], none, [4, 5]⟩,
                                  ⟨(some 87), .mov (.t 94), none, [6]⟩,
                                  ⟨(some 95), .extract 0 (.t 87), none, [7]⟩,
                                  ⟨(some 96), .extract 1 (.t 87), none, [7]⟩,
                                  ⟨(some 16), .mov (.t 95), none, [8, 6, 0, 1, 2, 3, 4, 5, 6, 7, 8]⟩,
                                  ⟨(some 17), .mov (.t 96), none, [9, 10, 0, 1, 2, 3, 4, 5, 6, 7, 8, 9, 10]⟩] false)
                                (.seq
                                 (.seq
                                  (.region [
                                    ⟨(some 97), .mov (.t 17), none, []⟩,
                                    ⟨(some 98), .not (.t 97), none, [0]⟩] false)
                                  (.cond (.t 98)
                                   (.seq
                                    (.region [
                                      ⟨(some 2), .mov (.c (.bool false)), none, []⟩] false)
                                    .ret)
                                   .skip))
                                 (.seq
                                  (.seq
                                   (.region [
                                     ⟨(some 99), .mov (.t 12), none, []⟩,
                                     ⟨(some 100), .len 0 (.t 99), none, [0]⟩,
                                     ⟨(some 101), .mov (.c (.int .i64 0)), none, []⟩] false)
                                   (.block 4
                                    (.loop 2
                                     (.seq
                                      (.region [
                                        ⟨(some 102), .cmp .lss 0 (.t 101) (.t 100), none, []⟩] false)
                                      (.seq
                                       (.cond (.t 102)
                                        .skip
                                        (.exit 4))
                                       (.seq
                                        (.block 5
                                         (.seq
                                          (.region [
                                            ⟨(some 103), .iaddrS [.int .i64 0] (.t 99) (.t 101), none, []⟩,
                                            ⟨(some 104), .load 1 false (.t 103), none, [0]⟩,
                                            ⟨(some 19), .mov (.t 104), none, [1, 0, 1]⟩] false)
                                          (.seq
                                           (.region [
                                             ⟨(some 105), .mov (.t 19), none, []⟩,
                                             ⟨(some 106), .mov (.t 16), none, []⟩,
                                             ⟨(some 107), .cmp .eql 0 (.t 105) (.t 106), none, [0, 1]⟩] false)
                                           (.cond (.t 107)
                                            (.seq
                                             (.region [
                                               ⟨(some 2), .mov (.c (.bool false)), none, []⟩] false)
                                             .ret)
                                            .skip))))
                                        (.region [
                                          ⟨(some 108), .arith .add (.t 101) (.c (.int .i64 1)), none, []⟩,
                                          ⟨(some 101), .mov (.t 108), none, [0]⟩] false)))))))
                                  (.region [
                                    ⟨(some 109), .mov (.t 12), none, []⟩,
                                    ⟨(some 110), .mov (.t 16), none, []⟩,
                                    ⟨(some 111), .bsliceO 3 1 [.int .i64 0] [(0, (.t 110))], none, [1]⟩,
                                    ⟨(some 112), .append 3 8 [.int .i64 0] (.t 109) (.t 111), none, [0, 2]⟩,
                                    ⟨(some 113), .mov (.t 16), none, []⟩,
                                    ⟨(some 12), .mov (.t 112), none, [3, 3, 0, 1, 2, 3]⟩,
                                    ⟨(some 13), .mov (.t 113), none, [4, 5, 0, 1, 2, 3, 4, 5]⟩] false)))))))
                            (.region [
                              ⟨(some 114), .arith .add (.t 74) (.c (.int .i64 1)), none, []⟩,
                              ⟨(some 74), .mov (.t 114), none, [0]⟩] false)))))))
                      (.seq
                       (.region [
                         ⟨(some 115), .mov (.t 9), none, []⟩,
                         ⟨(some 116), .cmp .eql 0 (.t 115) (.c (.int .i64 0)), none, [0]⟩,
                         ⟨(some 117), .mov (.t 116), none, [1]⟩,
                         ⟨(some 118), .mov (.t 13), (some (117, true)), [2]⟩,
                         ⟨(some 119), .faddr 2 (.t 6), (some (117, true)), [2]⟩,
                         ⟨(some 120), .load 1 false (.t 119), (some (117, true)), [4, 2]⟩,
                         ⟨(some 121), .cmp .neq 0 (.t 118) (.t 120), (some (117, true)), [3, 5, 2]⟩,
                         ⟨(some 122), .pick (.t 117) (.t 121) (.c (.bool false)), none, [2, 6]⟩] false)
                       (.cond (.t 122)
                        (.seq
                         (.region [
                           ⟨(some 2), .mov (.c (.bool false)), none, []⟩] false)
                         .ret)
                        .skip))))))))))
              (.region [
                ⟨(some 123), .arith .add (.t 32) (.c (.int .i64 1)), none, []⟩,
                ⟨(some 32), .mov (.t 123), none, [0]⟩] false)))))))
        (.seq
         (.region [
           ⟨(some 2), .mov (.c (.bool true)), none, []⟩] false)
         .ret)))))))
def rv4 : List RV := [.t 2]
theorem rc4_ok : comp Try.prog Try.f4.ntmps (Try.f4.body.getD .skip) = some (erase rc4) := by kernel_rfl
theorem rv4_ok : compRes Try.prog Try.f4.results.toList = some rv4 := by kernel_rfl

/-- baseboard/baseboardlaw26.RouteMetric [22] -/
def rc5 : RC :=
  (.seq
   (.region [
     ⟨(some 2), .mov (.c (.bool false)), none, []⟩] false)
   (.seq
    (.seq
     (.region [
       ⟨(some 16), .call 9 [], none, []⟩,
       ⟨(some 17), .not (.t 16), none, [0]⟩] false)
     (.cond (.t 17)
      (.seq
       (.region [
         ⟨(some 2), .mov (.c (.bool false)), none, []⟩] false)
       .ret)
      .skip))
    (.seq
     (.region [
       ⟨(some 18), .mov (.t 0), none, []⟩,
       ⟨(some 19), .call 10 [(.t 18), (.c (.int .i64 120))], none, [0]⟩,
       ⟨(some 3), .mov (.t 19), none, [1, 1, 0, 1]⟩] false)
     (.seq
      (.region [
        ⟨(some 20), .mov (.t 3), none, []⟩,
        ⟨(some 21), .call 11 [(.t 20)], none, [0]⟩,
        ⟨(some 4), .alloc [.int .i64 0, .nil, .nil], none, []⟩,
        ⟨none, .store 3 (.t 4) (.t 21), none, [2, 1, 1, 0, 1, 2]⟩] false)
      (.seq
       (.seq
        (.region [
          ⟨(some 22), .load 3 true (.t 4), none, []⟩,
          ⟨(some 23), .call 16 [(.t 22)], none, [0]⟩,
          ⟨(some 24), .cmp .neq 0 (.t 23) (.c (.int .i64 0)), none, [1]⟩] false)
        (.cond (.t 24)
         (.seq
          (.region [
            ⟨(some 2), .mov (.c (.bool true)), none, []⟩] false)
          .ret)
         .skip))
       (.seq
        (.region [
          ⟨(some 25), .mov (.t 3), none, []⟩,
          ⟨(some 26), .faddr 0 (.t 4), none, []⟩,
          ⟨(some 27), .load 1 false (.t 26), none, [1]⟩,
          ⟨(some 28), .call 13 [(.t 25), (.t 27)], none, [1, 2, 0]⟩,
          ⟨(some 29), .mov (.t 3), none, []⟩,
          ⟨(some 30), .faddr 0 (.t 4), none, []⟩,
          ⟨(some 31), .load 1 false (.t 30), none, [5]⟩,
          ⟨(some 32), .call 13 [(.t 29), (.t 31)], none, [0, 2, 1, 5, 3, 6, 4]⟩,
          ⟨(some 33), .mov (.t 3), none, []⟩,
          ⟨(some 34), .faddr 0 (.t 4), none, []⟩,
          ⟨(some 35), .load 1 false (.t 34), none, [9]⟩,
          ⟨(some 36), .call 13 [(.t 33), (.t 35)], none, [4, 6, 3, 5, 1, 2, 0, 9, 7, 10, 8]⟩,
          ⟨(some 5), .mov (.t 28), none, [8, 10, 7, 9, 5, 6, 4, 2, 1, 0, 11, 3]⟩,
          ⟨(some 6), .mov (.t 32), none, [11, 9, 10, 8, 6, 5, 4, 3, 2, 1, 0, 12, 7]⟩,
          ⟨(some 7), .mov (.t 36), none, [12, 10, 9, 8, 7, 6, 5, 4, 3, 2, 1, 0, 13, 11]⟩] true)
        (.seq
         (.region [
           ⟨(some 38), .load 3 true (.t 4), none, []⟩,
           ⟨(some 39), .mov (.t 5), none, []⟩,
           ⟨(some 40), .mov (.t 6), none, []⟩,
           ⟨(some 41), .call 14 [(.t 38), (.t 39), (.t 40)], none, [0, 1, 2]⟩,
           ⟨(some 37), .mov (.t 41), none, [3]⟩,
           ⟨(some 42), .extract 0 (.t 37), none, [4]⟩,
           ⟨(some 43), .extract 1 (.t 37), none, [4]⟩,
           ⟨(some 8), .mov (.t 42), none, [5, 3, 0, 1, 2, 3, 4, 5]⟩,
           ⟨(some 9), .mov (.t 43), none, [6, 7, 0, 1, 2, 3, 4, 5, 6, 7]⟩] false)
         (.seq
          (.region [
            ⟨(some 45), .load 3 true (.t 4), none, []⟩,
            ⟨(some 46), .mov (.t 6), none, []⟩,
            ⟨(some 47), .mov (.t 5), none, []⟩,
            ⟨(some 48), .call 14 [(.t 45), (.t 46), (.t 47)], none, [0, 1, 2]⟩,
            ⟨(some 44), .mov (.t 48), none, [3]⟩,
            ⟨(some 49), .extract 0 (.t 44), none, [4]⟩,
            ⟨(some 50), .extract 1 (.t 44), none, [4]⟩,
            ⟨(some 10), .mov (.t 49), none, [5, 3, 0, 1, 2, 3, 4, 5]⟩,
            ⟨(some 11), .mov (.t 50), none, [6, 7, 0, 1, 2, 3, 4, 5, 6, 7]⟩] false)
          (.seq
           (.region [
             ⟨(some 52), .load 3 true (.t 4), none, []⟩,
             ⟨(some 53), .mov (.t 5), none, []⟩,
             ⟨(some 54), .mov (.t 7), none, []⟩,
             ⟨(some 55), .call 14 [(.t 52), (.t 53), (.t 54)], none, [0, 1, 2]⟩,
             ⟨(some 51), .mov (.t 55), none, [3]⟩,
             ⟨(some 56), .extract 0 (.t 51), none, [4]⟩,
             ⟨(some 57), .extract 1 (.t 51), none, [4]⟩,
             ⟨(some 12), .mov (.t 56), none, [5, 3, 0, 1, 2, 3, 4, 5]⟩,
             ⟨(some 13), .mov (.t 57), none, [6, 7, 0, 1, 2, 3, 4, 5, 6, 7]⟩] false)
           (.seq
            (.region [
              ⟨(some 59), .load 3 true (.t 4), none, []⟩,
              ⟨(some 60), .mov (.t 7), none, []⟩,
              ⟨(some 61), .mov (.t 6), none, []⟩,
              ⟨(some 62), .call 14 [(.t 59), (.t 60), (.t 61)], none, [0, 1, 2]⟩,
              ⟨(some 58), .mov (.t 62), none, [3]⟩,
              ⟨(some 63), .extract 0 (.t 58), none, [4]⟩,
              ⟨(some 64), .extract 1 (.t 58), none, [4]⟩,
              ⟨(some 14), .mov (.t 63), none, [5, 3, 0, 1, 2, 3, 4, 5]⟩,
              ⟨(some 15), .mov (.t 64), none, [6, 7, 0, 1, 2, 3, 4, 5, 6, 7]⟩] false)
            (.seq
             (.seq
              (.region [
                ⟨(some 65), .mov (.t 9), none, []⟩,
                ⟨(some 66), .mov (.t 11), none, []⟩,
                ⟨(some 67), .cmp .neq 0 (.t 65) (.t 66), none, [0, 1]⟩,
                ⟨(some 68), .mov (.t 67), none, [2]⟩,
                ⟨(some 69), .mov (.t 8), (some (68, false)), [3]⟩,
                ⟨(some 70), .mov (.t 10), (some (68, false)), [3]⟩,
                ⟨(some 71), .cmp .neq 0 (.t 69) (.t 70), (some (68, false)), [4, 5, 3]⟩,
                ⟨(some 72), .pick (.t 68) (.c (.bool true)) (.t 71), none, [3, 6]⟩,
                ⟨(some 73), .mov (.t 72), none, [7, 3]⟩,
                ⟨(some 74), .mov (.t 9), (some (73, false)), [8]⟩,
                ⟨(some 75), .cmp .eql 0 (.t 74) (.c (.int .i64 0)), (some (73, false)), [9, 8]⟩,
                ⟨(some 76), .mov (.t 75), (some (73, false)), [10, 8, 8]⟩,
                ⟨(some 77), .mov (.t 8), (some (76, true)), [11]⟩,
                ⟨(some 78), .cmp .eql 0 (.t 77) (.c (.int .i64 0)), (some (76, true)), [12, 11]⟩,
                ⟨(some 79), .pick (.t 76) (.t 78) (.c (.bool false)), (some (73, false)), [11, 13, 8]⟩,
                ⟨(some 80), .mov (.t 5), (some (73, false)), [8]⟩,
                ⟨(some 81), .mov (.t 6), (some (73, false)), [8]⟩,
                ⟨(some 82), .cmp .eql 0 (.t 80) (.t 81), (some (73, false)), [15, 16, 8]⟩,
                ⟨(some 83), .cmp .neq 1 (.t 79) (.t 82), (some (73, false)), [14, 17, 8]⟩,
                ⟨(some 84), .pick (.t 73) (.c (.bool true)) (.t 83), none, [8, 18]⟩] false)
              (.cond (.t 84)
               (.seq
                (.region [
                  ⟨(some 2), .mov (.c (.bool false)), none, []⟩] false)
                .ret)
               .skip))
             (.seq
              (.seq
               (.region [
                 ⟨(some 85), .mov (.t 13), none, []⟩,
                 ⟨(some 86), .cmp .neq 0 (.t 85) (.c (.int .i64 0)), none, [0]⟩,
                 ⟨(some 87), .mov (.t 86), none, [1]⟩,
                 ⟨(some 88), .mov (.t 15), (some (87, false)), [2]⟩,
                 ⟨(some 89), .cmp .neq 0 (.t 88) (.c (.int .i64 0)), (some (87, false)), [3, 2]⟩,
                 ⟨(some 90), .pick (.t 87) (.c (.bool true)) (.t 89), none, [2, 4]⟩] false)
               (.cond (.t 90)
                (.seq
                 (.region [
                   ⟨(some 2), .mov (.c (.bool true)), none, []⟩] false)
                 .ret)
                .skip))
              (.seq
               (.region [
                 ⟨(some 91), .mov (.t 9), none, []⟩,
                 ⟨(some 92), .cmp .eql 0 (.t 91) (.c (.int .i64 0)), none, [0]⟩,
                 ⟨(some 93), .mov (.t 92), none, [1]⟩,
                 ⟨(some 94), .mov (.t 8), (some (93, true)), [2]⟩,
                 ⟨(some 95), .mov (.t 12), (some (93, true)), [2]⟩,
                 ⟨(some 96), .mov (.t 14), (some (93, true)), [2]⟩,
                 ⟨(some 97), .arith .add (.t 95) (.t 96), (some (93, true)), [4, 5, 2]⟩,
                 ⟨(some 98), .cmp .leq 0 (.t 94) (.t 97), (some (93, true)), [3, 6, 2]⟩,
                 ⟨(some 99), .pick (.t 93) (.t 98) (.c (.bool false)), none, [2, 7]⟩,
                 ⟨(some 100), .mov (.t 99), none, [8, 2]⟩,
                 ⟨(some 101), .mov (.t 9), (some (100, false)), [9]⟩,
                 ⟨(some 102), .cmp .eql 0 (.t 101) (.c (.int .i64 40)), (some (100, false)), [10, 9]⟩,
                 ⟨(some 103), .mov (.t 102), (some (100, false)), [11, 9, 9]⟩,
                 ⟨(some 104), .mov (.t 12), (some (103, true)), [12]⟩,
                 ⟨(some 105), .mov (.t 14), (some (103, true)), [12]⟩,
                 ⟨(some 106), .arith .add (.t 104) (.t 105), (some (103, true)), [13, 14, 12]⟩,
                 ⟨(some 107), .cmp .gtr 0 (.t 106) (.c (.int .i64 7)), (some (103, true)), [15, 12]⟩,
                 ⟨(some 108), .pick (.t 103) (.t 107) (.c (.bool false)), (some (100, false)), [12, 16, 9]⟩,
                 ⟨(some 109), .pick (.t 100) (.c (.bool true)) (.t 108), none, [9, 17]⟩,
                 ⟨(some 2), .mov (.t 109), none, [18, 12, 0, 1, 2, 3, 4, 5, 6, 7, 8, 9, 10, 11, 12, 13, 14, 15, 16, 17, 18]⟩] false)
               .ret)))))))))))))
def rv5 : List RV := [.t 2]
theorem rc5_ok : comp Try.prog Try.f5.ntmps (Try.f5.body.getD .skip) = some (erase rc5) := by kernel_rfl
theorem rv5_ok : compRes Try.prog Try.f5.results.toList = some rv5 := by kernel_rfl

/-- baseboard/baseboardlaw26.RouteGrows [22, 5, 5] -/
def rc6 : RC :=
  (.seq
   (.region [
     ⟨(some 6), .mov (.c (.bool false)), none, []⟩] false)
   (.seq
    (.seq
     (.region [
       ⟨(some 16), .call 9 [], none, []⟩,
       ⟨(some 17), .not (.t 16), none, [0]⟩] false)
     (.cond (.t 17)
      (.seq
       (.region [
         ⟨(some 6), .mov (.c (.bool false)), none, []⟩] false)
       .ret)
      .skip))
    (.seq
     (.region [
       ⟨(some 18), .mov (.t 0), none, []⟩,
       ⟨(some 19), .call 10 [(.t 18), (.c (.int .i64 120))], none, [0]⟩,
       ⟨(some 7), .mov (.t 19), none, [1, 1, 0, 1]⟩] false)
     (.seq
      (.region [
        ⟨(some 20), .mov (.t 7), none, []⟩,
        ⟨(some 21), .call 11 [(.t 20)], none, [0]⟩,
        ⟨(some 8), .alloc [.int .i64 0, .nil, .nil], none, []⟩,
        ⟨none, .store 3 (.t 8) (.t 21), none, [2, 1, 1, 0, 1, 2]⟩] false)
      (.seq
       (.region [
         ⟨(some 22), .load 3 true (.t 8), none, []⟩,
         ⟨(some 9), .alloc [.int .i64 0, .nil, .nil], none, []⟩,
         ⟨none, .store 3 (.t 9) (.t 22), none, [1, 0, 0, 1]⟩] false)
       (.seq
        (.region [
          ⟨(some 23), .faddr 1 (.t 8), none, []⟩,
          ⟨(some 24), .load 1 false (.t 23), none, [0]⟩,
          ⟨(some 25), .appD 45 24 [.int .u8 0, .int .i64 0, .int .i64 0] (.c (.nil)) (.t 24), none, [0, 1]⟩,
          ⟨(some 26), .mov (.t 1), none, []⟩,
          ⟨(some 27), .conv .i64 (.t 26), none, [3]⟩,
          ⟨(some 28), .faddr 0 (.t 8), none, []⟩,
          ⟨(some 29), .load 1 false (.t 28), none, [5]⟩,
          ⟨(some 30), .arith .rem (.t 27) (.t 29), none, [5, 3, 6, 4]⟩,
          ⟨(some 31), .mov (.t 2), none, []⟩,
          ⟨(some 32), .conv .i64 (.t 31), none, [8]⟩,
          ⟨(some 33), .faddr 0 (.t 8), none, []⟩,
          ⟨(some 34), .load 1 false (.t 33), none, [10]⟩,
          ⟨(some 35), .arith .rem (.t 32) (.t 34), none, [10, 8, 11, 9]⟩,
          ⟨(some 36), .build [.int .u8 0, .int .i64 0, .int .i64 0] [(0, 1, (.c (.int .u8 100))), (1, 1, (.t 30)), (2, 1, (.t 35))], none, [9, 11, 8, 10, 4, 6, 3, 5, 12, 7]⟩,
          ⟨(some 37), .bslice 1 [.int .u8 0, .int .i64 0, .int .i64 0] [(0, (.t 36))], none, [7, 12, 5, 3, 6, 4, 10, 8, 11, 9, 13]⟩,
          ⟨(some 38), .appD 45 24 [.int .u8 0, .int .i64 0, .int .i64 0] (.t 25) (.t 37), none, [13, 9, 11, 8, 10, 4, 6, 3, 5, 12, 7, 1, 0, 14, 2]⟩,
          ⟨(some 39), .faddr 1 (.t 9), none, [15, 14, 13, 12, 11, 10, 9, 8, 7, 6, 5, 4, 3, 2, 1, 0]⟩,
          ⟨none, .store 1 (.t 39) (.t 38), none, [14, 13, 12, 11, 10, 9, 8, 7, 6, 5, 4, 3, 2, 1, 0, 15, 16]⟩] true)
        (.seq
         (.seq
          (.region [
            ⟨(some 40), .load 3 true (.t 8), none, []⟩,
            ⟨(some 41), .call 16 [(.t 40)], none, [0]⟩,
            ⟨(some 42), .cmp .neq 0 (.t 41) (.c (.int .i64 0)), none, [1]⟩,
            ⟨(some 43), .mov (.t 42), none, [2, 1]⟩,
            ⟨(some 44), .load 3 true (.t 9), (some (43, false)), [3]⟩,
            ⟨(some 45), .call 16 [(.t 44)], (some (43, false)), [4, 3, 3]⟩,
            ⟨(some 46), .cmp .neq 0 (.t 45) (.c (.int .i64 0)), (some (43, false)), [5, 3]⟩,
            ⟨(some 47), .pick (.t 43) (.c (.bool true)) (.t 46), none, [3, 6]⟩] false)
          (.cond (.t 47)
           (.seq
            (.region [
              ⟨(some 6), .mov (.c (.bool true)), none, []⟩] false)
            .ret)
           .skip))
         (.seq
          (.seq
           (.region [
             ⟨(some 10), .mov (.c (.int .i64 0)), none, []⟩] false)
           (.block 0
            (.loop 0
             (.seq
              (.seq
               (.region [
                 ⟨(some 48), .mov (.t 10), none, []⟩,
                 ⟨(some 49), .faddr 0 (.t 8), none, []⟩,
                 ⟨(some 50), .load 1 false (.t 49), none, [1]⟩,
                 ⟨(some 51), .cmp .lss 0 (.t 48) (.t 50), none, [0, 2]⟩] false)
               (.cond (.t 51)
                .skip
                (.exit 0)))
              (.seq
               (.block 1
                (.seq
                 (.region [
                   ⟨(some 11), .mov (.c (.int .i64 0)), none, []⟩] false)
                 (.block 2
                  (.loop 1
                   (.seq
                    (.seq
                     (.region [
                       ⟨(some 54), .mov (.t 11), none, []⟩,
                       ⟨(some 55), .faddr 0 (.t 8), none, []⟩,
                       ⟨(some 56), .load 1 false (.t 55), none, [1]⟩,
                       ⟨(some 57), .cmp .lss 0 (.t 54) (.t 56), none, [0, 2]⟩] false)
                     (.cond (.t 57)
                      .skip
                      (.exit 2)))
                    (.seq
                     (.block 3
                      (.seq
                       (.region [
                         ⟨(some 61), .load 3 true (.t 8), none, []⟩,
                         ⟨(some 62), .mov (.t 10), none, []⟩,
                         ⟨(some 63), .mov (.t 11), none, []⟩,
                         ⟨(some 64), .call 14 [(.t 61), (.t 62), (.t 63)], none, [0, 1, 2]⟩,
                         ⟨(some 60), .mov (.t 64), none, [3]⟩,
                         ⟨(some 65), .extract 0 (.t 60), none, [4]⟩,
                         ⟨(some 66), .extract 1 (.t 60), none, [4]⟩,
                         ⟨(some 12), .mov (.t 65), none, [5, 3, 0, 1, 2, 3, 4, 5]⟩,
                         ⟨(some 13), .mov (.t 66), none, [6, 7, 0, 1, 2, 3, 4, 5, 6, 7]⟩] false)
                       (.seq
                        (.region [
                          ⟨(some 68), .load 3 true (.t 9), none, []⟩,
                          ⟨(some 69), .mov (.t 10), none, []⟩,
                          ⟨(some 70), .mov (.t 11), none, []⟩,
                          ⟨(some 71), .call 14 [(.t 68), (.t 69), (.t 70)], none, [0, 1, 2]⟩,
                          ⟨(some 67), .mov (.t 71), none, [3]⟩,
                          ⟨(some 72), .extract 0 (.t 67), none, [4]⟩,
                          ⟨(some 73), .extract 1 (.t 67), none, [4]⟩,
                          ⟨(some 14), .mov (.t 72), none, [5, 3, 0, 1, 2, 3, 4, 5]⟩,
                          ⟨(some 15), .mov (.t 73), none, [6, 7, 0, 1, 2, 3, 4, 5, 6, 7]⟩] false)
                        (.seq
                         (.region [
                           ⟨(some 74), .mov (.t 13), none, []⟩,
                           ⟨(some 75), .cmp .eql 0 (.t 74) (.c (.int .i64 0)), none, [0]⟩,
                           ⟨(some 76), .mov (.t 75), none, [1]⟩,
                           ⟨(some 77), .mov (.t 15), (some (76, true)), [2]⟩,
                           ⟨(some 78), .cmp .neq 0 (.t 77) (.c (.int .i64 0)), (some (76, true)), [3, 2]⟩,
                           ⟨(some 79), .mov (.t 78), (some (76, true)), [4, 2, 2]⟩,
                           ⟨(some 80), .mov (.t 14), (some (79, false)), [5]⟩,
                           ⟨(some 81), .mov (.t 12), (some (79, false)), [5]⟩,
                           ⟨(some 82), .cmp .gtr 0 (.t 80) (.t 81), (some (79, false)), [6, 7, 5]⟩,
                           ⟨(some 83), .pick (.t 79) (.c (.bool true)) (.t 82), (some (76, true)), [5, 8, 2]⟩,
                           ⟨(some 84), .pick (.t 76) (.t 83) (.c (.bool false)), none, [2, 9]⟩] false)
                         (.cond (.t 84)
                          (.seq
                           (.region [
                             ⟨(some 6), .mov (.c (.bool false)), none, []⟩] false)
                           .ret)
                          .skip)))))
                     (.region [
                       ⟨(some 58), .mov (.t 11), none, []⟩,
                       ⟨(some 59), .arith .add (.t 58) (.c (.int .i64 1)), none, [0]⟩,
                       ⟨(some 11), .mov (.t 59), none, [1, 0, 1]⟩] false)))))))
               (.region [
                 ⟨(some 52), .mov (.t 10), none, []⟩,
                 ⟨(some 53), .arith .add (.t 52) (.c (.int .i64 1)), none, [0]⟩,
                 ⟨(some 10), .mov (.t 53), none, [1, 0, 1]⟩] false))))))
          (.seq
           (.region [
             ⟨(some 6), .mov (.c (.bool true)), none, []⟩] false)
           .ret)))))))))
def rv6 : List RV := [.t 6]
theorem rc6_ok : comp Try.prog Try.f6.ntmps (Try.f6.body.getD .skip) = some (erase rc6) := by kernel_rfl
theorem rv6_ok : compRes Try.prog Try.f6.results.toList = some rv6 := by kernel_rfl

/-- baseboard/baseboardlaw26.RouteForwards [22] -/
def rc7 : RC :=
  (.seq
   (.region [
     ⟨(some 2), .mov (.c (.bool false)), none, []⟩] false)
   (.seq
    (.seq
     (.region [
       ⟨(some 16), .call 9 [], none, []⟩,
       ⟨(some 17), .not (.t 16), none, [0]⟩] false)
     (.cond (.t 17)
      (.seq
       (.region [
         ⟨(some 2), .mov (.c (.bool false)), none, []⟩] false)
       .ret)
      .skip))
    (.seq
     (.region [
       ⟨(some 18), .mov (.t 0), none, []⟩,
       ⟨(some 19), .call 10 [(.t 18), (.c (.int .i64 120))], none, [0]⟩,
       ⟨(some 3), .mov (.t 19), none, [1, 1, 0, 1]⟩] false)
     (.seq
      (.region [
        ⟨(some 20), .mov (.t 3), none, []⟩,
        ⟨(some 21), .call 11 [(.t 20)], none, [0]⟩,
        ⟨(some 4), .alloc [.int .i64 0, .nil, .nil], none, []⟩,
        ⟨none, .store 3 (.t 4) (.t 21), none, [2, 1, 1, 0, 1, 2]⟩] false)
      (.seq
       (.seq
        (.region [
          ⟨(some 22), .load 3 true (.t 4), none, []⟩,
          ⟨(some 23), .call 16 [(.t 22)], none, [0]⟩,
          ⟨(some 24), .cmp .neq 0 (.t 23) (.c (.int .i64 0)), none, [1]⟩] false)
        (.cond (.t 24)
         (.seq
          (.region [
            ⟨(some 2), .mov (.c (.bool true)), none, []⟩] false)
          .ret)
         .skip))
       (.seq
        (.seq
         (.region [
           ⟨(some 25), .faddr 2 (.t 4), none, []⟩,
           ⟨(some 26), .load 1 false (.t 25), none, [0]⟩,
           ⟨(some 27), .len 0 (.t 26), none, [1]⟩,
           ⟨(some 28), .mov (.c (.int .i64 0)), none, []⟩] false)
         (.block 0
          (.loop 0
           (.seq
            (.region [
              ⟨(some 29), .cmp .lss 0 (.t 28) (.t 27), none, []⟩] false)
            (.seq
             (.cond (.t 29)
              .skip
              (.exit 0))
             (.seq
              (.block 1
               (.seq
                (.region [
                  ⟨(some 30), .iaddrS [.int .u8 0, .int .u8 0, .int .i64 0] (.t 26) (.t 28), none, []⟩,
                  ⟨(some 31), .load 3 true (.t 30), none, [0]⟩,
                  ⟨(some 6), .alloc [.int .u8 0, .int .u8 0, .int .i64 0], none, []⟩,
                  ⟨none, .store 3 (.t 6) (.t 31), none, [2, 1, 0, 1, 2]⟩] false)
                (.seq
                 (.region [
                   ⟨(some 32), .mov (.t 3), none, []⟩,
                   ⟨(some 33), .faddr 0 (.t 4), none, []⟩,
                   ⟨(some 34), .load 1 false (.t 33), none, [1]⟩,
                   ⟨(some 35), .call 13 [(.t 32), (.t 34)], none, [0, 2]⟩,
                   ⟨(some 7), .mov (.t 35), none, [3, 3, 0, 1, 2, 3]⟩] false)
                 (.seq
                  (.region [
                    ⟨(some 37), .load 3 true (.t 4), none, []⟩,
                    ⟨(some 38), .mov (.t 7), none, []⟩,
                    ⟨(some 39), .faddr 0 (.t 6), none, []⟩,
                    ⟨(some 40), .load 1 false (.t 39), none, [2]⟩,
                    ⟨(some 41), .call 20 [(.t 37), (.t 38), (.t 40)], none, [0, 1, 3]⟩,
                    ⟨(some 36), .mov (.t 41), none, [4]⟩,
                    ⟨(some 42), .extract 0 (.t 36), none, [5]⟩,
                    ⟨(some 43), .extract 1 (.t 36), none, [5]⟩,
                    ⟨(some 8), .mov (.t 42), none, [6, 4, 0, 1, 2, 3, 4, 5, 6]⟩,
                    ⟨(some 9), .mov (.t 43), none, [7, 8, 0, 1, 2, 3, 4, 5, 6, 7, 8]⟩] false)
                  (.seq
                   (.seq
                    (.region [
                      ⟨(some 44), .mov (.t 9), none, []⟩,
                      ⟨(some 45), .cmp .neq 0 (.t 44) (.c (.int .i64 0)), none, [0]⟩] false)
                    (.cond (.t 45)
                     (.exit 1)
                     .skip))
                   (.seq
                    (.region [
                      ⟨(some 10), .mov (.c (.int .i64 0)), none, []⟩] false)
                    (.block 2
                     (.loop 1
                      (.seq
                       (.block 3
                        (.seq
                         (.region [
                           ⟨(some 49), .load 3 true (.t 4), none, []⟩,
                           ⟨(some 50), .mov (.t 7), none, []⟩,
                           ⟨(some 51), .faddr 0 (.t 6), none, []⟩,
                           ⟨(some 52), .load 1 false (.t 51), none, [2]⟩,
                           ⟨(some 53), .call 18 [(.t 49), (.t 50), (.t 52)], none, [0, 1, 3]⟩,
                           ⟨(some 48), .mov (.t 53), none, [4]⟩,
                           ⟨(some 54), .extract 0 (.t 48), none, [5]⟩,
                           ⟨(some 55), .extract 1 (.t 48), none, [5]⟩,
                           ⟨(some 56), .extract 2 (.t 48), none, [5]⟩,
                           ⟨(some 11), .mov (.t 54), none, [6, 4, 0, 1, 2, 3, 4, 5, 6]⟩,
                           ⟨(some 12), .mov (.t 55), none, [7, 9, 0, 1, 2, 3, 4, 5, 6, 7, 9]⟩,
                           ⟨(some 13), .mov (.t 56), none, [8, 10, 0, 1, 2, 3, 4, 5, 6, 7, 8, 9, 10]⟩] false)
                         (.seq
                          (.region [
                            ⟨(some 58), .load 3 true (.t 4), none, []⟩,
                            ⟨(some 59), .mov (.t 7), none, []⟩,
                            ⟨(some 60), .faddr 2 (.t 6), none, []⟩,
                            ⟨(some 61), .load 1 false (.t 60), none, [2]⟩,
                            ⟨(some 62), .call 14 [(.t 58), (.t 59), (.t 61)], none, [0, 1, 3]⟩,
                            ⟨(some 57), .mov (.t 62), none, [4]⟩,
                            ⟨(some 63), .extract 0 (.t 57), none, [5]⟩,
                            ⟨(some 64), .extract 1 (.t 57), none, [5]⟩,
                            ⟨(some 14), .mov (.t 63), none, [6, 4, 0, 1, 2, 3, 4, 5, 6]⟩,
                            ⟨(some 15), .mov (.t 64), none, [7, 8, 0, 1, 2, 3, 4, 5, 6, 7, 8]⟩] false)
                          (.seq
                           (.seq
                            (.region [
                              ⟨(some 65), .mov (.t 13), none, []⟩,
                              ⟨(some 66), .cmp .neq 0 (.t 65) (.c (.int .i64 0)), none, [0]⟩,
                              ⟨(some 67), .mov (.t 66), none, [1]⟩,
                              ⟨(some 68), .mov (.t 15), (some (67, false)), [2]⟩,
                              ⟨(some 69), .cmp .neq 0 (.t 68) (.c (.int .i64 0)), (some (67, false)), [3, 2]⟩,
                              ⟨(some 70), .pick (.t 67) (.c (.bool true)) (.t 69), none, [2, 4]⟩,
                              ⟨(some 71), .mov (.t 70), none, [5, 2]⟩,
                              ⟨(some 72), .mov (.t 14), (some (71, false)), [6]⟩,
                              ⟨(some 73), .mov (.t 8), (some (71, false)), [6]⟩,
                              ⟨(some 74), .len 0 (.t 73), (some (71, false)), [8, 6]⟩,
                              ⟨(some 75), .mov (.t 10), (some (71, false)), [6]⟩,
                              ⟨(some 76), .arith .sub (.t 74) (.t 75), (some (71, false)), [9, 10, 6]⟩,
                              ⟨(some 77), .cmp .neq 0 (.t 72) (.t 76), (some (71, false)), [7, 11, 6]⟩,
                              ⟨(some 78), .pick (.t 71) (.c (.bool true)) (.t 77), none, [6, 12]⟩] false)
                            (.cond (.t 78)
                             (.seq
                              (.region [
                                ⟨(some 2), .mov (.c (.bool false)), none, []⟩] false)
                              .ret)
                             .skip))
                           (.seq
                            (.seq
                             (.region [
                               ⟨(some 79), .mov (.t 14), none, []⟩,
                               ⟨(some 80), .cmp .eql 0 (.t 79) (.c (.int .i64 0)), none, [0]⟩] false)
                             (.cond (.t 80)
                              (.seq
                               (.seq
                                (.region [
                                  ⟨(some 81), .mov (.t 12), none, []⟩,
                                  ⟨(some 82), .cmp .neq 0 (.t 81) (.c (.int .i64 (-1))), none, [0]⟩,
                                  ⟨(some 83), .mov (.t 82), none, [1]⟩,
                                  ⟨(some 84), .mov (.t 11), (some (83, false)), [2]⟩,
                                  ⟨(some 85), .faddr 1 (.t 6), (some (83, false)), [2]⟩,
                                  ⟨(some 86), .load 1 false (.t 85), (some (83, false)), [4, 2]⟩,
                                  ⟨(some 87), .cmp .neq 0 (.t 84) (.t 86), (some (83, false)), [3, 5, 2]⟩,
                                  ⟨(some 88), .pick (.t 83) (.c (.bool true)) (.t 87), none, [2, 6]⟩,
                                  ⟨(some 89), .mov (.t 88), none, [7, 2]⟩,
                                  ⟨(some 90), .mov (.t 7), (some (89, false)), [8]⟩,
                                  ⟨(some 91), .faddr 2 (.t 6), (some (89, false)), [8]⟩,
                                  ⟨(some 92), .load 1 false (.t 91), (some (89, false)), [10, 8]⟩,
                                  ⟨(some 93), .cmp .neq 0 (.t 90) (.t 92), (some (89, false)), [9, 11, 8]⟩,
                                  ⟨(some 94), .pick (.t 89) (.c (.bool true)) (.t 93), none, [8, 12]⟩] false)
                                (.cond (.t 94)
                                 (.seq
                                  (.region [
                                    ⟨(some 2), .mov (.c (.bool false)), none, []⟩] false)
                                  .ret)
                                 .skip))
                               (.exit 2))
                              .skip))
                            (.seq
                             (.seq
                              (.region [
                                ⟨(some 95), .mov (.t 12), none, []⟩,
                                ⟨(some 96), .mov (.t 8), none, []⟩,
                                ⟨(some 97), .mov (.t 10), none, []⟩,
                                ⟨(some 98), .iaddrS [.int .i64 0] (.t 96) (.t 97), none, [1, 2]⟩,
                                ⟨(some 99), .load 1 false (.t 98), none, [3]⟩,
                                ⟨(some 100), .cmp .neq 0 (.t 95) (.t 99), none, [0, 4]⟩,
                                ⟨(some 101), .mov (.t 100), none, [5]⟩,
                                ⟨(some 102), .mov (.t 11), (some (101, false)), [6]⟩,
                                ⟨(some 103), .faddr 1 (.t 4), (some (101, false)), [6]⟩,
                                ⟨(some 104), .load 1 false (.t 103), (some (101, false)), [8, 6]⟩,
                                ⟨(some 105), .mov (.t 12), (some (101, false)), [6]⟩,
                                ⟨(some 106), .iaddrS [.int .u8 0, .int .i64 0, .int .i64 0] (.t 104) (.t 105), (some (101, false)), [9, 10, 6]⟩,
                                ⟨(some 107), .faddr 0 (.t 106), (some (101, false)), [11, 6]⟩,
                                ⟨(some 108), .load 1 false (.t 107), (some (101, false)), [12, 6]⟩,
                                ⟨(some 109), .cmp .neq 0 (.t 102) (.t 108), (some (101, false)), [7, 13, 6]⟩,
                                ⟨(some 110), .pick (.t 101) (.c (.bool true)) (.t 109), none, [6, 14]⟩] false)
                              (.cond (.t 110)
                               (.seq
                                (.region [
                                  ⟨(some 2), .mov (.c (.bool false)), none, []⟩] false)
                                .ret)
                               .skip))
                             (.region [
                               ⟨(some 112), .faddr 1 (.t 4), none, []⟩,
                               ⟨(some 113), .load 1 false (.t 112), none, [0]⟩,
                               ⟨(some 114), .mov (.t 12), none, []⟩,
                               ⟨(some 115), .iaddrS [.int .u8 0, .int .i64 0, .int .i64 0] (.t 113) (.t 114), none, [1, 2]⟩,
                               ⟨(some 116), .load 3 true (.t 115), none, [3]⟩,
                               ⟨(some 117), .mov (.t 7), none, []⟩,
                               ⟨(some 118), .call 23 [(.t 116), (.t 117)], none, [4, 5]⟩,
                               ⟨(some 111), .mov (.t 118), none, [6]⟩,
                               ⟨(some 119), .extract 0 (.t 111), none, [7]⟩,
                               ⟨(some 120), .extract 1 (.t 111), none, [7]⟩,
                               ⟨(some 7), .mov (.t 119), none, [8, 6, 0, 1, 2, 3, 4, 5, 6, 7, 8]⟩] false)))))))
                       (.region [
                         ⟨(some 46), .mov (.t 10), none, []⟩,
                         ⟨(some 47), .arith .add (.t 46) (.c (.int .i64 1)), none, [0]⟩,
                         ⟨(some 10), .mov (.t 47), none, [1, 0, 1]⟩] false))))))))))
              (.region [
                ⟨(some 121), .arith .add (.t 28) (.c (.int .i64 1)), none, []⟩,
                ⟨(some 28), .mov (.t 121), none, [0]⟩] false)))))))
        (.seq
         (.region [
           ⟨(some 2), .mov (.c (.bool true)), none, []⟩] false)
         .ret)))))))
def rv7 : List RV := [.t 2]
theorem rc7_ok : comp Try.prog Try.f7.ntmps (Try.f7.body.getD .skip) = some (erase rc7) := by kernel_rfl
theorem rv7_ok : compRes Try.prog Try.f7.results.toList = some rv7 := by kernel_rfl

/-- baseboard/baseboardlaw26.RouteLines [5, 5, 5] -/
def rc8 : RC :=
  (.seq
   (.region [
     ⟨(some 6), .mov (.c (.bool false)), none, []⟩] false)
   (.seq
    (.seq
     (.region [
       ⟨(some 14), .call 9 [], none, []⟩,
       ⟨(some 15), .not (.t 14), none, [0]⟩] false)
     (.cond (.t 15)
      (.seq
       (.region [
         ⟨(some 6), .mov (.c (.bool false)), none, []⟩] false)
       .ret)
      .skip))
    (.seq
     (.region [
       ⟨(some 16), .mov (.t 0), none, []⟩,
       ⟨(some 17), .conv .i64 (.t 16), none, [0]⟩,
       ⟨(some 18), .arith .rem (.t 17) (.c (.int .i64 15)), none, [1]⟩,
       ⟨(some 19), .arith .add (.c (.int .i64 2)) (.t 18), none, [2]⟩,
       ⟨(some 20), .build [.int .i64 0, .nil, .nil] [(0, 1, (.t 19))], none, [3]⟩,
       ⟨(some 7), .alloc [.int .i64 0, .nil, .nil], none, []⟩,
       ⟨none, .store 3 (.t 7) (.t 20), none, [5, 4, 0, 1, 2, 3, 4, 5]⟩] false)
     (.seq
      (.seq
       (.region [
         ⟨(some 8), .mov (.c (.int .i64 0)), none, []⟩] false)
       (.block 0
        (.loop 0
         (.seq
          (.seq
           (.region [
             ⟨(some 21), .mov (.t 8), none, []⟩,
             ⟨(some 22), .arith .add (.t 21) (.c (.int .i64 1)), none, [0]⟩,
             ⟨(some 23), .faddr 0 (.t 7), none, []⟩,
             ⟨(some 24), .load 1 false (.t 23), none, [2]⟩,
             ⟨(some 25), .cmp .lss 0 (.t 22) (.t 24), none, [1, 3]⟩] false)
           (.cond (.t 25)
            .skip
            (.exit 0)))
          (.seq
           (.block 1
            (.region [
              ⟨(some 28), .faddr 1 (.t 7), none, []⟩,
              ⟨(some 29), .load 1 false (.t 28), none, [0]⟩,
              ⟨(some 30), .mov (.t 8), none, []⟩,
              ⟨(some 31), .arith .add (.c (.int .i64 20)) (.t 30), none, [2]⟩,
              ⟨(some 32), .conv .u8 (.t 31), none, [3]⟩,
              ⟨(some 33), .mov (.t 8), none, []⟩,
              ⟨(some 34), .arith .add (.t 33) (.c (.int .i64 1)), none, [5]⟩,
              ⟨(some 35), .mov (.t 8), none, []⟩,
              ⟨(some 36), .build [.int .u8 0, .int .i64 0, .int .i64 0] [(0, 1, (.t 32)), (1, 1, (.t 34)), (2, 1, (.t 35))], none, [4, 6, 7]⟩,
              ⟨(some 37), .bsliceO 45 1 [.int .u8 0, .int .i64 0, .int .i64 0] [(0, (.t 36))], none, [8]⟩,
              ⟨(some 38), .append 45 24 [.int .u8 0, .int .i64 0, .int .i64 0] (.t 29) (.t 37), none, [1, 9]⟩,
              ⟨(some 39), .faddr 1 (.t 7), none, [0, 1, 2, 3, 4, 5, 6, 7, 8, 9, 10]⟩,
              ⟨none, .store 1 (.t 39) (.t 38), none, [11, 10, 10, 0, 1, 2, 3, 4, 5, 6, 7, 8, 9, 10]⟩] false))
           (.region [
             ⟨(some 26), .mov (.t 8), none, []⟩,
             ⟨(some 27), .arith .add (.t 26) (.c (.int .i64 1)), none, [0]⟩,
             ⟨(some 8), .mov (.t 27), none, [1, 0, 1]⟩] false))))))
      (.seq
       (.region [
         ⟨(some 40), .mov (.t 1), none, []⟩,
         ⟨(some 41), .conv .i64 (.t 40), none, [0]⟩,
         ⟨(some 42), .faddr 0 (.t 7), none, []⟩,
         ⟨(some 43), .load 1 false (.t 42), none, [2]⟩,
         ⟨(some 44), .arith .rem (.t 41) (.t 43), none, [2, 0, 3, 1]⟩,
         ⟨(some 45), .mov (.t 2), none, []⟩,
         ⟨(some 46), .conv .i64 (.t 45), none, [5]⟩,
         ⟨(some 47), .faddr 0 (.t 7), none, []⟩,
         ⟨(some 48), .load 1 false (.t 47), none, [7]⟩,
         ⟨(some 49), .arith .rem (.t 46) (.t 48), none, [7, 5, 8, 6]⟩,
         ⟨(some 9), .mov (.t 44), none, [3, 2, 1, 0, 4]⟩,
         ⟨(some 10), .mov (.t 49), none, [8, 7, 6, 5, 4, 3, 2, 1, 0, 10, 9]⟩] true)
       (.seq
        (.region [
          ⟨(some 51), .load 3 true (.t 7), none, []⟩,
          ⟨(some 52), .mov (.t 9), none, []⟩,
          ⟨(some 53), .mov (.t 10), none, []⟩,
          ⟨(some 54), .call 14 [(.t 51), (.t 52), (.t 53)], none, [0, 1, 2]⟩,
          ⟨(some 50), .mov (.t 54), none, [3]⟩,
          ⟨(some 55), .extract 0 (.t 50), none, [4]⟩,
          ⟨(some 56), .extract 1 (.t 50), none, [4]⟩,
          ⟨(some 11), .mov (.t 55), none, [5, 3, 0, 1, 2, 3, 4, 5]⟩,
          ⟨(some 12), .mov (.t 56), none, [6, 7, 0, 1, 2, 3, 4, 5, 6, 7]⟩] false)
        (.seq
         (.region [
           ⟨(some 57), .mov (.t 9), none, []⟩,
           ⟨(some 58), .mov (.t 10), none, []⟩,
           ⟨(some 59), .arith .sub (.t 57) (.t 58), none, [0, 1]⟩,
           ⟨(some 60), .mov (.t 10), none, []⟩,
           ⟨(some 61), .mov (.t 9), none, []⟩,
           ⟨(some 62), .arith .sub (.t 60) (.t 61), none, [3, 4]⟩,
           ⟨(some 63), .minmax true [(.t 59), (.t 62)], none, [2, 5]⟩,
           ⟨(some 13), .mov (.t 63), none, [6, 0, 1, 2, 3, 4, 5, 6]⟩] false)
         (.seq
          (.seq
           (.region [
             ⟨(some 64), .mov (.t 13), none, []⟩,
             ⟨(some 65), .cmp .gtr 0 (.t 64) (.c (.int .i64 7)), none, [0]⟩] false)
           (.cond (.t 65)
            (.seq
             (.region [
               ⟨(some 66), .mov (.t 12), none, []⟩,
               ⟨(some 67), .cmp .eql 0 (.t 66) (.c (.int .i64 40)), none, [0]⟩,
               ⟨(some 68), .mov (.t 67), none, [1]⟩,
               ⟨(some 69), .mov (.t 11), (some (68, true)), [2]⟩,
               ⟨(some 70), .cmp .eql 0 (.t 69) (.c (.int .i64 0)), (some (68, true)), [3, 2]⟩,
               ⟨(some 71), .pick (.t 68) (.t 70) (.c (.bool false)), none, [2, 4]⟩,
               ⟨(some 6), .mov (.t 71), none, [5, 2, 0, 1, 2, 3, 4, 5]⟩] false)
             .ret)
            .skip))
          (.seq
           (.region [
             ⟨(some 72), .mov (.t 12), none, []⟩,
             ⟨(some 73), .cmp .eql 0 (.t 72) (.c (.int .i64 0)), none, [0]⟩,
             ⟨(some 74), .mov (.t 73), none, [1]⟩,
             ⟨(some 75), .mov (.t 11), (some (74, true)), [2]⟩,
             ⟨(some 76), .mov (.t 13), (some (74, true)), [2]⟩,
             ⟨(some 77), .cmp .eql 0 (.t 75) (.t 76), (some (74, true)), [3, 4, 2]⟩,
             ⟨(some 78), .pick (.t 74) (.t 77) (.c (.bool false)), none, [2, 5]⟩,
             ⟨(some 6), .mov (.t 78), none, [6, 2, 0, 1, 2, 3, 4, 5, 6]⟩] false)
           .ret)))))))))
def rv8 : List RV := [.t 6]
theorem rc8_ok : comp Try.prog Try.f8.ntmps (Try.f8.body.getD .skip) = some (erase rc8) := by kernel_rfl
theorem rv8_ok : compRes Try.prog Try.f8.results.toList = some rv8 := by kernel_rfl

/-- baseboard/baseboardlaw26.awake [] -/
def rc9 : RC :=
  (.seq
   (.region [
     ⟨(some 0), .mov (.c (.bool false)), none, []⟩] false)
   (.seq
    (.region [
      ⟨(some 7), .build [.int .u8 0, .int .i64 0, .int .i64 0] [(0, 1, (.c (.int .u8 9))), (1, 1, (.c (.int .i64 0))), (2, 1, (.c (.int .i64 1)))], none, []⟩,
      ⟨(some 8), .build [.int .u8 0, .int .i64 0, .int .i64 0] [(0, 1, (.c (.int .u8 10))), (1, 1, (.c (.int .i64 1))), (2, 1, (.c (.int .i64 2)))], none, []⟩,
      ⟨(some 9), .build [.int .u8 0, .int .i64 0, .int .i64 0] [(0, 1, (.c (.int .u8 11))), (1, 1, (.c (.int .i64 0))), (2, 1, (.c (.int .i64 2)))], none, []⟩,
      ⟨(some 10), .bslice 3 [.int .u8 0, .int .i64 0, .int .i64 0] [(0, (.t 7)), (1, (.t 8)), (2, (.t 9))], none, [0, 1, 2]⟩,
      ⟨(some 11), .build [.int .u8 0, .int .u8 0, .int .i64 0] [(0, 1, (.c (.int .u8 5))), (1, 1, (.c (.int .u8 20))), (2, 1, (.c (.int .i64 2)))], none, []⟩,
      ⟨(some 12), .bslice 1 [.int .u8 0, .int .u8 0, .int .i64 0] [(0, (.t 11))], none, [4]⟩,
      ⟨(some 13), .build [.int .i64 0, .nil, .nil] [(0, 1, (.c (.int .i64 3))), (1, 1, (.t 10)), (2, 1, (.t 12))], none, [3, 5]⟩,
      ⟨(some 1), .alloc [.int .i64 0, .nil, .nil], none, []⟩,
      ⟨none, .store 3 (.t 1) (.t 13), none, [7, 6, 0, 1, 2, 3, 4, 5, 6, 7]⟩] false)
    (.seq
     (.region [
       ⟨(some 15), .load 3 true (.t 1), none, []⟩,
       ⟨(some 16), .call 18 [(.t 15), (.c (.int .i64 0)), (.c (.int .u8 5))], none, [0]⟩,
       ⟨(some 14), .mov (.t 16), none, [1]⟩,
       ⟨(some 17), .extract 0 (.t 14), none, [2]⟩,
       ⟨(some 18), .extract 1 (.t 14), none, [2]⟩,
       ⟨(some 19), .extract 2 (.t 14), none, [2]⟩,
       ⟨(some 2), .mov (.t 17), none, [3, 1, 0, 1, 2, 3]⟩,
       ⟨(some 3), .mov (.t 18), none, [4, 6, 0, 1, 2, 3, 4, 6]⟩,
       ⟨(some 4), .mov (.t 19), none, [5, 7, 0, 1, 2, 3, 4, 5, 6, 7]⟩] false)
     (.seq
      (.region [
        ⟨(some 21), .load 3 true (.t 1), none, []⟩,
        ⟨(some 22), .call 20 [(.t 21), (.c (.int .i64 0)), (.c (.int .u8 5))], none, [0]⟩,
        ⟨(some 20), .mov (.t 22), none, [1]⟩,
        ⟨(some 23), .extract 0 (.t 20), none, [2]⟩,
        ⟨(some 24), .extract 1 (.t 20), none, [2]⟩,
        ⟨(some 5), .mov (.t 23), none, [3, 1, 0, 1, 2, 3]⟩,
        ⟨(some 6), .mov (.t 24), none, [4, 5, 0, 1, 2, 3, 4, 5]⟩] false)
      (.seq
       (.region [
         ⟨(some 25), .mov (.t 4), none, []⟩,
         ⟨(some 26), .cmp .eql 0 (.t 25) (.c (.int .i64 0)), none, [0]⟩,
         ⟨(some 27), .mov (.t 26), none, [1]⟩,
         ⟨(some 28), .mov (.t 6), (some (27, true)), [2]⟩,
         ⟨(some 29), .cmp .eql 0 (.t 28) (.c (.int .i64 0)), (some (27, true)), [3, 2]⟩,
         ⟨(some 30), .pick (.t 27) (.t 29) (.c (.bool false)), none, [2, 4]⟩,
         ⟨(some 31), .mov (.t 30), none, [5, 2]⟩,
         ⟨(some 32), .mov (.t 2), (some (31, true)), [6]⟩,
         ⟨(some 33), .cmp .eql 0 (.t 32) (.c (.int .u8 11)), (some (31, true)), [7, 6]⟩,
         ⟨(some 34), .pick (.t 31) (.t 33) (.c (.bool false)), none, [6, 8]⟩,
         ⟨(some 35), .mov (.t 34), none, [9, 6]⟩,
         ⟨(some 36), .mov (.t 3), (some (35, true)), [10]⟩,
         ⟨(some 37), .cmp .eql 0 (.t 36) (.c (.int .i64 2)), (some (35, true)), [11, 10]⟩,
         ⟨(some 38), .pick (.t 35) (.t 37) (.c (.bool false)), none, [10, 12]⟩,
         ⟨(some 39), .mov (.t 38), none, [13, 10]⟩,
         ⟨(some 40), .mov (.t 5), (some (39, true)), [14]⟩,
         ⟨(some 41), .len 0 (.t 40), (some (39, true)), [15, 14]⟩,
         ⟨(some 42), .cmp .eql 0 (.t 41) (.c (.int .i64 1)), (some (39, true)), [16, 14]⟩,
         ⟨(some 43), .pick (.t 39) (.t 42) (.c (.bool false)), none, [14, 17]⟩,
         ⟨(some 44), .mov (.t 43), none, [18, 14]⟩,
         ⟨(some 45), .mov (.t 5), (some (44, true)), [19]⟩,
         ⟨(some 46), .iaddrS [.int .i64 0] (.t 45) (.c (.int .i64 0)), (some (44, true)), [20, 19]⟩,
         ⟨(some 47), .load 1 false (.t 46), (some (44, true)), [21, 19]⟩,
         ⟨(some 48), .cmp .eql 0 (.t 47) (.c (.int .i64 2)), (some (44, true)), [22, 19]⟩,
         ⟨(some 49), .pick (.t 44) (.t 48) (.c (.bool false)), none, [19, 23]⟩,
         ⟨(some 0), .mov (.t 49), none, [24, 19, 0, 1, 2, 3, 4, 5, 6, 7, 8, 9, 10, 11, 12, 13, 14, 15, 16, 17, 18, 19, 20, 21, 22, 23, 24]⟩] false)
       .ret)))))
def rv9 : List RV := [.t 0]
theorem rc9_ok : comp Try.prog Try.f9.ntmps (Try.f9.body.getD .skip) = some (erase rc9) := by kernel_rfl
theorem rv9_ok : compRes Try.prog Try.f9.results.toList = some rv9 := by kernel_rfl

/-- baseboard/baseboardfield.New [22, 3] -/
def rc10 : RC :=
  (.seq
   (.region [
     ⟨(some 4), .mov (.c (.junk)), none, []⟩] false)
   (.seq
    (.region [
      ⟨(some 5), .mov (.t 0), none, []⟩,
      ⟨(some 6), .mov (.t 0), none, []⟩,
      ⟨(some 7), .len 0 (.t 6), none, [1]⟩,
      ⟨(some 8), .mov (.t 1), none, []⟩,
      ⟨(some 9), .minmax false [(.t 7), (.t 8)], none, [2, 3]⟩,
      ⟨(some 10), .slice 1 (.t 5) none (some (.t 9)), none, [0, 4]⟩,
      ⟨(some 11), .build [.nil, .int .i64 0] [(0, 1, (.t 10))], none, [5]⟩,
      ⟨(some 12), .box 2 (.t 11), none, [6]⟩,
      ⟨(some 4), .mov (.t 12), none, [7, 0, 1, 2, 3, 4, 5, 6, 7]⟩] false)
    .ret))
def rv10 : List RV := [.t 4]
theorem rc10_ok : comp Try.prog Try.f10.ntmps (Try.f10.body.getD .skip) = some (erase rc10) := by kernel_rfl
theorem rv10_ok : compRes Try.prog Try.f10.results.toList = some rv10 := by kernel_rfl

/-- (*baseboard/baseboardfield.Codes).Network [28] -/
def rc11 : RC :=
  (.seq
   (.region [
     ⟨(some 2), .alloc [.int .i64 0, .nil, .nil], none, []⟩] false)
   (.seq
    (.region [
      ⟨(some 9), .mov (.t 0), none, []⟩,
      ⟨(some 10), .call 13 [(.t 9), (.c (.int .i64 6))], none, [0]⟩,
      ⟨(some 11), .arith .add (.c (.int .i64 1)) (.t 10), none, [1]⟩,
      ⟨(some 12), .build [.int .i64 0, .nil, .nil] [(0, 1, (.t 11))], none, [2]⟩,
      ⟨(some 3), .alloc [.int .i64 0, .nil, .nil], none, []⟩,
      ⟨none, .store 3 (.t 3) (.t 12), none, [4, 3, 1, 0, 1, 2, 3, 4]⟩] false)
    (.seq
     (.seq
      (.region [
        ⟨(some 13), .mov (.t 0), none, []⟩,
        ⟨(some 14), .call 13 [(.t 13), (.c (.int .i64 8))], none, [0]⟩,
        ⟨(some 15), .cmp .eql 0 (.t 14) (.c (.int .i64 7)), none, [1]⟩] false)
      (.cond (.t 15)
       (.region [
         ⟨(some 16), .faddr 0 (.t 3), none, []⟩,
         ⟨none, .store 1 (.t 16) (.c (.int .i64 16)), none, [0]⟩] false)
       .skip))
     (.seq
      (.seq
       (.cut 4 (.region [
         ⟨(some 17), .mov (.t 0), none, []⟩,
         ⟨(some 18), .call 13 [(.t 17), (.c (.int .i64 10))], none, [0]⟩,
         ⟨(some 4), .mov (.t 18), none, [1, 1, 0, 1]⟩] false))
       (.block 0
        (.loop 0
         (.seq
          (.seq
           (.region [
             ⟨(some 19), .mov (.t 4), none, []⟩,
             ⟨(some 20), .cmp .gtr 0 (.t 19) (.c (.int .i64 0)), none, [0]⟩] false)
           (.cond (.t 20)
            .skip
            (.exit 0)))
          (.seq
           (.block 1
            (.region [
              ⟨(some 23), .faddr 1 (.t 3), none, []⟩,
              ⟨(some 24), .load 1 false (.t 23), none, [0]⟩,
              ⟨(some 25), .mov (.t 4), none, []⟩,
              ⟨(some 26), .arith .add (.c (.int .i64 16)) (.t 25), none, [2]⟩,
              ⟨(some 27), .conv .u8 (.t 26), none, [2, 3]⟩,
              ⟨(some 28), .mov (.t 0), none, []⟩,
              ⟨(some 29), .faddr 0 (.t 3), none, []⟩,
              ⟨(some 30), .load 1 false (.t 29), none, [6]⟩,
              ⟨(some 31), .call 13 [(.t 28), (.t 30)], none, [6, 7, 5]⟩,
              ⟨(some 32), .mov (.t 0), none, []⟩,
              ⟨(some 33), .faddr 0 (.t 3), none, []⟩,
              ⟨(some 34), .load 1 false (.t 33), none, [10]⟩,
              ⟨(some 35), .call 13 [(.t 32), (.t 34)], none, [5, 7, 6, 10, 8, 11, 9]⟩,
              ⟨(some 36), .build [.int .u8 0, .int .i64 0, .int .i64 0] [(0, 1, (.t 27)), (1, 1, (.t 31)), (2, 1, (.t 35))], none, [9, 11, 10, 5, 7, 6, 3, 2, 12, 8, 4]⟩,
              ⟨(some 37), .bslice 1 [.int .u8 0, .int .i64 0, .int .i64 0] [(0, (.t 36))], none, [4, 8, 12, 2, 3, 6, 7, 5, 10, 11, 9, 13]⟩,
              ⟨(some 38), .appD 45 24 [.int .u8 0, .int .i64 0, .int .i64 0] (.t 24) (.t 37), none, [13, 9, 11, 10, 5, 7, 6, 3, 2, 8, 4, 0, 12, 14, 1]⟩,
              ⟨(some 39), .faddr 1 (.t 3), none, [15, 14, 13, 12, 11, 10, 9, 8, 7, 6, 5, 4, 3, 2, 1, 0]⟩,
              ⟨none, .store 1 (.t 39) (.t 38), none, [14, 13, 12, 11, 10, 9, 8, 7, 6, 5, 4, 3, 2, 1, 0, 15, 16]⟩] true))
           (.region [
             ⟨(some 21), .mov (.t 4), none, []⟩,
             ⟨(some 22), .arith .sub (.t 21) (.c (.int .i64 1)), none, [0]⟩,
             ⟨(some 4), .mov (.t 22), none, [1, 0, 1]⟩] false))))))
      (.seq
       (.seq
        (.region [
          ⟨(some 40), .faddr 0 (.t 3), none, []⟩,
          ⟨(some 41), .load 1 false (.t 40), none, [0]⟩,
          ⟨(some 42), .cmp .eql 0 (.t 41) (.c (.int .i64 16)), none, [1]⟩] false)
        (.cond (.t 42)
         (.seq
          (.region [
            ⟨(some 43), .faddr 1 (.t 3), none, []⟩,
            ⟨none, .store 1 (.t 43) (.c (.nil)), none, [0]⟩] false)
          (.seq
           (.region [
             ⟨(some 44), .mov (.t 0), none, []⟩,
             ⟨(some 45), .call 13 [(.t 44), (.c (.int .i64 14))], none, [0]⟩,
             ⟨(some 46), .arith .add (.c (.int .i64 1)) (.t 45), none, [1]⟩,
             ⟨(some 5), .mov (.c (.int .i64 0)), none, [1]⟩,
             ⟨(some 6), .mov (.t 46), none, [2, 3, 0, 1, 2, 3]⟩] false)
           (.block 2
            (.loop 1
             (.seq
              (.seq
               (.region [
                 ⟨(some 47), .mov (.t 5), none, []⟩,
                 ⟨(some 48), .mov (.t 6), none, []⟩,
                 ⟨(some 49), .cmp .lss 0 (.t 47) (.t 48), none, [0, 1]⟩] false)
               (.cond (.t 49)
                .skip
                (.exit 2)))
              (.seq
               (.block 3
                (.region [
                  ⟨(some 52), .faddr 1 (.t 3), none, []⟩,
                  ⟨(some 53), .load 1 false (.t 52), none, [0]⟩,
                  ⟨(some 54), .mov (.t 5), none, []⟩,
                  ⟨(some 55), .arith .add (.c (.int .i64 16)) (.t 54), none, [2]⟩,
                  ⟨(some 56), .conv .u8 (.t 55), none, [3]⟩,
                  ⟨(some 57), .mov (.t 5), none, []⟩,
                  ⟨(some 58), .mov (.t 5), none, []⟩,
                  ⟨(some 59), .arith .add (.t 58) (.c (.int .i64 1)), none, [6]⟩,
                  ⟨(some 60), .build [.int .u8 0, .int .i64 0, .int .i64 0] [(0, 1, (.t 56)), (1, 1, (.t 57)), (2, 1, (.t 59))], none, [4, 5, 7]⟩,
                  ⟨(some 61), .bsliceO 45 1 [.int .u8 0, .int .i64 0, .int .i64 0] [(0, (.t 60))], none, [8]⟩,
                  ⟨(some 62), .append 45 24 [.int .u8 0, .int .i64 0, .int .i64 0] (.t 53) (.t 61), none, [1, 9]⟩,
                  ⟨(some 63), .faddr 1 (.t 3), none, [0, 1, 2, 3, 4, 5, 6, 7, 8, 9, 10]⟩,
                  ⟨none, .store 1 (.t 63) (.t 62), none, [11, 10, 10, 0, 1, 2, 3, 4, 5, 6, 7, 8, 9, 10]⟩] false))
               (.region [
                 ⟨(some 50), .mov (.t 5), none, []⟩,
                 ⟨(some 51), .arith .add (.t 50) (.c (.int .i64 1)), none, [0]⟩,
                 ⟨(some 5), .mov (.t 51), none, [1, 0, 1]⟩] false)))))))
         .skip))
       (.seq
        (.seq
         (.cut 5 (.region [
           ⟨(some 64), .mov (.t 0), none, []⟩,
           ⟨(some 65), .call 13 [(.t 64), (.c (.int .i64 6))], none, [0]⟩,
           ⟨(some 7), .mov (.t 65), none, [1, 1, 0, 1]⟩] false))
         (.block 4
          (.loop 2
           (.seq
            (.seq
             (.region [
               ⟨(some 66), .mov (.t 7), none, []⟩,
               ⟨(some 67), .cmp .gtr 0 (.t 66) (.c (.int .i64 0)), none, [0]⟩] false)
             (.cond (.t 67)
              .skip
              (.exit 4)))
            (.seq
             (.block 5
              (.region [
                ⟨(some 70), .faddr 2 (.t 3), none, []⟩,
                ⟨(some 71), .load 1 false (.t 70), none, [0]⟩,
                ⟨(some 72), .mov (.t 7), none, []⟩,
                ⟨(some 73), .conv .u8 (.t 72), none, [2]⟩,
                ⟨(some 74), .mov (.t 0), none, []⟩,
                ⟨(some 75), .call 13 [(.t 74), (.c (.int .i64 30))], none, [4]⟩,
                ⟨(some 76), .arith .add (.c (.int .i64 40)) (.t 75), none, [4, 5]⟩,
                ⟨(some 77), .conv .u8 (.t 76), none, [5, 4, 6]⟩,
                ⟨(some 78), .mov (.t 0), none, []⟩,
                ⟨(some 79), .faddr 0 (.t 3), none, []⟩,
                ⟨(some 80), .load 1 false (.t 79), none, [9]⟩,
                ⟨(some 81), .call 13 [(.t 78), (.t 80)], none, [4, 9, 5, 10, 8]⟩,
                ⟨(some 82), .build [.int .u8 0, .int .u8 0, .int .i64 0] [(0, 1, (.t 73)), (1, 1, (.t 77)), (2, 1, (.t 81))], none, [8, 10, 9, 6, 4, 5, 2, 11, 7, 3]⟩,
                ⟨(some 83), .bslice 1 [.int .u8 0, .int .u8 0, .int .i64 0] [(0, (.t 82))], none, [3, 7, 11, 2, 5, 4, 6, 9, 10, 8, 12]⟩,
                ⟨(some 84), .appD 50 16 [.int .u8 0, .int .u8 0, .int .i64 0] (.t 71) (.t 83), none, [12, 8, 10, 9, 6, 4, 5, 2, 7, 3, 0, 11, 13, 1]⟩,
                ⟨(some 85), .faddr 2 (.t 3), none, [14, 13, 12, 11, 10, 9, 8, 7, 6, 5, 4, 3, 2, 1, 0]⟩,
                ⟨none, .store 1 (.t 85) (.t 84), none, [13, 12, 11, 10, 9, 8, 7, 6, 5, 4, 3, 2, 1, 0, 14, 15]⟩] true))
             (.region [
               ⟨(some 68), .mov (.t 7), none, []⟩,
               ⟨(some 69), .arith .sub (.t 68) (.c (.int .i64 1)), none, [0]⟩,
               ⟨(some 7), .mov (.t 69), none, [1, 0, 1]⟩] false))))))
        (.seq
         (.seq
          (.region [
            ⟨(some 8), .mov (.c (.int .i64 0)), none, []⟩] false)
          (.block 6
           (.loop 3
            (.seq
             (.seq
              (.region [
                ⟨(some 86), .mov (.t 8), none, []⟩,
                ⟨(some 87), .faddr 1 (.t 3), none, []⟩,
                ⟨(some 88), .load 1 false (.t 87), none, [1]⟩,
                ⟨(some 89), .len 0 (.t 88), none, [2]⟩,
                ⟨(some 90), .cmp .lss 0 (.t 86) (.t 89), none, [0, 3]⟩] false)
              (.cond (.t 90)
               .skip
               (.exit 6)))
             (.seq
              (.block 7
               (.seq
                (.region [
                  ⟨(some 93), .faddr 1 (.t 3), none, []⟩,
                  ⟨(some 94), .load 1 false (.t 93), none, [0]⟩,
                  ⟨(some 95), .mov (.t 8), none, []⟩,
                  ⟨(some 96), .iaddrS [.int .u8 0, .int .i64 0, .int .i64 0] (.t 94) (.t 95), none, [0, 2, 1]⟩,
                  ⟨(some 97), .faddr 1 (.t 96), none, [1, 2, 0, 3]⟩,
                  ⟨(some 98), .load 1 false (.t 97), none, [3, 0, 2, 1, 4]⟩,
                  ⟨(some 99), .faddr 1 (.t 3), none, []⟩,
                  ⟨(some 100), .load 1 false (.t 99), none, [6]⟩,
                  ⟨(some 101), .mov (.t 8), none, []⟩,
                  ⟨(some 102), .iaddrS [.int .u8 0, .int .i64 0, .int .i64 0] (.t 100) (.t 101), none, [6, 8, 7]⟩,
                  ⟨(some 103), .faddr 2 (.t 102), none, [7, 8, 6, 9]⟩,
                  ⟨(some 104), .load 1 false (.t 103), none, [9, 6, 8, 7, 10]⟩,
                  ⟨(some 105), .cmp .eql 0 (.t 98) (.t 104), none, [10, 7, 8, 6, 9, 4, 1, 2, 0, 3, 11, 5]⟩,
                  ⟨(some 106), .mov (.t 105), none, [5, 11, 3, 0, 2, 1, 4, 9, 6, 8, 7, 10, 12]⟩,
                  ⟨(some 107), .mov (.t 0), (some (106, true)), [12, 10, 7, 8, 6, 9, 4, 1, 2, 0, 3, 11, 5, 13]⟩,
                  ⟨(some 108), .call 13 [(.t 107), (.c (.int .i64 8))], (some (106, true)), [5, 11, 3, 0, 2, 1, 4, 9, 6, 8, 7, 10, 12, 13, 14]⟩,
                  ⟨(some 109), .cmp .lss 0 (.t 108) (.c (.int .i64 7)), (some (106, true)), [14, 12, 10, 7, 8, 6, 9, 4, 1, 2, 0, 3, 11, 5, 13, 15]⟩,
                  ⟨(some 110), .pick (.t 106) (.t 109) (.c (.bool false)), none, [15, 14, 12, 10, 7, 8, 6, 9, 4, 1, 2, 0, 3, 11, 5, 16, 13]⟩] true)
                (.cond (.t 110)
                 (.region [
                   ⟨(some 111), .faddr 1 (.t 3), none, []⟩,
                   ⟨(some 112), .load 1 false (.t 111), none, [0]⟩,
                   ⟨(some 113), .mov (.t 8), none, []⟩,
                   ⟨(some 114), .faddr 1 (.t 3), none, []⟩,
                   ⟨(some 115), .load 1 false (.t 114), none, [3]⟩,
                   ⟨(some 116), .mov (.t 8), none, []⟩,
                   ⟨(some 117), .iaddrS [.int .u8 0, .int .i64 0, .int .i64 0] (.t 115) (.t 116), none, [3, 5, 4]⟩,
                   ⟨(some 118), .faddr 1 (.t 117), none, [4, 5, 3, 6]⟩,
                   ⟨(some 119), .load 1 false (.t 118), none, [6, 3, 5, 4, 7]⟩,
                   ⟨(some 120), .arith .add (.t 119) (.c (.int .i64 1)), none, [7, 4, 5, 3, 6, 8]⟩,
                   ⟨(some 121), .faddr 0 (.t 3), none, []⟩,
                   ⟨(some 122), .load 1 false (.t 121), none, [10]⟩,
                   ⟨(some 123), .arith .rem (.t 120) (.t 122), none, [10, 8, 6, 3, 5, 4, 7, 11, 9]⟩,
                   ⟨(some 124), .iaddrS [.int .u8 0, .int .i64 0, .int .i64 0] (.t 112) (.t 113), none, [12, 11, 10, 9, 8, 7, 6, 5, 4, 3, 0, 2, 1]⟩,
                   ⟨(some 125), .faddr 2 (.t 124), none, [12, 11, 10, 9, 8, 7, 6, 5, 4, 3, 2, 1, 0, 13]⟩,
                   ⟨none, .store 1 (.t 125) (.t 123), none, [13, 11, 10, 9, 8, 7, 6, 5, 4, 3, 2, 1, 0, 12, 14]⟩] true)
                 .skip)))
              (.region [
                ⟨(some 91), .mov (.t 8), none, []⟩,
                ⟨(some 92), .arith .add (.t 91) (.c (.int .i64 1)), none, [0]⟩,
                ⟨(some 8), .mov (.t 92), none, [1, 0, 1]⟩] false))))))
         (.seq
          (.region [
            ⟨(some 126), .load 3 true (.t 3), none, []⟩,
            ⟨none, .store 3 (.t 2) (.t 126), none, [0, 0]⟩] false)
          .ret))))))))
def rv11 : List RV := [.c 2 3 true]
theorem rc11_ok : comp Try.prog Try.f11.ntmps (Try.f11.body.getD .skip) = some (erase rc11) := by kernel_rfl
theorem rv11_ok : compRes Try.prog Try.f11.results.toList = some rv11 := by kernel_rfl

/-- baseboard/baseboardlaw26.odd [28, 26] -/
def rc12 : RC :=
  (.seq
   (.region [
     ⟨(some 3), .box 3 (.t 1), none, []⟩,
     ⟨(some 4), .alloc [.int .i64 0, .nil, .nil], none, []⟩] false)
   (.seq
    (.region [
      ⟨(some 6), .faddr 1 (.t 3), none, []⟩,
      ⟨(some 7), .load 1 false (.t 6), none, [0]⟩,
      ⟨(some 8), .appD 45 24 [.int .u8 0, .int .i64 0, .int .i64 0] (.c (.nil)) (.t 7), none, [0, 1]⟩,
      ⟨(some 9), .faddr 2 (.t 3), none, []⟩,
      ⟨(some 10), .load 1 false (.t 9), none, [3]⟩,
      ⟨(some 11), .appD 50 16 [.int .u8 0, .int .u8 0, .int .i64 0] (.c (.nil)) (.t 10), none, [1, 0, 3, 2, 4]⟩,
      ⟨(some 12), .faddr 1 (.t 3), none, [4, 3, 2, 1, 0]⟩,
      ⟨none, .store 1 (.t 12) (.t 8), none, [4, 3, 1, 0, 5, 2, 6]⟩,
      ⟨(some 13), .faddr 2 (.t 3), none, [7, 6, 5, 4, 3, 2, 1, 0]⟩,
      ⟨none, .store 1 (.t 13) (.t 11), none, [6, 4, 3, 2, 1, 0, 7, 5, 8]⟩] true)
    (.seq
     (.region [
       ⟨(some 14), .mov (.t 0), none, []⟩,
       ⟨(some 15), .call 13 [(.t 14), (.c (.int .i64 7))], none, [0]⟩,
       ⟨(some 5), .mov (.t 15), none, [1, 1, 0, 1]⟩] false)
     (.seq
      (.seq
       (.region [
         ⟨(some 16), .mov (.t 5), none, []⟩,
         ⟨(some 17), .cmp .lss 0 (.t 16) (.c (.int .i64 3)), none, [0]⟩,
         ⟨(some 18), .mov (.t 17), none, [1]⟩,
         ⟨(some 19), .faddr 1 (.t 3), (some (18, true)), [2]⟩,
         ⟨(some 20), .load 1 false (.t 19), (some (18, true)), [3, 2]⟩,
         ⟨(some 21), .len 0 (.t 20), (some (18, true)), [4, 2]⟩,
         ⟨(some 22), .cmp .eql 0 (.t 21) (.c (.int .i64 0)), (some (18, true)), [5, 2]⟩,
         ⟨(some 23), .pick (.t 18) (.t 22) (.c (.bool false)), none, [2, 6]⟩,
         ⟨(some 24), .mov (.t 23), none, [7, 2]⟩,
         ⟨(some 25), .mov (.t 5), (some (24, false)), [8]⟩,
         ⟨(some 26), .cmp .geq 0 (.t 25) (.c (.int .i64 3)), (some (24, false)), [9, 8]⟩,
         ⟨(some 27), .mov (.t 26), (some (24, false)), [10, 8, 8]⟩,
         ⟨(some 28), .mov (.t 5), (some (27, true)), [11]⟩,
         ⟨(some 29), .cmp .lss 0 (.t 28) (.c (.int .i64 6)), (some (27, true)), [12, 11]⟩,
         ⟨(some 30), .pick (.t 27) (.t 29) (.c (.bool false)), (some (24, false)), [11, 13, 8]⟩,
         ⟨(some 31), .mov (.t 30), (some (24, false)), [14, 11, 8]⟩,
         ⟨(some 32), .faddr 2 (.t 3), (some (31, true)), [15]⟩,
         ⟨(some 33), .load 1 false (.t 32), (some (31, true)), [16, 15]⟩,
         ⟨(some 34), .len 0 (.t 33), (some (31, true)), [17, 15]⟩,
         ⟨(some 35), .cmp .eql 0 (.t 34) (.c (.int .i64 0)), (some (31, true)), [18, 15]⟩,
         ⟨(some 36), .pick (.t 31) (.t 35) (.c (.bool false)), (some (24, false)), [15, 19, 8]⟩,
         ⟨(some 37), .pick (.t 24) (.c (.bool true)) (.t 36), none, [8, 20]⟩] false)
       (.cond (.t 37)
        (.region [
          ⟨(some 5), .mov (.c (.int .i64 6)), none, []⟩] false)
        .skip))
      (.seq
       (.seq
        (.region [
          ⟨(some 38), .mov (.t 5), none, []⟩] false)
        (.block 0
         (.seq
          (.region [
            ⟨(some 40), .cmp .eql 0 (.t 38) (.c (.int .i64 0)), none, []⟩,
            ⟨(some 39), .mov (.t 40), none, [0]⟩] false)
          (.cond (.t 39)
           (.region [
             ⟨(some 41), .faddr 1 (.t 3), none, []⟩,
             ⟨(some 42), .load 1 false (.t 41), none, [0]⟩,
             ⟨(some 43), .faddr 0 (.t 3), none, []⟩,
             ⟨(some 44), .load 1 false (.t 43), none, [2]⟩,
             ⟨(some 45), .faddr 1 (.t 3), none, []⟩,
             ⟨(some 46), .load 1 false (.t 45), none, [4]⟩,
             ⟨(some 47), .iaddrS [.int .u8 0, .int .i64 0, .int .i64 0] (.t 46) (.c (.int .i64 0)), none, [4, 5]⟩,
             ⟨(some 48), .faddr 2 (.t 47), none, [5, 4, 6]⟩,
             ⟨(some 49), .load 1 false (.t 48), none, [6, 4, 5, 7]⟩,
             ⟨(some 50), .bsliceO 3 3 [.int .i64 0] [(0, (.c (.int .i64 (-1)))), (1, (.t 44)), (2, (.t 49))], none, [7, 5, 4, 6, 2, 8, 3]⟩,
             ⟨(some 51), .mov (.t 0), none, []⟩,
             ⟨(some 52), .call 13 [(.t 51), (.c (.int .i64 3))], none, [10]⟩,
             ⟨(some 53), .iaddrS [.int .i64 0] (.t 50) (.t 52), none, [10, 3, 8, 2, 6, 4, 5, 7, 11, 9]⟩,
             ⟨(some 54), .load 1 false (.t 53), none, [9, 11, 7, 5, 4, 6, 2, 8, 3, 10, 12]⟩,
             ⟨(some 55), .iaddrS [.int .u8 0, .int .i64 0, .int .i64 0] (.t 42) (.c (.int .i64 0)), none, [13, 12, 11, 10, 9, 8, 7, 6, 5, 4, 3, 2, 0, 1]⟩,
             ⟨(some 56), .faddr 1 (.t 55), none, [13, 12, 11, 10, 9, 8, 7, 6, 5, 4, 3, 2, 1, 0, 14]⟩,
             ⟨none, .store 1 (.t 56) (.t 54), none, [14, 12, 10, 9, 8, 7, 6, 5, 4, 3, 2, 1, 0, 11, 13, 15]⟩] true)
           (.seq
            (.region [
              ⟨(some 58), .cmp .eql 0 (.t 38) (.c (.int .i64 1)), none, []⟩,
              ⟨(some 57), .mov (.t 58), none, [0]⟩] false)
            (.cond (.t 57)
             (.region [
               ⟨(some 59), .faddr 1 (.t 3), none, []⟩,
               ⟨(some 60), .load 1 false (.t 59), none, [0]⟩,
               ⟨(some 61), .bsliceO 5 6 [.int .u8 0] [(0, (.c (.int .u8 0))), (1, (.c (.int .u8 7))), (2, (.c (.int .u8 8))), (3, (.c (.int .u8 119))), (4, (.c (.int .u8 120))), (5, (.c (.int .u8 255)))], none, []⟩,
               ⟨(some 62), .mov (.t 0), none, []⟩,
               ⟨(some 63), .call 13 [(.t 62), (.c (.int .i64 6))], none, [3]⟩,
               ⟨(some 64), .iaddrS [.int .u8 0] (.t 61) (.t 63), none, [3, 4, 2]⟩,
               ⟨(some 65), .load 1 false (.t 64), none, [2, 4, 3, 5]⟩,
               ⟨(some 66), .iaddrS [.int .u8 0, .int .i64 0, .int .i64 0] (.t 60) (.c (.int .i64 0)), none, [6, 5, 4, 3, 2, 0, 1]⟩,
               ⟨(some 67), .faddr 0 (.t 66), none, [6, 5, 4, 3, 2, 1, 0, 7]⟩,
               ⟨none, .store 1 (.t 67) (.t 65), none, [7, 5, 3, 2, 1, 0, 4, 6, 8]⟩] true)
             (.seq
              (.region [
                ⟨(some 69), .cmp .eql 0 (.t 38) (.c (.int .i64 2)), none, []⟩,
                ⟨(some 68), .mov (.t 69), none, [0]⟩] false)
              (.cond (.t 68)
               (.region [
                 ⟨(some 70), .faddr 1 (.t 3), none, []⟩,
                 ⟨(some 71), .load 1 false (.t 70), none, [0]⟩,
                 ⟨(some 72), .faddr 1 (.t 3), none, []⟩,
                 ⟨(some 73), .load 1 false (.t 72), none, [2]⟩,
                 ⟨(some 74), .iaddrS [.int .u8 0, .int .i64 0, .int .i64 0] (.t 73) (.c (.int .i64 0)), none, [2, 3]⟩,
                 ⟨(some 75), .load 3 true (.t 74), none, [3, 2, 4]⟩,
                 ⟨(some 76), .bslice 1 [.int .u8 0, .int .i64 0, .int .i64 0] [(0, (.t 75))], none, [4, 2, 3, 5]⟩,
                 ⟨(some 77), .appD 45 24 [.int .u8 0, .int .i64 0, .int .i64 0] (.t 71) (.t 76), none, [5, 3, 2, 4, 0, 6, 1]⟩,
                 ⟨(some 78), .faddr 1 (.t 3), none, [7, 6, 5, 4, 3, 2, 1, 0]⟩,
                 ⟨none, .store 1 (.t 78) (.t 77), none, [6, 5, 4, 3, 2, 1, 0, 7, 8]⟩] true)
               (.seq
                (.region [
                  ⟨(some 80), .cmp .eql 0 (.t 38) (.c (.int .i64 3)), none, []⟩,
                  ⟨(some 79), .mov (.t 80), none, [0]⟩] false)
                (.cond (.t 79)
                 (.region [
                   ⟨(some 81), .faddr 2 (.t 3), none, []⟩,
                   ⟨(some 82), .load 1 false (.t 81), none, [0]⟩,
                   ⟨(some 83), .faddr 0 (.t 3), none, []⟩,
                   ⟨(some 84), .load 1 false (.t 83), none, [2]⟩,
                   ⟨(some 85), .bsliceO 3 2 [.int .i64 0] [(0, (.c (.int .i64 (-1)))), (1, (.t 84))], none, [2, 3]⟩,
                   ⟨(some 86), .mov (.t 0), none, []⟩,
                   ⟨(some 87), .call 13 [(.t 86), (.c (.int .i64 2))], none, [5]⟩,
                   ⟨(some 88), .iaddrS [.int .i64 0] (.t 85) (.t 87), none, [5, 3, 2, 6, 4]⟩,
                   ⟨(some 89), .load 1 false (.t 88), none, [4, 6, 2, 3, 5, 7]⟩,
                   ⟨(some 90), .iaddrS [.int .u8 0, .int .u8 0, .int .i64 0] (.t 82) (.c (.int .i64 0)), none, [8, 7, 6, 5, 4, 3, 2, 0, 1]⟩,
                   ⟨(some 91), .faddr 2 (.t 90), none, [8, 7, 6, 5, 4, 3, 2, 1, 0, 9]⟩,
                   ⟨none, .store 1 (.t 91) (.t 89), none, [9, 7, 5, 4, 3, 2, 1, 0, 6, 8, 10]⟩] true)
                 (.seq
                  (.region [
                    ⟨(some 93), .cmp .eql 0 (.t 38) (.c (.int .i64 4)), none, []⟩,
                    ⟨(some 92), .mov (.t 93), none, [0]⟩] false)
                  (.cond (.t 92)
                   (.region [
                     ⟨(some 94), .faddr 2 (.t 3), none, []⟩,
                     ⟨(some 95), .load 1 false (.t 94), none, [0]⟩,
                     ⟨(some 96), .bsliceO 5 4 [.int .u8 0] [(0, (.c (.int .u8 0))), (1, (.c (.int .u8 16))), (2, (.c (.int .u8 17))), (3, (.c (.int .u8 120)))], none, []⟩,
                     ⟨(some 97), .mov (.t 0), none, []⟩,
                     ⟨(some 98), .call 13 [(.t 97), (.c (.int .i64 4))], none, [3]⟩,
                     ⟨(some 99), .iaddrS [.int .u8 0] (.t 96) (.t 98), none, [3, 4, 2]⟩,
                     ⟨(some 100), .load 1 false (.t 99), none, [2, 4, 3, 5]⟩,
                     ⟨(some 101), .iaddrS [.int .u8 0, .int .u8 0, .int .i64 0] (.t 95) (.c (.int .i64 0)), none, [6, 5, 4, 3, 2, 0, 1]⟩,
                     ⟨(some 102), .faddr 1 (.t 101), none, [6, 5, 4, 3, 2, 1, 0, 7]⟩,
                     ⟨none, .store 1 (.t 102) (.t 100), none, [7, 5, 3, 2, 1, 0, 4, 6, 8]⟩] true)
                   (.seq
                    (.region [
                      ⟨(some 104), .cmp .eql 0 (.t 38) (.c (.int .i64 5)), none, []⟩,
                      ⟨(some 103), .mov (.t 104), none, [0]⟩] false)
                    (.cond (.t 103)
                     (.region [
                       ⟨(some 105), .faddr 2 (.t 3), none, []⟩,
                       ⟨(some 106), .load 1 false (.t 105), none, [0]⟩,
                       ⟨(some 107), .faddr 2 (.t 3), none, []⟩,
                       ⟨(some 108), .load 1 false (.t 107), none, [2]⟩,
                       ⟨(some 109), .iaddrS [.int .u8 0, .int .u8 0, .int .i64 0] (.t 108) (.c (.int .i64 0)), none, [2, 3]⟩,
                       ⟨(some 110), .load 3 true (.t 109), none, [3, 2, 4]⟩,
                       ⟨(some 111), .bslice 1 [.int .u8 0, .int .u8 0, .int .i64 0] [(0, (.t 110))], none, [4, 2, 3, 5]⟩,
                       ⟨(some 112), .appD 50 16 [.int .u8 0, .int .u8 0, .int .i64 0] (.t 106) (.t 111), none, [5, 3, 2, 4, 0, 6, 1]⟩,
                       ⟨(some 113), .faddr 2 (.t 3), none, [7, 6, 5, 4, 3, 2, 1, 0]⟩,
                       ⟨none, .store 1 (.t 113) (.t 112), none, [6, 5, 4, 3, 2, 1, 0, 7, 8]⟩] true)
                     (.seq
                      (.region [
                        ⟨(some 115), .cmp .eql 0 (.t 38) (.c (.int .i64 6)), none, []⟩,
                        ⟨(some 114), .mov (.t 115), none, [0]⟩] false)
                      (.cond (.t 114)
                       (.region [
                         ⟨(some 116), .bsliceO 3 4 [.int .i64 0] [(0, (.c (.int .i64 0))), (1, (.c (.int .i64 (-1)))), (2, (.c (.int .i64 17))), (3, (.c (.int .i64 9223372036854775807)))], none, []⟩,
                         ⟨(some 117), .mov (.t 0), none, []⟩,
                         ⟨(some 118), .call 13 [(.t 117), (.c (.int .i64 4))], none, [1]⟩,
                         ⟨(some 119), .iaddrS [.int .i64 0] (.t 116) (.t 118), none, [0, 2]⟩,
                         ⟨(some 120), .load 1 false (.t 119), none, [3]⟩,
                         ⟨(some 121), .faddr 0 (.t 3), none, [0, 1, 2, 3, 4]⟩,
                         ⟨none, .store 1 (.t 121) (.t 120), none, [5, 4, 2, 0, 1, 2, 3, 4]⟩] false)
                       .skip))))))))))))))))
       (.seq
        (.region [
          ⟨(some 122), .load 3 true (.t 3), none, []⟩,
          ⟨none, .store 3 (.t 4) (.t 122), none, [0, 0]⟩] false)
        .ret))))))
def rv12 : List RV := [.c 4 3 true]
theorem rc12_ok : comp Try.prog Try.f12.ntmps (Try.f12.body.getD .skip) = some (erase rc12) := by kernel_rfl
theorem rv12_ok : compRes Try.prog Try.f12.results.toList = some rv12 := by kernel_rfl

/-- (*baseboard/baseboardfield.Codes).Next [28, 3] -/
def rc13 : RC :=
  (.seq
   (.region [
     ⟨(some 4), .mov (.c (.int .i64 0)), none, []⟩] false)
   (.seq
    (.seq
     (.region [
       ⟨(some 6), .mov (.t 0), none, []⟩,
       ⟨(some 7), .call 25 [(.t 6)], none, [0]⟩,
       ⟨(some 8), .not (.t 7), none, [1]⟩,
       ⟨(some 9), .mov (.t 8), none, [2, 1]⟩,
       ⟨(some 10), .mov (.t 1), (some (9, false)), [3]⟩,
       ⟨(some 11), .cmp .lss 0 (.t 10) (.c (.int .i64 1)), (some (9, false)), [4, 3]⟩,
       ⟨(some 12), .pick (.t 9) (.c (.bool true)) (.t 11), none, [3, 5]⟩] false)
     (.cond (.t 12)
      (.seq
       (.region [
         ⟨(some 4), .mov (.c (.int .i64 0)), none, []⟩] false)
       .ret)
      .skip))
    (.seq
     (.region [
       ⟨(some 13), .mov (.t 0), none, []⟩,
       ⟨(some 14), .nilchk (.t 13), none, [0]⟩,
       ⟨(some 15), .faddr 0 (.t 14), none, [0, 1]⟩,
       ⟨(some 16), .load 1 false (.t 15), none, [1, 0, 2]⟩,
       ⟨(some 17), .mov (.t 0), none, []⟩,
       ⟨(some 18), .nilchk (.t 17), none, [4]⟩,
       ⟨(some 19), .faddr 1 (.t 18), none, [4, 5]⟩,
       ⟨(some 20), .load 1 false (.t 19), none, [5, 4, 6]⟩,
       ⟨(some 21), .iaddrS [.int .u8 0] (.t 16) (.t 20), none, [6, 4, 5, 2, 0, 1, 7, 3]⟩,
       ⟨(some 22), .load 1 false (.t 21), none, [3, 7, 1, 0, 2, 5, 4, 6, 8]⟩,
       ⟨(some 23), .conv .i64 (.t 22), none, [8, 6, 4, 5, 2, 0, 1, 7, 3, 9]⟩,
       ⟨(some 5), .mov (.t 23), none, [9, 8, 7, 6, 5, 4, 3, 2, 1, 0, 10]⟩] true)
     (.seq
      (.region [
        ⟨(some 24), .mov (.t 0), none, []⟩,
        ⟨(some 25), .nilchk (.t 24), none, [0]⟩,
        ⟨(some 26), .faddr 1 (.t 25), none, [1]⟩,
        ⟨(some 27), .load 1 false (.t 26), none, [2]⟩,
        ⟨(some 28), .arith .add (.t 27) (.c (.int .i64 1)), none, [3]⟩,
        ⟨(some 29), .nilchk (.t 24), none, [0, 0, 1, 2, 3, 4]⟩,
        ⟨(some 30), .faddr 1 (.t 29), none, [5, 0, 1, 2, 3, 4]⟩,
        ⟨none, .store 1 (.t 30) (.t 28), none, [6, 4, 0, 1, 2, 3, 4]⟩] false)
      (.seq
       (.seq
        (.region [
          ⟨(some 31), .mov (.t 1), none, []⟩,
          ⟨(some 32), .cmp .gtr 0 (.t 31) (.c (.int .i64 256)), none, [0]⟩,
          ⟨(some 33), .mov (.t 32), none, [1]⟩,
          ⟨(some 34), .mov (.t 0), (some (33, true)), [2]⟩,
          ⟨(some 35), .call 25 [(.t 34)], (some (33, true)), [3, 2, 2]⟩,
          ⟨(some 36), .pick (.t 33) (.t 35) (.c (.bool false)), none, [2, 4]⟩] false)
        (.cond (.t 36)
         (.seq
          (.region [
            ⟨(some 37), .mov (.t 5), none, []⟩,
            ⟨(some 38), .mov (.t 0), none, []⟩,
            ⟨(some 39), .nilchk (.t 38), none, [1]⟩,
            ⟨(some 40), .faddr 0 (.t 39), none, [1, 2]⟩,
            ⟨(some 41), .load 1 false (.t 40), none, [2, 1, 3]⟩,
            ⟨(some 42), .mov (.t 0), none, []⟩,
            ⟨(some 43), .nilchk (.t 42), none, [5]⟩,
            ⟨(some 44), .faddr 1 (.t 43), none, [5, 6]⟩,
            ⟨(some 45), .load 1 false (.t 44), none, [6, 5, 7]⟩,
            ⟨(some 46), .iaddrS [.int .u8 0] (.t 41) (.t 45), none, [7, 5, 6, 3, 1, 2, 8, 4]⟩,
            ⟨(some 47), .load 1 false (.t 46), none, [4, 8, 2, 1, 3, 6, 5, 7, 9]⟩,
            ⟨(some 48), .conv .i64 (.t 47), none, [9, 7, 5, 6, 3, 1, 2, 8, 4, 10]⟩,
            ⟨(some 49), .shl 8 (.t 48), none, [10, 4, 8, 2, 1, 3, 6, 5, 7, 9, 11]⟩,
            ⟨(some 50), .arith .or (.t 37) (.t 49), none, [11, 9, 7, 5, 6, 3, 1, 2, 8, 4, 10, 12, 0]⟩,
            ⟨(some 5), .mov (.t 50), none, [12, 11, 10, 9, 8, 7, 6, 5, 4, 3, 2, 1, 0, 13]⟩] true)
          (.region [
            ⟨(some 51), .mov (.t 0), none, []⟩,
            ⟨(some 52), .nilchk (.t 51), none, [0]⟩,
            ⟨(some 53), .faddr 1 (.t 52), none, [1]⟩,
            ⟨(some 54), .load 1 false (.t 53), none, [2]⟩,
            ⟨(some 55), .arith .add (.t 54) (.c (.int .i64 1)), none, [3]⟩,
            ⟨(some 56), .nilchk (.t 51), none, [0, 0, 1, 2, 3, 4]⟩,
            ⟨(some 57), .faddr 1 (.t 56), none, [5, 0, 1, 2, 3, 4]⟩,
            ⟨none, .store 1 (.t 57) (.t 55), none, [6, 4, 0, 1, 2, 3, 4]⟩] false))
         .skip))
       (.seq
        (.region [
          ⟨(some 58), .mov (.t 5), none, []⟩,
          ⟨(some 59), .mov (.t 1), none, []⟩,
          ⟨(some 60), .arith .rem (.t 58) (.t 59), none, [0, 1]⟩,
          ⟨(some 4), .mov (.t 60), none, [2, 0, 1, 2]⟩] false)
        .ret))))))
def rv13 : List RV := [.t 4]
theorem rc13_ok : comp Try.prog Try.f13.ntmps (Try.f13.body.getD .skip) = some (erase rc13) := by kernel_rfl
theorem rv13_ok : compRes Try.prog Try.f13.results.toList = some rv13 := by kernel_rfl

/-- baseboard/route.Distance [26, 3, 3] -/
def rc14 : RC :=
  (.seq
   (.region [
     ⟨(some 3), .box 3 (.t 0), none, []⟩,
     ⟨(some 6), .mov (.c (.int .i64 0)), none, []⟩,
     ⟨(some 7), .mov (.c (.int .i64 0)), none, [1]⟩] false)
   (.seq
    (.seq
     (.region [
       ⟨(some 11), .load 3 true (.t 3), none, []⟩,
       ⟨(some 12), .call 16 [(.t 11)], none, [0]⟩,
       ⟨(some 8), .mov (.t 12), none, [1, 1, 0, 1]⟩] false)
     (.seq
      (.region [
        ⟨(some 13), .mov (.t 8), none, []⟩,
        ⟨(some 14), .cmp .neq 0 (.t 13) (.c (.int .i64 0)), none, [0]⟩] false)
      (.cond (.t 14)
       (.seq
        (.region [
          ⟨(some 15), .mov (.t 8), none, []⟩,
          ⟨(some 6), .mov (.c (.int .i64 0)), none, []⟩,
          ⟨(some 7), .mov (.t 15), none, [0, 1, 0, 1]⟩] false)
        .ret)
       .skip)))
    (.seq
     (.seq
      (.region [
        ⟨(some 16), .mov (.t 1), none, []⟩,
        ⟨(some 17), .cmp .lss 0 (.t 16) (.c (.int .i64 0)), none, [0]⟩,
        ⟨(some 18), .mov (.t 17), none, [1]⟩,
        ⟨(some 19), .mov (.t 1), (some (18, false)), [2]⟩,
        ⟨(some 20), .faddr 0 (.t 3), (some (18, false)), [2]⟩,
        ⟨(some 21), .load 1 false (.t 20), (some (18, false)), [4, 2]⟩,
        ⟨(some 22), .cmp .geq 0 (.t 19) (.t 21), (some (18, false)), [3, 5, 2]⟩,
        ⟨(some 23), .pick (.t 18) (.c (.bool true)) (.t 22), none, [2, 6]⟩,
        ⟨(some 24), .mov (.t 23), none, [7, 2]⟩,
        ⟨(some 25), .mov (.t 2), (some (24, false)), [8]⟩,
        ⟨(some 26), .cmp .lss 0 (.t 25) (.c (.int .i64 0)), (some (24, false)), [9, 8]⟩,
        ⟨(some 27), .pick (.t 24) (.c (.bool true)) (.t 26), none, [8, 10]⟩,
        ⟨(some 28), .mov (.t 27), none, [11, 8]⟩,
        ⟨(some 29), .mov (.t 2), (some (28, false)), [12]⟩,
        ⟨(some 30), .faddr 0 (.t 3), (some (28, false)), [12]⟩,
        ⟨(some 31), .load 1 false (.t 30), (some (28, false)), [14, 12]⟩,
        ⟨(some 32), .cmp .geq 0 (.t 29) (.t 31), (some (28, false)), [13, 15, 12]⟩,
        ⟨(some 33), .pick (.t 28) (.c (.bool true)) (.t 32), none, [12, 16]⟩] false)
      (.cond (.t 33)
       (.seq
        (.region [
          ⟨(some 6), .mov (.c (.int .i64 0)), none, []⟩,
          ⟨(some 7), .mov (.c (.int .i64 2)), none, [0, 0]⟩] false)
        .ret)
       .skip))
     (.seq
      (.region [
        ⟨(some 34), .load 3 true (.t 3), none, []⟩,
        ⟨(some 35), .mov (.t 2), none, []⟩,
        ⟨(some 36), .call 26 [(.t 34), (.t 35)], none, [0, 1]⟩,
        ⟨(some 37), .mov (.t 1), none, []⟩,
        ⟨(some 38), .iaddrS [.int .i64 0] (.t 36) (.t 37), none, [2, 3]⟩,
        ⟨(some 39), .load 1 false (.t 38), none, [4]⟩,
        ⟨(some 9), .mov (.t 39), none, [5, 2, 0, 1, 2, 3, 4, 5]⟩] false)
      (.seq
       (.seq
        (.region [
          ⟨(some 40), .mov (.t 9), none, []⟩,
          ⟨(some 41), .call 27 [(.t 40)], none, [0]⟩,
          ⟨(some 10), .mov (.t 41), none, [1, 1, 0, 1]⟩] false)
        (.seq
         (.region [
           ⟨(some 42), .mov (.t 10), none, []⟩,
           ⟨(some 43), .cmp .neq 0 (.t 42) (.c (.int .i64 0)), none, [0]⟩] false)
         (.cond (.t 43)
          (.seq
           (.region [
             ⟨(some 44), .mov (.t 10), none, []⟩,
             ⟨(some 6), .mov (.c (.int .i64 0)), none, []⟩,
             ⟨(some 7), .mov (.t 44), none, [0, 1, 0, 1]⟩] false)
           .ret)
          .skip)))
       (.seq
        (.region [
          ⟨(some 45), .mov (.t 9), none, []⟩,
          ⟨(some 6), .mov (.t 45), none, [0, 0]⟩,
          ⟨(some 7), .mov (.c (.int .i64 0)), none, [1, 0, 1]⟩] false)
        .ret))))))
def rv14 : List RV := [.t 6, .t 7]
theorem rc14_ok : comp Try.prog Try.f14.ntmps (Try.f14.body.getD .skip) = some (erase rc14) := by kernel_rfl
theorem rv14_ok : compRes Try.prog Try.f14.results.toList = some rv14 := by kernel_rfl

/-- baseboard/baseboardref26.Distance [26, 3, 3] -/
def rc15 : RC :=
  (.seq
   (.region [
     ⟨(some 3), .box 3 (.t 0), none, []⟩,
     ⟨(some 6), .mov (.c (.int .i64 0)), none, []⟩,
     ⟨(some 7), .mov (.c (.int .i64 0)), none, [1]⟩] false)
   (.seq
    (.seq
     (.region [
       ⟨(some 10), .load 3 true (.t 3), none, []⟩,
       ⟨(some 11), .call 17 [(.t 10)], none, [0]⟩,
       ⟨(some 8), .mov (.t 11), none, [1, 1, 0, 1]⟩] false)
     (.seq
      (.region [
        ⟨(some 12), .mov (.t 8), none, []⟩,
        ⟨(some 13), .cmp .neq 0 (.t 12) (.c (.int .i64 0)), none, [0]⟩] false)
      (.cond (.t 13)
       (.seq
        (.region [
          ⟨(some 14), .mov (.t 8), none, []⟩,
          ⟨(some 6), .mov (.c (.int .i64 0)), none, []⟩,
          ⟨(some 7), .mov (.t 14), none, [0, 1, 0, 1]⟩] false)
        .ret)
       .skip)))
    (.seq
     (.seq
      (.region [
        ⟨(some 15), .mov (.t 1), none, []⟩,
        ⟨(some 16), .cmp .lss 0 (.t 15) (.c (.int .i64 0)), none, [0]⟩,
        ⟨(some 17), .mov (.t 16), none, [1]⟩,
        ⟨(some 18), .mov (.t 1), (some (17, false)), [2]⟩,
        ⟨(some 19), .faddr 0 (.t 3), (some (17, false)), [2]⟩,
        ⟨(some 20), .load 1 false (.t 19), (some (17, false)), [4, 2]⟩,
        ⟨(some 21), .cmp .geq 0 (.t 18) (.t 20), (some (17, false)), [3, 5, 2]⟩,
        ⟨(some 22), .pick (.t 17) (.c (.bool true)) (.t 21), none, [2, 6]⟩,
        ⟨(some 23), .mov (.t 22), none, [7, 2]⟩,
        ⟨(some 24), .mov (.t 2), (some (23, false)), [8]⟩,
        ⟨(some 25), .cmp .lss 0 (.t 24) (.c (.int .i64 0)), (some (23, false)), [9, 8]⟩,
        ⟨(some 26), .pick (.t 23) (.c (.bool true)) (.t 25), none, [8, 10]⟩,
        ⟨(some 27), .mov (.t 26), none, [11, 8]⟩,
        ⟨(some 28), .mov (.t 2), (some (27, false)), [12]⟩,
        ⟨(some 29), .faddr 0 (.t 3), (some (27, false)), [12]⟩,
        ⟨(some 30), .load 1 false (.t 29), (some (27, false)), [14, 12]⟩,
        ⟨(some 31), .cmp .geq 0 (.t 28) (.t 30), (some (27, false)), [13, 15, 12]⟩,
        ⟨(some 32), .pick (.t 27) (.c (.bool true)) (.t 31), none, [12, 16]⟩] false)
      (.cond (.t 32)
       (.seq
        (.region [
          ⟨(some 6), .mov (.c (.int .i64 0)), none, []⟩,
          ⟨(some 7), .mov (.c (.int .i64 2)), none, [0, 0]⟩] false)
        .ret)
       .skip))
     (.seq
      (.region [
        ⟨(some 33), .load 3 true (.t 3), none, []⟩,
        ⟨(some 34), .mov (.t 1), none, []⟩,
        ⟨(some 35), .call 28 [(.t 33), (.t 34)], none, [0, 1]⟩,
        ⟨(some 36), .mov (.t 2), none, []⟩,
        ⟨(some 37), .iaddrS [.int .i64 0] (.t 35) (.t 36), none, [2, 3]⟩,
        ⟨(some 38), .load 1 false (.t 37), none, [4]⟩,
        ⟨(some 9), .mov (.t 38), none, [5, 2, 0, 1, 2, 3, 4, 5]⟩] false)
      (.seq
       (.block 0
        (.seq
         (.region [
           ⟨(some 40), .mov (.t 9), none, []⟩,
           ⟨(some 41), .cmp .lss 0 (.t 40) (.c (.int .i64 0)), none, [0]⟩,
           ⟨(some 39), .mov (.t 41), none, [1]⟩] false)
         (.cond (.t 39)
          (.seq
           (.region [
             ⟨(some 6), .mov (.c (.int .i64 0)), none, []⟩,
             ⟨(some 7), .mov (.c (.int .i64 8)), none, [0, 0]⟩] false)
           .ret)
          (.seq
           (.region [
             ⟨(some 43), .mov (.t 9), none, []⟩,
             ⟨(some 44), .cmp .gtr 0 (.t 43) (.c (.int .i64 7)), none, [0]⟩,
             ⟨(some 42), .mov (.t 44), none, [1]⟩] false)
           (.cond (.t 42)
            (.seq
             (.region [
               ⟨(some 6), .mov (.c (.int .i64 0)), none, []⟩,
               ⟨(some 7), .mov (.c (.int .i64 40)), none, [0, 0]⟩] false)
             .ret)
            .skip)))))
       (.seq
        (.region [
          ⟨(some 45), .mov (.t 9), none, []⟩,
          ⟨(some 6), .mov (.t 45), none, [0, 0]⟩,
          ⟨(some 7), .mov (.c (.int .i64 0)), none, [1, 0, 1]⟩] false)
        .ret))))))
def rv15 : List RV := [.t 6, .t 7]
theorem rc15_ok : comp Try.prog Try.f15.ntmps (Try.f15.body.getD .skip) = some (erase rc15) := by kernel_rfl
theorem rv15_ok : compRes Try.prog Try.f15.results.toList = some rv15 := by kernel_rfl

/-- baseboard/route.Valid [26] -/
def rc16 : RC :=
  (.seq
   (.region [
     ⟨(some 1), .box 3 (.t 0), none, []⟩,
     ⟨(some 2), .mov (.c (.int .i64 0)), none, []⟩] false)
   (.seq
    (.seq
     (.ghost 1 (.region [
       ⟨(some 13), .faddr 0 (.t 1), none, []⟩,
       ⟨(some 14), .load 1 false (.t 13), none, [0]⟩,
       ⟨(some 15), .cmp .lss 0 (.t 14) (.c (.int .i64 1)), none, [1]⟩,
       ⟨(some 16), .mov (.t 15), none, [2]⟩,
       ⟨(some 17), .faddr 0 (.t 1), (some (16, false)), [3]⟩,
       ⟨(some 18), .load 1 false (.t 17), (some (16, false)), [4, 3]⟩,
       ⟨(some 19), .cmp .gtr 0 (.t 18) (.c (.int .i64 16)), (some (16, false)), [5, 3]⟩,
       ⟨(some 20), .pick (.t 16) (.c (.bool true)) (.t 19), none, [3, 6]⟩] false))
     (.cond (.t 20)
      (.seq
       (.region [
         ⟨(some 2), .mov (.c (.int .i64 2)), none, []⟩] false)
       .ret)
      .skip))
    (.seq
     (.seq
      (.region [
        ⟨(some 21), .faddr 1 (.t 1), none, []⟩,
        ⟨(some 22), .load 1 false (.t 21), none, [0]⟩,
        ⟨(some 23), .len 0 (.t 22), none, [1]⟩,
        ⟨(some 24), .cmp .gtr 0 (.t 23) (.c (.int .i64 16)), none, [2]⟩,
        ⟨(some 25), .mov (.t 24), none, [3]⟩,
        ⟨(some 26), .faddr 2 (.t 1), (some (25, false)), [4]⟩,
        ⟨(some 27), .load 1 false (.t 26), (some (25, false)), [5, 4]⟩,
        ⟨(some 28), .len 0 (.t 27), (some (25, false)), [6, 4]⟩,
        ⟨(some 29), .cmp .gtr 0 (.t 28) (.c (.int .i64 32)), (some (25, false)), [7, 4]⟩,
        ⟨(some 30), .pick (.t 25) (.c (.bool true)) (.t 29), none, [4, 8]⟩] false)
      (.cond (.t 30)
       (.seq
        (.region [
          ⟨(some 2), .mov (.c (.int .i64 3)), none, []⟩] false)
        .ret)
       .skip))
     (.seq
      (.region [
        ⟨(some 31), .mkclo 29 (.t 1), none, []⟩,
        ⟨(some 3), .mov (.t 31), none, [0, 0]⟩] false)
      (.seq
       (.region [
         ⟨(some 32), .mkmap 2, none, []⟩,
         ⟨(some 4), .mov (.t 32), none, [0, 0]⟩] false)
       (.seq
        (.seq
         (.region [
           ⟨(some 33), .faddr 1 (.t 1), none, []⟩,
           ⟨(some 34), .load 1 false (.t 33), none, [0]⟩,
           ⟨(some 35), .len 0 (.t 34), none, [1]⟩,
           ⟨(some 36), .mov (.c (.int .i64 0)), none, []⟩] false)
         (.block 0
          (.loop 0
           (.seq
            (.region [
              ⟨(some 37), .cmp .lss 0 (.t 36) (.t 35), none, []⟩] false)
            (.seq
             (.cond (.t 37)
              .skip
              (.exit 0))
             (.seq
              (.block 1
               (.seq
                (.region [
                  ⟨(some 38), .iaddrS [.int .u8 0, .int .i64 0, .int .i64 0] (.t 34) (.t 36), none, []⟩,
                  ⟨(some 39), .load 3 true (.t 38), none, [0]⟩,
                  ⟨(some 6), .alloc [.int .u8 0, .int .i64 0, .int .i64 0], none, []⟩,
                  ⟨none, .store 3 (.t 6) (.t 39), none, [2, 1, 0, 1, 2]⟩] false)
                (.seq
                 (.seq
                  (.region [
                    ⟨(some 40), .mov (.t 3), none, []⟩,
                    ⟨(some 41), .faddr 1 (.t 6), none, []⟩,
                    ⟨(some 42), .load 1 false (.t 41), none, [1]⟩,
                    ⟨(some 43), .callv [2, 3, 4, 5, 6, 7, 8, 9, 10, 11, 12, 13, 14, 15, 16, 17, 18, 19, 20, 21, 22, 23, 24, 25, 26, 27, 28, 29, 30, 31, 32, 33] (.t 40) [(.t 42)], none, [0, 2]⟩,
                    ⟨(some 44), .not (.t 43), none, [3]⟩,
                    ⟨(some 45), .mov (.t 44), none, [4, 3]⟩,
                    ⟨(some 46), .mov (.t 3), (some (45, false)), [5]⟩,
                    ⟨(some 47), .faddr 2 (.t 6), (some (45, false)), [5]⟩,
                    ⟨(some 48), .load 1 false (.t 47), (some (45, false)), [7, 5]⟩,
                    ⟨(some 49), .callv [2, 3, 4, 5, 6, 7, 8, 9, 10, 11, 12, 13, 14, 15, 16, 17, 18, 19, 20, 21, 22, 23, 24, 25, 26, 27, 28, 29, 30, 31, 32, 33] (.t 46) [(.t 48)], (some (45, false)), [6, 8, 5, 5]⟩,
                    ⟨(some 50), .not (.t 49), (some (45, false)), [9, 5]⟩,
                    ⟨(some 51), .pick (.t 45) (.c (.bool true)) (.t 50), none, [5, 10]⟩] false)
                  (.cond (.t 51)
                   (.seq
                    (.region [
                      ⟨(some 2), .mov (.c (.int .i64 2)), none, []⟩] false)
                    .ret)
                   .skip))
                 (.seq
                  (.seq
                   (.region [
                     ⟨(some 52), .faddr 1 (.t 6), none, []⟩,
                     ⟨(some 53), .load 1 false (.t 52), none, [0]⟩,
                     ⟨(some 54), .faddr 2 (.t 6), none, []⟩,
                     ⟨(some 55), .load 1 false (.t 54), none, [2]⟩,
                     ⟨(some 56), .cmp .eql 0 (.t 53) (.t 55), none, [1, 3]⟩] false)
                   (.cond (.t 56)
                    (.seq
                     (.region [
                       ⟨(some 2), .mov (.c (.int .i64 1)), none, []⟩] false)
                     .ret)
                    .skip))
                  (.seq
                   (.region [
                     ⟨(some 57), .faddr 1 (.t 6), none, []⟩,
                     ⟨(some 58), .load 1 false (.t 57), none, [0]⟩,
                     ⟨(some 59), .faddr 0 (.t 6), none, []⟩,
                     ⟨(some 60), .load 1 false (.t 59), none, [2]⟩,
                     ⟨(some 61), .conv .i64 (.t 60), none, [2, 3]⟩,
                     ⟨(some 62), .build [.int .i64 0, .int .i64 0] [(0, 1, (.t 58)), (1, 1, (.t 61))], none, [3, 2, 0, 4, 1]⟩,
                     ⟨(some 63), .faddr 2 (.t 6), none, []⟩,
                     ⟨(some 64), .load 1 false (.t 63), none, [6]⟩,
                     ⟨(some 65), .faddr 0 (.t 6), none, []⟩,
                     ⟨(some 66), .load 1 false (.t 65), none, [8]⟩,
                     ⟨(some 67), .conv .i64 (.t 66), none, [8, 9]⟩,
                     ⟨(some 68), .build [.int .i64 0, .int .i64 0] [(0, 1, (.t 64)), (1, 1, (.t 67))], none, [9, 8, 6, 10, 7]⟩,
                     ⟨(some 7), .alloc [.int .i64 0, .int .i64 0], none, []⟩,
                     ⟨(some 8), .alloc [.int .i64 0, .int .i64 0], none, []⟩,
                     ⟨none, .store 2 (.t 7) (.t 62), none, [13, 4, 3, 2, 1, 0, 5, 12]⟩,
                     ⟨none, .store 2 (.t 8) (.t 68), none, [12, 10, 9, 8, 7, 6, 5, 4, 3, 2, 1, 0, 14, 11, 13]⟩] true)
                   (.seq
                    (.seq
                     (.region [
                       ⟨(some 69), .faddr 0 (.t 6), none, []⟩,
                       ⟨(some 70), .load 1 false (.t 69), none, [0]⟩,
                       ⟨(some 71), .call 30 [(.t 70)], none, [1]⟩,
                       ⟨(some 72), .not (.t 71), none, [2]⟩,
                       ⟨(some 73), .mov (.t 72), none, [3, 2]⟩,
                       ⟨(some 74), .mov (.t 4), (some (73, false)), [4]⟩,
                       ⟨(some 75), .load 2 true (.t 7), (some (73, false)), [4]⟩,
                       ⟨(some 76), .mlook 2 (.t 74) (.t 75), (some (73, false)), [5, 6, 4]⟩,
                       ⟨(some 77), .pick (.t 73) (.c (.bool true)) (.t 76), none, [4, 7]⟩,
                       ⟨(some 78), .mov (.t 77), none, [8, 4]⟩,
                       ⟨(some 79), .mov (.t 4), (some (78, false)), [9]⟩,
                       ⟨(some 80), .load 2 true (.t 8), (some (78, false)), [9]⟩,
                       ⟨(some 81), .mlook 2 (.t 79) (.t 80), (some (78, false)), [10, 11, 9]⟩,
                       ⟨(some 82), .pick (.t 78) (.c (.bool true)) (.t 81), none, [9, 12]⟩] false)
                     (.cond (.t 82)
                      (.seq
                       (.region [
                         ⟨(some 2), .mov (.c (.int .i64 13)), none, []⟩] false)
                       .ret)
                      .skip))
                    (.region [
                      ⟨(some 83), .mov (.t 4), none, []⟩,
                      ⟨(some 84), .load 2 true (.t 7), none, []⟩,
                      ⟨(some 85), .mov (.t 4), none, []⟩,
                      ⟨(some 86), .load 2 true (.t 8), none, []⟩,
                      ⟨none, .mput 2 (.t 83) (.t 84), none, [1, 0]⟩,
                      ⟨none, .mput 2 (.t 85) (.t 86), none, [1, 0, 4, 3, 2]⟩] true)))))))
              (.region [
                ⟨(some 87), .arith .add (.t 36) (.c (.int .i64 1)), none, []⟩,
                ⟨(some 36), .mov (.t 87), none, [0]⟩] false)))))))
        (.seq
         (.region [
           ⟨(some 88), .mkmap 0, none, []⟩,
           ⟨(some 9), .mov (.t 88), none, [0, 0]⟩] false)
         (.seq
          (.seq
           (.region [
             ⟨(some 89), .faddr 2 (.t 1), none, []⟩,
             ⟨(some 90), .load 1 false (.t 89), none, [0]⟩,
             ⟨(some 91), .len 0 (.t 90), none, [1]⟩,
             ⟨(some 92), .mov (.c (.int .i64 0)), none, []⟩] false)
           (.block 2
            (.loop 1
             (.seq
              (.region [
                ⟨(some 93), .cmp .lss 0 (.t 92) (.t 91), none, []⟩] false)
              (.seq
               (.cond (.t 93)
                .skip
                (.exit 2))
               (.seq
                (.block 3
                 (.seq
                  (.region [
                    ⟨(some 94), .iaddrS [.int .u8 0, .int .u8 0, .int .i64 0] (.t 90) (.t 92), none, []⟩,
                    ⟨(some 95), .load 3 true (.t 94), none, [0]⟩,
                    ⟨(some 11), .alloc [.int .u8 0, .int .u8 0, .int .i64 0], none, []⟩,
                    ⟨none, .store 3 (.t 11) (.t 95), none, [2, 1, 0, 1, 2]⟩] false)
                  (.seq
                   (.seq
                    (.region [
                      ⟨(some 96), .mov (.t 3), none, []⟩,
                      ⟨(some 97), .faddr 2 (.t 11), none, []⟩,
                      ⟨(some 98), .load 1 false (.t 97), none, [1]⟩,
                      ⟨(some 99), .callv [2, 3, 4, 5, 6, 7, 8, 9, 10, 11, 12, 13, 14, 15, 16, 17, 18, 19, 20, 21, 22, 23, 24, 25, 26, 27, 28, 29, 30, 31, 32, 33] (.t 96) [(.t 98)], none, [0, 2]⟩,
                      ⟨(some 100), .not (.t 99), none, [3]⟩] false)
                    (.cond (.t 100)
                     (.seq
                      (.region [
                        ⟨(some 2), .mov (.c (.int .i64 2)), none, []⟩] false)
                      .ret)
                     .skip))
                   (.seq
                    (.region [
                      ⟨(some 101), .faddr 2 (.t 11), none, []⟩,
                      ⟨(some 102), .load 1 false (.t 101), none, [0]⟩,
                      ⟨(some 103), .faddr 1 (.t 11), none, []⟩,
                      ⟨(some 104), .load 1 false (.t 103), none, [2]⟩,
                      ⟨(some 105), .conv .i64 (.t 104), none, [3]⟩,
                      ⟨(some 106), .build [.int .i64 0, .int .i64 0] [(0, 1, (.t 102)), (1, 1, (.t 105))], none, [1, 4]⟩,
                      ⟨(some 12), .alloc [.int .i64 0, .int .i64 0], none, []⟩,
                      ⟨none, .store 2 (.t 12) (.t 106), none, [6, 5, 0, 1, 2, 3, 4, 5, 6]⟩] false)
                    (.seq
                     (.seq
                      (.region [
                        ⟨(some 107), .faddr 1 (.t 11), none, []⟩,
                        ⟨(some 108), .load 1 false (.t 107), none, [0]⟩,
                        ⟨(some 109), .call 30 [(.t 108)], none, [1]⟩,
                        ⟨(some 110), .not (.t 109), none, [2]⟩,
                        ⟨(some 111), .mov (.t 110), none, [3, 2]⟩,
                        ⟨(some 112), .mov (.t 4), (some (111, false)), [4]⟩,
                        ⟨(some 113), .load 2 true (.t 12), (some (111, false)), [4]⟩,
                        ⟨(some 114), .mlook 2 (.t 112) (.t 113), (some (111, false)), [5, 6, 4]⟩,
                        ⟨(some 115), .pick (.t 111) (.c (.bool true)) (.t 114), none, [4, 7]⟩] false)
                      (.cond (.t 115)
                       (.seq
                        (.region [
                          ⟨(some 2), .mov (.c (.int .i64 13)), none, []⟩] false)
                        .ret)
                       .skip))
                     (.seq
                      (.seq
                       (.region [
                         ⟨(some 116), .mov (.t 9), none, []⟩,
                         ⟨(some 117), .faddr 0 (.t 11), none, []⟩,
                         ⟨(some 118), .load 1 false (.t 117), none, [1]⟩,
                         ⟨(some 119), .mlook 0 (.t 116) (.t 118), none, [0, 2]⟩] false)
                       (.cond (.t 119)
                        (.seq
                         (.region [
                           ⟨(some 2), .mov (.c (.int .i64 7)), none, []⟩] false)
                         .ret)
                        .skip))
                      (.region [
                        ⟨(some 120), .mov (.t 4), none, []⟩,
                        ⟨(some 121), .load 2 true (.t 12), none, []⟩,
                        ⟨(some 122), .mov (.t 9), none, []⟩,
                        ⟨(some 123), .faddr 0 (.t 11), none, []⟩,
                        ⟨(some 124), .load 1 false (.t 123), none, [3]⟩,
                        ⟨none, .mput 2 (.t 120) (.t 121), none, [1, 0]⟩,
                        ⟨none, .mput 0 (.t 122) (.t 124), none, [3, 1, 0, 5, 4, 2]⟩] true)))))))
                (.region [
                  ⟨(some 125), .arith .add (.t 92) (.c (.int .i64 1)), none, []⟩,
                  ⟨(some 92), .mov (.t 125), none, [0]⟩] false)))))))
          (.seq
           (.region [
             ⟨(some 2), .mov (.c (.int .i64 0)), none, []⟩] false)
           .ret)))))))))
def rv16 : List RV := [.t 2]
theorem rc16_ok : comp Try.prog Try.f16.ntmps (Try.f16.body.getD .skip) = some (erase rc16) := by kernel_rfl
theorem rv16_ok : compRes Try.prog Try.f16.results.toList = some rv16 := by kernel_rfl

/-- baseboard/baseboardref26.Valid [26] -/
def rc17 : RC :=
  (.seq
   (.region [
     ⟨(some 1), .box 3 (.t 0), none, []⟩,
     ⟨(some 2), .mov (.c (.int .i64 0)), none, []⟩] false)
   (.seq
    (.seq
     (.region [
       ⟨(some 9), .faddr 0 (.t 1), none, []⟩,
       ⟨(some 10), .load 1 false (.t 9), none, [0]⟩,
       ⟨(some 11), .cmp .lss 0 (.t 10) (.c (.int .i64 1)), none, [1]⟩,
       ⟨(some 12), .mov (.t 11), none, [2]⟩,
       ⟨(some 13), .faddr 0 (.t 1), (some (12, false)), [3]⟩,
       ⟨(some 14), .load 1 false (.t 13), (some (12, false)), [4, 3]⟩,
       ⟨(some 15), .cmp .gtr 0 (.t 14) (.c (.int .i64 16)), (some (12, false)), [5, 3]⟩,
       ⟨(some 16), .pick (.t 12) (.c (.bool true)) (.t 15), none, [3, 6]⟩] false)
     (.cond (.t 16)
      (.seq
       (.region [
         ⟨(some 2), .mov (.c (.int .i64 2)), none, []⟩] false)
       .ret)
      .skip))
    (.seq
     (.seq
      (.region [
        ⟨(some 17), .faddr 1 (.t 1), none, []⟩,
        ⟨(some 18), .load 1 false (.t 17), none, [0]⟩,
        ⟨(some 19), .len 0 (.t 18), none, [1]⟩,
        ⟨(some 20), .cmp .gtr 0 (.t 19) (.c (.int .i64 16)), none, [2]⟩,
        ⟨(some 21), .mov (.t 20), none, [3]⟩,
        ⟨(some 22), .faddr 2 (.t 1), (some (21, false)), [4]⟩,
        ⟨(some 23), .load 1 false (.t 22), (some (21, false)), [5, 4]⟩,
        ⟨(some 24), .len 0 (.t 23), (some (21, false)), [6, 4]⟩,
        ⟨(some 25), .cmp .gtr 0 (.t 24) (.c (.int .i64 32)), (some (21, false)), [7, 4]⟩,
        ⟨(some 26), .pick (.t 21) (.c (.bool true)) (.t 25), none, [4, 8]⟩] false)
      (.cond (.t 26)
       (.seq
        (.region [
          ⟨(some 2), .mov (.c (.int .i64 3)), none, []⟩] false)
        .ret)
       .skip))
     (.seq
      (.seq
       (.region [
         ⟨(some 27), .load 3 true (.t 1), none, []⟩,
         ⟨(some 28), .call 31 [(.t 27)], none, [0]⟩,
         ⟨(some 3), .mov (.t 28), none, [1, 1, 0, 1]⟩] false)
       (.seq
        (.region [
          ⟨(some 29), .mov (.t 3), none, []⟩,
          ⟨(some 30), .cmp .neq 0 (.t 29) (.c (.int .i64 0)), none, [0]⟩] false)
        (.cond (.t 30)
         (.seq
          (.region [
            ⟨(some 31), .mov (.t 3), none, []⟩,
            ⟨(some 2), .mov (.t 31), none, [0, 0]⟩] false)
          .ret)
         .skip)))
      (.seq
       (.seq
        (.region [
          ⟨(some 4), .mov (.c (.int .i64 0)), none, []⟩] false)
        (.block 0
         (.loop 0
          (.seq
           (.seq
            (.region [
              ⟨(some 32), .mov (.t 4), none, []⟩,
              ⟨(some 33), .faddr 2 (.t 1), none, []⟩,
              ⟨(some 34), .load 1 false (.t 33), none, [1]⟩,
              ⟨(some 35), .len 0 (.t 34), none, [2]⟩,
              ⟨(some 36), .cmp .lss 0 (.t 32) (.t 35), none, [0, 3]⟩] false)
            (.cond (.t 36)
             .skip
             (.exit 0)))
           (.seq
            (.block 1
             (.seq
              (.region [
                ⟨(some 39), .faddr 2 (.t 1), none, []⟩,
                ⟨(some 40), .load 1 false (.t 39), none, [0]⟩,
                ⟨(some 41), .mov (.t 4), none, []⟩,
                ⟨(some 42), .iaddrS [.int .u8 0, .int .u8 0, .int .i64 0] (.t 40) (.t 41), none, [1, 2]⟩,
                ⟨(some 43), .load 3 true (.t 42), none, [3]⟩,
                ⟨(some 5), .alloc [.int .u8 0, .int .u8 0, .int .i64 0], none, []⟩,
                ⟨none, .store 3 (.t 5) (.t 43), none, [5, 4, 0, 1, 2, 3, 4, 5]⟩] false)
              (.seq
               (.seq
                (.region [
                  ⟨(some 44), .faddr 2 (.t 5), none, []⟩,
                  ⟨(some 45), .load 1 false (.t 44), none, [0]⟩,
                  ⟨(some 46), .cmp .lss 0 (.t 45) (.c (.int .i64 0)), none, [1]⟩,
                  ⟨(some 47), .mov (.t 46), none, [2]⟩,
                  ⟨(some 48), .faddr 2 (.t 5), (some (47, false)), [3]⟩,
                  ⟨(some 49), .load 1 false (.t 48), (some (47, false)), [4, 3]⟩,
                  ⟨(some 50), .faddr 0 (.t 1), (some (47, false)), [3]⟩,
                  ⟨(some 51), .load 1 false (.t 50), (some (47, false)), [6, 3]⟩,
                  ⟨(some 52), .cmp .geq 0 (.t 49) (.t 51), (some (47, false)), [5, 7, 3]⟩,
                  ⟨(some 53), .pick (.t 47) (.c (.bool true)) (.t 52), none, [3, 8]⟩] false)
                (.cond (.t 53)
                 (.seq
                  (.region [
                    ⟨(some 2), .mov (.c (.int .i64 2)), none, []⟩] false)
                  .ret)
                 .skip))
               (.seq
                (.region [
                  ⟨(some 54), .faddr 1 (.t 5), none, []⟩,
                  ⟨(some 55), .load 1 false (.t 54), none, [0]⟩,
                  ⟨(some 56), .cmp .lss 0 (.t 55) (.c (.int .u8 8)), none, [1]⟩,
                  ⟨(some 57), .mov (.t 56), none, [2]⟩,
                  ⟨(some 58), .faddr 1 (.t 5), (some (57, false)), [3]⟩,
                  ⟨(some 59), .load 1 false (.t 58), (some (57, false)), [4, 3]⟩,
                  ⟨(some 60), .cmp .gtr 0 (.t 59) (.c (.int .u8 119)), (some (57, false)), [5, 3]⟩,
                  ⟨(some 61), .pick (.t 57) (.c (.bool true)) (.t 60), none, [3, 6]⟩,
                  ⟨(some 62), .mov (.t 61), none, [7, 3]⟩,
                  ⟨(some 63), .faddr 1 (.t 1), (some (62, false)), [8]⟩,
                  ⟨(some 64), .load 1 false (.t 63), (some (62, false)), [9, 8]⟩,
                  ⟨(some 65), .faddr 2 (.t 5), (some (62, false)), [8]⟩,
                  ⟨(some 66), .load 1 false (.t 65), (some (62, false)), [11, 8]⟩,
                  ⟨(some 67), .faddr 1 (.t 5), (some (62, false)), [8]⟩,
                  ⟨(some 68), .load 1 false (.t 67), (some (62, false)), [13, 8]⟩,
                  ⟨(some 69), .call 32 [(.t 64), (.t 66), (.t 68)], (some (62, false)), [10, 12, 14, 8, 8]⟩,
                  ⟨(some 70), .pick (.t 62) (.c (.bool true)) (.t 69), none, [8, 15]⟩,
                  ⟨(some 6), .mov (.t 70), none, [16, 15, 0, 1, 2, 3, 4, 5, 6, 7, 8, 9, 10, 11, 12, 13, 14, 15, 16]⟩] false)
                (.seq
                 (.seq
                  (.region [
                    ⟨(some 7), .mov (.c (.int .i64 0)), none, []⟩] false)
                  (.block 2
                   (.loop 1
                    (.seq
                     (.seq
                      (.region [
                        ⟨(some 71), .mov (.t 7), none, []⟩,
                        ⟨(some 72), .mov (.t 4), none, []⟩,
                        ⟨(some 73), .cmp .lss 0 (.t 71) (.t 72), none, [0, 1]⟩] false)
                      (.cond (.t 73)
                       .skip
                       (.exit 2)))
                     (.seq
                      (.block 3
                       (.region [
                         ⟨(some 76), .mov (.t 6), none, []⟩,
                         ⟨(some 77), .mov (.t 76), none, [0]⟩,
                         ⟨(some 78), .faddr 2 (.t 1), (some (77, false)), [0, 1]⟩,
                         ⟨(some 79), .load 1 false (.t 78), (some (77, false)), [0, 1, 2]⟩,
                         ⟨(some 80), .mov (.t 7), (some (77, false)), [0, 1]⟩,
                         ⟨(some 81), .iaddrS [.int .u8 0, .int .u8 0, .int .i64 0] (.t 79) (.t 80), (some (77, false)), [2, 0, 1, 4, 3]⟩,
                         ⟨(some 82), .faddr 2 (.t 81), (some (77, false)), [3, 4, 0, 2, 1, 5]⟩,
                         ⟨(some 83), .load 1 false (.t 82), (some (77, false)), [5, 2, 0, 4, 3, 1, 6]⟩,
                         ⟨(some 84), .faddr 2 (.t 5), (some (77, false)), [0, 1]⟩,
                         ⟨(some 85), .load 1 false (.t 84), (some (77, false)), [0, 1, 8]⟩,
                         ⟨(some 86), .cmp .eql 0 (.t 83) (.t 85), (some (77, false)), [8, 6, 3, 4, 0, 2, 5, 1, 9, 7]⟩,
                         ⟨(some 87), .mov (.t 86), (some (77, false)), [7, 9, 5, 2, 0, 4, 3, 6, 8, 1, 10]⟩,
                         ⟨(some 88), .faddr 2 (.t 1), (some (87, true)), [10, 1, 8, 6, 3, 4, 0, 2, 5, 9, 7, 11]⟩,
                         ⟨(some 89), .load 1 false (.t 88), (some (87, true)), [7, 9, 5, 2, 0, 4, 3, 6, 8, 1, 10, 11, 12]⟩,
                         ⟨(some 90), .mov (.t 7), (some (87, true)), [10, 1, 8, 6, 3, 4, 0, 2, 5, 9, 7, 11]⟩,
                         ⟨(some 91), .iaddrS [.int .u8 0, .int .u8 0, .int .i64 0] (.t 89) (.t 90), (some (87, true)), [12, 10, 1, 8, 6, 3, 4, 0, 2, 5, 9, 7, 11, 14, 13]⟩,
                         ⟨(some 92), .faddr 1 (.t 91), (some (87, true)), [13, 14, 7, 9, 5, 2, 0, 4, 3, 6, 8, 1, 10, 12, 11, 15]⟩,
                         ⟨(some 93), .load 1 false (.t 92), (some (87, true)), [15, 12, 10, 1, 8, 6, 3, 4, 0, 2, 5, 9, 7, 14, 13, 11, 16]⟩,
                         ⟨(some 94), .faddr 1 (.t 5), (some (87, true)), [10, 1, 8, 6, 3, 4, 0, 2, 5, 9, 7, 11]⟩,
                         ⟨(some 95), .load 1 false (.t 94), (some (87, true)), [7, 9, 5, 2, 0, 4, 3, 6, 8, 1, 10, 11, 18]⟩,
                         ⟨(some 96), .cmp .eql 0 (.t 93) (.t 95), (some (87, true)), [18, 16, 13, 14, 7, 9, 5, 2, 0, 4, 3, 6, 8, 1, 10, 12, 15, 11, 19, 17]⟩,
                         ⟨(some 97), .pick (.t 87) (.t 96) (.c (.bool false)), (some (77, false)), [17, 19, 15, 12, 14, 13, 16, 18, 10, 8, 6, 3, 4, 0, 2, 5, 9, 7, 1, 20, 11]⟩,
                         ⟨(some 98), .pick (.t 77) (.c (.bool true)) (.t 97), none, [11, 20, 7, 9, 5, 2, 4, 3, 6, 8, 10, 18, 16, 13, 14, 12, 15, 19, 17, 0, 21, 1]⟩,
                         ⟨(some 6), .mov (.t 98), none, [21, 20, 19, 18, 17, 16, 15, 14, 13, 12, 10, 9, 8, 7, 6, 5, 4, 3, 2, 1, 0, 11, 22]⟩] true))
                      (.region [
                        ⟨(some 74), .mov (.t 7), none, []⟩,
                        ⟨(some 75), .arith .add (.t 74) (.c (.int .i64 1)), none, [0]⟩,
                        ⟨(some 7), .mov (.t 75), none, [1, 0, 1]⟩] false))))))
                 (.seq
                  (.seq
                   (.region [
                     ⟨(some 99), .mov (.t 6), none, []⟩] false)
                   (.cond (.t 99)
                    (.seq
                     (.region [
                       ⟨(some 2), .mov (.c (.int .i64 13)), none, []⟩] false)
                     .ret)
                    .skip))
                  (.seq
                   (.region [
                     ⟨(some 8), .mov (.c (.int .i64 0)), none, []⟩] false)
                   (.block 4
                    (.loop 2
                     (.seq
                      (.seq
                       (.region [
                         ⟨(some 100), .mov (.t 8), none, []⟩,
                         ⟨(some 101), .mov (.t 4), none, []⟩,
                         ⟨(some 102), .cmp .lss 0 (.t 100) (.t 101), none, [0, 1]⟩] false)
                       (.cond (.t 102)
                        .skip
                        (.exit 4)))
                      (.seq
                       (.block 5
                        (.seq
                         (.region [
                           ⟨(some 105), .faddr 2 (.t 1), none, []⟩,
                           ⟨(some 106), .load 1 false (.t 105), none, [0]⟩,
                           ⟨(some 107), .mov (.t 8), none, []⟩,
                           ⟨(some 108), .iaddrS [.int .u8 0, .int .u8 0, .int .i64 0] (.t 106) (.t 107), none, [0, 2, 1]⟩,
                           ⟨(some 109), .faddr 0 (.t 108), none, [1, 2, 0, 3]⟩,
                           ⟨(some 110), .load 1 false (.t 109), none, [3, 0, 2, 1, 4]⟩,
                           ⟨(some 111), .faddr 0 (.t 5), none, []⟩,
                           ⟨(some 112), .load 1 false (.t 111), none, [6]⟩,
                           ⟨(some 113), .cmp .eql 0 (.t 110) (.t 112), none, [6, 4, 1, 2, 0, 3, 7, 5]⟩] true)
                         (.cond (.t 113)
                          (.seq
                           (.region [
                             ⟨(some 2), .mov (.c (.int .i64 7)), none, []⟩] false)
                           .ret)
                          .skip)))
                       (.region [
                         ⟨(some 103), .mov (.t 8), none, []⟩,
                         ⟨(some 104), .arith .add (.t 103) (.c (.int .i64 1)), none, [0]⟩,
                         ⟨(some 8), .mov (.t 104), none, [1, 0, 1]⟩] false))))))))))))
            (.region [
              ⟨(some 37), .mov (.t 4), none, []⟩,
              ⟨(some 38), .arith .add (.t 37) (.c (.int .i64 1)), none, [0]⟩,
              ⟨(some 4), .mov (.t 38), none, [1, 0, 1]⟩] false))))))
       (.seq
        (.region [
          ⟨(some 2), .mov (.c (.int .i64 0)), none, []⟩] false)
        .ret))))))
def rv17 : List RV := [.t 2]
theorem rc17_ok : comp Try.prog Try.f17.ntmps (Try.f17.body.getD .skip) = some (erase rc17) := by kernel_rfl
theorem rv17_ok : compRes Try.prog Try.f17.results.toList = some rv17 := by kernel_rfl

/-- baseboard/route.Next [26, 3, 5] -/
def rc18 : RC :=
  (.seq
   (.region [
     ⟨(some 3), .box 3 (.t 0), none, []⟩,
     ⟨(some 6), .mov (.c (.int .u8 0)), none, []⟩,
     ⟨(some 7), .mov (.c (.int .i64 0)), none, [1]⟩,
     ⟨(some 8), .mov (.c (.int .i64 0)), none, [2]⟩] false)
   (.seq
    (.seq
     (.region [
       ⟨(some 18), .load 3 true (.t 3), none, []⟩,
       ⟨(some 19), .call 16 [(.t 18)], none, [0]⟩,
       ⟨(some 9), .mov (.t 19), none, [1, 1, 0, 1]⟩] false)
     (.seq
      (.region [
        ⟨(some 20), .mov (.t 9), none, []⟩,
        ⟨(some 21), .cmp .neq 0 (.t 20) (.c (.int .i64 0)), none, [0]⟩] false)
      (.cond (.t 21)
       (.seq
        (.region [
          ⟨(some 22), .mov (.t 9), none, []⟩,
          ⟨(some 6), .mov (.c (.int .u8 0)), none, []⟩,
          ⟨(some 7), .mov (.c (.int .i64 0)), none, [1, 1]⟩,
          ⟨(some 8), .mov (.t 22), none, [0, 2, 0, 1, 2]⟩] false)
        .ret)
       .skip)))
    (.seq
     (.seq
      (.region [
        ⟨(some 23), .mov (.t 1), none, []⟩,
        ⟨(some 24), .cmp .lss 0 (.t 23) (.c (.int .i64 0)), none, [0]⟩,
        ⟨(some 25), .mov (.t 24), none, [1]⟩,
        ⟨(some 26), .mov (.t 1), (some (25, false)), [2]⟩,
        ⟨(some 27), .faddr 0 (.t 3), (some (25, false)), [2]⟩,
        ⟨(some 28), .load 1 false (.t 27), (some (25, false)), [4, 2]⟩,
        ⟨(some 29), .cmp .geq 0 (.t 26) (.t 28), (some (25, false)), [3, 5, 2]⟩,
        ⟨(some 30), .pick (.t 25) (.c (.bool true)) (.t 29), none, [2, 6]⟩] false)
      (.cond (.t 30)
       (.seq
        (.region [
          ⟨(some 6), .mov (.c (.int .u8 0)), none, []⟩,
          ⟨(some 7), .mov (.c (.int .i64 0)), none, [0, 0]⟩,
          ⟨(some 8), .mov (.c (.int .i64 2)), none, [1, 0, 1]⟩] false)
        .ret)
       .skip))
     (.seq
      (.region [
        ⟨(some 32), .load 3 true (.t 3), none, []⟩,
        ⟨(some 33), .mov (.t 2), none, []⟩,
        ⟨(some 34), .call 33 [(.t 32), (.t 33)], none, [0, 1]⟩,
        ⟨(some 31), .mov (.t 34), none, [2]⟩,
        ⟨(some 35), .extract 0 (.t 31), none, [3]⟩,
        ⟨(some 36), .extract 1 (.t 31), none, [3]⟩,
        ⟨(some 10), .alloc [.int .u8 0, .int .u8 0, .int .i64 0], none, []⟩,
        ⟨none, .store 3 (.t 10) (.t 35), none, [6, 4, 2, 0, 1, 2, 3, 4, 6]⟩,
        ⟨(some 11), .mov (.t 36), none, [5, 7, 0, 1, 2, 3, 4, 5, 6, 7]⟩] false)
      (.seq
       (.seq
        (.region [
          ⟨(some 37), .mov (.t 11), none, []⟩,
          ⟨(some 38), .not (.t 37), none, [0]⟩] false)
        (.cond (.t 38)
         (.seq
          (.region [
            ⟨(some 6), .mov (.c (.int .u8 0)), none, []⟩,
            ⟨(some 7), .mov (.c (.int .i64 0)), none, [0, 0]⟩,
            ⟨(some 8), .mov (.c (.int .i64 13)), none, [1, 0, 1]⟩] false)
          .ret)
         .skip))
       (.seq
        (.region [
          ⟨(some 39), .load 3 true (.t 3), none, []⟩,
          ⟨(some 40), .faddr 2 (.t 10), none, []⟩,
          ⟨(some 41), .load 1 false (.t 40), none, [1]⟩,
          ⟨(some 42), .call 26 [(.t 39), (.t 41)], none, [0, 2]⟩,
          ⟨(some 12), .mov (.t 42), none, [3, 3, 0, 1, 2, 3]⟩] false)
        (.seq
         (.seq
          (.region [
            ⟨(some 43), .mov (.t 12), none, []⟩,
            ⟨(some 44), .mov (.t 1), none, []⟩,
            ⟨(some 45), .iaddrS [.int .i64 0] (.t 43) (.t 44), none, [0, 1]⟩,
            ⟨(some 46), .load 1 false (.t 45), none, [2]⟩,
            ⟨(some 47), .call 27 [(.t 46)], none, [3]⟩,
            ⟨(some 13), .mov (.t 47), none, [4, 4, 0, 1, 2, 3, 4]⟩] false)
          (.seq
           (.region [
             ⟨(some 48), .mov (.t 13), none, []⟩,
             ⟨(some 49), .cmp .neq 0 (.t 48) (.c (.int .i64 0)), none, [0]⟩] false)
           (.cond (.t 49)
            (.seq
             (.region [
               ⟨(some 50), .mov (.t 13), none, []⟩,
               ⟨(some 6), .mov (.c (.int .u8 0)), none, []⟩,
               ⟨(some 7), .mov (.c (.int .i64 0)), none, [1, 1]⟩,
               ⟨(some 8), .mov (.t 50), none, [0, 2, 0, 1, 2]⟩] false)
             .ret)
            .skip)))
         (.seq
          (.seq
           (.region [
             ⟨(some 51), .mov (.t 12), none, []⟩,
             ⟨(some 52), .mov (.t 1), none, []⟩,
             ⟨(some 53), .iaddrS [.int .i64 0] (.t 51) (.t 52), none, [0, 1]⟩,
             ⟨(some 54), .load 1 false (.t 53), none, [2]⟩,
             ⟨(some 55), .cmp .eql 0 (.t 54) (.c (.int .i64 0)), none, [3]⟩] false)
           (.cond (.t 55)
            (.seq
             (.region [
               ⟨(some 56), .faddr 1 (.t 10), none, []⟩,
               ⟨(some 57), .load 1 false (.t 56), none, [0]⟩,
               ⟨(some 6), .mov (.t 57), none, [1, 0, 1]⟩,
               ⟨(some 7), .mov (.c (.int .i64 (-1))), none, [2, 0, 1, 2]⟩,
               ⟨(some 8), .mov (.c (.int .i64 0)), none, [3, 0, 1, 2, 3]⟩] false)
             .ret)
            .skip))
          (.seq
           (.seq
            (.region [
              ⟨(some 58), .faddr 1 (.t 3), none, []⟩,
              ⟨(some 59), .load 1 false (.t 58), none, [0]⟩,
              ⟨(some 60), .len 0 (.t 59), none, [1]⟩,
              ⟨(some 61), .mov (.c (.int .i64 0)), none, []⟩] false)
            (.block 0
             (.loop 0
              (.seq
               (.region [
                 ⟨(some 62), .cmp .lss 0 (.t 61) (.t 60), none, []⟩] false)
               (.seq
                (.cond (.t 62)
                 .skip
                 (.exit 0))
                (.seq
                 (.block 1
                  (.seq
                   (.region [
                     ⟨(some 63), .mov (.t 61), none, []⟩,
                     ⟨(some 64), .iaddrS [.int .u8 0, .int .i64 0, .int .i64 0] (.t 59) (.t 61), none, []⟩,
                     ⟨(some 65), .load 3 true (.t 64), none, [1]⟩,
                     ⟨(some 15), .alloc [.int .u8 0, .int .i64 0, .int .i64 0], none, []⟩,
                     ⟨(some 14), .mov (.t 63), none, [0, 0, 1, 2, 3]⟩,
                     ⟨none, .store 3 (.t 15) (.t 65), none, [3, 2, 4, 0, 1, 2, 3, 4]⟩] false)
                   (.seq
                    (.region [
                      ⟨(some 67), .load 3 true (.t 15), none, []⟩,
                      ⟨(some 68), .mov (.t 1), none, []⟩,
                      ⟨(some 69), .call 23 [(.t 67), (.t 68)], none, [0, 1]⟩,
                      ⟨(some 66), .mov (.t 69), none, [2]⟩,
                      ⟨(some 70), .extract 0 (.t 66), none, [3]⟩,
                      ⟨(some 71), .extract 1 (.t 66), none, [3]⟩,
                      ⟨(some 16), .mov (.t 70), none, [4, 2, 0, 1, 2, 3, 4]⟩,
                      ⟨(some 17), .mov (.t 71), none, [5, 6, 0, 1, 2, 3, 4, 5, 6]⟩] false)
                    (.seq
                     (.region [
                       ⟨(some 72), .mov (.t 17), none, []⟩,
                       ⟨(some 73), .mov (.t 72), none, [0]⟩,
                       ⟨(some 74), .mov (.t 12), (some (73, true)), [0, 1]⟩,
                       ⟨(some 75), .mov (.t 16), (some (73, true)), [0, 1]⟩,
                       ⟨(some 76), .iaddrS [.int .i64 0] (.t 74) (.t 75), (some (73, true)), [0, 1, 3, 2]⟩,
                       ⟨(some 77), .load 1 false (.t 76), (some (73, true)), [2, 3, 0, 1, 4]⟩,
                       ⟨(some 78), .mov (.t 12), (some (73, true)), [0, 1]⟩,
                       ⟨(some 79), .mov (.t 1), (some (73, true)), [0, 1]⟩,
                       ⟨(some 80), .iaddrS [.int .i64 0] (.t 78) (.t 79), (some (73, true)), [0, 1, 7, 6]⟩,
                       ⟨(some 81), .load 1 false (.t 80), (some (73, true)), [6, 7, 0, 1, 8]⟩,
                       ⟨(some 82), .arith .sub (.t 81) (.c (.int .i64 1)), (some (73, true)), [8, 0, 7, 6, 1, 9]⟩,
                       ⟨(some 83), .cmp .eql 0 (.t 77) (.t 82), (some (73, true)), [9, 6, 7, 8, 4, 0, 3, 2, 1, 10, 5]⟩,
                       ⟨(some 84), .pick (.t 73) (.t 83) (.c (.bool false)), none, [5, 10, 2, 3, 4, 8, 7, 6, 9, 0, 11, 1]⟩] true)
                     (.cond (.t 84)
                      (.seq
                       (.region [
                         ⟨(some 85), .faddr 0 (.t 15), none, []⟩,
                         ⟨(some 86), .load 1 false (.t 85), none, [0]⟩,
                         ⟨(some 87), .mov (.t 14), none, []⟩,
                         ⟨(some 6), .mov (.t 86), none, [1, 0, 1]⟩,
                         ⟨(some 7), .mov (.t 87), none, [2, 3, 0, 1, 2, 3]⟩,
                         ⟨(some 8), .mov (.c (.int .i64 0)), none, [4, 0, 1, 2, 3, 4]⟩] false)
                       .ret)
                      .skip)))))
                 (.region [
                   ⟨(some 88), .arith .add (.t 61) (.c (.int .i64 1)), none, []⟩,
                   ⟨(some 61), .mov (.t 88), none, [0]⟩] false)))))))
           (.seq
            (.region [
              ⟨(some 6), .mov (.c (.int .u8 0)), none, []⟩,
              ⟨(some 7), .mov (.c (.int .i64 0)), none, [0, 0]⟩,
              ⟨(some 8), .mov (.c (.int .i64 8)), none, [1, 0, 1]⟩] false)
            .ret))))))))))
def rv18 : List RV := [.t 6, .t 7, .t 8]
theorem rc18_ok : comp Try.prog Try.f18.ntmps (Try.f18.body.getD .skip) = some (erase rc18) := by kernel_rfl
theorem rv18_ok : compRes Try.prog Try.f18.results.toList = some rv18 := by kernel_rfl

/-- baseboard/baseboardref26.Next [26, 3, 5] -/
def rc19 : RC :=
  (.seq
   (.region [
     ⟨(some 3), .box 3 (.t 0), none, []⟩,
     ⟨(some 6), .mov (.c (.int .u8 0)), none, []⟩,
     ⟨(some 7), .mov (.c (.int .i64 0)), none, [1]⟩,
     ⟨(some 8), .mov (.c (.int .i64 0)), none, [2]⟩] false)
   (.seq
    (.seq
     (.region [
       ⟨(some 18), .load 3 true (.t 3), none, []⟩,
       ⟨(some 19), .call 17 [(.t 18)], none, [0]⟩,
       ⟨(some 9), .mov (.t 19), none, [1, 1, 0, 1]⟩] false)
     (.seq
      (.region [
        ⟨(some 20), .mov (.t 9), none, []⟩,
        ⟨(some 21), .cmp .neq 0 (.t 20) (.c (.int .i64 0)), none, [0]⟩] false)
      (.cond (.t 21)
       (.seq
        (.region [
          ⟨(some 22), .mov (.t 9), none, []⟩,
          ⟨(some 6), .mov (.c (.int .u8 0)), none, []⟩,
          ⟨(some 7), .mov (.c (.int .i64 0)), none, [1, 1]⟩,
          ⟨(some 8), .mov (.t 22), none, [0, 2, 0, 1, 2]⟩] false)
        .ret)
       .skip)))
    (.seq
     (.seq
      (.region [
        ⟨(some 23), .mov (.t 1), none, []⟩,
        ⟨(some 24), .cmp .lss 0 (.t 23) (.c (.int .i64 0)), none, [0]⟩,
        ⟨(some 25), .mov (.t 24), none, [1]⟩,
        ⟨(some 26), .mov (.t 1), (some (25, false)), [2]⟩,
        ⟨(some 27), .faddr 0 (.t 3), (some (25, false)), [2]⟩,
        ⟨(some 28), .load 1 false (.t 27), (some (25, false)), [4, 2]⟩,
        ⟨(some 29), .cmp .geq 0 (.t 26) (.t 28), (some (25, false)), [3, 5, 2]⟩,
        ⟨(some 30), .pick (.t 25) (.c (.bool true)) (.t 29), none, [2, 6]⟩] false)
      (.cond (.t 30)
       (.seq
        (.region [
          ⟨(some 6), .mov (.c (.int .u8 0)), none, []⟩,
          ⟨(some 7), .mov (.c (.int .i64 0)), none, [0, 0]⟩,
          ⟨(some 8), .mov (.c (.int .i64 2)), none, [1, 0, 1]⟩] false)
        .ret)
       .skip))
     (.seq
      (.region [
        ⟨(some 10), .mov (.c (.int .i64 (-1))), none, []⟩] false)
      (.seq
       (.seq
        (.region [
          ⟨(some 11), .mov (.c (.int .i64 0)), none, []⟩] false)
        (.block 0
         (.loop 0
          (.seq
           (.seq
            (.region [
              ⟨(some 31), .mov (.t 11), none, []⟩,
              ⟨(some 32), .faddr 2 (.t 3), none, []⟩,
              ⟨(some 33), .load 1 false (.t 32), none, [1]⟩,
              ⟨(some 34), .len 0 (.t 33), none, [2]⟩,
              ⟨(some 35), .cmp .lss 0 (.t 31) (.t 34), none, [0, 3]⟩] false)
            (.cond (.t 35)
             .skip
             (.exit 0)))
           (.seq
            (.block 1
             (.seq
              (.region [
                ⟨(some 38), .faddr 2 (.t 3), none, []⟩,
                ⟨(some 39), .load 1 false (.t 38), none, [0]⟩,
                ⟨(some 40), .mov (.t 11), none, []⟩,
                ⟨(some 41), .iaddrS [.int .u8 0, .int .u8 0, .int .i64 0] (.t 39) (.t 40), none, [1, 2]⟩,
                ⟨(some 42), .faddr 0 (.t 41), none, [3]⟩,
                ⟨(some 43), .load 1 false (.t 42), none, [4]⟩,
                ⟨(some 44), .mov (.t 2), none, []⟩,
                ⟨(some 45), .cmp .eql 0 (.t 43) (.t 44), none, [5, 6]⟩] false)
              (.cond (.t 45)
               (.region [
                 ⟨(some 46), .mov (.t 11), none, []⟩,
                 ⟨(some 10), .mov (.t 46), none, [0, 0]⟩] false)
               .skip)))
            (.region [
              ⟨(some 36), .mov (.t 11), none, []⟩,
              ⟨(some 37), .arith .add (.t 36) (.c (.int .i64 1)), none, [0]⟩,
              ⟨(some 11), .mov (.t 37), none, [1, 0, 1]⟩] false))))))
       (.seq
        (.seq
         (.region [
           ⟨(some 47), .mov (.t 10), none, []⟩,
           ⟨(some 48), .cmp .lss 0 (.t 47) (.c (.int .i64 0)), none, [0]⟩] false)
         (.cond (.t 48)
          (.seq
           (.region [
             ⟨(some 6), .mov (.c (.int .u8 0)), none, []⟩,
             ⟨(some 7), .mov (.c (.int .i64 0)), none, [0, 0]⟩,
             ⟨(some 8), .mov (.c (.int .i64 13)), none, [1, 0, 1]⟩] false)
           .ret)
          .skip))
        (.seq
         (.region [
           ⟨(some 50), .load 3 true (.t 3), none, []⟩,
           ⟨(some 51), .mov (.t 1), none, []⟩,
           ⟨(some 52), .faddr 2 (.t 3), none, []⟩,
           ⟨(some 53), .load 1 false (.t 52), none, [2]⟩,
           ⟨(some 54), .mov (.t 10), none, []⟩,
           ⟨(some 55), .iaddrS [.int .u8 0, .int .u8 0, .int .i64 0] (.t 53) (.t 54), none, [2, 4, 3]⟩,
           ⟨(some 56), .faddr 2 (.t 55), none, [3, 4, 2, 5]⟩,
           ⟨(some 57), .load 1 false (.t 56), none, [5, 2, 4, 3, 6]⟩,
           ⟨(some 58), .call 15 [(.t 50), (.t 51), (.t 57)], none, [6, 3, 4, 2, 5, 7, 1, 0]⟩,
           ⟨(some 49), .mov (.t 58), none, [0, 1, 7, 5, 2, 4, 3, 6, 8]⟩,
           ⟨(some 59), .extract 0 (.t 49), none, [8, 6, 3, 4, 2, 5, 7, 1, 0, 9]⟩,
           ⟨(some 60), .extract 1 (.t 49), none, [8, 6, 3, 4, 2, 5, 7, 1, 0, 9]⟩,
           ⟨(some 12), .mov (.t 59), none, [9, 7, 6, 5, 4, 3, 2, 1, 0, 8, 10]⟩,
           ⟨(some 13), .mov (.t 60), none, [10, 9, 8, 7, 6, 5, 4, 3, 2, 1, 0, 12, 11]⟩] true)
         (.seq
          (.seq
           (.region [
             ⟨(some 61), .mov (.t 13), none, []⟩,
             ⟨(some 62), .cmp .neq 0 (.t 61) (.c (.int .i64 0)), none, [0]⟩] false)
           (.cond (.t 62)
            (.seq
             (.region [
               ⟨(some 63), .mov (.t 13), none, []⟩,
               ⟨(some 6), .mov (.c (.int .u8 0)), none, []⟩,
               ⟨(some 7), .mov (.c (.int .i64 0)), none, [1, 1]⟩,
               ⟨(some 8), .mov (.t 63), none, [0, 2, 0, 1, 2]⟩] false)
             .ret)
            .skip))
          (.seq
           (.seq
            (.region [
              ⟨(some 64), .mov (.t 12), none, []⟩,
              ⟨(some 65), .cmp .eql 0 (.t 64) (.c (.int .i64 0)), none, [0]⟩] false)
            (.cond (.t 65)
             (.seq
              (.region [
                ⟨(some 66), .faddr 2 (.t 3), none, []⟩,
                ⟨(some 67), .load 1 false (.t 66), none, [0]⟩,
                ⟨(some 68), .mov (.t 10), none, []⟩,
                ⟨(some 69), .iaddrS [.int .u8 0, .int .u8 0, .int .i64 0] (.t 67) (.t 68), none, [1, 2]⟩,
                ⟨(some 70), .faddr 1 (.t 69), none, [3]⟩,
                ⟨(some 71), .load 1 false (.t 70), none, [4]⟩,
                ⟨(some 6), .mov (.t 71), none, [5, 0, 1, 2, 3, 4, 5]⟩,
                ⟨(some 7), .mov (.c (.int .i64 (-1))), none, [6, 0, 1, 2, 3, 4, 5, 6]⟩,
                ⟨(some 8), .mov (.c (.int .i64 0)), none, [7, 0, 1, 2, 3, 4, 5, 6, 7]⟩] false)
              .ret)
             .skip))
           (.seq
            (.region [
              ⟨(some 72), .load 3 true (.t 3), none, []⟩,
              ⟨(some 73), .faddr 2 (.t 3), none, []⟩,
              ⟨(some 74), .load 1 false (.t 73), none, [1]⟩,
              ⟨(some 75), .mov (.t 10), none, []⟩,
              ⟨(some 76), .iaddrS [.int .u8 0, .int .u8 0, .int .i64 0] (.t 74) (.t 75), none, [1, 3, 2]⟩,
              ⟨(some 77), .faddr 2 (.t 76), none, [2, 3, 1, 4]⟩,
              ⟨(some 78), .load 1 false (.t 77), none, [4, 1, 3, 2, 5]⟩,
              ⟨(some 79), .call 28 [(.t 72), (.t 78)], none, [5, 2, 3, 1, 4, 6, 0]⟩,
              ⟨(some 14), .mov (.t 79), none, [6, 5, 4, 3, 2, 1, 0, 7]⟩] true)
            (.seq
             (.region [
               ⟨(some 15), .mov (.c (.int .i64 0)), none, []⟩] false)
             (.seq
              (.block 2
               (.loop 1
                (.seq
                 (.seq
                  (.region [
                    ⟨(some 80), .mov (.t 15), none, []⟩,
                    ⟨(some 81), .faddr 1 (.t 3), none, []⟩,
                    ⟨(some 82), .load 1 false (.t 81), none, [1]⟩,
                    ⟨(some 83), .len 0 (.t 82), none, [2]⟩,
                    ⟨(some 84), .cmp .lss 0 (.t 80) (.t 83), none, [0, 3]⟩] false)
                  (.cond (.t 84)
                   .skip
                   (.exit 2)))
                 (.seq
                  (.block 3
                   (.seq
                    (.region [
                      ⟨(some 88), .faddr 1 (.t 3), none, []⟩,
                      ⟨(some 89), .load 1 false (.t 88), none, [0]⟩,
                      ⟨(some 90), .mov (.t 15), none, []⟩,
                      ⟨(some 91), .iaddrS [.int .u8 0, .int .i64 0, .int .i64 0] (.t 89) (.t 90), none, [1, 2]⟩,
                      ⟨(some 92), .load 3 true (.t 91), none, [3]⟩,
                      ⟨(some 93), .mov (.t 1), none, []⟩,
                      ⟨(some 94), .call 24 [(.t 92), (.t 93)], none, [4, 5]⟩,
                      ⟨(some 87), .mov (.t 94), none, [6]⟩,
                      ⟨(some 95), .extract 0 (.t 87), none, [7]⟩,
                      ⟨(some 96), .extract 1 (.t 87), none, [7]⟩,
                      ⟨(some 16), .mov (.t 95), none, [8, 6, 0, 1, 2, 3, 4, 5, 6, 7, 8]⟩,
                      ⟨(some 17), .mov (.t 96), none, [9, 10, 0, 1, 2, 3, 4, 5, 6, 7, 8, 9, 10]⟩] false)
                    (.seq
                     (.region [
                       ⟨(some 97), .mov (.t 17), none, []⟩,
                       ⟨(some 98), .mov (.t 97), none, [0]⟩,
                       ⟨(some 99), .mov (.t 14), (some (98, true)), [1]⟩,
                       ⟨(some 100), .mov (.t 16), (some (98, true)), [1]⟩,
                       ⟨(some 101), .iaddrS [.int .i64 0] (.t 99) (.t 100), (some (98, true)), [2, 3, 1]⟩,
                       ⟨(some 102), .load 1 false (.t 101), (some (98, true)), [4, 1]⟩,
                       ⟨(some 103), .mov (.t 12), (some (98, true)), [1]⟩,
                       ⟨(some 104), .arith .sub (.t 103) (.c (.int .i64 1)), (some (98, true)), [6, 1]⟩,
                       ⟨(some 105), .cmp .eql 0 (.t 102) (.t 104), (some (98, true)), [5, 7, 1]⟩,
                       ⟨(some 106), .pick (.t 98) (.t 105) (.c (.bool false)), none, [1, 8]⟩] false)
                     (.cond (.t 106)
                      (.exit 2)
                      .skip))))
                  (.region [
                    ⟨(some 85), .mov (.t 15), none, []⟩,
                    ⟨(some 86), .arith .add (.t 85) (.c (.int .i64 1)), none, [0]⟩,
                    ⟨(some 15), .mov (.t 86), none, [1, 0, 1]⟩] false)))))
              (.seq
               (.region [
                 ⟨(some 107), .faddr 1 (.t 3), none, []⟩,
                 ⟨(some 108), .load 1 false (.t 107), none, [0]⟩,
                 ⟨(some 109), .mov (.t 15), none, []⟩,
                 ⟨(some 110), .iaddrS [.int .u8 0, .int .i64 0, .int .i64 0] (.t 108) (.t 109), none, [1, 2]⟩,
                 ⟨(some 111), .faddr 0 (.t 110), none, [3]⟩,
                 ⟨(some 112), .load 1 false (.t 111), none, [4]⟩,
                 ⟨(some 113), .mov (.t 15), none, []⟩,
                 ⟨(some 6), .mov (.t 112), none, [5, 0, 1, 2, 3, 4, 5]⟩,
                 ⟨(some 7), .mov (.t 113), none, [6, 7, 0, 1, 2, 3, 4, 5, 6, 7]⟩,
                 ⟨(some 8), .mov (.c (.int .i64 0)), none, [8, 0, 1, 2, 3, 4, 5, 6, 7, 8]⟩] false)
               .ret)))))))))))))
def rv19 : List RV := [.t 6, .t 7, .t 8]
theorem rc19_ok : comp Try.prog Try.f19.ntmps (Try.f19.body.getD .skip) = some (erase rc19) := by kernel_rfl
theorem rv19_ok : compRes Try.prog Try.f19.results.toList = some rv19 := by kernel_rfl

/-- baseboard/route.Path [26, 3, 5] -/
def rc20 : RC :=
  (.seq
   (.region [
     ⟨(some 3), .box 3 (.t 0), none, []⟩,
     ⟨(some 6), .mov (.c (.nil)), none, []⟩,
     ⟨(some 7), .mov (.c (.int .i64 0)), none, [1]⟩] false)
   (.seq
    (.region [
      ⟨(some 8), .mov (.c (.nil)), none, []⟩] false)
    (.block 0
     (.loop 0
      (.block 1
       (.seq
        (.region [
          ⟨(some 13), .load 3 true (.t 3), none, []⟩,
          ⟨(some 14), .mov (.t 1), none, []⟩,
          ⟨(some 15), .mov (.t 2), none, []⟩,
          ⟨(some 16), .call 18 [(.t 13), (.t 14), (.t 15)], none, [0, 1, 2]⟩,
          ⟨(some 12), .mov (.t 16), none, [3]⟩,
          ⟨(some 17), .extract 0 (.t 12), none, [4]⟩,
          ⟨(some 18), .extract 1 (.t 12), none, [4]⟩,
          ⟨(some 19), .extract 2 (.t 12), none, [4]⟩,
          ⟨(some 9), .mov (.t 17), none, [5, 3, 0, 1, 2, 3, 4, 5]⟩,
          ⟨(some 10), .mov (.t 18), none, [6, 8, 0, 1, 2, 3, 4, 5, 6, 8]⟩,
          ⟨(some 11), .mov (.t 19), none, [7, 9, 0, 1, 2, 3, 4, 5, 6, 7, 8, 9]⟩] false)
        (.seq
         (.seq
          (.region [
            ⟨(some 20), .mov (.t 11), none, []⟩,
            ⟨(some 21), .cmp .neq 0 (.t 20) (.c (.int .i64 0)), none, [0]⟩] false)
          (.cond (.t 21)
           (.seq
            (.region [
              ⟨(some 22), .mov (.t 11), none, []⟩,
              ⟨(some 6), .mov (.c (.nil)), none, []⟩,
              ⟨(some 7), .mov (.t 22), none, [0, 1, 0, 1]⟩] false)
            .ret)
           .skip))
         (.seq
          (.seq
           (.region [
             ⟨(some 23), .mov (.t 10), none, []⟩,
             ⟨(some 24), .cmp .lss 0 (.t 23) (.c (.int .i64 0)), none, [0]⟩] false)
           (.cond (.t 24)
            (.seq
             (.region [
               ⟨(some 25), .mov (.t 8), none, []⟩,
               ⟨(some 6), .mov (.t 25), none, [0, 0]⟩,
               ⟨(some 7), .mov (.c (.int .i64 0)), none, [1, 0, 1]⟩] false)
             .ret)
            .skip))
          (.seq
           (.region [
             ⟨(some 26), .mov (.t 8), none, []⟩,
             ⟨(some 27), .mov (.t 10), none, []⟩,
             ⟨(some 28), .bsliceO 3 1 [.int .i64 0] [(0, (.t 27))], none, [1]⟩,
             ⟨(some 29), .append 3 8 [.int .i64 0] (.t 26) (.t 28), none, [0, 2]⟩,
             ⟨(some 8), .mov (.t 29), none, [3, 3, 0, 1, 2, 3]⟩] false)
           (.region [
             ⟨(some 31), .faddr 1 (.t 3), none, []⟩,
             ⟨(some 32), .load 1 false (.t 31), none, [0]⟩,
             ⟨(some 33), .mov (.t 10), none, []⟩,
             ⟨(some 34), .iaddrS [.int .u8 0, .int .i64 0, .int .i64 0] (.t 32) (.t 33), none, [1, 2]⟩,
             ⟨(some 35), .load 3 true (.t 34), none, [3]⟩,
             ⟨(some 36), .mov (.t 1), none, []⟩,
             ⟨(some 37), .call 23 [(.t 35), (.t 36)], none, [4, 5]⟩,
             ⟨(some 30), .mov (.t 37), none, [6]⟩,
             ⟨(some 38), .extract 0 (.t 30), none, [7]⟩,
             ⟨(some 39), .extract 1 (.t 30), none, [7]⟩,
             ⟨(some 1), .mov (.t 38), none, [8, 6, 0, 1, 2, 3, 4, 5, 6, 7, 8]⟩] false))))))))))
def rv20 : List RV := [.t 6, .t 7]
theorem rc20_ok : comp Try.prog Try.f20.ntmps (Try.f20.body.getD .skip) = some (erase rc20) := by kernel_rfl
theorem rv20_ok : compRes Try.prog Try.f20.results.toList = some rv20 := by kernel_rfl

/-- baseboard/baseboardref26.Path [26, 3, 5] -/
def rc21 : RC :=
  (.seq
   (.region [
     ⟨(some 3), .box 3 (.t 0), none, []⟩,
     ⟨(some 6), .mov (.c (.nil)), none, []⟩,
     ⟨(some 7), .mov (.c (.int .i64 0)), none, [1]⟩] false)
   (.seq
    (.region [
      ⟨(some 8), .mov (.c (.nil)), none, []⟩] false)
    (.block 0
     (.loop 0
      (.block 1
       (.seq
        (.region [
          ⟨(some 13), .load 3 true (.t 3), none, []⟩,
          ⟨(some 14), .mov (.t 1), none, []⟩,
          ⟨(some 15), .mov (.t 2), none, []⟩,
          ⟨(some 16), .call 19 [(.t 13), (.t 14), (.t 15)], none, [0, 1, 2]⟩,
          ⟨(some 12), .mov (.t 16), none, [3]⟩,
          ⟨(some 17), .extract 0 (.t 12), none, [4]⟩,
          ⟨(some 18), .extract 1 (.t 12), none, [4]⟩,
          ⟨(some 19), .extract 2 (.t 12), none, [4]⟩,
          ⟨(some 9), .mov (.t 17), none, [5, 3, 0, 1, 2, 3, 4, 5]⟩,
          ⟨(some 10), .mov (.t 18), none, [6, 8, 0, 1, 2, 3, 4, 5, 6, 8]⟩,
          ⟨(some 11), .mov (.t 19), none, [7, 9, 0, 1, 2, 3, 4, 5, 6, 7, 8, 9]⟩] false)
        (.seq
         (.seq
          (.region [
            ⟨(some 20), .mov (.t 11), none, []⟩,
            ⟨(some 21), .cmp .neq 0 (.t 20) (.c (.int .i64 0)), none, [0]⟩] false)
          (.cond (.t 21)
           (.seq
            (.region [
              ⟨(some 22), .mov (.t 11), none, []⟩,
              ⟨(some 6), .mov (.c (.nil)), none, []⟩,
              ⟨(some 7), .mov (.t 22), none, [0, 1, 0, 1]⟩] false)
            .ret)
           .skip))
         (.seq
          (.seq
           (.region [
             ⟨(some 23), .mov (.t 10), none, []⟩,
             ⟨(some 24), .cmp .lss 0 (.t 23) (.c (.int .i64 0)), none, [0]⟩] false)
           (.cond (.t 24)
            (.seq
             (.region [
               ⟨(some 25), .mov (.t 8), none, []⟩,
               ⟨(some 6), .mov (.t 25), none, [0, 0]⟩,
               ⟨(some 7), .mov (.c (.int .i64 0)), none, [1, 0, 1]⟩] false)
             .ret)
            .skip))
          (.seq
           (.region [
             ⟨(some 26), .mov (.t 8), none, []⟩,
             ⟨(some 27), .mov (.t 10), none, []⟩,
             ⟨(some 28), .bsliceO 3 1 [.int .i64 0] [(0, (.t 27))], none, [1]⟩,
             ⟨(some 29), .append 3 8 [.int .i64 0] (.t 26) (.t 28), none, [0, 2]⟩,
             ⟨(some 8), .mov (.t 29), none, [3, 3, 0, 1, 2, 3]⟩] false)
           (.region [
             ⟨(some 31), .faddr 1 (.t 3), none, []⟩,
             ⟨(some 32), .load 1 false (.t 31), none, [0]⟩,
             ⟨(some 33), .mov (.t 10), none, []⟩,
             ⟨(some 34), .iaddrS [.int .u8 0, .int .i64 0, .int .i64 0] (.t 32) (.t 33), none, [1, 2]⟩,
             ⟨(some 35), .load 3 true (.t 34), none, [3]⟩,
             ⟨(some 36), .mov (.t 1), none, []⟩,
             ⟨(some 37), .call 24 [(.t 35), (.t 36)], none, [4, 5]⟩,
             ⟨(some 30), .mov (.t 37), none, [6]⟩,
             ⟨(some 38), .extract 0 (.t 30), none, [7]⟩,
             ⟨(some 39), .extract 1 (.t 30), none, [7]⟩,
             ⟨(some 1), .mov (.t 38), none, [8, 6, 0, 1, 2, 3, 4, 5, 6, 7, 8]⟩] false))))))))))
def rv21 : List RV := [.t 6, .t 7]
theorem rc21_ok : comp Try.prog Try.f21.ntmps (Try.f21.body.getD .skip) = some (erase rc21) := by kernel_rfl
theorem rv21_ok : compRes Try.prog Try.f21.results.toList = some rv21 := by kernel_rfl

/-- baseboard/baseboardlaw26.ints [40, 40] -/
def rc22 : RC :=
  (.seq
   (.region [
     ⟨(some 4), .mov (.c (.bool false)), none, []⟩] false)
   (.seq
    (.seq
     (.region [
       ⟨(some 6), .mov (.t 0), none, []⟩,
       ⟨(some 7), .len 0 (.t 6), none, [0]⟩,
       ⟨(some 8), .mov (.t 1), none, []⟩,
       ⟨(some 9), .len 0 (.t 8), none, [2]⟩,
       ⟨(some 10), .cmp .neq 0 (.t 7) (.t 9), none, [1, 3]⟩] false)
     (.cond (.t 10)
      (.seq
       (.region [
         ⟨(some 4), .mov (.c (.bool false)), none, []⟩] false)
       .ret)
      .skip))
    (.seq
     (.seq
      (.region [
        ⟨(some 5), .mov (.c (.int .i64 0)), none, []⟩] false)
      (.block 0
       (.loop 0
        (.seq
         (.seq
          (.region [
            ⟨(some 11), .mov (.t 5), none, []⟩,
            ⟨(some 12), .mov (.t 0), none, []⟩,
            ⟨(some 13), .len 0 (.t 12), none, [1]⟩,
            ⟨(some 14), .cmp .lss 0 (.t 11) (.t 13), none, [0, 2]⟩] false)
          (.cond (.t 14)
           .skip
           (.exit 0)))
         (.seq
          (.block 1
           (.seq
            (.region [
              ⟨(some 17), .mov (.t 0), none, []⟩,
              ⟨(some 18), .mov (.t 5), none, []⟩,
              ⟨(some 19), .iaddrS [.int .i64 0] (.t 17) (.t 18), none, [1, 0]⟩,
              ⟨(some 20), .load 1 false (.t 19), none, [0, 1, 2]⟩,
              ⟨(some 21), .mov (.t 1), none, []⟩,
              ⟨(some 22), .mov (.t 5), none, []⟩,
              ⟨(some 23), .iaddrS [.int .i64 0] (.t 21) (.t 22), none, [5, 4]⟩,
              ⟨(some 24), .load 1 false (.t 23), none, [4, 5, 6]⟩,
              ⟨(some 25), .cmp .neq 0 (.t 20) (.t 24), none, [6, 5, 4, 2, 1, 0, 7, 3]⟩] true)
            (.cond (.t 25)
             (.seq
              (.region [
                ⟨(some 4), .mov (.c (.bool false)), none, []⟩] false)
              .ret)
             .skip)))
          (.region [
            ⟨(some 15), .mov (.t 5), none, []⟩,
            ⟨(some 16), .arith .add (.t 15) (.c (.int .i64 1)), none, [0]⟩,
            ⟨(some 5), .mov (.t 16), none, [1, 0, 1]⟩] false))))))
     (.seq
      (.region [
        ⟨(some 4), .mov (.c (.bool true)), none, []⟩] false)
      .ret))))
def rv22 : List RV := [.t 4]
theorem rc22_ok : comp Try.prog Try.f22.ntmps (Try.f22.body.getD .skip) = some (erase rc22) := by kernel_rfl
theorem rv22_ok : compRes Try.prog Try.f22.results.toList = some rv22 := by kernel_rfl

/-- baseboard/route.Side [45, 3] -/
def rc23 : RC :=
  (.seq
   (.region [
     ⟨(some 2), .box 3 (.t 0), none, []⟩,
     ⟨(some 4), .mov (.c (.int .i64 0)), none, []⟩,
     ⟨(some 5), .mov (.c (.bool false)), none, [1]⟩] false)
   (.seq
    (.block 0
     (.seq
      (.region [
        ⟨(some 7), .faddr 1 (.t 2), none, []⟩,
        ⟨(some 8), .load 1 false (.t 7), none, [0]⟩,
        ⟨(some 9), .faddr 2 (.t 2), none, []⟩,
        ⟨(some 10), .load 1 false (.t 9), none, [2]⟩,
        ⟨(some 11), .cmp .eql 0 (.t 8) (.t 10), none, [1, 3]⟩,
        ⟨(some 6), .mov (.t 11), none, [4]⟩] false)
      (.cond (.t 6)
       (.seq
        (.region [
          ⟨(some 4), .mov (.c (.int .i64 0)), none, []⟩,
          ⟨(some 5), .mov (.c (.bool false)), none, [0, 0]⟩] false)
        .ret)
       (.seq
        (.region [
          ⟨(some 13), .faddr 1 (.t 2), none, []⟩,
          ⟨(some 14), .load 1 false (.t 13), none, [0]⟩,
          ⟨(some 15), .mov (.t 1), none, []⟩,
          ⟨(some 16), .cmp .eql 0 (.t 14) (.t 15), none, [1, 2]⟩,
          ⟨(some 12), .mov (.t 16), none, [3]⟩] false)
        (.cond (.t 12)
         (.seq
          (.region [
            ⟨(some 17), .faddr 2 (.t 2), none, []⟩,
            ⟨(some 18), .load 1 false (.t 17), none, [0]⟩,
            ⟨(some 4), .mov (.t 18), none, [1, 0, 1]⟩,
            ⟨(some 5), .mov (.c (.bool true)), none, [2, 0, 1, 2]⟩] false)
          .ret)
         (.seq
          (.region [
            ⟨(some 20), .faddr 2 (.t 2), none, []⟩,
            ⟨(some 21), .load 1 false (.t 20), none, [0]⟩,
            ⟨(some 22), .mov (.t 1), none, []⟩,
            ⟨(some 23), .cmp .eql 0 (.t 21) (.t 22), none, [1, 2]⟩,
            ⟨(some 19), .mov (.t 23), none, [3]⟩] false)
          (.cond (.t 19)
           (.seq
            (.region [
              ⟨(some 24), .faddr 1 (.t 2), none, []⟩,
              ⟨(some 25), .load 1 false (.t 24), none, [0]⟩,
              ⟨(some 4), .mov (.t 25), none, [1, 0, 1]⟩,
              ⟨(some 5), .mov (.c (.bool true)), none, [2, 0, 1, 2]⟩] false)
            .ret)
           .skip)))))))
    (.seq
     (.region [
       ⟨(some 4), .mov (.c (.int .i64 0)), none, []⟩,
       ⟨(some 5), .mov (.c (.bool false)), none, [0, 0]⟩] false)
     .ret)))
def rv23 : List RV := [.t 4, .t 5]
theorem rc23_ok : comp Try.prog Try.f23.ntmps (Try.f23.body.getD .skip) = some (erase rc23) := by kernel_rfl
theorem rv23_ok : compRes Try.prog Try.f23.results.toList = some rv23 := by kernel_rfl

/-- baseboard/baseboardref26.Side [45, 3] -/
def rc24 : RC :=
  (.seq
   (.region [
     ⟨(some 2), .box 3 (.t 0), none, []⟩,
     ⟨(some 4), .mov (.c (.int .i64 0)), none, []⟩,
     ⟨(some 5), .mov (.c (.bool false)), none, [1]⟩] false)
   (.seq
    (.block 0
     (.seq
      (.region [
        ⟨(some 7), .faddr 1 (.t 2), none, []⟩,
        ⟨(some 8), .load 1 false (.t 7), none, [0]⟩,
        ⟨(some 9), .faddr 2 (.t 2), none, []⟩,
        ⟨(some 10), .load 1 false (.t 9), none, [2]⟩,
        ⟨(some 11), .cmp .eql 0 (.t 8) (.t 10), none, [1, 3]⟩,
        ⟨(some 6), .mov (.t 11), none, [4]⟩] false)
      (.cond (.t 6)
       (.seq
        (.region [
          ⟨(some 4), .mov (.c (.int .i64 0)), none, []⟩,
          ⟨(some 5), .mov (.c (.bool false)), none, [0, 0]⟩] false)
        .ret)
       (.seq
        (.region [
          ⟨(some 13), .mov (.t 1), none, []⟩,
          ⟨(some 14), .faddr 1 (.t 2), none, []⟩,
          ⟨(some 15), .load 1 false (.t 14), none, [1]⟩,
          ⟨(some 16), .cmp .eql 0 (.t 13) (.t 15), none, [0, 2]⟩,
          ⟨(some 12), .mov (.t 16), none, [3]⟩] false)
        (.cond (.t 12)
         (.seq
          (.region [
            ⟨(some 17), .faddr 2 (.t 2), none, []⟩,
            ⟨(some 18), .load 1 false (.t 17), none, [0]⟩,
            ⟨(some 4), .mov (.t 18), none, [1, 0, 1]⟩,
            ⟨(some 5), .mov (.c (.bool true)), none, [2, 0, 1, 2]⟩] false)
          .ret)
         (.seq
          (.region [
            ⟨(some 20), .mov (.t 1), none, []⟩,
            ⟨(some 21), .faddr 2 (.t 2), none, []⟩,
            ⟨(some 22), .load 1 false (.t 21), none, [1]⟩,
            ⟨(some 23), .cmp .eql 0 (.t 20) (.t 22), none, [0, 2]⟩,
            ⟨(some 19), .mov (.t 23), none, [3]⟩] false)
          (.cond (.t 19)
           (.seq
            (.region [
              ⟨(some 24), .faddr 1 (.t 2), none, []⟩,
              ⟨(some 25), .load 1 false (.t 24), none, [0]⟩,
              ⟨(some 4), .mov (.t 25), none, [1, 0, 1]⟩,
              ⟨(some 5), .mov (.c (.bool true)), none, [2, 0, 1, 2]⟩] false)
            .ret)
           .skip)))))))
    (.seq
     (.region [
       ⟨(some 4), .mov (.c (.int .i64 0)), none, []⟩,
       ⟨(some 5), .mov (.c (.bool false)), none, [0, 0]⟩] false)
     .ret)))
def rv24 : List RV := [.t 4, .t 5]
theorem rc24_ok : comp Try.prog Try.f24.ntmps (Try.f24.body.getD .skip) = some (erase rc24) := by kernel_rfl
theorem rv24_ok : compRes Try.prog Try.f24.results.toList = some rv24 := by kernel_rfl

/-- (*baseboard/baseboardfield.Codes).Left [28] -/
def rc25 : RC :=
  (.seq
   (.region [
     ⟨(some 2), .mov (.c (.bool false)), none, []⟩] false)
   (.seq
    (.region [
      ⟨(some 3), .mov (.t 0), none, []⟩,
      ⟨(some 4), .nilchk (.t 3), none, [0]⟩,
      ⟨(some 5), .faddr 1 (.t 4), none, [0, 1]⟩,
      ⟨(some 6), .load 1 false (.t 5), none, [1, 0, 2]⟩,
      ⟨(some 7), .mov (.t 0), none, []⟩,
      ⟨(some 8), .nilchk (.t 7), none, [4]⟩,
      ⟨(some 9), .faddr 0 (.t 8), none, [4, 5]⟩,
      ⟨(some 10), .load 1 false (.t 9), none, [5, 4, 6]⟩,
      ⟨(some 11), .len 0 (.t 10), none, [6, 4, 5, 7]⟩,
      ⟨(some 12), .cmp .lss 0 (.t 6) (.t 11), none, [7, 5, 4, 6, 2, 0, 1, 8, 3]⟩,
      ⟨(some 2), .mov (.t 12), none, [8, 7, 6, 5, 4, 3, 2, 1, 0, 9]⟩] true)
    .ret))
def rv25 : List RV := [.t 2]
theorem rc25_ok : comp Try.prog Try.f25.ntmps (Try.f25.body.getD .skip) = some (erase rc25) := by kernel_rfl
theorem rv25_ok : compRes Try.prog Try.f25.results.toList = some rv25 := by kernel_rfl

/-- baseboard/route.distances [26, 3] -/
def rc26 : RC :=
  (.seq
   (.region [
     ⟨(some 2), .box 3 (.t 0), none, []⟩,
     ⟨(some 4), .mov (.c (.nil)), none, []⟩] false)
   (.seq
    (.region [
      ⟨(some 13), .faddr 0 (.t 2), none, []⟩,
      ⟨(some 14), .load 1 false (.t 13), none, [0]⟩,
      ⟨(some 15), .mkslice 3 8 [.int .i64 0] (.t 14) (.t 14), none, [1, 1]⟩,
      ⟨(some 5), .mov (.t 15), none, [2, 0, 1, 2]⟩] false)
    (.seq
     (.seq
      (.region [
        ⟨(some 16), .mov (.t 5), none, []⟩,
        ⟨(some 17), .len 0 (.t 16), none, [0]⟩,
        ⟨(some 18), .mov (.c (.int .i64 0)), none, []⟩] false)
      (.block 0
       (.loop 0
        (.seq
         (.region [
           ⟨(some 19), .cmp .lss 0 (.t 18) (.t 17), none, []⟩] false)
         (.seq
          (.cond (.t 19)
           .skip
           (.exit 0))
          (.seq
           (.block 1
            (.seq
             (.region [
               ⟨(some 20), .mov (.t 18), none, []⟩,
               ⟨(some 6), .mov (.t 20), none, [0, 0]⟩] false)
             (.region [
               ⟨(some 21), .mov (.t 5), none, []⟩,
               ⟨(some 22), .mov (.t 6), none, []⟩,
               ⟨(some 23), .iaddrS [.int .i64 0] (.t 21) (.t 22), none, [0, 1, 0, 1]⟩,
               ⟨none, .store 1 (.t 23) (.c (.int .i64 (-1))), none, [2, 0, 1]⟩] false)))
           (.region [
             ⟨(some 24), .arith .add (.t 18) (.c (.int .i64 1)), none, []⟩,
             ⟨(some 18), .mov (.t 24), none, [0]⟩] false)))))))
     (.seq
      (.region [
        ⟨(some 25), .mov (.t 5), none, []⟩,
        ⟨(some 26), .mov (.t 1), none, []⟩,
        ⟨(some 27), .iaddrS [.int .i64 0] (.t 25) (.t 26), none, [0, 1, 0, 1]⟩,
        ⟨none, .store 1 (.t 27) (.c (.int .i64 0)), none, [2, 0, 1]⟩] false)
      (.seq
       (.region [
         ⟨(some 7), .mov (.c (.fn 23)), none, []⟩] false)
       (.seq
        (.seq
         (.region [
           ⟨(some 28), .mov (.t 1), none, []⟩,
           ⟨(some 29), .bsliceO 3 1 [.int .i64 0] [(0, (.t 28))], none, [0]⟩,
           ⟨(some 8), .mov (.t 29), none, [1, 0, 1]⟩] false)
         (.block 2
          (.loop 1
           (.seq
            (.seq
             (.region [
               ⟨(some 30), .mov (.t 8), none, []⟩,
               ⟨(some 31), .len 0 (.t 30), none, [0]⟩,
               ⟨(some 32), .cmp .gtr 0 (.t 31) (.c (.int .i64 0)), none, [1]⟩] false)
             (.cond (.t 32)
              .skip
              (.exit 2)))
            (.seq
             (.block 3
              (.seq
               (.region [
                 ⟨(some 35), .faddr 1 (.t 2), none, []⟩,
                 ⟨(some 36), .load 1 false (.t 35), none, [0]⟩,
                 ⟨(some 37), .len 0 (.t 36), none, [1]⟩,
                 ⟨(some 38), .mov (.c (.int .i64 0)), none, []⟩] false)
               (.block 4
                (.loop 2
                 (.seq
                  (.region [
                    ⟨(some 39), .cmp .lss 0 (.t 38) (.t 37), none, []⟩] false)
                  (.seq
                   (.cond (.t 39)
                    .skip
                    (.exit 4))
                   (.seq
                    (.block 5
                     (.seq
                      (.region [
                        ⟨(some 40), .iaddrS [.int .u8 0, .int .i64 0, .int .i64 0] (.t 36) (.t 38), none, []⟩,
                        ⟨(some 41), .load 3 true (.t 40), none, [0]⟩,
                        ⟨(some 10), .alloc [.int .u8 0, .int .i64 0, .int .i64 0], none, []⟩,
                        ⟨none, .store 3 (.t 10) (.t 41), none, [2, 1, 0, 1, 2]⟩] false)
                      (.seq
                       (.region [
                         ⟨(some 43), .mov (.t 7), none, []⟩,
                         ⟨(some 44), .load 3 true (.t 10), none, []⟩,
                         ⟨(some 45), .mov (.t 8), none, []⟩,
                         ⟨(some 46), .iaddrS [.int .i64 0] (.t 45) (.c (.int .i64 0)), none, [2]⟩,
                         ⟨(some 47), .load 1 false (.t 46), none, [2, 3]⟩,
                         ⟨(some 48), .callv [2, 3, 4, 5, 6, 7, 8, 9, 10, 11, 12, 13, 14, 15, 16, 17, 18, 19, 20, 21, 22, 23, 24, 25, 26, 27, 28, 29, 30, 31, 32, 33] (.t 43) [(.t 44), (.t 47)], none, [3, 2, 4, 1, 0]⟩,
                         ⟨(some 42), .mov (.t 48), none, [0, 1, 4, 2, 3, 5]⟩,
                         ⟨(some 49), .extract 0 (.t 42), none, [5, 3, 2, 4, 1, 0, 6]⟩,
                         ⟨(some 50), .extract 1 (.t 42), none, [5, 3, 2, 4, 1, 0, 6]⟩,
                         ⟨(some 11), .mov (.t 49), none, [6, 4, 3, 2, 1, 0, 5, 7]⟩,
                         ⟨(some 12), .mov (.t 50), none, [7, 6, 5, 4, 3, 2, 1, 0, 9, 8]⟩] true)
                       (.seq
                        (.region [
                          ⟨(some 51), .mov (.t 12), none, []⟩,
                          ⟨(some 52), .mov (.t 51), none, [0]⟩,
                          ⟨(some 53), .mov (.t 5), (some (52, true)), [1]⟩,
                          ⟨(some 54), .mov (.t 11), (some (52, true)), [1]⟩,
                          ⟨(some 55), .iaddrS [.int .i64 0] (.t 53) (.t 54), (some (52, true)), [2, 3, 1]⟩,
                          ⟨(some 56), .load 1 false (.t 55), (some (52, true)), [4, 1]⟩,
                          ⟨(some 57), .cmp .lss 0 (.t 56) (.c (.int .i64 0)), (some (52, true)), [5, 1]⟩,
                          ⟨(some 58), .pick (.t 52) (.t 57) (.c (.bool false)), none, [1, 6]⟩] false)
                        (.cond (.t 58)
                         (.seq
                          (.region [
                            ⟨(some 59), .mov (.t 5), none, []⟩,
                            ⟨(some 60), .mov (.t 11), none, []⟩,
                            ⟨(some 61), .mov (.t 5), none, []⟩,
                            ⟨(some 62), .mov (.t 8), none, []⟩,
                            ⟨(some 63), .iaddrS [.int .i64 0] (.t 62) (.c (.int .i64 0)), none, [3]⟩,
                            ⟨(some 64), .load 1 false (.t 63), none, [4]⟩,
                            ⟨(some 65), .iaddrS [.int .i64 0] (.t 61) (.t 64), none, [2, 5]⟩,
                            ⟨(some 66), .load 1 false (.t 65), none, [6]⟩,
                            ⟨(some 67), .arith .add (.t 66) (.c (.int .i64 1)), none, [7]⟩,
                            ⟨(some 68), .iaddrS [.int .i64 0] (.t 59) (.t 60), none, [0, 1, 0, 1, 2, 3, 4, 5, 6, 7, 8]⟩,
                            ⟨none, .store 1 (.t 68) (.t 67), none, [9, 8, 0, 1, 2, 3, 4, 5, 6, 7, 8]⟩] false)
                          (.region [
                            ⟨(some 69), .mov (.t 8), none, []⟩,
                            ⟨(some 70), .mov (.t 11), none, []⟩,
                            ⟨(some 71), .bsliceO 3 1 [.int .i64 0] [(0, (.t 70))], none, [1]⟩,
                            ⟨(some 72), .append 3 8 [.int .i64 0] (.t 69) (.t 71), none, [0, 2]⟩,
                            ⟨(some 8), .mov (.t 72), none, [3, 3, 0, 1, 2, 3]⟩] false))
                         .skip)))))
                    (.region [
                      ⟨(some 73), .arith .add (.t 38) (.c (.int .i64 1)), none, []⟩,
                      ⟨(some 38), .mov (.t 73), none, [0]⟩] false))))))))
             (.region [
               ⟨(some 33), .mov (.t 8), none, []⟩,
               ⟨(some 34), .slice 1 (.t 33) (some (.c (.int .i64 1))) none, none, [0]⟩,
               ⟨(some 8), .mov (.t 34), none, [1, 0, 1]⟩] false))))))
        (.seq
         (.region [
           ⟨(some 74), .mov (.t 5), none, []⟩,
           ⟨(some 4), .mov (.t 74), none, [0, 0]⟩] false)
         .ret)))))))
def rv26 : List RV := [.t 4]
theorem rc26_ok : comp Try.prog Try.f26.ntmps (Try.f26.body.getD .skip) = some (erase rc26) := by kernel_rfl
theorem rv26_ok : compRes Try.prog Try.f26.results.toList = some rv26 := by kernel_rfl

/-- baseboard/route.far [3] -/
def rc27 : RC :=
  (.seq
   (.region [
     ⟨(some 2), .mov (.c (.int .i64 0)), none, []⟩] false)
   (.seq
    (.block 0
     (.seq
      (.region [
        ⟨(some 4), .mov (.t 0), none, []⟩,
        ⟨(some 5), .cmp .lss 0 (.t 4) (.c (.int .i64 0)), none, [0]⟩,
        ⟨(some 3), .mov (.t 5), none, [1]⟩] false)
      (.cond (.t 3)
       (.seq
        (.region [
          ⟨(some 2), .mov (.c (.int .i64 8)), none, []⟩] false)
        .ret)
       (.seq
        (.region [
          ⟨(some 7), .mov (.t 0), none, []⟩,
          ⟨(some 8), .cmp .gtr 0 (.t 7) (.c (.int .i64 7)), none, [0]⟩,
          ⟨(some 6), .mov (.t 8), none, [1]⟩] false)
        (.cond (.t 6)
         (.seq
          (.region [
            ⟨(some 2), .mov (.c (.int .i64 40)), none, []⟩] false)
          .ret)
         .skip)))))
    (.seq
     (.region [
       ⟨(some 2), .mov (.c (.int .i64 0)), none, []⟩] false)
     .ret)))
def rv27 : List RV := [.t 2]
theorem rc27_ok : comp Try.prog Try.f27.ntmps (Try.f27.body.getD .skip) = some (erase rc27) := by kernel_rfl
theorem rv27_ok : compRes Try.prog Try.f27.results.toList = some rv27 := by kernel_rfl

/-- baseboard/baseboardref26.from [26, 3] -/
def rc28 : RC :=
  (.seq
   (.region [
     ⟨(some 2), .box 3 (.t 0), none, []⟩,
     ⟨(some 4), .mov (.c (.nil)), none, []⟩] false)
   (.seq
    (.region [
      ⟨(some 12), .faddr 0 (.t 2), none, []⟩,
      ⟨(some 13), .load 1 false (.t 12), none, [0]⟩,
      ⟨(some 14), .mkslice 3 8 [.int .i64 0] (.t 13) (.t 13), none, [1, 1]⟩,
      ⟨(some 5), .mov (.t 14), none, [2, 0, 1, 2]⟩] false)
    (.seq
     (.seq
      (.region [
        ⟨(some 6), .mov (.c (.int .i64 0)), none, []⟩] false)
      (.block 0
       (.loop 0
        (.seq
         (.seq
          (.region [
            ⟨(some 15), .mov (.t 6), none, []⟩,
            ⟨(some 16), .mov (.t 5), none, []⟩,
            ⟨(some 17), .len 0 (.t 16), none, [1]⟩,
            ⟨(some 18), .cmp .lss 0 (.t 15) (.t 17), none, [0, 2]⟩] false)
          (.cond (.t 18)
           .skip
           (.exit 0)))
         (.seq
          (.block 1
           (.region [
             ⟨(some 21), .mov (.t 5), none, []⟩,
             ⟨(some 22), .mov (.t 6), none, []⟩,
             ⟨(some 23), .iaddrS [.int .i64 0] (.t 21) (.t 22), none, [0, 1, 0, 1]⟩,
             ⟨none, .store 1 (.t 23) (.c (.int .i64 (-1))), none, [2, 0, 1]⟩] false))
          (.region [
            ⟨(some 19), .mov (.t 6), none, []⟩,
            ⟨(some 20), .arith .add (.t 19) (.c (.int .i64 1)), none, [0]⟩,
            ⟨(some 6), .mov (.t 20), none, [1, 0, 1]⟩] false))))))
     (.seq
      (.region [
        ⟨(some 24), .mov (.t 5), none, []⟩,
        ⟨(some 25), .mov (.t 1), none, []⟩,
        ⟨(some 26), .iaddrS [.int .i64 0] (.t 24) (.t 25), none, [0, 1, 0, 1]⟩,
        ⟨none, .store 1 (.t 26) (.c (.int .i64 0)), none, [2, 0, 1]⟩] false)
      (.seq
       (.region [
         ⟨(some 27), .mov (.t 1), none, []⟩,
         ⟨(some 28), .bsliceO 3 1 [.int .i64 0] [(0, (.t 27))], none, [0]⟩,
         ⟨(some 7), .mov (.t 28), none, [1, 0, 1]⟩] false)
       (.seq
        (.seq
         (.region [
           ⟨(some 8), .mov (.c (.int .i64 0)), none, []⟩] false)
         (.block 2
          (.loop 1
           (.seq
            (.seq
             (.region [
               ⟨(some 29), .mov (.t 8), none, []⟩,
               ⟨(some 30), .mov (.t 7), none, []⟩,
               ⟨(some 31), .len 0 (.t 30), none, [1]⟩,
               ⟨(some 32), .cmp .lss 0 (.t 29) (.t 31), none, [0, 2]⟩] false)
             (.cond (.t 32)
              .skip
              (.exit 2)))
            (.seq
             (.block 3
              (.seq
               (.region [
                 ⟨(some 9), .mov (.c (.int .i64 0)), none, []⟩] false)
               (.block 4
                (.loop 2
                 (.seq
                  (.seq
                   (.region [
                     ⟨(some 35), .mov (.t 9), none, []⟩,
                     ⟨(some 36), .faddr 1 (.t 2), none, []⟩,
                     ⟨(some 37), .load 1 false (.t 36), none, [1]⟩,
                     ⟨(some 38), .len 0 (.t 37), none, [2]⟩,
                     ⟨(some 39), .cmp .lss 0 (.t 35) (.t 38), none, [0, 3]⟩] false)
                   (.cond (.t 39)
                    .skip
                    (.exit 4)))
                  (.seq
                   (.block 5
                    (.seq
                     (.region [
                       ⟨(some 43), .faddr 1 (.t 2), none, []⟩,
                       ⟨(some 44), .load 1 false (.t 43), none, [0]⟩,
                       ⟨(some 45), .mov (.t 9), none, []⟩,
                       ⟨(some 46), .iaddrS [.int .u8 0, .int .i64 0, .int .i64 0] (.t 44) (.t 45), none, [0, 2, 1]⟩,
                       ⟨(some 47), .load 3 true (.t 46), none, [1, 2, 0, 3]⟩,
                       ⟨(some 48), .mov (.t 7), none, []⟩,
                       ⟨(some 49), .mov (.t 8), none, []⟩,
                       ⟨(some 50), .iaddrS [.int .i64 0] (.t 48) (.t 49), none, [6, 5]⟩,
                       ⟨(some 51), .load 1 false (.t 50), none, [5, 6, 7]⟩,
                       ⟨(some 52), .call 24 [(.t 47), (.t 51)], none, [7, 6, 5, 3, 0, 2, 1, 8, 4]⟩,
                       ⟨(some 42), .mov (.t 52), none, [4, 8, 1, 2, 0, 3, 5, 6, 7, 9]⟩,
                       ⟨(some 53), .extract 0 (.t 42), none, [9, 7, 6, 5, 3, 0, 2, 1, 8, 4, 10]⟩,
                       ⟨(some 54), .extract 1 (.t 42), none, [9, 7, 6, 5, 3, 0, 2, 1, 8, 4, 10]⟩,
                       ⟨(some 10), .mov (.t 53), none, [10, 8, 7, 6, 5, 4, 3, 2, 1, 0, 9, 11]⟩,
                       ⟨(some 11), .mov (.t 54), none, [11, 10, 9, 8, 7, 6, 5, 4, 3, 2, 1, 0, 13, 12]⟩] true)
                     (.seq
                      (.region [
                        ⟨(some 55), .mov (.t 11), none, []⟩,
                        ⟨(some 56), .mov (.t 55), none, [0]⟩,
                        ⟨(some 57), .mov (.t 5), (some (56, true)), [1]⟩,
                        ⟨(some 58), .mov (.t 10), (some (56, true)), [1]⟩,
                        ⟨(some 59), .iaddrS [.int .i64 0] (.t 57) (.t 58), (some (56, true)), [2, 3, 1]⟩,
                        ⟨(some 60), .load 1 false (.t 59), (some (56, true)), [4, 1]⟩,
                        ⟨(some 61), .cmp .lss 0 (.t 60) (.c (.int .i64 0)), (some (56, true)), [5, 1]⟩,
                        ⟨(some 62), .pick (.t 56) (.t 61) (.c (.bool false)), none, [1, 6]⟩] false)
                      (.cond (.t 62)
                       (.seq
                        (.region [
                          ⟨(some 63), .mov (.t 5), none, []⟩,
                          ⟨(some 64), .mov (.t 10), none, []⟩,
                          ⟨(some 65), .mov (.t 5), none, []⟩,
                          ⟨(some 66), .mov (.t 7), none, []⟩,
                          ⟨(some 67), .mov (.t 8), none, []⟩,
                          ⟨(some 68), .iaddrS [.int .i64 0] (.t 66) (.t 67), none, [3, 4]⟩,
                          ⟨(some 69), .load 1 false (.t 68), none, [5]⟩,
                          ⟨(some 70), .iaddrS [.int .i64 0] (.t 65) (.t 69), none, [2, 6]⟩,
                          ⟨(some 71), .load 1 false (.t 70), none, [7]⟩,
                          ⟨(some 72), .arith .add (.t 71) (.c (.int .i64 1)), none, [8]⟩,
                          ⟨(some 73), .iaddrS [.int .i64 0] (.t 63) (.t 64), none, [0, 1, 0, 1, 2, 3, 4, 5, 6, 7, 8, 9]⟩,
                          ⟨none, .store 1 (.t 73) (.t 72), none, [10, 9, 0, 1, 2, 3, 4, 5, 6, 7, 8, 9]⟩] false)
                        (.region [
                          ⟨(some 74), .mov (.t 7), none, []⟩,
                          ⟨(some 75), .mov (.t 10), none, []⟩,
                          ⟨(some 76), .bsliceO 3 1 [.int .i64 0] [(0, (.t 75))], none, [1]⟩,
                          ⟨(some 77), .append 3 8 [.int .i64 0] (.t 74) (.t 76), none, [0, 2]⟩,
                          ⟨(some 7), .mov (.t 77), none, [3, 3, 0, 1, 2, 3]⟩] false))
                       .skip))))
                   (.region [
                     ⟨(some 40), .mov (.t 9), none, []⟩,
                     ⟨(some 41), .arith .add (.t 40) (.c (.int .i64 1)), none, [0]⟩,
                     ⟨(some 9), .mov (.t 41), none, [1, 0, 1]⟩] false)))))))
             (.region [
               ⟨(some 33), .mov (.t 8), none, []⟩,
               ⟨(some 34), .arith .add (.t 33) (.c (.int .i64 1)), none, [0]⟩,
               ⟨(some 8), .mov (.t 34), none, [1, 0, 1]⟩] false))))))
        (.seq
         (.region [
           ⟨(some 78), .mov (.t 5), none, []⟩,
           ⟨(some 4), .mov (.t 78), none, [0, 0]⟩] false)
         .ret)))))))
def rv28 : List RV := [.t 4]
theorem rc28_ok : comp Try.prog Try.f28.ntmps (Try.f28.body.getD .skip) = some (erase rc28) := by kernel_rfl
theorem rv28_ok : compRes Try.prog Try.f28.results.toList = some rv28 := by kernel_rfl

/-- baseboard/route.Valid$1 [3] -/
def rc29 : RC :=
  (.seq
   (.region [
     ⟨(some 3), .mov (.c (.bool false)), none, []⟩] false)
   (.seq
    (.region [
      ⟨(some 4), .mov (.t 0), none, []⟩,
      ⟨(some 5), .cmp .geq 0 (.t 4) (.c (.int .i64 0)), none, [0]⟩,
      ⟨(some 6), .mov (.t 5), none, [1]⟩,
      ⟨(some 7), .mov (.t 0), (some (6, true)), [2]⟩,
      ⟨(some 8), .faddr 0 (.t 1), (some (6, true)), [2]⟩,
      ⟨(some 9), .load 1 false (.t 8), (some (6, true)), [4, 2]⟩,
      ⟨(some 10), .cmp .lss 0 (.t 7) (.t 9), (some (6, true)), [3, 5, 2]⟩,
      ⟨(some 11), .pick (.t 6) (.t 10) (.c (.bool false)), none, [2, 6]⟩,
      ⟨(some 3), .mov (.t 11), none, [7, 2, 0, 1, 2, 3, 4, 5, 6, 7]⟩] false)
    .ret))
def rv29 : List RV := [.t 3]
theorem rc29_ok : comp Try.prog Try.f29.ntmps (Try.f29.body.getD .skip) = some (erase rc29) := by kernel_rfl
theorem rv29_ok : compRes Try.prog Try.f29.results.toList = some rv29 := by kernel_rfl

/-- baseboard/route.address [5] -/
def rc30 : RC :=
  (.seq
   (.region [
     ⟨(some 2), .mov (.c (.bool false)), none, []⟩] false)
   (.seq
    (.region [
      ⟨(some 3), .mov (.t 0), none, []⟩,
      ⟨(some 4), .cmp .geq 0 (.t 3) (.c (.int .u8 8)), none, [0]⟩,
      ⟨(some 5), .mov (.t 4), none, [1]⟩,
      ⟨(some 6), .mov (.t 0), (some (5, true)), [2]⟩,
      ⟨(some 7), .cmp .leq 0 (.t 6) (.c (.int .u8 119)), (some (5, true)), [3, 2]⟩,
      ⟨(some 8), .pick (.t 5) (.t 7) (.c (.bool false)), none, [2, 4]⟩,
      ⟨(some 2), .mov (.t 8), none, [5, 2, 0, 1, 2, 3, 4, 5]⟩] false)
    .ret))
def rv30 : List RV := [.t 2]
theorem rc30_ok : comp Try.prog Try.f30.ntmps (Try.f30.body.getD .skip) = some (erase rc30) := by kernel_rfl
theorem rv30_ok : compRes Try.prog Try.f30.results.toList = some rv30 := by kernel_rfl

/-- baseboard/baseboardref26.bridges [26] -/
def rc31 : RC :=
  (.seq
   (.region [
     ⟨(some 1), .box 3 (.t 0), none, []⟩,
     ⟨(some 2), .mov (.c (.int .i64 0)), none, []⟩] false)
   (.seq
    (.seq
     (.region [
       ⟨(some 3), .mov (.c (.int .i64 0)), none, []⟩] false)
     (.block 0
      (.loop 0
       (.seq
        (.seq
         (.region [
           ⟨(some 5), .mov (.t 3), none, []⟩,
           ⟨(some 6), .faddr 1 (.t 1), none, []⟩,
           ⟨(some 7), .load 1 false (.t 6), none, [1]⟩,
           ⟨(some 8), .len 0 (.t 7), none, [2]⟩,
           ⟨(some 9), .cmp .lss 0 (.t 5) (.t 8), none, [0, 3]⟩] false)
         (.cond (.t 9)
          .skip
          (.exit 0)))
        (.seq
         (.block 1
          (.seq
           (.region [
             ⟨(some 12), .faddr 1 (.t 1), none, []⟩,
             ⟨(some 13), .load 1 false (.t 12), none, [0]⟩,
             ⟨(some 14), .mov (.t 3), none, []⟩,
             ⟨(some 15), .iaddrS [.int .u8 0, .int .i64 0, .int .i64 0] (.t 13) (.t 14), none, [1, 2]⟩,
             ⟨(some 16), .load 3 true (.t 15), none, [3]⟩,
             ⟨(some 4), .alloc [.int .u8 0, .int .i64 0, .int .i64 0], none, []⟩,
             ⟨none, .store 3 (.t 4) (.t 16), none, [5, 4, 0, 1, 2, 3, 4, 5]⟩] false)
           (.block 2
            (.seq
             (.region [
               ⟨(some 18), .faddr 1 (.t 4), none, []⟩,
               ⟨(some 19), .load 1 false (.t 18), none, [0]⟩,
               ⟨(some 20), .cmp .lss 0 (.t 19) (.c (.int .i64 0)), none, [1]⟩,
               ⟨(some 21), .mov (.t 20), none, [2]⟩,
               ⟨(some 22), .faddr 1 (.t 4), (some (21, false)), [3]⟩,
               ⟨(some 23), .load 1 false (.t 22), (some (21, false)), [4, 3]⟩,
               ⟨(some 24), .faddr 0 (.t 1), (some (21, false)), [3]⟩,
               ⟨(some 25), .load 1 false (.t 24), (some (21, false)), [6, 3]⟩,
               ⟨(some 26), .cmp .geq 0 (.t 23) (.t 25), (some (21, false)), [5, 7, 3]⟩,
               ⟨(some 27), .pick (.t 21) (.c (.bool true)) (.t 26), none, [3, 8]⟩,
               ⟨(some 28), .mov (.t 27), none, [9, 3]⟩,
               ⟨(some 29), .faddr 2 (.t 4), (some (28, false)), [10]⟩,
               ⟨(some 30), .load 1 false (.t 29), (some (28, false)), [11, 10]⟩,
               ⟨(some 31), .cmp .lss 0 (.t 30) (.c (.int .i64 0)), (some (28, false)), [12, 10]⟩,
               ⟨(some 32), .pick (.t 28) (.c (.bool true)) (.t 31), none, [10, 13]⟩,
               ⟨(some 33), .mov (.t 32), none, [14, 10]⟩,
               ⟨(some 34), .faddr 2 (.t 4), (some (33, false)), [15]⟩,
               ⟨(some 35), .load 1 false (.t 34), (some (33, false)), [16, 15]⟩,
               ⟨(some 36), .faddr 0 (.t 1), (some (33, false)), [15]⟩,
               ⟨(some 37), .load 1 false (.t 36), (some (33, false)), [18, 15]⟩,
               ⟨(some 38), .cmp .geq 0 (.t 35) (.t 37), (some (33, false)), [17, 19, 15]⟩,
               ⟨(some 39), .pick (.t 33) (.c (.bool true)) (.t 38), none, [15, 20]⟩,
               ⟨(some 17), .mov (.t 39), none, [21, 15]⟩] false)
             (.cond (.t 17)
              (.seq
               (.region [
                 ⟨(some 2), .mov (.c (.int .i64 2)), none, []⟩] false)
               .ret)
              (.seq
               (.region [
                 ⟨(some 41), .faddr 1 (.t 4), none, []⟩,
                 ⟨(some 42), .load 1 false (.t 41), none, [0]⟩,
                 ⟨(some 43), .faddr 2 (.t 4), none, []⟩,
                 ⟨(some 44), .load 1 false (.t 43), none, [2]⟩,
                 ⟨(some 45), .cmp .eql 0 (.t 42) (.t 44), none, [1, 3]⟩,
                 ⟨(some 40), .mov (.t 45), none, [4]⟩] false)
               (.cond (.t 40)
                (.seq
                 (.region [
                   ⟨(some 2), .mov (.c (.int .i64 1)), none, []⟩] false)
                 .ret)
                (.seq
                 (.region [
                   ⟨(some 47), .faddr 0 (.t 4), none, []⟩,
                   ⟨(some 48), .load 1 false (.t 47), none, [0]⟩,
                   ⟨(some 49), .cmp .lss 0 (.t 48) (.c (.int .u8 8)), none, [0, 1]⟩,
                   ⟨(some 50), .mov (.t 49), none, [1, 0, 2]⟩,
                   ⟨(some 51), .faddr 0 (.t 4), (some (50, false)), [2, 0, 1, 3]⟩,
                   ⟨(some 52), .load 1 false (.t 51), (some (50, false)), [1, 0, 2, 3, 4]⟩,
                   ⟨(some 53), .cmp .gtr 0 (.t 52) (.c (.int .u8 119)), (some (50, false)), [4, 2, 0, 1, 3, 5]⟩,
                   ⟨(some 54), .pick (.t 50) (.c (.bool true)) (.t 53), none, [5, 4, 2, 0, 1, 6, 3]⟩,
                   ⟨(some 55), .mov (.t 54), none, [6, 1, 0, 2, 4, 5, 3, 7]⟩,
                   ⟨(some 56), .faddr 1 (.t 1), (some (55, false)), [7, 3, 5, 4, 2, 0, 1, 6, 8]⟩,
                   ⟨(some 57), .load 1 false (.t 56), (some (55, false)), [6, 1, 0, 2, 4, 5, 3, 7, 8, 9]⟩,
                   ⟨(some 58), .mov (.t 3), (some (55, false)), [7, 3, 5, 4, 2, 0, 1, 6, 8]⟩,
                   ⟨(some 59), .slice 3 (.t 57) none (some (.t 58)), (some (55, false)), [9, 7, 3, 5, 4, 2, 0, 1, 6, 8, 11, 10]⟩,
                   ⟨(some 60), .faddr 1 (.t 4), (some (55, false)), [7, 3, 5, 4, 2, 0, 1, 6, 8]⟩,
                   ⟨(some 61), .load 1 false (.t 60), (some (55, false)), [6, 1, 0, 2, 4, 5, 3, 7, 8, 13]⟩,
                   ⟨(some 62), .faddr 0 (.t 4), (some (55, false)), [7, 3, 5, 4, 2, 0, 1, 6, 8]⟩,
                   ⟨(some 63), .load 1 false (.t 62), (some (55, false)), [6, 1, 0, 2, 4, 5, 3, 7, 8, 15]⟩,
                   ⟨(some 64), .call 32 [(.t 59), (.t 61), (.t 63)], (some (55, false)), [15, 13, 10, 11, 6, 1, 0, 2, 4, 5, 3, 7, 9, 8, 16, 14, 12]⟩,
                   ⟨(some 65), .pick (.t 55) (.c (.bool true)) (.t 64), none, [12, 14, 16, 9, 11, 10, 13, 15, 7, 3, 5, 4, 2, 0, 1, 6, 17, 8]⟩,
                   ⟨(some 66), .mov (.t 65), none, [8, 6, 1, 0, 2, 4, 5, 3, 7, 15, 13, 10, 11, 9, 16, 14, 12, 17, 18]⟩,
                   ⟨(some 67), .faddr 1 (.t 1), (some (66, false)), [18, 17, 12, 14, 16, 9, 11, 10, 13, 15, 7, 3, 5, 4, 2, 0, 1, 6, 8, 19]⟩,
                   ⟨(some 68), .load 1 false (.t 67), (some (66, false)), [8, 6, 1, 0, 2, 4, 5, 3, 7, 15, 13, 10, 11, 9, 16, 14, 12, 17, 18, 19, 20]⟩,
                   ⟨(some 69), .mov (.t 3), (some (66, false)), [18, 17, 12, 14, 16, 9, 11, 10, 13, 15, 7, 3, 5, 4, 2, 0, 1, 6, 8, 19]⟩,
                   ⟨(some 70), .slice 3 (.t 68) none (some (.t 69)), (some (66, false)), [20, 18, 17, 12, 14, 16, 9, 11, 10, 13, 15, 7, 3, 5, 4, 2, 0, 1, 6, 8, 19, 22, 21]⟩,
                   ⟨(some 71), .faddr 2 (.t 4), (some (66, false)), [18, 17, 12, 14, 16, 9, 11, 10, 13, 15, 7, 3, 5, 4, 2, 0, 1, 6, 8, 19]⟩,
                   ⟨(some 72), .load 1 false (.t 71), (some (66, false)), [8, 6, 1, 0, 2, 4, 5, 3, 7, 15, 13, 10, 11, 9, 16, 14, 12, 17, 18, 19, 24]⟩,
                   ⟨(some 73), .faddr 0 (.t 4), (some (66, false)), [18, 17, 12, 14, 16, 9, 11, 10, 13, 15, 7, 3, 5, 4, 2, 0, 1, 6, 8, 19]⟩,
                   ⟨(some 74), .load 1 false (.t 73), (some (66, false)), [8, 6, 1, 0, 2, 4, 5, 3, 7, 15, 13, 10, 11, 9, 16, 14, 12, 17, 18, 19, 26]⟩,
                   ⟨(some 75), .call 32 [(.t 70), (.t 72), (.t 74)], (some (66, false)), [26, 24, 21, 22, 8, 6, 1, 0, 2, 4, 5, 3, 7, 15, 13, 10, 11, 9, 16, 14, 12, 17, 18, 20, 19, 27, 25, 23]⟩,
                   ⟨(some 76), .pick (.t 66) (.c (.bool true)) (.t 75), none, [23, 25, 27, 20, 22, 21, 24, 26, 18, 17, 12, 14, 16, 9, 11, 10, 13, 15, 7, 3, 5, 4, 2, 0, 1, 6, 8, 28, 19]⟩,
                   ⟨(some 46), .mov (.t 76), none, [19, 8, 6, 1, 0, 2, 4, 5, 3, 7, 15, 13, 10, 11, 9, 16, 14, 12, 17, 18, 26, 24, 21, 22, 20, 27, 25, 23, 28, 29]⟩] true)
                 (.cond (.t 46)
                  (.seq
                   (.region [
                     ⟨(some 2), .mov (.c (.int .i64 13)), none, []⟩] false)
                   .ret)
                  .skip)))))))))
         (.region [
           ⟨(some 10), .mov (.t 3), none, []⟩,
           ⟨(some 11), .arith .add (.t 10) (.c (.int .i64 1)), none, [0]⟩,
           ⟨(some 3), .mov (.t 11), none, [1, 0, 1]⟩] false))))))
    (.seq
     (.region [
       ⟨(some 2), .mov (.c (.int .i64 0)), none, []⟩] false)
     .ret)))
def rv31 : List RV := [.t 2]
theorem rc31_ok : comp Try.prog Try.f31.ntmps (Try.f31.body.getD .skip) = some (erase rc31) := by kernel_rfl
theorem rv31_ok : compRes Try.prog Try.f31.results.toList = some rv31 := by kernel_rfl

/-- baseboard/baseboardref26.taken [23, 3, 5] -/
def rc32 : RC :=
  (.seq
   (.region [
     ⟨(some 6), .mov (.c (.bool false)), none, []⟩] false)
   (.seq
    (.seq
     (.region [
       ⟨(some 7), .mov (.c (.int .i64 0)), none, []⟩] false)
     (.block 0
      (.loop 0
       (.seq
        (.seq
         (.region [
           ⟨(some 8), .mov (.t 7), none, []⟩,
           ⟨(some 9), .mov (.t 0), none, []⟩,
           ⟨(some 10), .len 0 (.t 9), none, [1]⟩,
           ⟨(some 11), .cmp .lss 0 (.t 8) (.t 10), none, [0, 2]⟩] false)
         (.cond (.t 11)
          .skip
          (.exit 0)))
        (.seq
         (.block 1
          (.seq
           (.region [
             ⟨(some 14), .mov (.t 0), none, []⟩,
             ⟨(some 15), .mov (.t 7), none, []⟩,
             ⟨(some 16), .iaddrS [.int .u8 0, .int .i64 0, .int .i64 0] (.t 14) (.t 15), none, [0, 1]⟩,
             ⟨(some 17), .faddr 0 (.t 16), none, [2]⟩,
             ⟨(some 18), .load 1 false (.t 17), none, [3]⟩,
             ⟨(some 19), .mov (.t 2), none, []⟩,
             ⟨(some 20), .cmp .eql 0 (.t 18) (.t 19), none, [4, 5]⟩,
             ⟨(some 21), .mov (.t 20), none, [6]⟩,
             ⟨(some 22), .mov (.t 0), (some (21, true)), [7]⟩,
             ⟨(some 23), .mov (.t 7), (some (21, true)), [7]⟩,
             ⟨(some 24), .iaddrS [.int .u8 0, .int .i64 0, .int .i64 0] (.t 22) (.t 23), (some (21, true)), [8, 9, 7]⟩,
             ⟨(some 25), .faddr 1 (.t 24), (some (21, true)), [10, 7]⟩,
             ⟨(some 26), .load 1 false (.t 25), (some (21, true)), [11, 7]⟩,
             ⟨(some 27), .mov (.t 1), (some (21, true)), [7]⟩,
             ⟨(some 28), .cmp .eql 0 (.t 26) (.t 27), (some (21, true)), [12, 13, 7]⟩,
             ⟨(some 29), .mov (.t 28), (some (21, true)), [14, 7, 7]⟩,
             ⟨(some 30), .mov (.t 0), (some (29, false)), [15]⟩,
             ⟨(some 31), .mov (.t 7), (some (29, false)), [15]⟩,
             ⟨(some 32), .iaddrS [.int .u8 0, .int .i64 0, .int .i64 0] (.t 30) (.t 31), (some (29, false)), [16, 17, 15]⟩,
             ⟨(some 33), .faddr 2 (.t 32), (some (29, false)), [18, 15]⟩,
             ⟨(some 34), .load 1 false (.t 33), (some (29, false)), [19, 15]⟩,
             ⟨(some 35), .mov (.t 1), (some (29, false)), [15]⟩,
             ⟨(some 36), .cmp .eql 0 (.t 34) (.t 35), (some (29, false)), [20, 21, 15]⟩,
             ⟨(some 37), .pick (.t 29) (.c (.bool true)) (.t 36), (some (21, true)), [15, 22, 7]⟩,
             ⟨(some 38), .pick (.t 21) (.t 37) (.c (.bool false)), none, [7, 23]⟩] false)
           (.cond (.t 38)
            (.seq
             (.region [
               ⟨(some 6), .mov (.c (.bool true)), none, []⟩] false)
             .ret)
            .skip)))
         (.region [
           ⟨(some 12), .mov (.t 7), none, []⟩,
           ⟨(some 13), .arith .add (.t 12) (.c (.int .i64 1)), none, [0]⟩,
           ⟨(some 7), .mov (.t 13), none, [1, 0, 1]⟩] false))))))
    (.seq
     (.region [
       ⟨(some 6), .mov (.c (.bool false)), none, []⟩] false)
     .ret)))
def rv32 : List RV := [.t 6]
theorem rc32_ok : comp Try.prog Try.f32.ntmps (Try.f32.body.getD .skip) = some (erase rc32) := by kernel_rfl
theorem rv32_ok : compRes Try.prog Try.f32.results.toList = some rv32 := by kernel_rfl

/-- baseboard/route.endpoint [26, 5] -/
def rc33 : RC :=
  (.seq
   (.region [
     ⟨(some 2), .box 3 (.t 0), none, []⟩,
     ⟨(some 4), .alloc [.int .u8 0, .int .u8 0, .int .i64 0], none, []⟩,
     ⟨(some 5), .mov (.c (.bool false)), none, []⟩] false)
   (.seq
    (.seq
     (.region [
       ⟨(some 8), .faddr 2 (.t 2), none, []⟩,
       ⟨(some 9), .load 1 false (.t 8), none, [0]⟩,
       ⟨(some 10), .len 0 (.t 9), none, [1]⟩,
       ⟨(some 11), .mov (.c (.int .i64 0)), none, []⟩] false)
     (.block 0
      (.loop 0
       (.seq
        (.region [
          ⟨(some 12), .cmp .lss 0 (.t 11) (.t 10), none, []⟩] false)
        (.seq
         (.cond (.t 12)
          .skip
          (.exit 0))
         (.seq
          (.block 1
           (.seq
            (.region [
              ⟨(some 13), .iaddrS [.int .u8 0, .int .u8 0, .int .i64 0] (.t 9) (.t 11), none, []⟩,
              ⟨(some 14), .load 3 true (.t 13), none, [0]⟩,
              ⟨(some 7), .alloc [.int .u8 0, .int .u8 0, .int .i64 0], none, []⟩,
              ⟨none, .store 3 (.t 7) (.t 14), none, [2, 1, 0, 1, 2]⟩] false)
            (.seq
             (.region [
               ⟨(some 15), .faddr 0 (.t 7), none, []⟩,
               ⟨(some 16), .load 1 false (.t 15), none, [0]⟩,
               ⟨(some 17), .mov (.t 1), none, []⟩,
               ⟨(some 18), .cmp .eql 0 (.t 16) (.t 17), none, [1, 2]⟩] false)
             (.cond (.t 18)
              (.seq
               (.region [
                 ⟨(some 19), .load 3 true (.t 7), none, []⟩,
                 ⟨none, .store 3 (.t 4) (.t 19), none, [0, 0]⟩,
                 ⟨(some 5), .mov (.c (.bool true)), none, [1, 0, 1]⟩] false)
               .ret)
              .skip))))
          (.region [
            ⟨(some 20), .arith .add (.t 11) (.c (.int .i64 1)), none, []⟩,
            ⟨(some 11), .mov (.t 20), none, [0]⟩] false)))))))
    (.seq
     (.region [
       ⟨(some 21), .build [.int .u8 0, .int .u8 0, .int .i64 0] [], none, []⟩,
       ⟨none, .store 3 (.t 4) (.t 21), none, [0, 0]⟩,
       ⟨(some 5), .mov (.c (.bool false)), none, [1, 0, 1]⟩] false)
     .ret)))
def rv33 : List RV := [.c 4 3 true, .t 5]
theorem rc33_ok : comp Try.prog Try.f33.ntmps (Try.f33.body.getD .skip) = some (erase rc33) := by kernel_rfl
theorem rv33_ok : compRes Try.prog Try.f33.results.toList = some rv33 := by kernel_rfl

end Go.Proofs.Yteakklbbdfgbdaa

/- A part of the proof: symbolic evaluation of the program's functions, proved sound against the model; no condition. -/
import Derived.Test.YtknapnleecepaaaEvJP
namespace Go.Proofs.Ytknapnleecepaaa
open Go Go.RowKit Go.Ev
set_option linter.unusedSimpArgs false
set_option linter.unusedVariables false
set_option maxRecDepth 20000
def c6G : RC := (.seq
                            (.region [
                              ⟨(some 160), .mov (.t 7), none, []⟩,
                              ⟨(some 161), .len 0 (.t 160), none, [0]⟩,
                              ⟨(some 162), .mov (.t 6), none, []⟩,
                              ⟨(some 163), .len 0 (.t 162), none, [2]⟩,
                              ⟨(some 164), .cmp .gtr 0 (.t 161) (.t 163), none, [2, 0, 3, 1]⟩,
                              ⟨(some 165), .mov (.t 164), none, [1, 3, 0, 2, 4]⟩,
                              ⟨(some 166), .mov (.t 7), (some (165, false)), [4, 2, 0, 3, 1, 5]⟩,
                              ⟨(some 167), .b2s (.t 166), (some (165, false)), [1, 3, 0, 2, 4, 5, 6]⟩,
                              ⟨(some 168), .mov (.t 6), (some (165, false)), [4, 2, 0, 3, 1, 5]⟩,
                              ⟨(some 169), .mov (.t 7), (some (165, false)), [4, 2, 0, 3, 1, 5]⟩,
                              ⟨(some 170), .len 0 (.t 169), (some (165, false)), [1, 3, 0, 2, 4, 5, 9]⟩,
                              ⟨(some 171), .slice 1 (.t 168) none (some (.t 170)), (some (165, false)), [9, 1, 3, 0, 2, 4, 5, 10, 8]⟩,
                              ⟨(some 172), .b2s (.t 171), (some (165, false)), [8, 10, 4, 2, 0, 3, 1, 9, 5, 11]⟩,
                              ⟨(some 173), .cmp .neq 2 (.t 167) (.t 172), (some (165, false)), [11, 9, 10, 8, 6, 4, 2, 0, 3, 1, 5, 12, 7]⟩,
                              ⟨(some 174), .pick (.t 165) (.c (.bool true)) (.t 173), none, [7, 12, 6, 8, 10, 9, 11, 4, 2, 0, 3, 1, 13, 5]⟩,
                              ⟨(some 175), .mov (.t 174), none, [13, 1, 3, 0, 2, 4, 11, 9, 10, 8, 6, 12, 7, 5, 14]⟩,
                              ⟨(some 176), .mov (.t 9), (some (175, false)), [14, 5, 7, 12, 6, 8, 10, 9, 11, 4, 2, 0, 3, 1, 13, 15]⟩,
                              ⟨(some 177), .mov (.t 8), (some (175, false)), [14, 5, 7, 12, 6, 8, 10, 9, 11, 4, 2, 0, 3, 1, 13, 15]⟩,
                              ⟨(some 178), .cmp .gtr 0 (.t 176) (.t 177), (some (175, false)), [13, 1, 3, 0, 2, 4, 11, 9, 10, 8, 6, 12, 7, 5, 14, 15, 17, 16]⟩,
                              ⟨(some 179), .pick (.t 175) (.c (.bool true)) (.t 178), none, [16, 17, 14, 5, 7, 12, 6, 8, 10, 9, 11, 4, 2, 0, 3, 1, 13, 18, 15]⟩] true)
                            (.cond (.t 179)
                             (.seq
                              (.region [
                                ⟨(some 2), .mov (.c (.bool false)), none, []⟩] false)
                              .ret)
                             .skip))
def c6X : RC := (.seq
                              (.region [
                                ⟨(some 150), .load 10 true (.t 4), none, []⟩,
                                ⟨(some 151), .mov (.t 24), none, []⟩,
                                ⟨(some 152), .call 18 [(.t 150), (.t 151)], none, [0, 1]⟩,
                                ⟨(some 149), .mov (.t 152), none, [2]⟩,
                                ⟨(some 153), .extract 0 (.t 149), none, [3]⟩,
                                ⟨(some 154), .extract 1 (.t 149), none, [3]⟩,
                                ⟨(some 155), .extract 2 (.t 149), none, [3]⟩,
                                ⟨(some 156), .extract 3 (.t 149), none, [3]⟩,
                                ⟨(some 26), .alloc [.nil, .bool false, .nil, .bool false, .bool false, .int .i64 0, .int .i64 0, .int .i64 0, .int .i64 0, .int .i64 0], none, []⟩,
                                ⟨none, .store 10 (.t 26) (.t 153), none, [8, 4, 2, 0, 1, 2, 3, 4, 8]⟩,
                                ⟨(some 27), .mov (.t 154), none, [5, 9, 0, 1, 2, 3, 4, 5, 8, 9]⟩,
                                ⟨(some 28), .mov (.t 155), none, [6, 10, 0, 1, 2, 3, 4, 5, 6, 8, 9, 10]⟩,
                                ⟨(some 29), .mov (.t 156), none, [7, 11, 0, 1, 2, 3, 4, 5, 6, 7, 8, 9, 10, 11]⟩] false)
                              (.seq
                               (.seq
                                (.region [
                                  ⟨(some 157), .mov (.t 29), none, []⟩,
                                  ⟨(some 158), .cmp .neq 0 (.t 157) (.c (.int .i64 0)), none, [0]⟩] false)
                                (.cond (.t 158)
                                 (.seq
                                  (.region [
                                    ⟨(some 2), .mov (.c (.bool false)), none, []⟩] false)
                                  .ret)
                                 .skip))
                               (.region [
                                 ⟨(some 159), .load 10 true (.t 26), none, []⟩,
                                 ⟨none, .store 10 (.t 4) (.t 159), none, [0, 0]⟩] false)))
def c6F : RC := (.seq
                           (.seq
                            (.split [
                              ⟨(some 140), .mov (.t 25), none, []⟩,
                              ⟨(some 141), .mov (.t 140), none, [0]⟩,
                              ⟨(some 142), .mov (.t 12), (some (141, true)), [1]⟩,
                              ⟨(some 143), .mov (.t 142), (some (141, true)), [2, 1, 1]⟩,
                              ⟨(some 144), .mov (.t 3), (some (143, false)), [3]⟩,
                              ⟨(some 145), .call 20 [(.t 144), (.c (.int .i64 4))], (some (143, false)), [4, 3, 3]⟩,
                              ⟨(some 146), .cmp .lss 0 (.t 145) (.c (.int .i64 3)), (some (143, false)), [5, 3]⟩,
                              ⟨(some 147), .pick (.t 143) (.c (.bool true)) (.t 146), (some (141, true)), [3, 6, 1]⟩,
                              ⟨(some 148), .pick (.t 141) (.t 147) (.c (.bool false)), none, [1, 7]⟩])
                            (.cond (.t 148)
                             (.cut 10 c6X)
                             .skip))
                           (.cut 7 c6G))
def c6E : RC := (.seq
                         (.region [
                           ⟨(some 134), .load 10 true (.t 5), none, []⟩,
                           ⟨(some 135), .call 23 [(.t 134)], none, [0]⟩,
                           ⟨(some 133), .mov (.t 135), none, [1]⟩,
                           ⟨(some 136), .extract 0 (.t 133), none, [2]⟩,
                           ⟨(some 137), .extract 1 (.t 133), none, [2]⟩,
                           ⟨(some 138), .extract 2 (.t 133), none, [2]⟩,
                           ⟨(some 23), .alloc [.nil, .bool false, .nil, .bool false, .bool false, .int .i64 0, .int .i64 0, .int .i64 0, .int .i64 0, .int .i64 0], none, []⟩,
                           ⟨none, .store 10 (.t 23) (.t 136), none, [6, 3, 1, 0, 1, 2, 3, 6]⟩,
                           ⟨(some 24), .mov (.t 137), none, [4, 7, 0, 1, 2, 3, 4, 6, 7]⟩,
                           ⟨(some 25), .mov (.t 138), none, [5, 8, 0, 1, 2, 3, 4, 5, 6, 7, 8]⟩] false)
                         (.seq
                          (.region [
                            ⟨(some 139), .load 10 true (.t 23), none, []⟩,
                            ⟨none, .store 10 (.t 5) (.t 139), none, [0, 0]⟩] false)
                          (.cut 6 c6F)))
def c6D : RC := (.seq
                        (.seq
                         (.region [
                           ⟨(some 130), .mov (.t 12), none, []⟩] false)
                         (.cond (.t 130)
                          (.region [
                            ⟨(some 131), .load 10 true (.t 5), none, []⟩,
                            ⟨(some 132), .call 16 [(.t 131), (.c (.int .i64 10))], none, [0]⟩,
                            ⟨none, .store 10 (.t 5) (.t 132), none, [1, 1, 0, 1]⟩] false)
                          .skip))
                        (.cut 5 c6E))
def c6R : RC := (.seq
                          (.region [
                            ⟨(some 111), .load 10 true (.t 5), none, []⟩,
                            ⟨(some 112), .mov (.t 10), none, []⟩,
                            ⟨(some 113), .call 18 [(.t 111), (.t 112)], none, [0, 1]⟩,
                            ⟨(some 110), .mov (.t 113), none, [2]⟩,
                            ⟨(some 114), .extract 0 (.t 110), none, [3]⟩,
                            ⟨(some 115), .extract 1 (.t 110), none, [3]⟩,
                            ⟨(some 116), .extract 2 (.t 110), none, [3]⟩,
                            ⟨(some 117), .extract 3 (.t 110), none, [3]⟩,
                            ⟨(some 19), .alloc [.nil, .bool false, .nil, .bool false, .bool false, .int .i64 0, .int .i64 0, .int .i64 0, .int .i64 0, .int .i64 0], none, []⟩,
                            ⟨none, .store 10 (.t 19) (.t 114), none, [8, 4, 2, 0, 1, 2, 3, 4, 8]⟩,
                            ⟨(some 20), .mov (.t 115), none, [5, 9, 0, 1, 2, 3, 4, 5, 8, 9]⟩,
                            ⟨(some 21), .mov (.t 116), none, [6, 10, 0, 1, 2, 3, 4, 5, 6, 8, 9, 10]⟩,
                            ⟨(some 22), .mov (.t 117), none, [7, 11, 0, 1, 2, 3, 4, 5, 6, 7, 8, 9, 10, 11]⟩] false)
                          (.seq
                           (.seq
                            (.region [
                              ⟨(some 118), .mov (.t 22), none, []⟩,
                              ⟨(some 119), .cmp .neq 0 (.t 118) (.c (.int .i64 0)), none, [0]⟩] false)
                            (.cond (.t 119)
                             (.seq
                              (.region [
                                ⟨(some 2), .mov (.c (.bool false)), none, []⟩] false)
                              .ret)
                             .skip))
                           (.seq
                            (.region [
                              ⟨(some 120), .load 10 true (.t 19), none, []⟩,
                              ⟨(some 121), .mov (.t 20), none, []⟩,
                              ⟨(some 122), .len 0 (.t 121), none, [1]⟩,
                              ⟨(some 123), .call 16 [(.t 120), (.t 122)], none, [0, 2]⟩,
                              ⟨(some 124), .mov (.t 7), none, []⟩,
                              ⟨(some 125), .mov (.t 20), none, []⟩,
                              ⟨(some 126), .append 5 1 [.int .u8 0] (.t 124) (.t 125), none, [4, 5, 3]⟩,
                              ⟨none, .store 10 (.t 5) (.t 123), none, [3, 6, 0, 1, 2, 3]⟩,
                              ⟨(some 7), .mov (.t 126), none, [6, 7, 0, 1, 2, 3, 4, 5, 6, 7]⟩] false)
                            (.seq
                             (.region [
                               ⟨(some 127), .mov (.t 21), none, []⟩] false)
                             (.cond (.t 127)
                              (.region [
                                ⟨(some 128), .mov (.t 9), none, []⟩,
                                ⟨(some 129), .arith .add (.t 128) (.c (.int .i64 1)), none, [0]⟩,
                                ⟨(some 9), .mov (.t 129), none, [1, 0, 1]⟩] false)
                              .skip)))))
def c6C : RC := (.seq
                       (.seq
                        (.split [
                          ⟨(some 99), .mov (.t 10), none, []⟩,
                          ⟨(some 100), .len 0 (.t 99), none, [0]⟩,
                          ⟨(some 101), .cmp .gtr 0 (.t 100) (.c (.int .i64 0)), none, [1]⟩,
                          ⟨(some 102), .mov (.t 101), none, [2]⟩,
                          ⟨(some 103), .mov (.t 18), (some (102, true)), [3]⟩,
                          ⟨(some 104), .mov (.t 103), (some (102, true)), [4, 3, 3]⟩,
                          ⟨(some 105), .mov (.t 3), (some (104, false)), [5]⟩,
                          ⟨(some 106), .call 20 [(.t 105), (.c (.int .i64 4))], (some (104, false)), [6, 5, 5]⟩,
                          ⟨(some 107), .cmp .eql 0 (.t 106) (.c (.int .i64 3)), (some (104, false)), [7, 5]⟩,
                          ⟨(some 108), .pick (.t 104) (.c (.bool true)) (.t 107), (some (102, true)), [5, 8, 3]⟩,
                          ⟨(some 109), .pick (.t 102) (.t 108) (.c (.bool false)), none, [3, 9]⟩])
                        (.cond (.t 109)
                         (.cut 9 c6R)
                         .skip))
                       (.cut 4 c6D))
def c6B : RC := (.seq
                      (.seq
                       (.split [
                         ⟨(some 89), .mov (.t 18), none, []⟩,
                         ⟨(some 90), .mov (.t 89), none, [0]⟩,
                         ⟨(some 91), .mov (.t 12), (some (90, true)), [1]⟩,
                         ⟨(some 92), .mov (.t 91), (some (90, true)), [2, 1, 1]⟩,
                         ⟨(some 93), .mov (.t 3), (some (92, false)), [3]⟩,
                         ⟨(some 94), .call 20 [(.t 93), (.c (.int .i64 4))], (some (92, false)), [4, 3, 3]⟩,
                         ⟨(some 95), .cmp .lss 0 (.t 94) (.c (.int .i64 3)), (some (92, false)), [5, 3]⟩,
                         ⟨(some 96), .pick (.t 92) (.c (.bool true)) (.t 95), (some (90, true)), [3, 6, 1]⟩,
                         ⟨(some 97), .pick (.t 90) (.t 96) (.c (.bool false)), none, [1, 7]⟩])
                       (.cond (.t 97)
                        (.region [
                          ⟨(some 98), .mov (.t 17), none, []⟩,
                          ⟨(some 10), .mov (.t 98), none, [0, 0]⟩] false)
                        .skip))
                      (.cut 3 c6C))
def c6A : RC := (.seq
                    (.region [
                      ⟨(some 83), .load 10 true (.t 4), none, []⟩,
                      ⟨(some 84), .call 23 [(.t 83)], none, [0]⟩,
                      ⟨(some 82), .mov (.t 84), none, [1]⟩,
                      ⟨(some 85), .extract 0 (.t 82), none, [2]⟩,
                      ⟨(some 86), .extract 1 (.t 82), none, [2]⟩,
                      ⟨(some 87), .extract 2 (.t 82), none, [2]⟩,
                      ⟨(some 16), .alloc [.nil, .bool false, .nil, .bool false, .bool false, .int .i64 0, .int .i64 0, .int .i64 0, .int .i64 0, .int .i64 0], none, []⟩,
                      ⟨none, .store 10 (.t 16) (.t 85), none, [6, 3, 1, 0, 1, 2, 3, 6]⟩,
                      ⟨(some 17), .mov (.t 86), none, [4, 7, 0, 1, 2, 3, 4, 6, 7]⟩,
                      ⟨(some 18), .mov (.t 87), none, [5, 8, 0, 1, 2, 3, 4, 5, 6, 7, 8]⟩] false)
                    (.seq
                     (.region [
                       ⟨(some 88), .load 10 true (.t 16), none, []⟩,
                       ⟨none, .store 10 (.t 4) (.t 88), none, [0, 0]⟩] false)
                     (.cut 2 c6B)))
def c6W : RC := (.seq
                      (.region [
                        ⟨(some 53), .mov (.t 3), none, []⟩,
                        ⟨(some 54), .call 17 [(.t 53), (.c (.int .i64 40))], none, [0]⟩,
                        ⟨(some 13), .mov (.t 54), none, [1, 1, 0, 1]⟩] false)
                      (.seq
                       (.region [
                         ⟨(some 56), .load 10 true (.t 4), none, []⟩,
                         ⟨(some 57), .mov (.t 13), none, []⟩,
                         ⟨(some 58), .call 21 [(.t 56), (.t 57)], none, [0, 1]⟩,
                         ⟨(some 55), .mov (.t 58), none, [2]⟩,
                         ⟨(some 59), .extract 0 (.t 55), none, [3]⟩,
                         ⟨(some 60), .extract 1 (.t 55), none, [3]⟩,
                         ⟨(some 14), .alloc [.nil, .bool false, .nil, .bool false, .bool false, .int .i64 0, .int .i64 0, .int .i64 0, .int .i64 0, .int .i64 0], none, []⟩,
                         ⟨none, .store 10 (.t 14) (.t 59), none, [6, 4, 2, 0, 1, 2, 3, 4, 6]⟩,
                         ⟨(some 15), .mov (.t 60), none, [5, 7, 0, 1, 2, 3, 4, 5, 6, 7]⟩] false)
                       (.seq
                        (.seq
                         (.region [
                           ⟨(some 61), .mov (.t 15), none, []⟩,
                           ⟨(some 62), .cmp .lss 0 (.t 61) (.c (.int .i64 0)), none, [0]⟩,
                           ⟨(some 63), .mov (.t 62), none, [1]⟩,
                           ⟨(some 64), .mov (.t 15), (some (63, false)), [2]⟩,
                           ⟨(some 65), .mov (.t 13), (some (63, false)), [2]⟩,
                           ⟨(some 66), .len 0 (.t 65), (some (63, false)), [4, 2]⟩,
                           ⟨(some 67), .cmp .gtr 0 (.t 64) (.t 66), (some (63, false)), [3, 5, 2]⟩,
                           ⟨(some 68), .pick (.t 63) (.c (.bool true)) (.t 67), none, [2, 6]⟩] false)
                         (.cond (.t 68)
                          (.seq
                           (.region [
                             ⟨(some 2), .mov (.c (.bool false)), none, []⟩] false)
                           .ret)
                          .skip))
                        (.seq
                         (.region [
                           ⟨(some 69), .load 10 true (.t 14), none, []⟩,
                           ⟨(some 70), .mov (.t 6), none, []⟩,
                           ⟨(some 71), .mov (.t 13), none, []⟩,
                           ⟨(some 72), .mov (.t 15), none, []⟩,
                           ⟨(some 73), .slice 1 (.t 71) none (some (.t 72)), none, [3, 2]⟩,
                           ⟨(some 74), .appD 5 1 [.int .u8 0] (.t 70) (.t 73), none, [2, 3, 4, 1]⟩,
                           ⟨none, .store 10 (.t 4) (.t 69), none, [1, 4, 3, 2, 5, 0]⟩,
                           ⟨(some 6), .mov (.t 74), none, [4, 3, 2, 1, 0, 6, 5]⟩] true)
                         (.seq
                          (.region [
                            ⟨(some 75), .mov (.t 3), none, []⟩,
                            ⟨(some 76), .call 20 [(.t 75), (.c (.int .i64 4))], none, [0]⟩,
                            ⟨(some 77), .cmp .eql 0 (.t 76) (.c (.int .i64 3)), none, [1]⟩] false)
                          (.cond (.t 77)
                           (.region [
                             ⟨(some 78), .load 10 true (.t 4), none, []⟩,
                             ⟨(some 79), .call 29 [(.t 78)], none, [0]⟩,
                             ⟨(some 80), .mov (.t 8), none, []⟩,
                             ⟨(some 81), .arith .add (.t 80) (.c (.int .i64 1)), none, [2]⟩,
                             ⟨none, .store 10 (.t 4) (.t 79), none, [1, 1, 0, 1]⟩,
                             ⟨(some 8), .mov (.t 81), none, [3, 4, 0, 1, 2, 3, 4]⟩] false)
                           .skip))))))
def c6N : RC := (.region [
                  ⟨(some 41), .mov (.t 11), none, []⟩,
                  ⟨(some 42), .arith .add (.t 41) (.c (.int .i64 1)), none, [0]⟩,
                  ⟨(some 11), .mov (.t 42), none, [1, 0, 1]⟩] false)
/-- baseboard/baseboardlaw36.ConsoleFlows [22] -/
def rc6 : RC :=
  (.seq
   (.region [
     ⟨(some 2), .mov (.c (.bool false)), none, []⟩] false)
   (.seq
    (.seq
     (.region [
       ⟨(some 30), .call 8 [], none, []⟩,
       ⟨(some 31), .not (.t 30), none, [0]⟩] false)
     (.cond (.t 31)
      (.seq
       (.region [
         ⟨(some 2), .mov (.c (.bool false)), none, []⟩] false)
       .ret)
      .skip))
    (.seq
     (.region [
       ⟨(some 32), .mov (.t 0), none, []⟩,
       ⟨(some 33), .call 14 [(.t 32), (.c (.int .i64 200))], none, [0]⟩,
       ⟨(some 3), .mov (.t 33), none, [1, 1, 0, 1]⟩] false)
     (.seq
      (.region [
        ⟨(some 34), .call 32 [], none, []⟩,
        ⟨(some 35), .call 32 [], none, [0]⟩,
        ⟨(some 4), .alloc [.nil, .bool false, .nil, .bool false, .bool false, .int .i64 0, .int .i64 0, .int .i64 0, .int .i64 0, .int .i64 0], none, []⟩,
        ⟨(some 5), .alloc [.nil, .bool false, .nil, .bool false, .bool false, .int .i64 0, .int .i64 0, .int .i64 0, .int .i64 0, .int .i64 0], none, []⟩,
        ⟨none, .store 10 (.t 4) (.t 34), none, [2, 0, 1, 0, 2, 3]⟩,
        ⟨none, .store 10 (.t 5) (.t 35), none, [3, 1, 4, 0, 1, 2, 3, 4]⟩] false)
      (.seq
       (.region [
         ⟨(some 36), .mov (.t 3), none, []⟩,
         ⟨(some 37), .call 20 [(.t 36), (.c (.int .i64 100))], none, [0]⟩,
         ⟨(some 38), .faddr 7 (.t 5), none, [0, 1]⟩,
         ⟨none, .store 1 (.t 38) (.t 37), none, [2, 1, 1, 0, 1]⟩] false)
       (.seq
        (.region [
          ⟨(some 6), .mov (.c (.nil)), none, []⟩,
          ⟨(some 7), .mov (.c (.nil)), none, [0]⟩] false)
        (.seq
         (.region [
           ⟨(some 8), .mov (.c (.int .i64 0)), none, []⟩,
           ⟨(some 9), .mov (.c (.int .i64 0)), none, [0, 0]⟩] false)
         (.seq
          (.region [
            ⟨(some 10), .mov (.c (.nil)), none, []⟩] false)
          (.seq
           (.seq
            (.region [
              ⟨(some 11), .mov (.c (.int .i64 0)), none, []⟩] false)
            (.block 0
             (.loop 0
              (.seq
               (.seq
                (.region [
                  ⟨(some 39), .mov (.t 11), none, []⟩,
                  ⟨(some 40), .cmp .lss 0 (.t 39) (.c (.int .i64 400)), none, [0]⟩] false)
                (.cond (.t 40)
                 .skip
                 (.exit 0)))
               (.seq
                (.block 1
                 (.seq
                  (.region [
                    ⟨(some 43), .mov (.t 3), none, []⟩,
                    ⟨(some 44), .call 33 [(.t 43)], none, [0]⟩,
                    ⟨(some 45), .not (.t 44), none, [1]⟩,
                    ⟨(some 12), .mov (.t 45), none, [2, 1, 0, 1, 2]⟩] false)
                  (.seq
                   (.seq
                    (.region [
                      ⟨(some 46), .mov (.t 12), none, []⟩,
                      ⟨(some 47), .not (.t 46), none, [0]⟩,
                      ⟨(some 48), .mov (.t 47), none, [1]⟩,
                      ⟨(some 49), .mov (.t 3), (some (48, true)), [2]⟩,
                      ⟨(some 50), .call 20 [(.t 49), (.c (.int .i64 3))], (some (48, true)), [3, 2, 2]⟩,
                      ⟨(some 51), .cmp .eql 0 (.t 50) (.c (.int .i64 0)), (some (48, true)), [4, 2]⟩,
                      ⟨(some 52), .pick (.t 48) (.t 51) (.c (.bool false)), none, [2, 5]⟩] false)
                    (.cond (.t 52)
                     (.cut 8 c6W)
                     .skip))
                   (.cut 1 c6A))))
                c6N)))))
           (.seq
            (.region [
              ⟨(some 180), .mov (.t 7), none, []⟩,
              ⟨(some 181), .b2s (.t 180), none, [0]⟩,
              ⟨(some 182), .mov (.t 6), none, []⟩,
              ⟨(some 183), .b2s (.t 182), none, [2]⟩,
              ⟨(some 184), .cmp .eql 2 (.t 181) (.t 183), none, [1, 3]⟩,
              ⟨(some 185), .mov (.t 184), none, [4]⟩,
              ⟨(some 186), .mov (.t 9), (some (185, true)), [5]⟩,
              ⟨(some 187), .cmp .gtr 0 (.t 186) (.c (.int .i64 0)), (some (185, true)), [6, 5]⟩,
              ⟨(some 188), .mov (.t 8), (some (185, true)), [5]⟩,
              ⟨(some 189), .cmp .gtr 0 (.t 188) (.c (.int .i64 0)), (some (185, true)), [8, 5]⟩,
              ⟨(some 190), .cmp .eql 1 (.t 187) (.t 189), (some (185, true)), [7, 9, 5]⟩,
              ⟨(some 191), .pick (.t 185) (.t 190) (.c (.bool false)), none, [5, 10]⟩,
              ⟨(some 2), .mov (.t 191), none, [11, 5, 0, 1, 2, 3, 4, 5, 6, 7, 8, 9, 10, 11]⟩] false)
            .ret))))))))))
def rv6 : List RV := [.t 2]
theorem rc6_ok : comp Try.prog Try.f6.ntmps (Try.f6.body.getD .skip) = some (erase rc6) := by kernel_rfl
theorem rv6_ok : compRes Try.prog Try.f6.results.toList = some rv6 := by kernel_rfl
/-! The flow of one line into another -/
def pd (a b : Ln) : List Int := if a.bu = true then (if a.sq = b.rc then a.s.drop b.ct.toNat else a.s) else []
def un (a b : Ln) : Bool := a.bu && !decide (a.sq = b.rc)
def pka (a : Ln) : Ck := ⟨a.sq, 0, 0, a.sb, a.s⟩
structure B6 (L : List Int) (a b : Ln) (I O : List Int) (ws bs : Nat) (t : Int) : Prop where
  ha : OkL a
  hb : OkL b
  ra : a.rc = 0
  ka : a.ak = 0
  wb : b.w = []
  ib : b.wi = false
  ub : b.bu = false
  l1 : a.bu = false → b.rc = a.sq
  l2 : a.bu = true → a.sq ≠ b.rc → a.sq = nx b.rc
  io : I = O ++ (pd a b ++ a.w)
  k1 : bs + (un a b && a.sb).toNat + a.wi.toNat ≤ ws
  k2 : 0 < ws → 0 < bs ∨ a.wi = true ∨ (un a b = true ∧ a.sb = true)
  nI : I.length ≤ 240
  t0 : 0 ≤ t
  t1 : t ≤ L.length
  kw : (ws : Int) ≤ t
def LA (b : Ln) (la : List Int) : Prop := la = [] ∨ ∃ c, ckP c ∧ Okb c.d ∧ la = enB c ∧ c.sq = b.rc ∧ c.sq ≠ 0
def LC (a b : Ln) (la : List Int) (pk : Bool) : Prop := LA b la ∨ (pk = true ∧ la = enB (pka a))
def M6 (L I : List Int) (i : Nat) (t : Int) (aw : Bool) (Q : Nat → Prop) : Prop := (aw = false → (i : Int) + 1 ≤ t ∧ (t < L.length → (I.length : Int) ≤ t)) ∧ (aw = true → (L.length : Int) ≤ t ∧ ∃ j, i ≤ 200 + j ∧ Q j)
def QA (a b : Ln) (j : Nat) : Prop := (1 ≤ j → a.bu = false ∧ 10 ≤ b.ro ∧ a.w.length ≤ 250 - 10 * j) ∧ (2 ≤ j → a.wi = false)
def QB (a b : Ln) (j : Nat) : Prop := 1 ≤ j → a.wi = false ∧ 10 ≤ b.ro ∧ (a.bu = false → a.w = []) ∧ (a.bu = true → a.sq ≠ b.rc ∧ a.s.length + a.w.length ≤ 250 - 10 * j ∧ (a.s.length = 64 ∨ a.w = []))
def QC (a b : Ln) (la : List Int) (j : Nat) : Prop := QB a b j ∧ (a.bu = true → la = enB (pka a))
def QD (a b : Ln) (j : Nat) : Prop := (a.bu = true → a.sq = b.rc ∧ b.ak ≠ 0) ∧ (1 ≤ j → a.wi = false ∧ 10 ≤ b.ro ∧ (pd a b ++ a.w).length ≤ 250 - 10 * (j + 1))
def QE (a b : Ln) (j : Nat) : Prop := 10 ≤ b.ro ∧ QD a b j
def QF (a b : Ln) (qk : Bool) (j : Nat) : Prop := 10 ≤ b.ro ∧ (a.bu = true → a.sq = b.rc ∧ qk = true) ∧ (1 ≤ j → a.wi = false ∧ (pd a b ++ a.w).length ≤ 250 - 10 * (j + 1))
def QG (a b : Ln) (j : Nat) : Prop := 10 ≤ b.ro ∧ a.bu = false ∧ (1 ≤ j → a.wi = false ∧ a.w.length ≤ 250 - 10 * (j + 1))
structure J6a (L : List Int) (a b : Ln) (I O la : List Int) (ws bs i : Nat) (t : Int) : Prop where
  s : B6 L a b I O ws bs t
  f : LA b la
  p : (t < L.length → (i : Int) ≤ t ∧ (I.length : Int) ≤ t) ∧ ((L.length : Int) ≤ t → ∃ j, i ≤ 200 + j ∧ QA a b j)
structure J6b (L : List Int) (a b : Ln) (I O la : List Int) (ws bs i : Nat) (t : Int) (aw : Bool) : Prop where
  s : B6 L a b I O ws bs t
  f : LA b la
  p : M6 L I i t aw (QA a b)
structure J6c (L : List Int) (a b : Ln) (I O la : List Int) (ws bs i : Nat) (t : Int) (aw : Bool) (q : List Int) (pk : Bool) : Prop where
  s : B6 L a b I O ws bs t
  f : LA b la
  p : M6 L I i t aw (QB a b)
  e : pk = a.bu
  g : a.bu = true → q = enB (pka a)
structure J6d (L : List Int) (a b : Ln) (I O la : List Int) (ws bs i : Nat) (t : Int) (aw : Bool) (pk : Bool) : Prop where
  s : B6 L a b I O ws bs t
  f : LC a b la pk
  p : M6 L I i t aw (QC a b la)
  e : pk = a.bu
structure J6e (L : List Int) (a b : Ln) (I O la : List Int) (ws bs i : Nat) (t : Int) (aw : Bool) : Prop where
  s : B6 L a b I O ws bs t
  f : LA b la
  p : M6 L I i t aw (QD a b)
structure J6f (L : List Int) (a b : Ln) (I O la : List Int) (ws bs i : Nat) (t : Int) (aw : Bool) : Prop where
  s : B6 L a b I O ws bs t
  f : LA b la
  p : M6 L I i t aw (QE a b)
structure J6g (L : List Int) (a b : Ln) (I O la : List Int) (ws bs i : Nat) (t : Int) (aw : Bool) (q : List Int) (qk : Bool) : Prop where
  s : B6 L a b I O ws bs t
  f : LA b la
  p : M6 L I i t aw (QF a b qk)
  g : qk = true → ∃ c, ckP c ∧ q = enB c ∧ c.sq = 0 ∧ c.ak = b.rc ∧ c.ak ≠ 0 ∧ c.ct = b.ct ∧ c.d = []
structure J6h (L : List Int) (a b : Ln) (I O la : List Int) (ws bs i : Nat) (t : Int) (aw : Bool) : Prop where
  s : B6 L a b I O ws bs t
  f : LA b la
  p : M6 L I i t aw (QG a b)
structure J6i (L : List Int) (a b : Ln) (I O la : List Int) (ws bs i : Nat) (t : Int) : Prop where
  s : B6 L a b I O ws bs t
  f : LA b la
  p : (i : Int) + 1 ≤ t ∧ (I.length : Int) ≤ t ∧ (ws : Int) + 1 ≤ t
structure J6j (L : List Int) (a b : Ln) (I O la : List Int) (ws bs i : Nat) (t : Int) (aw : Bool) : Prop where
  s : B6 L a b I O ws bs t
  f : LA b la ∨ (a.bu = true ∧ la = enB (pka a))
  p : M6 L I i t aw (QC a b la)
  n : la ≠ []
structure J6k (L : List Int) (a b : Ln) (I O la : List Int) (ws bs i : Nat) (t : Int) (aw : Bool) (q : List Int) : Prop where
  s : B6 L a b I O ws bs t
  f : LA b la
  p : M6 L I i t aw (QF a b true)
  g : ∃ c, ckP c ∧ q = enB c ∧ c.sq = 0 ∧ c.ak = b.rc ∧ c.ak ≠ 0 ∧ c.ct = b.ct ∧ c.d = []
theorem cnA_rg {L : List Int} {t : Int} (h : 0 ≤ t ∧ t ≤ L.length) (k : Int) : t ≤ cnA L t k ∧ cnA L t k ≤ L.length := by
  unfold cnA
  split
  · rename_i h2
    have := h2.1
    omega
  · omega
theorem cnA_up {L : List Int} {t k : Int} (h : t < L.length) (hk : 1 ≤ k) : cnA L t k = t + 1 := if_pos ⟨h, hk⟩
theorem cnA_end {L : List Int} {t k : Int} (h : (L.length : Int) ≤ t) : cnA L t k = t ∧ cnV L t k = 0 := by
  have hk : ¬ cnK L t k := fun h2 => by have := h2.1; omega
  exact ⟨if_neg hk, if_neg hk⟩
theorem cbA_rg {L : List Int} : ∀ (k : Nat) {t : Int}, 0 ≤ t ∧ t ≤ L.length → t ≤ cbA L k t ∧ cbA L k t ≤ L.length ∧ (cbA L k t < L.length → cbA L k t = t + k)
  | 0, t, h => ⟨Int.le_refl _, h.2, fun _ => by simp [cbA]⟩
  | k + 1, t, h => by
    have h1 := cnA_rg h 256
    obtain ⟨h2, h3, h4⟩ := cbA_rg k (t := cnA L t 256) ⟨by omega, h1.2⟩
    refine ⟨by rw [cbA]; omega, by rw [cbA]; omega, fun h5 => ?_⟩
    rw [cbA] at h5 ⊢
    have h6 := h4 h5
    have h7 : t < L.length := by omega
    rw [h6, cnA_up h7 (by omega)]; omega
theorem byA_rg {L : List Int} {t k : Int} (h : 0 ≤ t ∧ t ≤ L.length) : t ≤ byA L t k ∧ byA L t k ≤ L.length ∧ (byA L t k < L.length → t + (byV L t k).length ≤ byA L t k) := by
  have h1 := cnA_rg h (k + 1)
  obtain ⟨h2, h3, h4⟩ := cbA_rg (cnV L t (k + 1)).toNat (t := cnA L t (k + 1)) ⟨by omega, h1.2⟩
  refine ⟨by rw [byA]; omega, by rw [byA]; omega, fun h5 => ?_⟩
  rw [byA] at h5 ⊢
  have h6 := h4 h5
  rw [byV, cbF_len]; omega
theorem M6.map {L I : List Int} {i : Nat} {t : Int} {aw : Bool} {Q Q' : Nat → Prop} (h : M6 L I i t aw Q) (f : aw = true → ∀ j, Q j → Q' j) : M6 L I i t aw Q' :=
  ⟨h.1, fun e => ⟨(h.2 e).1, (h.2 e).2.elim fun j hj => ⟨j, hj.1, f e j hj.2⟩⟩⟩
theorem M6.cn {L I : List Int} {i : Nat} {t : Int} {aw : Bool} {Q : Nat → Prop} (h : M6 L I i t aw Q) (ht : 0 ≤ t ∧ t ≤ L.length) (k : Int) : M6 L I i (cnA L t k) aw Q := by
  have := cnA_rg ht k
  refine ⟨fun e => ?_, fun e => ?_⟩
  · obtain ⟨h1, h2⟩ := h.1 e
    exact ⟨by omega, fun h3 => by have := h2 (by omega); omega⟩
  · obtain ⟨h1, h2⟩ := h.2 e
    rw [(cnA_end h1).1]
    exact ⟨h1, h2⟩
theorem LA.rc {b b' : Ln} {la : List Int} (h : LA b la) (e : b'.rc = b.rc) : LA b' la := by rw [LA, e]; exact h
theorem LA.ok {b : Ln} {la : List Int} (h : LA b la) : Okb la ∧ la.length ≤ 68 := by
  rcases h with rfl | ⟨c, _, h, rfl, _⟩
  · exact ⟨.nil, Nat.zero_le _⟩
  · exact ⟨enB_ok h, enB_len c⟩
theorem ln_ak {a : Ln} (h : a.ak = 0) : ({ a with ak := 0 } : Ln) = a := by
  obtain ⟨w, wi, s, sb, bu, sq, rc, ro, ak, ct⟩ := a
  dsimp only at h
  subst h
  rfl
theorem en_inj {c c' : Ck} (h : ckP c) (h' : ckP c') (e : enB c = enB c') : c = c' := by rw [← (de_en h).2, e, (de_en h').2]
section
variable {L : List Int} {a b : Ln} {I O la : List Int} {ws bs : Nat} {t : Int}
theorem B6.tt (h : B6 L a b I O ws bs t) {t' : Int} (h0 : t ≤ t') (h1 : t' ≤ L.length) : B6 L a b I O ws bs t' := { h with t0 := by have := h.t0; omega, t1 := h1, kw := by have := h.kw; omega }
theorem B6.cn (h : B6 L a b I O ws bs t) (k : Int) : B6 L a b I O ws bs (cnA L t k) := by
  have := cnA_rg (And.intro h.t0 h.t1) k
  exact h.tt (by omega) (by omega)
theorem B6.wr (h : B6 L a b I O ws bs t) {d : List Int} (hd : Okb d) (hn : I.length + d.length ≤ 240) : B6 L (wrL a d) b (I ++ d.take (wrN a d)) O ws bs t := by
  have e : wrL a d = { a with w := a.w ++ d.take (wrN a d) } := if_pos h.ha.P
  have hw := h.ha.wr hd
  rw [e] at hw ⊢
  refine ⟨hw, h.hb, h.ra, h.ka, h.wb, h.ib, h.ub, h.l1, h.l2, ?_, h.k1, h.k2, ?_, h.t0, h.t1, h.kw⟩
  · show I ++ _ = O ++ (pd a b ++ (a.w ++ _))
    rw [h.io]; simp only [List.append_assoc]
  · rw [List.length_append, List.length_take]; omega
theorem B6.br (h : B6 L a b I O ws bs t) (hk : (ws : Int) + 1 ≤ t) : B6 L (brL a) b I O (ws + 1) bs t := by
  have e : brL a = { a with wi := true } := if_pos h.ha.P
  have hw := h.ha.br
  rw [e] at hw ⊢
  refine ⟨hw, h.hb, h.ra, h.ka, h.wb, h.ib, h.ub, h.l1, h.l2, h.io, ?_, fun _ => .inr (.inl rfl), h.nI, h.t0, h.t1, by omega⟩
  have := h.k1
  show bs + (un a b && a.sb).toNat + 1 ≤ ws + 1
  omega
theorem B6.po (h : B6 L a b I O ws bs t) : B6 L (poL a) b I O ws bs t ∧ poK a = (poL a).bu ∧ ((poL a).bu = true → poB a = enB (pka (poL a))) ∧ ∀ j, QA a b j → QB (poL a) b j := by
  have hP := h.ha.P
  have hka := h.ka
  have hO := h.ha.po
  by_cases hb : a.bu = true
  · have hM : poM a = a := if_neg (fun e => by rw [hb] at e; cases e.1)
    obtain ⟨e1, e2, e3⟩ := po_do hP hM (.inl hb) (c := pka a) (by simp [poC, hb, hka, pka])
    rw [ln_ak hka] at e1
    rw [e1]
    exact ⟨h, e3.trans hb.symm, fun _ => e2, fun j hj hj1 => absurd (hj.1 hj1).1 (by rw [hb]; decide)⟩
  have hb' : a.bu = false := by simpa using hb
  have hrc := h.l1 hb'
  by_cases hf : a.w.length ≠ 0 ∨ a.wi = true
  · have hM : poM a = { a with s := a.w.take 64, w := a.w.drop 64, sb := a.wi, wi := false, bu := true, sq := nx a.sq } := if_pos ⟨hb', hf⟩
    obtain ⟨e1, e2, e3⟩ := po_do hP hM (.inl rfl) (c := ⟨nx a.sq, 0, 0, a.wi, a.w.take 64⟩) (by simp [poC, hka])
    rw [e1] at hO ⊢
    rw [e3, e2]
    have hx := nx_bd hP.2.1
    have hne : nx a.sq ≠ b.rc := by rw [hrc]; exact hx.2
    refine ⟨⟨hO, h.hb, h.ra, rfl, h.wb, h.ib, h.ub, fun e => (by cases e), fun _ _ => by show nx a.sq = nx b.rc; rw [hrc], ?_, ?_, ?_, h.nI, h.t0, h.t1, h.kw⟩, rfl, fun _ => rfl, fun j hj hj1 => ?_⟩
    · rw [h.io]
      simp only [pd, hb', hne, if_true, if_false, Bool.false_eq_true, List.nil_append, List.take_append_drop]
    · have := h.k1
      simp only [un, hb', Bool.false_and, Bool.toNat_false, Bool.true_and, decide_eq_false hne, Bool.not_false] at this ⊢
      omega
    · intro hw
      rcases h.k2 hw with e | e | ⟨e, _⟩
      · exact .inl e
      · exact .inr (.inr ⟨by simp [un, hne], e⟩)
      · simp [un, hb'] at e
    · obtain ⟨q1, q2, q3⟩ := hj.1 hj1
      refine ⟨rfl, q2, fun e => (by cases e), fun _ => ⟨hne, ?_, ?_⟩⟩
      · simp only [List.length_take, List.length_drop]; omega
      · by_cases h64 : 64 ≤ a.w.length
        · exact .inl (by simp only [List.length_take]; omega)
        · exact .inr (List.drop_eq_nil_of_le (by omega))
  · have hM : poM a = a := if_neg (fun e => hf e.2)
    obtain ⟨e1, e2, e3⟩ := po_id hP hM hb' hka
    rw [e1, e3]
    have hw : a.w = [] := List.length_eq_zero_iff.1 (by omega)
    have hwi : a.wi = false := by
      cases e : a.wi with
      | false => rfl
      | true => exact absurd (.inr e) hf
    exact ⟨h, hb'.symm, fun e => absurd e hb, fun j hj hj1 => ⟨hwi, (hj.1 hj1).2.1, fun _ => hw, fun e => absurd e hb⟩⟩
theorem B6.pk (h : B6 L a b I O ws bs t) (hb : a.bu = true) : ckP (pka a) ∧ Okb (pka a).d ∧ a.sq ≠ 0 := by
  obtain ⟨⟨_, h1⟩, h2, _, _, _, _, h3, _⟩ := h.ha.P
  have hs := h3 hb
  exact ⟨⟨h2, by dsimp only [pka]; omega, by dsimp only [pka]; omega, h1, fun _ => rfl, fun e => absurd e hs⟩, h.ha.s, hs⟩
theorem gr_at {l : Ln} (h : OkL l) (k : Nat) (hk : l.ro + k ≤ 1024) : grL l k = { l with ro := l.ro + k } := by
  rw [grL, if_pos ⟨h.P, by omega⟩, show min (k : Int) (1024 - l.ro) = k by omega]
theorem rv_d {c : Ck} (h : B6 L a b I O ws bs t) (hc : ckP c) (e : c.sq = b.rc) (h0 : c.sq ≠ 0) : reE b (enB c) = 0 ∧ reD b (enB c) = [] ∧ reB b (enB c) = false ∧ grL (reR b (enB c)) ((reD b (enB c)).length : Int) = { b with ak := b.rc } := by
  obtain ⟨d1, d2⟩ := de_en hc
  have hm : reA b (deC (enB c)) = b := if_neg (fun hh => by rw [h.ub] at hh; cases hh.1)
  obtain ⟨e1, e2, e3, e4⟩ := re_2 h.hb.P d1 hm (by rw [d2]; exact h0) (by rw [d2]; exact e)
  have hR := h.hb.re (enB c)
  rw [e1] at hR
  refine ⟨e4, e2, e3, ?_⟩
  rw [e1, e2]
  have hro := h.hb.P.2.2.2.1
  have := gr_at hR 0 (by show b.ro + (0 : Nat) ≤ 1024; omega)
  rw [d2, e] at this ⊢
  refine this.trans ?_
  show (⟨b.w, b.wi, b.s, b.sb, b.bu, b.sq, b.rc, b.ro + (0 : Nat), b.rc, b.ct⟩ : Ln) = _
  rw [show b.ro + ((0 : Nat) : Int) = b.ro by omega]
theorem rv_n (h : B6 L a b I O ws bs t) (hb : a.bu = true) (hne : a.sq ≠ b.rc) : reE b (enB (pka a)) = 0 ∧ reD b (enB (pka a)) = a.s.take (min a.s.length b.ro.toNat) ∧ reB b (enB (pka a)) = a.sb ∧ grL (reR b (enB (pka a))) ((reD b (enB (pka a))).length : Int) = { b with rc := a.sq, ak := a.sq, ct := (min a.s.length b.ro.toNat : Nat) } := by
  obtain ⟨hc, _, h0⟩ := h.pk hb
  obtain ⟨d1, d2⟩ := de_en hc
  have hm : reA b (deC (enB (pka a))) = b := if_neg (fun hh => by rw [h.ub] at hh; cases hh.1)
  obtain ⟨e1, e2, e3, e4⟩ := re_3 h.hb.P d1 hm (by rw [d2]; exact h0) (by rw [d2]; exact hne) (by rw [d2]; exact h.l2 hb hne)
  have hN : reN b (pka a) = min a.s.length b.ro.toNat := rfl
  have hR := h.hb.re (enB (pka a))
  rw [d2, hN] at e1 e2
  rw [d2] at e3
  rw [e1] at hR
  refine ⟨e4, e2, e3, ?_⟩
  have hl : (reD b (enB (pka a))).length = min a.s.length b.ro.toNat := by
    rw [e2]; show (a.s.take _).length = _; rw [List.length_take]; omega
  rw [hl, e1]
  have hro := h.hb.P.2.2.2.1
  have := gr_at hR (min a.s.length b.ro.toNat) (by show b.ro - ((min a.s.length b.ro.toNat : Nat) : Int) + ((min a.s.length b.ro.toNat : Nat) : Int) ≤ 1024; omega)
  refine this.trans ?_
  show (⟨b.w, b.wi, b.s, b.sb, b.bu, b.sq, a.sq, b.ro - ((min a.s.length b.ro.toNat : Nat) : Int) + ((min a.s.length b.ro.toNat : Nat) : Int), a.sq, _⟩ : Ln) = _
  rw [Int.sub_add_cancel]
theorem B6.rv (h : B6 L a b I O ws bs t) (f : LA b la ∨ (a.bu = true ∧ la = enB (pka a))) (hn : la ≠ []) : (reE b la = 0 ∧ Okb la ∧ la.length ≤ 68) ∧ ∃ b', grL (reR b la) ((reD b la).length : Int) = b' ∧ B6 L a b' I (O ++ reD b la) ws (bs + (reB b la).toNat) t ∧ LA b' la ∧ ∀ j, QC a b la j → QD a b' j := by
  by_cases hd : a.bu = true ∧ la = enB (pka a) ∧ a.sq ≠ b.rc
  · obtain ⟨hb, rfl, hne⟩ := hd
    obtain ⟨hc, ho, h0⟩ := h.pk hb
    obtain ⟨e1, e2, e3, e4⟩ := rv_n h hb hne
    have hR := (h.hb.re (enB (pka a))).gr ((reD b (enB (pka a))).length : Int)
    rw [e4] at hR
    refine ⟨⟨e1, enB_ok ho, enB_len _⟩, _, e4, ⟨h.ha, hR, h.ra, h.ka, h.wb, h.ib, h.ub, fun _ => rfl, fun _ e => absurd rfl e, ?_, ?_, ?_, h.nI, h.t0, h.t1, h.kw⟩, .inr ⟨pka a, hc, ho, rfl, rfl, h0⟩, fun j hj => ⟨fun _ => ⟨rfl, h0⟩, fun hj1 => ?_⟩⟩
    · rw [e2, h.io]
      simp only [pd, hb, hne, if_true, if_false, Int.toNat_natCast, List.append_assoc]
      rw [← List.append_assoc (a.s.take _), List.take_append_drop]
    · have := h.k1
      rw [e3]
      simp only [un, hb, Bool.true_and, decide_eq_false hne, Bool.not_false, decide_true, Bool.not_true, Bool.false_and, Bool.toNat_false] at this ⊢
      omega
    · intro hw
      rw [e3]
      rcases h.k2 hw with e | e | ⟨_, e⟩
      · exact .inl (by omega)
      · exact .inr (.inl e)
      · rw [e]; exact .inl (by show 0 < bs + 1; omega)
    · obtain ⟨q1, q2, _, q4⟩ := hj.1 hj1
      obtain ⟨_, q5, q6⟩ := q4 hb
      refine ⟨q1, q2, ?_⟩
      simp only [pd, hb, if_true, Int.toNat_natCast, List.length_append, List.length_drop]
      rcases q6 with q6 | q6
      · omega
      · rw [q6] at q5 ⊢
        simp only [List.length_nil] at q5 ⊢
        omega
  · have hc : ∃ c, ckP c ∧ Okb c.d ∧ la = enB c ∧ c.sq = b.rc ∧ c.sq ≠ 0 := by
      rcases f with (f | f) | ⟨f1, f2⟩
      · exact absurd f hn
      · exact f
      · obtain ⟨h1, h2, h3⟩ := h.pk f1
        refine ⟨pka a, h1, h2, f2, ?_, h3⟩
        by_cases e : a.sq = b.rc
        · exact e
        · exact absurd ⟨f1, f2, e⟩ hd
    obtain ⟨c, c1, c2, rfl, c3, c4⟩ := hc
    obtain ⟨e1, e2, e3, e4⟩ := rv_d h c1 c3 c4
    have hR := (h.hb.re (enB c)).gr ((reD b (enB c)).length : Int)
    rw [e4] at hR
    refine ⟨⟨e1, enB_ok c2, enB_len _⟩, _, e4, ⟨h.ha, hR, h.ra, h.ka, h.wb, h.ib, h.ub, h.l1, h.l2, ?_, ?_, ?_, h.nI, h.t0, h.t1, h.kw⟩, .inr ⟨c, c1, c2, rfl, c3, c4⟩, fun j hj => ?_⟩
    · rw [e2, List.append_nil]; exact h.io
    · rw [e3]; exact h.k1
    · rw [e3]; exact h.k2
    · have hq : a.bu = true → a.sq = b.rc := fun hb => by
        have := en_inj c1 (h.pk hb).1 (hj.2 hb)
        rw [← c3, this]; rfl
      refine ⟨fun hb => ⟨hq hb, by rw [← c3]; exact c4⟩, fun hj1 => ?_⟩
      obtain ⟨q1, q2, q3, q4⟩ := hj.1 hj1
      refine ⟨q1, q2, ?_⟩
      cases hb : a.bu with
      | true => exact absurd (hq hb) (q4 hb).1
      | false =>
        rw [q3 hb]
        simp only [pd, hb, Bool.false_eq_true, if_false, List.nil_append, List.length_nil]
        omega
theorem B6.gr (h : B6 L a b I O ws bs t) : B6 L a (grL b 10) I O ws bs t ∧ (grL b 10).rc = b.rc ∧ ∀ j, QD a b j → QE a (grL b 10) j := by
  have hro := h.hb.P.2.2.2.1
  have e : grL b 10 = { b with ro := b.ro + min 10 (1024 - b.ro) } := if_pos ⟨h.hb.P, by decide⟩
  have hR := h.hb.gr 10
  rw [e] at hR ⊢
  refine ⟨⟨h.ha, hR, h.ra, h.ka, h.wb, h.ib, h.ub, h.l1, h.l2, h.io, h.k1, h.k2, h.nI, h.t0, h.t1, h.kw⟩, rfl, fun j hj => ⟨?_, hj.1, fun hj1 => ⟨(hj.2 hj1).1, ?_, (hj.2 hj1).2.2⟩⟩⟩
  all_goals dsimp only; omega
theorem B6.pb (h : B6 L a b I O ws bs t) : B6 L a (poL b) I O ws bs t ∧ (poL b).rc = b.rc ∧ (poK b = true → ∃ c, ckP c ∧ poB b = enB c ∧ c.sq = 0 ∧ c.ak = (poL b).rc ∧ c.ak ≠ 0 ∧ c.ct = (poL b).ct ∧ c.d = []) ∧ ∀ j, QE a b j → QF a (poL b) (poK b) j := by
  have hP := h.hb.P
  have hM : poM b = b := if_neg (fun e => e.2.elim (fun e => e (by rw [h.wb]; rfl)) (fun e => by rw [h.ib] at e; cases e))
  have hR := h.hb.po
  by_cases ha : b.ak = 0
  · obtain ⟨e1, e2, e3⟩ := po_id hP hM h.ub ha
    rw [e1, e3]
    exact ⟨h, rfl, fun e => (by cases e), fun j hj => ⟨hj.1, fun hb => absurd ha (hj.2.1 hb).2, fun hj1 => ⟨(hj.2.2 hj1).1, (hj.2.2 hj1).2.2⟩⟩⟩
  · obtain ⟨_, _, h3, _, h5, h6, _⟩ := id hP
    have hak : b.ak = b.rc := h5.elim (fun e => absurd e ha) id
    obtain ⟨e1, e2, e3⟩ := po_do hP hM (.inr ha) (c := ⟨0, b.ak, b.ct, false, []⟩) (by simp [poC, h.ub, ha])
    rw [e1] at hR ⊢
    rw [e2, e3]
    refine ⟨⟨h.ha, hR, h.ra, h.ka, h.wb, h.ib, h.ub, h.l1, h.l2, h.io, h.k1, h.k2, h.nI, h.t0, h.t1, h.kw⟩, rfl, fun _ => ⟨_, ⟨by dsimp only; omega, by dsimp only; omega, h6, Nat.zero_le _, fun e => absurd e ha, fun _ => ⟨rfl, rfl⟩⟩, rfl, rfl, hak, ha, rfl, rfl⟩, fun j hj => ⟨hj.1, fun hb => ⟨(hj.2.1 hb).1, rfl⟩, fun hj1 => ⟨(hj.2.2 hj1).1, (hj.2.2 hj1).2.2⟩⟩⟩
theorem B6.ra' (h : B6 L a b I O ws bs t) {q : List Int} (g : ∃ c, ckP c ∧ q = enB c ∧ c.sq = 0 ∧ c.ak = b.rc ∧ c.ak ≠ 0 ∧ c.ct = b.ct ∧ c.d = []) : (reE a q = 0 ∧ Okb q ∧ q.length ≤ 68) ∧ B6 L (reR a q) b I O ws bs t ∧ ∀ j, QF a b true j → QG (reR a q) b j := by
  obtain ⟨c, c1, rfl, c2, c3, c4, c5, c6⟩ := g
  obtain ⟨d1, d2⟩ := de_en c1
  obtain ⟨e1, _, _, e4⟩ := re_1 h.ha.P d1 rfl (by rw [d2]; exact c2)
  have hR := h.ha.re (enB c)
  rw [d2] at e1
  rw [e1] at hR ⊢
  refine ⟨⟨e4, enB_ok (by rw [c6]; exact .nil), enB_len c⟩, ?_⟩
  by_cases hd : a.bu = true ∧ c.ak = a.sq
  · have e : reA a c = { a with w := a.s.drop c.ct.toNat ++ a.w, s := [], sb := false, bu := false } := if_pos hd
    rw [e] at hR ⊢
    have hs : a.sq = b.rc := by rw [← hd.2, c3]
    refine ⟨⟨hR, h.hb, h.ra, h.ka, h.wb, h.ib, h.ub, fun _ => hs.symm, fun e => (by cases e), ?_, ?_, ?_, h.nI, h.t0, h.t1, h.kw⟩, fun j hj => ⟨hj.1, rfl, fun hj1 => ?_⟩⟩
    · rw [h.io]
      simp only [pd, hd.1, hs, c5, if_true, Bool.false_eq_true, if_false, List.nil_append]
    · have := h.k1
      simp only [un, hd.1, hs, Bool.true_and, decide_true, Bool.not_true, Bool.false_and, Bool.toNat_false] at this ⊢
      omega
    · intro hw
      rcases h.k2 hw with e | e | ⟨e, _⟩
      · exact .inl e
      · exact .inr (.inl e)
      · simp [un, hs] at e
    · obtain ⟨q1, q2⟩ := hj.2.2 hj1
      refine ⟨q1, ?_⟩
      simp only [pd, hd.1, hs, if_true] at q2
      rw [c5]; exact q2
  · have e : reA a c = a := if_neg hd
    rw [e]
    refine ⟨h, fun j hj => ?_⟩
    have hb : a.bu = false := by
      cases hb : a.bu with
      | false => rfl
      | true => exact absurd ⟨hb, by rw [c3]; exact ((hj.2.1 hb).1).symm⟩ hd
    refine ⟨hj.1, hb, fun hj1 => ?_⟩
    obtain ⟨q1, q2⟩ := hj.2.2 hj1
    simp only [pd, hb, Bool.false_eq_true, if_false, List.nil_append] at q2
    exact ⟨q1, q2⟩
theorem QF.no {j : Nat} (hj : QF a b false j) : QG a b j := by
  have hb : a.bu = false := by
    cases hb : a.bu with
    | false => rfl
    | true => exact absurd (hj.2.1 hb).2 (by decide)
  refine ⟨hj.1, hb, fun hj1 => ?_⟩
  obtain ⟨q1, q2⟩ := hj.2.2 hj1
  simp only [pd, hb, Bool.false_eq_true, if_false, List.nil_append] at q2
  exact ⟨q1, q2⟩
/-- What is checked after every round. -/
theorem B6.ck (h : B6 L a b I O ws bs t) : O.length ≤ I.length ∧ I.take O.length = O ∧ bs ≤ ws := by
  have := h.k1
  rw [h.io]
  exact ⟨by rw [List.length_append]; omega, List.take_left, by omega⟩
theorem J6h.nx {i : Nat} {aw : Bool} (h : J6h L a b I O la ws bs i t aw) (hL : L.length ≤ 200) : J6a L a b I O la ws bs (i + 1) t := by
  obtain ⟨hs, hf, hp⟩ := h
  have h0 := hs.t0
  have h1 := hs.t1
  refine ⟨hs, hf, fun ht => ?_, fun ht => ?_⟩
  · cases aw with
    | true => exact absurd (hp.2 rfl).1 (by omega)
    | false => exact ⟨by have := (hp.1 rfl).1; omega, (hp.1 rfl).2 ht⟩
  · cases aw with
    | true =>
      obtain ⟨_, j, hj, q1, q2, q3⟩ := hp.2 rfl
      refine ⟨j + 1, by omega, fun _ => ⟨q2, q1, ?_⟩, fun h2 => (q3 (by omega)).1⟩
      by_cases hj1 : 1 ≤ j
      · exact (q3 hj1).2
      · have := congrArg List.length hs.io
        have hn := hs.nI
        simp only [pd, q2, Bool.false_eq_true, if_false, List.nil_append, List.length_append] at this
        omega
    | false =>
      refine ⟨0, by have := (hp.1 rfl).1; omega, fun e => absurd e (by omega), fun e => absurd e (by omega)⟩
theorem J6a.end {i : Nat} (h : J6a L a b I O la ws bs i t) (hL : L.length ≤ 200) (hi : 400 ≤ i) : I = O ∧ (0 < bs ↔ 0 < ws) := by
  obtain ⟨hs, _, hp1, hp2⟩ := h
  have h1 := hs.t1
  by_cases ht : t < L.length
  · have := (hp1 ht).1; omega
  · obtain ⟨j, hj, q1, q2⟩ := hp2 (by omega)
    obtain ⟨r1, r2, r3⟩ := q1 (by omega)
    have r4 := q2 (by omega)
    have hw : a.w = [] := List.length_eq_zero_iff.1 (by omega)
    refine ⟨?_, ?_⟩
    · have := hs.io
      simpa [pd, r1, hw] using this
    · have hk := hs.k1
      refine ⟨fun e => by omega, fun e => ?_⟩
      rcases hs.k2 e with e | e | ⟨e, _⟩
      · exact e
      · rw [r4] at e; cases e
      · simp [un, r1] at e
end
theorem wrN_le (l : Ln) (d : List Int) : wrN l d ≤ d.length := by unfold wrN; split <;> omega
theorem QC.no {a b : Ln} {la : List Int} {j : Nat} (h : QC a b la j) (hb : a.bu = false) : QD a b j := by
  refine ⟨fun e => (by rw [hb] at e; cases e), fun hj => ?_⟩
  obtain ⟨q1, q2, q3, _⟩ := h.1 hj
  refine ⟨q1, q2, ?_⟩
  rw [q3 hb]
  simp only [pd, hb, Bool.false_eq_true, if_false, List.nil_append, List.length_nil]
  omega
theorem pka_ne {L : List Int} {a b : Ln} {I O : List Int} {ws bs : Nat} {t : Int} (h : B6 L a b I O ws bs t) (hb : a.bu = true) : enB (pka a) ≠ [] := by
  have := (enB_q (h.pk hb).1 (h.pk hb).2.1).n.1
  intro e
  rw [e] at this
  simp at this
structure K6a (L : List Int) where
  a : Ln
  b : Ln
  I : List Int
  O : List Int
  la : List Int
  ws : Nat
  bs : Nat
  i : Nat
  t : Int
  h : J6a L a b I O la ws bs i t
def S6a (L : List Int) (p : K6a L) : SL := ⟨[(3, .ptr 2176 0), (4, .ptr 320 0), (5, .ptr 384 0), (6, .vw 3200 0 0 0), (7, .vw 3264 0 0 0), (8, .int .i64 p.ws), (9, .int .i64 p.bs), (10, .lst [.int .u8 0] (u8s p.la)), (11, .int .i64 p.i)], [(2176, .cells [.lst [.int .u8 0] (u8s L), .int .i64 p.t]), (320, .cells [.lst [.int .u8 0] (u8s p.a.w), .bool p.a.wi, .lst [.int .u8 0] (u8s p.a.s), .bool p.a.sb, .bool p.a.bu, .int .i64 p.a.sq, .int .i64 p.a.rc, .int .i64 p.a.ro, .int .i64 p.a.ak, .int .i64 p.a.ct]), (384, .cells [.lst [.int .u8 0] (u8s p.b.w), .bool p.b.wi, .lst [.int .u8 0] (u8s p.b.s), .bool p.b.sb, .bool p.b.bu, .int .i64 p.b.sq, .int .i64 p.b.rc, .int .i64 p.b.ro, .int .i64 p.b.ak, .int .i64 p.b.ct]), (3200, .buf 5 [.int .u8 0] (u8s p.I)), (3264, .buf 5 [.int .u8 0] (u8s p.O))]⟩
abbrev L6a (L : List Int) : LI := ⟨K6a L, S6a L, fun p => 400 - p.i, fun p q => True⟩
theorem L6aS (L : List Int) : (L6a L).S = S6a L := rfl
theorem L6aM (L : List Int) (p : K6a L) : (L6a L).μ p = 400 - p.i := rfl
theorem L6aR (L : List Int) (p q : K6a L) : (L6a L).R p q = (True) := rfl
structure K6b (L : List Int) where
  a : Ln
  b : Ln
  I : List Int
  O : List Int
  la : List Int
  ws : Nat
  bs : Nat
  i : Nat
  t : Int
  aw : Bool
  h : J6b L a b I O la ws bs i t aw
def S6b (L : List Int) (p : K6b L) : SL := ⟨[(3, .ptr 2176 0), (4, .ptr 320 0), (5, .ptr 384 0), (6, .vw 3200 0 0 0), (7, .vw 3264 0 0 0), (8, .int .i64 p.ws), (9, .int .i64 p.bs), (10, .lst [.int .u8 0] (u8s p.la)), (11, .int .i64 p.i), (12, .bool p.aw)], [(2176, .cells [.lst [.int .u8 0] (u8s L), .int .i64 p.t]), (320, .cells [.lst [.int .u8 0] (u8s p.a.w), .bool p.a.wi, .lst [.int .u8 0] (u8s p.a.s), .bool p.a.sb, .bool p.a.bu, .int .i64 p.a.sq, .int .i64 p.a.rc, .int .i64 p.a.ro, .int .i64 p.a.ak, .int .i64 p.a.ct]), (384, .cells [.lst [.int .u8 0] (u8s p.b.w), .bool p.b.wi, .lst [.int .u8 0] (u8s p.b.s), .bool p.b.sb, .bool p.b.bu, .int .i64 p.b.sq, .int .i64 p.b.rc, .int .i64 p.b.ro, .int .i64 p.b.ak, .int .i64 p.b.ct]), (3200, .buf 5 [.int .u8 0] (u8s p.I)), (3264, .buf 5 [.int .u8 0] (u8s p.O))]⟩
abbrev L6b (L : List Int) : LI := ⟨K6b L, S6b L, fun p => 400 - p.i, fun p q => p.i = q.i⟩
theorem L6bS (L : List Int) : (L6b L).S = S6b L := rfl
theorem L6bM (L : List Int) (p : K6b L) : (L6b L).μ p = 400 - p.i := rfl
theorem L6bR (L : List Int) (p q : K6b L) : (L6b L).R p q = (p.i = q.i) := rfl
structure K6c (L : List Int) where
  a : Ln
  b : Ln
  I : List Int
  O : List Int
  la : List Int
  ws : Nat
  bs : Nat
  i : Nat
  t : Int
  aw : Bool
  q : List Int
  pk : Bool
  h : J6c L a b I O la ws bs i t aw q pk
def S6c (L : List Int) (p : K6c L) : SL := ⟨[(3, .ptr 2176 0), (4, .ptr 320 0), (5, .ptr 384 0), (6, .vw 3200 0 0 0), (7, .vw 3264 0 0 0), (8, .int .i64 p.ws), (9, .int .i64 p.bs), (10, .lst [.int .u8 0] (u8s p.la)), (11, .int .i64 p.i), (12, .bool p.aw), (17, .lst [.int .u8 0] (u8s p.q)), (18, .bool p.pk)], [(2176, .cells [.lst [.int .u8 0] (u8s L), .int .i64 p.t]), (320, .cells [.lst [.int .u8 0] (u8s p.a.w), .bool p.a.wi, .lst [.int .u8 0] (u8s p.a.s), .bool p.a.sb, .bool p.a.bu, .int .i64 p.a.sq, .int .i64 p.a.rc, .int .i64 p.a.ro, .int .i64 p.a.ak, .int .i64 p.a.ct]), (384, .cells [.lst [.int .u8 0] (u8s p.b.w), .bool p.b.wi, .lst [.int .u8 0] (u8s p.b.s), .bool p.b.sb, .bool p.b.bu, .int .i64 p.b.sq, .int .i64 p.b.rc, .int .i64 p.b.ro, .int .i64 p.b.ak, .int .i64 p.b.ct]), (3200, .buf 5 [.int .u8 0] (u8s p.I)), (3264, .buf 5 [.int .u8 0] (u8s p.O))]⟩
abbrev L6c (L : List Int) : LI := ⟨K6c L, S6c L, fun p => 400 - p.i, fun p q => p.i = q.i⟩
theorem L6cS (L : List Int) : (L6c L).S = S6c L := rfl
theorem L6cM (L : List Int) (p : K6c L) : (L6c L).μ p = 400 - p.i := rfl
theorem L6cR (L : List Int) (p q : K6c L) : (L6c L).R p q = (p.i = q.i) := rfl
structure K6d (L : List Int) where
  a : Ln
  b : Ln
  I : List Int
  O : List Int
  la : List Int
  ws : Nat
  bs : Nat
  i : Nat
  t : Int
  aw : Bool
  pk : Bool
  h : J6d L a b I O la ws bs i t aw pk
def S6d (L : List Int) (p : K6d L) : SL := ⟨[(3, .ptr 2176 0), (4, .ptr 320 0), (5, .ptr 384 0), (6, .vw 3200 0 0 0), (7, .vw 3264 0 0 0), (8, .int .i64 p.ws), (9, .int .i64 p.bs), (10, .lst [.int .u8 0] (u8s p.la)), (11, .int .i64 p.i), (12, .bool p.aw), (18, .bool p.pk)], [(2176, .cells [.lst [.int .u8 0] (u8s L), .int .i64 p.t]), (320, .cells [.lst [.int .u8 0] (u8s p.a.w), .bool p.a.wi, .lst [.int .u8 0] (u8s p.a.s), .bool p.a.sb, .bool p.a.bu, .int .i64 p.a.sq, .int .i64 p.a.rc, .int .i64 p.a.ro, .int .i64 p.a.ak, .int .i64 p.a.ct]), (384, .cells [.lst [.int .u8 0] (u8s p.b.w), .bool p.b.wi, .lst [.int .u8 0] (u8s p.b.s), .bool p.b.sb, .bool p.b.bu, .int .i64 p.b.sq, .int .i64 p.b.rc, .int .i64 p.b.ro, .int .i64 p.b.ak, .int .i64 p.b.ct]), (3200, .buf 5 [.int .u8 0] (u8s p.I)), (3264, .buf 5 [.int .u8 0] (u8s p.O))]⟩
abbrev L6d (L : List Int) : LI := ⟨K6d L, S6d L, fun p => 400 - p.i, fun p q => p.i = q.i⟩
theorem L6dS (L : List Int) : (L6d L).S = S6d L := rfl
theorem L6dM (L : List Int) (p : K6d L) : (L6d L).μ p = 400 - p.i := rfl
theorem L6dR (L : List Int) (p q : K6d L) : (L6d L).R p q = (p.i = q.i) := rfl
structure K6e (L : List Int) where
  a : Ln
  b : Ln
  I : List Int
  O : List Int
  la : List Int
  ws : Nat
  bs : Nat
  i : Nat
  t : Int
  aw : Bool
  h : J6e L a b I O la ws bs i t aw
def S6e (L : List Int) (p : K6e L) : SL := ⟨[(3, .ptr 2176 0), (4, .ptr 320 0), (5, .ptr 384 0), (6, .vw 3200 0 0 0), (7, .vw 3264 0 0 0), (8, .int .i64 p.ws), (9, .int .i64 p.bs), (10, .lst [.int .u8 0] (u8s p.la)), (11, .int .i64 p.i), (12, .bool p.aw)], [(2176, .cells [.lst [.int .u8 0] (u8s L), .int .i64 p.t]), (320, .cells [.lst [.int .u8 0] (u8s p.a.w), .bool p.a.wi, .lst [.int .u8 0] (u8s p.a.s), .bool p.a.sb, .bool p.a.bu, .int .i64 p.a.sq, .int .i64 p.a.rc, .int .i64 p.a.ro, .int .i64 p.a.ak, .int .i64 p.a.ct]), (384, .cells [.lst [.int .u8 0] (u8s p.b.w), .bool p.b.wi, .lst [.int .u8 0] (u8s p.b.s), .bool p.b.sb, .bool p.b.bu, .int .i64 p.b.sq, .int .i64 p.b.rc, .int .i64 p.b.ro, .int .i64 p.b.ak, .int .i64 p.b.ct]), (3200, .buf 5 [.int .u8 0] (u8s p.I)), (3264, .buf 5 [.int .u8 0] (u8s p.O))]⟩
abbrev L6e (L : List Int) : LI := ⟨K6e L, S6e L, fun p => 400 - p.i, fun p q => p.i = q.i⟩
theorem L6eS (L : List Int) : (L6e L).S = S6e L := rfl
theorem L6eM (L : List Int) (p : K6e L) : (L6e L).μ p = 400 - p.i := rfl
theorem L6eR (L : List Int) (p q : K6e L) : (L6e L).R p q = (p.i = q.i) := rfl
structure K6f (L : List Int) where
  a : Ln
  b : Ln
  I : List Int
  O : List Int
  la : List Int
  ws : Nat
  bs : Nat
  i : Nat
  t : Int
  aw : Bool
  h : J6f L a b I O la ws bs i t aw
def S6f (L : List Int) (p : K6f L) : SL := ⟨[(3, .ptr 2176 0), (4, .ptr 320 0), (5, .ptr 384 0), (6, .vw 3200 0 0 0), (7, .vw 3264 0 0 0), (8, .int .i64 p.ws), (9, .int .i64 p.bs), (10, .lst [.int .u8 0] (u8s p.la)), (11, .int .i64 p.i), (12, .bool p.aw)], [(2176, .cells [.lst [.int .u8 0] (u8s L), .int .i64 p.t]), (320, .cells [.lst [.int .u8 0] (u8s p.a.w), .bool p.a.wi, .lst [.int .u8 0] (u8s p.a.s), .bool p.a.sb, .bool p.a.bu, .int .i64 p.a.sq, .int .i64 p.a.rc, .int .i64 p.a.ro, .int .i64 p.a.ak, .int .i64 p.a.ct]), (384, .cells [.lst [.int .u8 0] (u8s p.b.w), .bool p.b.wi, .lst [.int .u8 0] (u8s p.b.s), .bool p.b.sb, .bool p.b.bu, .int .i64 p.b.sq, .int .i64 p.b.rc, .int .i64 p.b.ro, .int .i64 p.b.ak, .int .i64 p.b.ct]), (3200, .buf 5 [.int .u8 0] (u8s p.I)), (3264, .buf 5 [.int .u8 0] (u8s p.O))]⟩
abbrev L6f (L : List Int) : LI := ⟨K6f L, S6f L, fun p => 400 - p.i, fun p q => p.i = q.i⟩
theorem L6fS (L : List Int) : (L6f L).S = S6f L := rfl
theorem L6fM (L : List Int) (p : K6f L) : (L6f L).μ p = 400 - p.i := rfl
theorem L6fR (L : List Int) (p q : K6f L) : (L6f L).R p q = (p.i = q.i) := rfl
structure K6g (L : List Int) where
  a : Ln
  b : Ln
  I : List Int
  O : List Int
  la : List Int
  ws : Nat
  bs : Nat
  i : Nat
  t : Int
  aw : Bool
  q : List Int
  qk : Bool
  h : J6g L a b I O la ws bs i t aw q qk
def S6g (L : List Int) (p : K6g L) : SL := ⟨[(3, .ptr 2176 0), (4, .ptr 320 0), (5, .ptr 384 0), (6, .vw 3200 0 0 0), (7, .vw 3264 0 0 0), (8, .int .i64 p.ws), (9, .int .i64 p.bs), (10, .lst [.int .u8 0] (u8s p.la)), (11, .int .i64 p.i), (12, .bool p.aw), (24, .lst [.int .u8 0] (u8s p.q)), (25, .bool p.qk)], [(2176, .cells [.lst [.int .u8 0] (u8s L), .int .i64 p.t]), (320, .cells [.lst [.int .u8 0] (u8s p.a.w), .bool p.a.wi, .lst [.int .u8 0] (u8s p.a.s), .bool p.a.sb, .bool p.a.bu, .int .i64 p.a.sq, .int .i64 p.a.rc, .int .i64 p.a.ro, .int .i64 p.a.ak, .int .i64 p.a.ct]), (384, .cells [.lst [.int .u8 0] (u8s p.b.w), .bool p.b.wi, .lst [.int .u8 0] (u8s p.b.s), .bool p.b.sb, .bool p.b.bu, .int .i64 p.b.sq, .int .i64 p.b.rc, .int .i64 p.b.ro, .int .i64 p.b.ak, .int .i64 p.b.ct]), (3200, .buf 5 [.int .u8 0] (u8s p.I)), (3264, .buf 5 [.int .u8 0] (u8s p.O))]⟩
abbrev L6g (L : List Int) : LI := ⟨K6g L, S6g L, fun p => 400 - p.i, fun p q => p.i = q.i⟩
theorem L6gS (L : List Int) : (L6g L).S = S6g L := rfl
theorem L6gM (L : List Int) (p : K6g L) : (L6g L).μ p = 400 - p.i := rfl
theorem L6gR (L : List Int) (p q : K6g L) : (L6g L).R p q = (p.i = q.i) := rfl
structure K6h (L : List Int) where
  a : Ln
  b : Ln
  I : List Int
  O : List Int
  la : List Int
  ws : Nat
  bs : Nat
  i : Nat
  t : Int
  aw : Bool
  h : J6h L a b I O la ws bs i t aw
def S6h (L : List Int) (p : K6h L) : SL := ⟨[(3, .ptr 2176 0), (4, .ptr 320 0), (5, .ptr 384 0), (6, .vw 3200 0 0 0), (7, .vw 3264 0 0 0), (8, .int .i64 p.ws), (9, .int .i64 p.bs), (10, .lst [.int .u8 0] (u8s p.la)), (11, .int .i64 p.i)], [(2176, .cells [.lst [.int .u8 0] (u8s L), .int .i64 p.t]), (320, .cells [.lst [.int .u8 0] (u8s p.a.w), .bool p.a.wi, .lst [.int .u8 0] (u8s p.a.s), .bool p.a.sb, .bool p.a.bu, .int .i64 p.a.sq, .int .i64 p.a.rc, .int .i64 p.a.ro, .int .i64 p.a.ak, .int .i64 p.a.ct]), (384, .cells [.lst [.int .u8 0] (u8s p.b.w), .bool p.b.wi, .lst [.int .u8 0] (u8s p.b.s), .bool p.b.sb, .bool p.b.bu, .int .i64 p.b.sq, .int .i64 p.b.rc, .int .i64 p.b.ro, .int .i64 p.b.ak, .int .i64 p.b.ct]), (3200, .buf 5 [.int .u8 0] (u8s p.I)), (3264, .buf 5 [.int .u8 0] (u8s p.O))]⟩
abbrev L6h (L : List Int) : LI := ⟨K6h L, S6h L, fun p => 400 - p.i, fun p q => p.i = q.i⟩
theorem L6hS (L : List Int) : (L6h L).S = S6h L := rfl
theorem L6hM (L : List Int) (p : K6h L) : (L6h L).μ p = 400 - p.i := rfl
theorem L6hR (L : List Int) (p q : K6h L) : (L6h L).R p q = (p.i = q.i) := rfl
structure K6i (L : List Int) where
  a : Ln
  b : Ln
  I : List Int
  O : List Int
  la : List Int
  ws : Nat
  bs : Nat
  i : Nat
  t : Int
  h : J6i L a b I O la ws bs i t
def S6i (L : List Int) (p : K6i L) : SL := ⟨[(3, .ptr 2176 0), (4, .ptr 320 0), (5, .ptr 384 0), (6, .vw 3200 0 0 0), (7, .vw 3264 0 0 0), (8, .int .i64 p.ws), (9, .int .i64 p.bs), (10, .lst [.int .u8 0] (u8s p.la)), (11, .int .i64 p.i), (12, .bool false)], [(2176, .cells [.lst [.int .u8 0] (u8s L), .int .i64 p.t]), (320, .cells [.lst [.int .u8 0] (u8s p.a.w), .bool p.a.wi, .lst [.int .u8 0] (u8s p.a.s), .bool p.a.sb, .bool p.a.bu, .int .i64 p.a.sq, .int .i64 p.a.rc, .int .i64 p.a.ro, .int .i64 p.a.ak, .int .i64 p.a.ct]), (384, .cells [.lst [.int .u8 0] (u8s p.b.w), .bool p.b.wi, .lst [.int .u8 0] (u8s p.b.s), .bool p.b.sb, .bool p.b.bu, .int .i64 p.b.sq, .int .i64 p.b.rc, .int .i64 p.b.ro, .int .i64 p.b.ak, .int .i64 p.b.ct]), (3200, .buf 5 [.int .u8 0] (u8s p.I)), (3264, .buf 5 [.int .u8 0] (u8s p.O))]⟩
abbrev L6i (L : List Int) : LI := ⟨K6i L, S6i L, fun p => 400 - p.i, fun p q => p.i = q.i⟩
theorem L6iS (L : List Int) : (L6i L).S = S6i L := rfl
theorem L6iM (L : List Int) (p : K6i L) : (L6i L).μ p = 400 - p.i := rfl
theorem L6iR (L : List Int) (p q : K6i L) : (L6i L).R p q = (p.i = q.i) := rfl
structure K6j (L : List Int) where
  a : Ln
  b : Ln
  I : List Int
  O : List Int
  la : List Int
  ws : Nat
  bs : Nat
  i : Nat
  t : Int
  aw : Bool
  h : J6j L a b I O la ws bs i t aw
def S6j (L : List Int) (p : K6j L) : SL := ⟨[(3, .ptr 2176 0), (4, .ptr 320 0), (5, .ptr 384 0), (6, .vw 3200 0 0 0), (7, .vw 3264 0 0 0), (8, .int .i64 p.ws), (9, .int .i64 p.bs), (10, .lst [.int .u8 0] (u8s p.la)), (11, .int .i64 p.i), (12, .bool p.aw)], [(2176, .cells [.lst [.int .u8 0] (u8s L), .int .i64 p.t]), (320, .cells [.lst [.int .u8 0] (u8s p.a.w), .bool p.a.wi, .lst [.int .u8 0] (u8s p.a.s), .bool p.a.sb, .bool p.a.bu, .int .i64 p.a.sq, .int .i64 p.a.rc, .int .i64 p.a.ro, .int .i64 p.a.ak, .int .i64 p.a.ct]), (384, .cells [.lst [.int .u8 0] (u8s p.b.w), .bool p.b.wi, .lst [.int .u8 0] (u8s p.b.s), .bool p.b.sb, .bool p.b.bu, .int .i64 p.b.sq, .int .i64 p.b.rc, .int .i64 p.b.ro, .int .i64 p.b.ak, .int .i64 p.b.ct]), (3200, .buf 5 [.int .u8 0] (u8s p.I)), (3264, .buf 5 [.int .u8 0] (u8s p.O))]⟩
abbrev L6j (L : List Int) : LI := ⟨K6j L, S6j L, fun p => 400 - p.i, fun p q => p.i = q.i⟩
theorem L6jS (L : List Int) : (L6j L).S = S6j L := rfl
theorem L6jM (L : List Int) (p : K6j L) : (L6j L).μ p = 400 - p.i := rfl
theorem L6jR (L : List Int) (p q : K6j L) : (L6j L).R p q = (p.i = q.i) := rfl
structure K6k (L : List Int) where
  a : Ln
  b : Ln
  I : List Int
  O : List Int
  la : List Int
  ws : Nat
  bs : Nat
  i : Nat
  t : Int
  aw : Bool
  q : List Int
  h : J6k L a b I O la ws bs i t aw q
def S6k (L : List Int) (p : K6k L) : SL := ⟨[(3, .ptr 2176 0), (4, .ptr 320 0), (5, .ptr 384 0), (6, .vw 3200 0 0 0), (7, .vw 3264 0 0 0), (8, .int .i64 p.ws), (9, .int .i64 p.bs), (10, .lst [.int .u8 0] (u8s p.la)), (11, .int .i64 p.i), (12, .bool p.aw), (24, .lst [.int .u8 0] (u8s p.q))], [(2176, .cells [.lst [.int .u8 0] (u8s L), .int .i64 p.t]), (320, .cells [.lst [.int .u8 0] (u8s p.a.w), .bool p.a.wi, .lst [.int .u8 0] (u8s p.a.s), .bool p.a.sb, .bool p.a.bu, .int .i64 p.a.sq, .int .i64 p.a.rc, .int .i64 p.a.ro, .int .i64 p.a.ak, .int .i64 p.a.ct]), (384, .cells [.lst [.int .u8 0] (u8s p.b.w), .bool p.b.wi, .lst [.int .u8 0] (u8s p.b.s), .bool p.b.sb, .bool p.b.bu, .int .i64 p.b.sq, .int .i64 p.b.rc, .int .i64 p.b.ro, .int .i64 p.b.ak, .int .i64 p.b.ct]), (3200, .buf 5 [.int .u8 0] (u8s p.I)), (3264, .buf 5 [.int .u8 0] (u8s p.O))]⟩
abbrev L6k (L : List Int) : LI := ⟨K6k L, S6k L, fun p => 400 - p.i, fun p q => p.i = q.i⟩
theorem L6kS (L : List Int) : (L6k L).S = S6k L := rfl
theorem L6kM (L : List Int) (p : K6k L) : (L6k L).μ p = 400 - p.i := rfl
theorem L6kR (L : List Int) (p q : K6k L) : (L6k L).R p q = (p.i = q.i) := rfl
def I6 (L : List Int) : Nat → LI := fun n => if n = 0 then L6a L else if n = 1 then L6b L else if n = 2 then L6c L else if n = 3 then L6d L else if n = 4 then L6e L else if n = 5 then L6f L else if n = 6 then L6g L else if n = 7 then L6h L else if n = 8 then L6i L else if n = 9 then L6j L else L6k L
theorem I6_0 (L : List Int) : I6 L 0 = L6a L := rfl
theorem I6_1 (L : List Int) : I6 L 1 = L6b L := rfl
theorem I6_2 (L : List Int) : I6 L 2 = L6c L := rfl
theorem I6_3 (L : List Int) : I6 L 3 = L6d L := rfl
theorem I6_4 (L : List Int) : I6 L 4 = L6e L := rfl
theorem I6_5 (L : List Int) : I6 L 5 = L6f L := rfl
theorem I6_6 (L : List Int) : I6 L 6 = L6g L := rfl
theorem I6_7 (L : List Int) : I6 L 7 = L6h L := rfl
theorem I6_8 (L : List Int) : I6 L 8 = L6i L := rfl
theorem I6_9 (L : List Int) : I6 L 9 = L6j L := rfl
theorem I6_10 (L : List Int) : I6 L 10 = L6k L := rfl
end Go.Proofs.Ytknapnleecepaaa

/- A part of the proof: symbolic evaluation of the program's functions, proved sound against the model; no condition. -/
import Derived.Test.YtfmndopgbikgjaaEvZ
import Derived.Test.YtfmndopgbikgjaaChecked
namespace Go.Proofs.Ytfmndopgbikgjaa
open Go Go.RowKit Go.Ev
set_option linter.unusedSimpArgs false
set_option linter.unusedVariables false
set_option maxRecDepth 20000
/-- baseboard/baseboardlaw37.EscapeDivides [22, 23, 25] -/
def rc3 : RC :=
  (.seq
   (.region [
     ⟨(some 5), .box 2 (.t 2), none, []⟩,
     ⟨(some 6), .mov (.c (.bool false)), none, []⟩] false)
   (.seq
    (.seq
     (.region [
       ⟨(some 22), .call 9 [], none, []⟩,
       ⟨(some 23), .not (.t 22), none, [0]⟩] false)
     (.cond (.t 23)
      (.seq
       (.region [
         ⟨(some 6), .mov (.c (.bool false)), none, []⟩] false)
       .ret)
      .skip))
    (.seq
     (.seq
      (.region [
        ⟨(some 24), .mov (.t 0), none, []⟩,
        ⟨(some 25), .len 0 (.t 24), none, [0]⟩,
        ⟨(some 26), .cmp .gtr 0 (.t 25) (.c (.int .i64 500)), none, [1]⟩] false)
      (.cond (.t 26)
       (.seq
        (.region [
          ⟨(some 6), .mov (.c (.bool true)), none, []⟩] false)
        .ret)
       .skip))
     (.seq
      (.region [
        ⟨(some 27), .mov (.t 0), none, []⟩,
        ⟨(some 28), .call 10 [(.t 27)], none, [0]⟩,
        ⟨(some 7), .mov (.t 28), none, [1, 1, 0, 1]⟩] false)
      (.seq
       (.region [
         ⟨(some 29), .mov (.t 1), none, []⟩,
         ⟨(some 30), .conv .i64 (.t 29), none, [0]⟩,
         ⟨(some 31), .mov (.t 7), none, []⟩,
         ⟨(some 32), .len 0 (.t 31), none, [2]⟩,
         ⟨(some 33), .arith .add (.t 32) (.c (.int .i64 1)), none, [3]⟩,
         ⟨(some 34), .arith .rem (.t 30) (.t 33), none, [1, 4]⟩,
         ⟨(some 8), .mov (.t 34), none, [5, 0, 1, 2, 3, 4, 5]⟩] false)
       (.seq
        (.region [
          ⟨(some 36), .load 2 true (.t 5), none, []⟩,
          ⟨(some 37), .mov (.t 7), none, []⟩,
          ⟨(some 38), .call 11 [(.t 36), (.t 37)], none, [0, 1]⟩,
          ⟨(some 35), .mov (.t 38), none, [2]⟩,
          ⟨(some 39), .extract 0 (.t 35), none, [3]⟩,
          ⟨(some 40), .extract 1 (.t 35), none, [3]⟩,
          ⟨(some 41), .extract 2 (.t 35), none, [3]⟩,
          ⟨(some 9), .alloc [.bool false, .bool false], none, []⟩,
          ⟨none, .store 2 (.t 9) (.t 39), none, [7, 4, 2, 0, 1, 2, 3, 4, 7]⟩,
          ⟨(some 10), .mov (.t 40), none, [5, 8, 0, 1, 2, 3, 4, 5, 7, 8]⟩,
          ⟨(some 11), .mov (.t 41), none, [6, 9, 0, 1, 2, 3, 4, 5, 6, 7, 8, 9]⟩] false)
        (.seq
         (.region [
           ⟨(some 43), .load 2 true (.t 5), none, []⟩,
           ⟨(some 44), .mov (.t 7), none, []⟩,
           ⟨(some 45), .mov (.t 8), none, []⟩,
           ⟨(some 46), .slice 1 (.t 44) none (some (.t 45)), none, [2, 1]⟩,
           ⟨(some 47), .call 11 [(.t 43), (.t 46)], none, [1, 2, 3, 0]⟩,
           ⟨(some 42), .mov (.t 47), none, [0, 3, 2, 1, 4]⟩,
           ⟨(some 48), .extract 0 (.t 42), none, [4, 1, 2, 3, 0, 5]⟩,
           ⟨(some 49), .extract 1 (.t 42), none, [4, 1, 2, 3, 0, 5]⟩,
           ⟨(some 50), .extract 2 (.t 42), none, [4, 1, 2, 3, 0, 5]⟩,
           ⟨(some 12), .alloc [.bool false, .bool false], none, []⟩,
           ⟨none, .store 2 (.t 12) (.t 48), none, [5, 3, 2, 1, 0, 4, 6, 9]⟩,
           ⟨(some 13), .mov (.t 49), none, [9, 6, 5, 4, 3, 2, 1, 0, 10, 7]⟩,
           ⟨(some 14), .mov (.t 50), none, [10, 9, 7, 6, 5, 4, 3, 2, 1, 0, 11, 8]⟩] true)
         (.seq
          (.region [
            ⟨(some 52), .load 2 true (.t 12), none, []⟩,
            ⟨(some 53), .mov (.t 7), none, []⟩,
            ⟨(some 54), .mov (.t 8), none, []⟩,
            ⟨(some 55), .slice 1 (.t 53) (some (.t 54)) none, none, [2, 1]⟩,
            ⟨(some 56), .call 11 [(.t 52), (.t 55)], none, [1, 2, 3, 0]⟩,
            ⟨(some 51), .mov (.t 56), none, [0, 3, 2, 1, 4]⟩,
            ⟨(some 57), .extract 0 (.t 51), none, [4, 1, 2, 3, 0, 5]⟩,
            ⟨(some 58), .extract 1 (.t 51), none, [4, 1, 2, 3, 0, 5]⟩,
            ⟨(some 59), .extract 2 (.t 51), none, [4, 1, 2, 3, 0, 5]⟩,
            ⟨none, .store 2 (.t 12) (.t 57), none, [5, 3, 2, 1, 0, 4, 6]⟩,
            ⟨(some 15), .mov (.t 58), none, [6, 5, 4, 3, 2, 1, 0, 9, 7]⟩,
            ⟨(some 16), .mov (.t 59), none, [9, 7, 6, 5, 4, 3, 2, 1, 0, 10, 8]⟩] true)
          (.seq
           (.region [
             ⟨(some 60), .load 2 true (.t 5), none, []⟩,
             ⟨(some 17), .alloc [.bool false, .bool false], none, []⟩,
             ⟨none, .store 2 (.t 17) (.t 60), none, [1, 0, 0, 1]⟩] false)
           (.seq
            (.region [
              ⟨(some 18), .mov (.c (.nil)), none, []⟩] false)
            (.seq
             (.seq
              (.region [
                ⟨(some 61), .mov (.t 7), none, []⟩,
                ⟨(some 62), .len 0 (.t 61), none, [0]⟩,
                ⟨(some 63), .mov (.c (.int .i64 0)), none, []⟩] false)
              (.block 0
               (.loop 0
                (.seq
                 (.region [
                   ⟨(some 64), .cmp .lss 0 (.t 63) (.t 62), none, []⟩] false)
                 (.seq
                  (.cond (.t 64)
                   .skip
                   (.exit 0))
                  (.seq
                   (.block 1
                    (.seq
                     (.region [
                       ⟨(some 65), .iaddrS [.int .u8 0] (.t 61) (.t 63), none, []⟩,
                       ⟨(some 66), .load 1 false (.t 65), none, [0]⟩,
                       ⟨(some 20), .mov (.t 66), none, [1, 0, 1]⟩] false)
                     (.seq
                      (.region [
                        ⟨(some 21), .mov (.c (.nil)), none, []⟩] false)
                      (.seq
                       (.region [
                         ⟨(some 68), .load 2 true (.t 17), none, []⟩,
                         ⟨(some 69), .mov (.t 20), none, []⟩,
                         ⟨(some 70), .call 12 [(.t 68), (.t 69)], none, [0, 1]⟩,
                         ⟨(some 67), .mov (.t 70), none, [2]⟩,
                         ⟨(some 71), .extract 0 (.t 67), none, [3]⟩,
                         ⟨(some 72), .extract 1 (.t 67), none, [3]⟩,
                         ⟨(some 73), .extract 2 (.t 67), none, [3]⟩,
                         ⟨none, .store 2 (.t 17) (.t 71), none, [4, 2, 0, 1, 2, 3, 4]⟩,
                         ⟨(some 21), .mov (.t 72), none, [5, 7, 0, 1, 2, 3, 4, 5, 7]⟩] false)
                       (.region [
                         ⟨(some 74), .mov (.t 18), none, []⟩,
                         ⟨(some 75), .mov (.t 21), none, []⟩,
                         ⟨(some 76), .append 5 1 [.int .u8 0] (.t 74) (.t 75), none, [0, 1]⟩,
                         ⟨(some 18), .mov (.t 76), none, [2, 2, 0, 1, 2]⟩] false)))))
                   (.region [
                     ⟨(some 77), .arith .add (.t 63) (.c (.int .i64 1)), none, []⟩,
                     ⟨(some 63), .mov (.t 77), none, [0]⟩] false)))))))
             (.seq
              (.splitD [
                ⟨(some 78), .load 2 true (.t 9), none, []⟩,
                ⟨(some 79), .load 2 true (.t 12), none, []⟩,
                ⟨(some 80), .eqa false [1, 1] (.t 78) (.t 79), none, [1, 0]⟩,
                ⟨(some 81), .mov (.t 80), none, [0, 1, 2]⟩,
                ⟨(some 82), .load 2 true (.t 9), (some (81, true)), [2, 1, 0, 3]⟩,
                ⟨(some 83), .load 2 true (.t 17), (some (81, true)), [2, 1, 0, 3]⟩,
                ⟨(some 84), .eqa false [1, 1] (.t 82) (.t 83), (some (81, true)), [0, 1, 2, 3, 5, 4]⟩,
                ⟨(some 85), .pick (.t 81) (.t 84) (.c (.bool false)), none, [4, 5, 2, 1, 0, 6, 3]⟩,
                ⟨(some 86), .mov (.t 85), none, [6, 0, 1, 2, 5, 4, 3, 7]⟩,
                ⟨(some 87), .mov (.t 10), (some (86, true)), [7, 3, 4, 5, 2, 1, 0, 6, 8]⟩,
                ⟨(some 88), .b2s (.t 87), (some (86, true)), [6, 0, 1, 2, 5, 4, 3, 7, 8, 9]⟩,
                ⟨(some 89), .mov (.t 13), (some (86, true)), [7, 3, 4, 5, 2, 1, 0, 6, 8]⟩,
                ⟨(some 90), .appD 5 1 [.int .u8 0] (.c (.nil)) (.t 89), (some (86, true)), [6, 0, 1, 2, 5, 4, 3, 7, 8, 11]⟩,
                ⟨(some 91), .mov (.t 15), (some (86, true)), [7, 3, 4, 5, 2, 1, 0, 6, 8]⟩,
                ⟨(some 92), .appD 5 1 [.int .u8 0] (.t 90) (.t 91), (some (86, true)), [11, 7, 3, 4, 5, 2, 1, 0, 6, 8, 13, 12]⟩,
                ⟨(some 93), .b2s (.t 92), (some (86, true)), [12, 13, 6, 0, 1, 2, 5, 4, 3, 7, 11, 8, 14]⟩,
                ⟨(some 94), .cmp .eql 2 (.t 88) (.t 93), (some (86, true)), [14, 11, 13, 12, 9, 7, 3, 4, 5, 2, 1, 0, 6, 8, 15, 10]⟩,
                ⟨(some 95), .pick (.t 86) (.t 94) (.c (.bool false)), none, [10, 15, 9, 12, 13, 11, 14, 7, 3, 4, 5, 2, 1, 0, 6, 16, 8]⟩,
                ⟨(some 96), .mov (.t 95), none, [8, 16, 6, 0, 1, 2, 5, 4, 3, 7, 11, 13, 12, 9, 15, 10, 14, 17]⟩,
                ⟨(some 97), .mov (.t 18), (some (96, true)), [17, 14, 10, 15, 9, 12, 13, 11, 7, 3, 4, 5, 2, 1, 0, 6, 16, 8, 18]⟩,
                ⟨(some 98), .b2s (.t 97), (some (96, true)), [8, 16, 6, 0, 1, 2, 5, 4, 3, 7, 11, 13, 12, 9, 15, 10, 14, 17, 18, 19]⟩,
                ⟨(some 99), .mov (.t 10), (some (96, true)), [17, 14, 10, 15, 9, 12, 13, 11, 7, 3, 4, 5, 2, 1, 0, 6, 16, 8, 18]⟩,
                ⟨(some 100), .b2s (.t 99), (some (96, true)), [8, 16, 6, 0, 1, 2, 5, 4, 3, 7, 11, 13, 12, 9, 15, 10, 14, 17, 18, 21]⟩,
                ⟨(some 101), .cmp .eql 2 (.t 98) (.t 100), (some (96, true)), [21, 19, 17, 14, 10, 15, 9, 12, 13, 11, 7, 3, 4, 5, 2, 1, 0, 6, 16, 8, 18, 22, 20]⟩,
                ⟨(some 102), .pick (.t 96) (.t 101) (.c (.bool false)), none, [20, 22, 19, 21, 17, 14, 10, 15, 9, 12, 13, 11, 7, 3, 4, 5, 2, 1, 0, 6, 16, 8, 23, 18]⟩,
                ⟨(some 103), .mov (.t 102), none, [23, 8, 16, 6, 0, 1, 2, 5, 4, 3, 7, 11, 13, 12, 9, 15, 10, 14, 17, 21, 19, 22, 20, 18, 24]⟩,
                ⟨(some 104), .mov (.t 11), (some (103, true)), [24, 18, 20, 22, 19, 21, 17, 14, 10, 15, 9, 12, 13, 11, 7, 3, 4, 5, 2, 1, 0, 6, 16, 8, 23, 25]⟩,
                ⟨(some 105), .mov (.t 14), (some (103, true)), [24, 18, 20, 22, 19, 21, 17, 14, 10, 15, 9, 12, 13, 11, 7, 3, 4, 5, 2, 1, 0, 6, 16, 8, 23, 25]⟩,
                ⟨(some 106), .appD 3 8 [.int .i64 0] (.c (.nil)) (.t 105), (some (103, true)), [23, 8, 16, 6, 0, 1, 2, 5, 4, 3, 7, 11, 13, 12, 9, 15, 10, 14, 17, 21, 19, 22, 20, 18, 24, 25, 27]⟩,
                ⟨(some 107), .mov (.t 16), (some (103, true)), [24, 18, 20, 22, 19, 21, 17, 14, 10, 15, 9, 12, 13, 11, 7, 3, 4, 5, 2, 1, 0, 6, 16, 8, 23, 25]⟩,
                ⟨(some 108), .appD 3 8 [.int .i64 0] (.t 106) (.t 107), (some (103, true)), [27, 24, 18, 20, 22, 19, 21, 17, 14, 10, 15, 9, 12, 13, 11, 7, 3, 4, 5, 2, 1, 0, 6, 16, 8, 23, 25, 29, 28]⟩,
                ⟨(some 109), .call 13 [(.t 104), (.t 108)], (some (103, true)), [28, 29, 27, 23, 8, 16, 6, 0, 1, 2, 5, 4, 3, 7, 11, 13, 12, 9, 15, 10, 14, 17, 21, 19, 22, 20, 18, 24, 25, 30, 26]⟩,
                ⟨(some 110), .pick (.t 103) (.t 109) (.c (.bool false)), none, [26, 30, 27, 29, 28, 24, 18, 20, 22, 19, 21, 17, 14, 10, 15, 9, 12, 13, 11, 7, 3, 4, 5, 2, 1, 0, 6, 16, 8, 23, 31, 25]⟩,
                ⟨(some 6), .mov (.t 110), none, [30, 29, 28, 27, 26, 25, 24, 23, 22, 21, 20, 19, 18, 17, 16, 15, 14, 13, 12, 11, 10, 9, 8, 7, 6, 5, 4, 3, 2, 1, 0, 31, 32]⟩])
              .ret))))))))))))
def rv3 : List RV := [.t 6]
theorem rc3_ok : comp Try.prog Try.f3.ntmps (Try.f3.body.getD .skip) = some (erase rc3) := by kernel_rfl
theorem rv3_ok : compRes Try.prog Try.f3.results.toList = some rv3 := by kernel_rfl

/-- baseboard/baseboardlaw37.EscapeStrips [22, 22] -/
def rc4 : RC :=
  (.seq
   (.region [
     ⟨(some 4), .mov (.c (.bool false)), none, []⟩] false)
   (.seq
    (.seq
     (.region [
       ⟨(some 13), .call 9 [], none, []⟩,
       ⟨(some 14), .not (.t 13), none, [0]⟩] false)
     (.cond (.t 14)
      (.seq
       (.region [
         ⟨(some 4), .mov (.c (.bool false)), none, []⟩] false)
       .ret)
      .skip))
    (.seq
     (.seq
      (.region [
        ⟨(some 15), .mov (.t 0), none, []⟩,
        ⟨(some 16), .len 0 (.t 15), none, [0]⟩,
        ⟨(some 17), .cmp .gtr 0 (.t 16) (.c (.int .i64 500)), none, [1]⟩,
        ⟨(some 18), .mov (.t 17), none, [2]⟩,
        ⟨(some 19), .mov (.t 1), (some (18, false)), [3]⟩,
        ⟨(some 20), .len 0 (.t 19), (some (18, false)), [4, 3]⟩,
        ⟨(some 21), .cmp .gtr 0 (.t 20) (.c (.int .i64 500)), (some (18, false)), [5, 3]⟩,
        ⟨(some 22), .pick (.t 18) (.c (.bool true)) (.t 21), none, [3, 6]⟩] false)
      (.cond (.t 22)
       (.seq
        (.region [
          ⟨(some 4), .mov (.c (.bool true)), none, []⟩] false)
        .ret)
       .skip))
     (.seq
      (.seq
       (.region [
         ⟨(some 23), .mov (.t 1), none, []⟩,
         ⟨(some 24), .mov (.t 0), none, []⟩,
         ⟨(some 25), .call 10 [(.t 24)], none, [1]⟩,
         ⟨(some 26), .bsliceO 22 2 [.nil] [(0, (.t 23)), (1, (.t 25))], none, [0, 2]⟩,
         ⟨(some 27), .len 0 (.t 26), none, [3]⟩,
         ⟨(some 28), .mov (.c (.int .i64 0)), none, []⟩] false)
       (.block 0
        (.loop 0
         (.seq
          (.region [
            ⟨(some 29), .cmp .lss 0 (.t 28) (.t 27), none, []⟩] false)
          (.seq
           (.cond (.t 29)
            .skip
            (.exit 0))
           (.seq
            (.block 1
             (.seq
              (.region [
                ⟨(some 30), .iaddrS [.nil] (.t 26) (.t 28), none, []⟩,
                ⟨(some 31), .load 1 false (.t 30), none, [0]⟩,
                ⟨(some 6), .mov (.t 31), none, [1, 0, 1]⟩] false)
              (.seq
               (.region [
                 ⟨(some 32), .mov (.t 6), none, []⟩,
                 ⟨(some 33), .call 14 [(.t 32)], none, [0]⟩,
                 ⟨(some 7), .mov (.t 33), none, [1, 1, 0, 1]⟩] false)
               (.seq
                (.region [
                  ⟨(some 8), .mov (.c (.bool false)), none, []⟩] false)
                (.seq
                 (.seq
                  (.region [
                    ⟨(some 34), .mov (.t 6), none, []⟩,
                    ⟨(some 35), .len 0 (.t 34), none, [0]⟩,
                    ⟨(some 36), .mov (.c (.int .i64 0)), none, []⟩] false)
                  (.block 2
                   (.loop 1
                    (.seq
                     (.region [
                       ⟨(some 37), .cmp .lss 0 (.t 36) (.t 35), none, []⟩] false)
                     (.seq
                      (.cond (.t 37)
                       .skip
                       (.exit 2))
                      (.seq
                       (.block 3
                        (.seq
                         (.region [
                           ⟨(some 38), .iaddrS [.int .u8 0] (.t 34) (.t 36), none, []⟩,
                           ⟨(some 39), .load 1 false (.t 38), none, [0]⟩,
                           ⟨(some 10), .mov (.t 39), none, [1, 0, 1]⟩] false)
                         (.region [
                           ⟨(some 40), .mov (.t 8), none, []⟩,
                           ⟨(some 41), .mov (.t 40), none, [0]⟩,
                           ⟨(some 42), .mov (.t 10), (some (41, false)), [1]⟩,
                           ⟨(some 43), .cmp .eql 0 (.t 42) (.c (.int .u8 27)), (some (41, false)), [2, 1]⟩,
                           ⟨(some 44), .pick (.t 41) (.c (.bool true)) (.t 43), none, [1, 3]⟩,
                           ⟨(some 8), .mov (.t 44), none, [4, 1, 0, 1, 2, 3, 4]⟩] false)))
                       (.region [
                         ⟨(some 45), .arith .add (.t 36) (.c (.int .i64 1)), none, []⟩,
                         ⟨(some 36), .mov (.t 45), none, [0]⟩] false)))))))
                 (.seq
                  (.seq
                   (.region [
                     ⟨(some 46), .mov (.t 7), none, []⟩,
                     ⟨(some 47), .len 0 (.t 46), none, [0]⟩,
                     ⟨(some 48), .mov (.c (.int .i64 0)), none, []⟩] false)
                   (.block 4
                    (.loop 2
                     (.seq
                      (.region [
                        ⟨(some 49), .cmp .lss 0 (.t 48) (.t 47), none, []⟩] false)
                      (.seq
                       (.cond (.t 49)
                        .skip
                        (.exit 4))
                       (.seq
                        (.block 5
                         (.seq
                          (.region [
                            ⟨(some 50), .iaddrS [.int .u8 0] (.t 46) (.t 48), none, []⟩,
                            ⟨(some 51), .load 1 false (.t 50), none, [0]⟩,
                            ⟨(some 12), .mov (.t 51), none, [1, 0, 1]⟩] false)
                          (.seq
                           (.region [
                             ⟨(some 52), .mov (.t 12), none, []⟩,
                             ⟨(some 53), .cmp .eql 0 (.t 52) (.c (.int .u8 27)), none, [0]⟩] false)
                           (.cond (.t 53)
                            (.seq
                             (.region [
                               ⟨(some 4), .mov (.c (.bool false)), none, []⟩] false)
                             .ret)
                            .skip))))
                        (.region [
                          ⟨(some 54), .arith .add (.t 48) (.c (.int .i64 1)), none, []⟩,
                          ⟨(some 48), .mov (.t 54), none, [0]⟩] false)))))))
                  (.seq
                   (.region [
                     ⟨(some 55), .mov (.t 7), none, []⟩,
                     ⟨(some 56), .call 14 [(.t 55)], none, [0]⟩,
                     ⟨(some 57), .b2s (.t 56), none, [0, 1]⟩,
                     ⟨(some 58), .mov (.t 7), none, []⟩,
                     ⟨(some 59), .b2s (.t 58), none, [3]⟩,
                     ⟨(some 60), .cmp .neq 2 (.t 57) (.t 59), none, [3, 1, 0, 4, 2]⟩,
                     ⟨(some 61), .mov (.t 60), none, [2, 4, 0, 3, 1, 5]⟩,
                     ⟨(some 62), .mov (.t 8), (some (61, false)), [5, 1, 3, 0, 4, 2, 6]⟩,
                     ⟨(some 63), .not (.t 62), (some (61, false)), [2, 4, 0, 3, 1, 5, 6, 7]⟩,
                     ⟨(some 64), .mov (.t 63), (some (61, false)), [7, 5, 1, 3, 0, 4, 2, 6, 8]⟩,
                     ⟨(some 65), .mov (.t 7), (some (64, true)), [8, 6, 2, 4, 0, 3, 1, 5, 7, 9]⟩,
                     ⟨(some 66), .b2s (.t 65), (some (64, true)), [7, 5, 1, 3, 0, 4, 2, 6, 8, 9, 10]⟩,
                     ⟨(some 67), .mov (.t 6), (some (64, true)), [8, 6, 2, 4, 0, 3, 1, 5, 7, 9]⟩,
                     ⟨(some 68), .b2s (.t 67), (some (64, true)), [7, 5, 1, 3, 0, 4, 2, 6, 8, 9, 12]⟩,
                     ⟨(some 69), .cmp .neq 2 (.t 66) (.t 68), (some (64, true)), [12, 10, 8, 6, 2, 4, 0, 3, 1, 5, 7, 9, 13, 11]⟩,
                     ⟨(some 70), .pick (.t 64) (.t 69) (.c (.bool false)), (some (61, false)), [11, 13, 10, 12, 8, 2, 4, 0, 3, 1, 5, 7, 6, 14, 9]⟩,
                     ⟨(some 71), .pick (.t 61) (.c (.bool true)) (.t 70), none, [9, 14, 7, 8, 12, 10, 13, 11, 5, 1, 3, 0, 4, 2, 15, 6]⟩,
                     ⟨(some 72), .mov (.t 71), none, [6, 15, 2, 4, 0, 3, 1, 5, 11, 13, 10, 12, 8, 7, 14, 9, 16]⟩,
                     ⟨(some 73), .mov (.t 7), (some (72, false)), [16, 9, 14, 7, 8, 12, 10, 13, 11, 5, 1, 3, 0, 4, 2, 15, 6, 17]⟩,
                     ⟨(some 74), .len 0 (.t 73), (some (72, false)), [6, 15, 2, 4, 0, 3, 1, 5, 11, 13, 10, 12, 8, 7, 14, 9, 16, 17, 18]⟩,
                     ⟨(some 75), .mov (.t 6), (some (72, false)), [16, 9, 14, 7, 8, 12, 10, 13, 11, 5, 1, 3, 0, 4, 2, 15, 6, 17]⟩,
                     ⟨(some 76), .len 0 (.t 75), (some (72, false)), [6, 15, 2, 4, 0, 3, 1, 5, 11, 13, 10, 12, 8, 7, 14, 9, 16, 17, 20]⟩,
                     ⟨(some 77), .cmp .gtr 0 (.t 74) (.t 76), (some (72, false)), [20, 18, 16, 9, 14, 7, 8, 12, 10, 13, 11, 5, 1, 3, 0, 4, 2, 15, 6, 17, 21, 19]⟩,
                     ⟨(some 78), .pick (.t 72) (.c (.bool true)) (.t 77), none, [19, 21, 18, 20, 16, 9, 14, 7, 8, 12, 10, 13, 11, 5, 1, 3, 0, 4, 2, 15, 6, 22, 17]⟩] true)
                   (.cond (.t 78)
                    (.seq
                     (.region [
                       ⟨(some 4), .mov (.c (.bool false)), none, []⟩] false)
                     .ret)
                    .skip))))))))
            (.region [
              ⟨(some 79), .arith .add (.t 28) (.c (.int .i64 1)), none, []⟩,
              ⟨(some 28), .mov (.t 79), none, [0]⟩] false)))))))
      (.seq
       (.region [
         ⟨(some 4), .mov (.c (.bool true)), none, []⟩] false)
       .ret)))))
def rv4 : List RV := [.t 4]
theorem rc4_ok : comp Try.prog Try.f4.ntmps (Try.f4.body.getD .skip) = some (erase rc4) := by kernel_rfl
theorem rv4_ok : compRes Try.prog Try.f4.results.toList = some rv4 := by kernel_rfl

/-- baseboard/baseboardlaw37.EscapeActions [22, 5, 4] -/
def rc5 : RC :=
  (.seq
   (.region [
     ⟨(some 6), .mov (.c (.bool false)), none, []⟩] false)
   (.seq
    (.seq
     (.region [
       ⟨(some 15), .call 9 [], none, []⟩,
       ⟨(some 16), .not (.t 15), none, [0]⟩] false)
     (.cond (.t 16)
      (.seq
       (.region [
         ⟨(some 6), .mov (.c (.bool false)), none, []⟩] false)
       .ret)
      .skip))
    (.seq
     (.seq
      (.region [
        ⟨(some 17), .mov (.t 0), none, []⟩,
        ⟨(some 18), .len 0 (.t 17), none, [0]⟩,
        ⟨(some 19), .cmp .gtr 0 (.t 18) (.c (.int .i64 300)), none, [1]⟩] false)
      (.cond (.t 19)
       (.seq
        (.region [
          ⟨(some 6), .mov (.c (.bool true)), none, []⟩] false)
        .ret)
       .skip))
     (.seq
      (.region [
        ⟨(some 21), .call 15 [], none, []⟩,
        ⟨(some 22), .mov (.t 0), none, []⟩,
        ⟨(some 23), .call 10 [(.t 22)], none, [1, 0]⟩,
        ⟨(some 24), .call 11 [(.t 21), (.t 23)], none, [0, 2, 2]⟩,
        ⟨(some 20), .mov (.t 24), none, [3]⟩,
        ⟨(some 25), .extract 0 (.t 20), none, [4]⟩,
        ⟨(some 26), .extract 1 (.t 20), none, [4]⟩,
        ⟨(some 27), .extract 2 (.t 20), none, [4]⟩,
        ⟨(some 7), .alloc [.bool false, .bool false], none, []⟩,
        ⟨none, .store 2 (.t 7) (.t 25), none, [8, 5, 3, 0, 1, 2, 3, 4, 5, 8]⟩,
        ⟨(some 8), .mov (.t 26), none, [6, 9, 0, 1, 2, 3, 4, 5, 6, 8, 9]⟩,
        ⟨(some 9), .mov (.t 27), none, [7, 10, 0, 1, 2, 3, 4, 5, 6, 7, 8, 9, 10]⟩] false)
      (.seq
       (.region [
         ⟨(some 10), .mov (.c (.int .u8 13)), none, []⟩] false)
       (.seq
        (.seq
         (.region [
           ⟨(some 28), .mov (.t 2), none, []⟩] false)
         (.cond (.t 28)
          (.region [
            ⟨(some 10), .mov (.c (.int .u8 120)), none, []⟩] false)
          .skip))
        (.seq
         (.region [
           ⟨(some 30), .load 2 true (.t 7), none, []⟩,
           ⟨(some 31), .mov (.t 10), none, []⟩,
           ⟨(some 32), .mov (.t 10), none, []⟩,
           ⟨(some 33), .bslice 2 [.int .u8 0] [(0, (.t 31)), (1, (.t 32))], none, [1, 2]⟩,
           ⟨(some 34), .call 11 [(.t 30), (.t 33)], none, [0, 3]⟩,
           ⟨(some 29), .mov (.t 34), none, [4]⟩,
           ⟨(some 35), .extract 0 (.t 29), none, [5]⟩,
           ⟨(some 36), .extract 1 (.t 29), none, [5]⟩,
           ⟨(some 37), .extract 2 (.t 29), none, [5]⟩,
           ⟨none, .store 2 (.t 7) (.t 35), none, [6, 4, 0, 1, 2, 3, 4, 5, 6]⟩] false)
         (.seq
          (.region [
            ⟨(some 39), .load 2 true (.t 7), none, []⟩,
            ⟨(some 40), .mov (.t 1), none, []⟩,
            ⟨(some 41), .bslice 2 [.int .u8 0] [(0, (.c (.int .u8 126))), (1, (.t 40))], none, [1]⟩,
            ⟨(some 42), .call 11 [(.t 39), (.t 41)], none, [0, 2]⟩,
            ⟨(some 38), .mov (.t 42), none, [3]⟩,
            ⟨(some 43), .extract 0 (.t 38), none, [4]⟩,
            ⟨(some 44), .extract 1 (.t 38), none, [4]⟩,
            ⟨(some 45), .extract 2 (.t 38), none, [4]⟩,
            ⟨(some 11), .alloc [.bool false, .bool false], none, []⟩,
            ⟨none, .store 2 (.t 11) (.t 43), none, [8, 5, 3, 0, 1, 2, 3, 4, 5, 8]⟩,
            ⟨(some 12), .mov (.t 44), none, [6, 9, 0, 1, 2, 3, 4, 5, 6, 8, 9]⟩,
            ⟨(some 13), .mov (.t 45), none, [7, 10, 0, 1, 2, 3, 4, 5, 6, 7, 8, 9, 10]⟩] false)
          (.seq
           (.mreg 46 [(46, 1), (66, 2), (82, 3), (63, 4)] 47 48 (.t 1) 49 14)
           (.seq
            (.block 0
             (.seq
              (.region [
                ⟨(some 51), .mov (.t 2), none, []⟩,
                ⟨(some 52), .mov (.t 51), none, [0]⟩,
                ⟨(some 53), .mov (.t 14), (some (52, false)), [1]⟩,
                ⟨(some 54), .cmp .eql 0 (.t 53) (.c (.int .i64 0)), (some (52, false)), [2, 1]⟩,
                ⟨(some 55), .mov (.t 54), (some (52, false)), [3, 1, 1]⟩,
                ⟨(some 56), .mov (.t 1), (some (55, true)), [4]⟩,
                ⟨(some 57), .cmp .neq 0 (.t 56) (.c (.int .u8 126)), (some (55, true)), [5, 4]⟩,
                ⟨(some 58), .pick (.t 55) (.t 57) (.c (.bool false)), (some (52, false)), [4, 6, 1]⟩,
                ⟨(some 59), .pick (.t 52) (.c (.bool true)) (.t 58), none, [1, 7]⟩,
                ⟨(some 50), .mov (.t 59), none, [8, 4]⟩] false)
              (.cond (.t 50)
               (.seq
                (.split [
                  ⟨(some 60), .mov (.t 13), none, []⟩,
                  ⟨(some 61), .len 0 (.t 60), none, [0]⟩,
                  ⟨(some 62), .cmp .eql 0 (.t 61) (.c (.int .i64 0)), none, [1]⟩,
                  ⟨(some 63), .mov (.t 62), none, [2]⟩,
                  ⟨(some 64), .mov (.t 12), (some (63, true)), [3]⟩,
                  ⟨(some 65), .b2s (.t 64), (some (63, true)), [4, 3]⟩,
                  ⟨(some 66), .mov (.t 1), (some (63, true)), [3]⟩,
                  ⟨(some 67), .bsliceO 5 2 [.int .u8 0] [(0, (.c (.int .u8 126))), (1, (.t 66))], (some (63, true)), [6, 3]⟩,
                  ⟨(some 68), .b2s (.t 67), (some (63, true)), [7, 3]⟩,
                  ⟨(some 69), .cmp .eql 2 (.t 65) (.t 68), (some (63, true)), [5, 8, 3]⟩,
                  ⟨(some 70), .pick (.t 63) (.t 69) (.c (.bool false)), none, [3, 9]⟩,
                  ⟨(some 6), .mov (.t 70), none, [10, 3, 0, 1, 2, 3, 4, 5, 6, 7, 8, 9, 10]⟩])
                .ret)
               (.seq
                (.region [
                  ⟨(some 72), .mov (.t 14), none, []⟩,
                  ⟨(some 73), .cmp .eql 0 (.t 72) (.c (.int .i64 0)), none, [0]⟩,
                  ⟨(some 71), .mov (.t 73), none, [1]⟩] false)
                (.cond (.t 71)
                 (.seq
                  (.region [
                    ⟨(some 74), .mov (.t 13), none, []⟩,
                    ⟨(some 75), .len 0 (.t 74), none, [0]⟩,
                    ⟨(some 76), .cmp .eql 0 (.t 75) (.c (.int .i64 0)), none, [1]⟩,
                    ⟨(some 77), .mov (.t 76), none, [2]⟩,
                    ⟨(some 78), .mov (.t 12), (some (77, true)), [3]⟩,
                    ⟨(some 79), .b2s (.t 78), (some (77, true)), [4, 3]⟩,
                    ⟨(some 80), .cmp .eql 2 (.t 79) (.c (.str [126])), (some (77, true)), [5, 3]⟩,
                    ⟨(some 81), .pick (.t 77) (.t 80) (.c (.bool false)), none, [3, 6]⟩,
                    ⟨(some 6), .mov (.t 81), none, [7, 3, 0, 1, 2, 3, 4, 5, 6, 7]⟩] false)
                  .ret)
                 .skip)))))
            (.seq
             (.region [
               ⟨(some 82), .mov (.t 12), none, []⟩,
               ⟨(some 83), .len 0 (.t 82), none, [0]⟩,
               ⟨(some 84), .cmp .eql 0 (.t 83) (.c (.int .i64 0)), none, [1]⟩,
               ⟨(some 85), .mov (.t 84), none, [2]⟩,
               ⟨(some 86), .mov (.t 13), (some (85, true)), [3]⟩,
               ⟨(some 87), .len 0 (.t 86), (some (85, true)), [4, 3]⟩,
               ⟨(some 88), .cmp .eql 0 (.t 87) (.c (.int .i64 1)), (some (85, true)), [5, 3]⟩,
               ⟨(some 89), .pick (.t 85) (.t 88) (.c (.bool false)), none, [3, 6]⟩,
               ⟨(some 90), .mov (.t 89), none, [7, 3]⟩,
               ⟨(some 91), .mov (.t 13), (some (90, true)), [8]⟩,
               ⟨(some 92), .iaddrS [.int .i64 0] (.t 91) (.c (.int .i64 0)), (some (90, true)), [9, 8]⟩,
               ⟨(some 93), .load 1 false (.t 92), (some (90, true)), [10, 8]⟩,
               ⟨(some 94), .mov (.t 14), (some (90, true)), [8]⟩,
               ⟨(some 95), .cmp .eql 0 (.t 93) (.t 94), (some (90, true)), [11, 12, 8]⟩,
               ⟨(some 96), .pick (.t 90) (.t 95) (.c (.bool false)), none, [8, 13]⟩,
               ⟨(some 6), .mov (.t 96), none, [14, 8, 0, 1, 2, 3, 4, 5, 6, 7, 8, 9, 10, 11, 12, 13, 14]⟩] false)
             .ret)))))))))))
def rv5 : List RV := [.t 6]
theorem rc5_ok : comp Try.prog Try.f5.ntmps (Try.f5.body.getD .skip) = some (erase rc5) := by kernel_rfl
theorem rv5_ok : compRes Try.prog Try.f5.results.toList = some rv5 := by kernel_rfl

/-- baseboard/baseboardlaw37.EscapeAnswers [22, 22, 25, 5] -/
def rc6 : RC :=
  (.seq
   (.region [
     ⟨(some 6), .box 2 (.t 2), none, []⟩,
     ⟨(some 8), .mov (.c (.bool false)), none, []⟩] false)
   (.seq
    (.seq
     (.region [
       ⟨(some 23), .call 9 [], none, []⟩,
       ⟨(some 24), .not (.t 23), none, [0]⟩] false)
     (.cond (.t 24)
      (.seq
       (.region [
         ⟨(some 8), .mov (.c (.bool false)), none, []⟩] false)
       .ret)
      .skip))
    (.seq
     (.seq
      (.region [
        ⟨(some 25), .mov (.t 0), none, []⟩,
        ⟨(some 26), .len 0 (.t 25), none, [0]⟩,
        ⟨(some 27), .cmp .gtr 0 (.t 26) (.c (.int .i64 500)), none, [1]⟩,
        ⟨(some 28), .mov (.t 27), none, [2]⟩,
        ⟨(some 29), .mov (.t 1), (some (28, false)), [3]⟩,
        ⟨(some 30), .len 0 (.t 29), (some (28, false)), [4, 3]⟩,
        ⟨(some 31), .cmp .gtr 0 (.t 30) (.c (.int .i64 500)), (some (28, false)), [5, 3]⟩,
        ⟨(some 32), .pick (.t 28) (.c (.bool true)) (.t 31), none, [3, 6]⟩,
        ⟨(some 33), .mov (.t 32), none, [7, 3]⟩,
        ⟨(some 34), .call 15 [], (some (33, false)), [8, 8]⟩,
        ⟨(some 35), .call 16 [], (some (33, false)), [9, 8]⟩,
        ⟨(some 36), .eqa true [1, 1] (.t 34) (.t 35), (some (33, false)), [9, 10, 8]⟩,
        ⟨(some 37), .pick (.t 33) (.c (.bool true)) (.t 36), none, [8, 11]⟩] false)
      (.cond (.t 37)
       (.seq
        (.region [
          ⟨(some 38), .mov (.t 0), none, []⟩,
          ⟨(some 39), .len 0 (.t 38), none, [0]⟩,
          ⟨(some 40), .cmp .gtr 0 (.t 39) (.c (.int .i64 500)), none, [1]⟩,
          ⟨(some 41), .mov (.t 40), none, [2]⟩,
          ⟨(some 42), .mov (.t 1), (some (41, false)), [3]⟩,
          ⟨(some 43), .len 0 (.t 42), (some (41, false)), [4, 3]⟩,
          ⟨(some 44), .cmp .gtr 0 (.t 43) (.c (.int .i64 500)), (some (41, false)), [5, 3]⟩,
          ⟨(some 45), .pick (.t 41) (.c (.bool true)) (.t 44), none, [3, 6]⟩,
          ⟨(some 8), .mov (.t 45), none, [7, 3, 0, 1, 2, 3, 4, 5, 6, 7]⟩] false)
        .ret)
       .skip))
     (.seq
      (.region [
        ⟨(some 47), .load 2 true (.t 6), none, []⟩,
        ⟨(some 48), .mov (.t 3), none, []⟩,
        ⟨(some 49), .call 12 [(.t 47), (.t 48)], none, [0, 1]⟩,
        ⟨(some 46), .mov (.t 49), none, [2]⟩,
        ⟨(some 50), .extract 0 (.t 46), none, [3]⟩,
        ⟨(some 51), .extract 1 (.t 46), none, [3]⟩,
        ⟨(some 52), .extract 2 (.t 46), none, [3]⟩,
        ⟨(some 9), .alloc [.bool false, .bool false], none, []⟩,
        ⟨none, .store 2 (.t 9) (.t 50), none, [7, 4, 2, 0, 1, 2, 3, 4, 7]⟩,
        ⟨(some 10), .mov (.t 51), none, [5, 8, 0, 1, 2, 3, 4, 5, 7, 8]⟩,
        ⟨(some 11), .mov (.t 52), none, [6, 9, 0, 1, 2, 3, 4, 5, 6, 7, 8, 9]⟩] false)
      (.seq
       (.region [
         ⟨(some 54), .load 2 true (.t 6), none, []⟩,
         ⟨(some 55), .mov (.t 3), none, []⟩,
         ⟨(some 56), .call 17 [(.t 54), (.t 55)], none, [0, 1]⟩,
         ⟨(some 53), .mov (.t 56), none, [2]⟩,
         ⟨(some 57), .extract 0 (.t 53), none, [3]⟩,
         ⟨(some 58), .extract 1 (.t 53), none, [3]⟩,
         ⟨(some 59), .extract 2 (.t 53), none, [3]⟩,
         ⟨(some 12), .alloc [.bool false, .bool false], none, []⟩,
         ⟨none, .store 2 (.t 12) (.t 57), none, [7, 4, 2, 0, 1, 2, 3, 4, 7]⟩,
         ⟨(some 13), .mov (.t 58), none, [5, 8, 0, 1, 2, 3, 4, 5, 7, 8]⟩,
         ⟨(some 14), .mov (.t 59), none, [6, 9, 0, 1, 2, 3, 4, 5, 6, 7, 8, 9]⟩] false)
       (.seq
        (.seq
         (.region [
           ⟨(some 60), .load 2 true (.t 9), none, []⟩,
           ⟨(some 61), .load 2 true (.t 12), none, []⟩,
           ⟨(some 62), .eqa true [1, 1] (.t 60) (.t 61), none, [0, 1]⟩,
           ⟨(some 63), .mov (.t 62), none, [2]⟩,
           ⟨(some 64), .mov (.t 10), (some (63, false)), [3]⟩,
           ⟨(some 65), .b2s (.t 64), (some (63, false)), [4, 3]⟩,
           ⟨(some 66), .mov (.t 13), (some (63, false)), [3]⟩,
           ⟨(some 67), .b2s (.t 66), (some (63, false)), [6, 3]⟩,
           ⟨(some 68), .cmp .neq 2 (.t 65) (.t 67), (some (63, false)), [5, 7, 3]⟩,
           ⟨(some 69), .pick (.t 63) (.c (.bool true)) (.t 68), none, [3, 8]⟩,
           ⟨(some 70), .mov (.t 69), none, [9, 3]⟩,
           ⟨(some 71), .mov (.t 11), (some (70, false)), [10]⟩,
           ⟨(some 72), .mov (.t 14), (some (70, false)), [10]⟩,
           ⟨(some 73), .cmp .neq 0 (.t 71) (.t 72), (some (70, false)), [11, 12, 10]⟩,
           ⟨(some 74), .pick (.t 70) (.c (.bool true)) (.t 73), none, [10, 13]⟩] false)
         (.cond (.t 74)
          (.seq
           (.region [
             ⟨(some 8), .mov (.c (.bool false)), none, []⟩] false)
           .ret)
          .skip))
        (.seq
         (.seq
          (.region [
            ⟨(some 75), .mov (.t 1), none, []⟩,
            ⟨(some 76), .mov (.t 0), none, []⟩,
            ⟨(some 77), .call 10 [(.t 76)], none, [1]⟩,
            ⟨(some 78), .bsliceO 22 2 [.nil] [(0, (.t 75)), (1, (.t 77))], none, [0, 2]⟩,
            ⟨(some 79), .len 0 (.t 78), none, [3]⟩,
            ⟨(some 80), .mov (.c (.int .i64 0)), none, []⟩] false)
          (.block 0
           (.loop 0
            (.seq
             (.region [
               ⟨(some 81), .cmp .lss 0 (.t 80) (.t 79), none, []⟩] false)
             (.seq
              (.cond (.t 81)
               .skip
               (.exit 0))
              (.seq
               (.block 1
                (.seq
                 (.region [
                   ⟨(some 82), .iaddrS [.nil] (.t 78) (.t 80), none, []⟩,
                   ⟨(some 83), .load 1 false (.t 82), none, [0]⟩,
                   ⟨(some 16), .mov (.t 83), none, [1, 0, 1]⟩] false)
                 (.seq
                  (.region [
                    ⟨(some 85), .load 2 true (.t 6), none, []⟩,
                    ⟨(some 86), .mov (.t 16), none, []⟩,
                    ⟨(some 87), .call 11 [(.t 85), (.t 86)], none, [0, 1]⟩,
                    ⟨(some 84), .mov (.t 87), none, [2]⟩,
                    ⟨(some 88), .extract 0 (.t 84), none, [3]⟩,
                    ⟨(some 89), .extract 1 (.t 84), none, [3]⟩,
                    ⟨(some 90), .extract 2 (.t 84), none, [3]⟩,
                    ⟨(some 17), .alloc [.bool false, .bool false], none, []⟩,
                    ⟨none, .store 2 (.t 17) (.t 88), none, [7, 4, 2, 0, 1, 2, 3, 4, 7]⟩,
                    ⟨(some 18), .mov (.t 89), none, [5, 8, 0, 1, 2, 3, 4, 5, 7, 8]⟩,
                    ⟨(some 19), .mov (.t 90), none, [6, 9, 0, 1, 2, 3, 4, 5, 6, 7, 8, 9]⟩] false)
                  (.seq
                   (.region [
                     ⟨(some 92), .load 2 true (.t 6), none, []⟩,
                     ⟨(some 93), .mov (.t 16), none, []⟩,
                     ⟨(some 94), .call 18 [(.t 92), (.t 93)], none, [0, 1]⟩,
                     ⟨(some 91), .mov (.t 94), none, [2]⟩,
                     ⟨(some 95), .extract 0 (.t 91), none, [3]⟩,
                     ⟨(some 96), .extract 1 (.t 91), none, [3]⟩,
                     ⟨(some 97), .extract 2 (.t 91), none, [3]⟩,
                     ⟨(some 20), .alloc [.bool false, .bool false], none, []⟩,
                     ⟨none, .store 2 (.t 20) (.t 95), none, [7, 4, 2, 0, 1, 2, 3, 4, 7]⟩,
                     ⟨(some 21), .mov (.t 96), none, [5, 8, 0, 1, 2, 3, 4, 5, 7, 8]⟩,
                     ⟨(some 22), .mov (.t 97), none, [6, 9, 0, 1, 2, 3, 4, 5, 6, 7, 8, 9]⟩] false)
                   (.seq
                    (.region [
                      ⟨(some 98), .load 2 true (.t 17), none, []⟩,
                      ⟨(some 99), .load 2 true (.t 20), none, []⟩,
                      ⟨(some 100), .eqa true [1, 1] (.t 98) (.t 99), none, [1, 0]⟩,
                      ⟨(some 101), .mov (.t 100), none, [0, 1, 2]⟩,
                      ⟨(some 102), .mov (.t 18), (some (101, false)), [2, 1, 0, 3]⟩,
                      ⟨(some 103), .b2s (.t 102), (some (101, false)), [0, 1, 2, 3, 4]⟩,
                      ⟨(some 104), .mov (.t 21), (some (101, false)), [2, 1, 0, 3]⟩,
                      ⟨(some 105), .b2s (.t 104), (some (101, false)), [0, 1, 2, 3, 6]⟩,
                      ⟨(some 106), .cmp .neq 2 (.t 103) (.t 105), (some (101, false)), [6, 4, 2, 1, 0, 3, 7, 5]⟩,
                      ⟨(some 107), .pick (.t 101) (.c (.bool true)) (.t 106), none, [5, 7, 4, 6, 2, 1, 0, 8, 3]⟩,
                      ⟨(some 108), .mov (.t 107), none, [8, 0, 1, 2, 6, 4, 7, 5, 3, 9]⟩,
                      ⟨(some 109), .mov (.t 19), (some (108, false)), [9, 3, 5, 7, 4, 6, 2, 1, 0, 8, 10]⟩,
                      ⟨(some 110), .mov (.t 22), (some (108, false)), [9, 3, 5, 7, 4, 6, 2, 1, 0, 8, 10]⟩,
                      ⟨(some 111), .call 13 [(.t 109), (.t 110)], (some (108, false)), [8, 0, 1, 2, 6, 4, 7, 5, 3, 9, 10, 12, 11]⟩,
                      ⟨(some 112), .not (.t 111), (some (108, false)), [11, 12, 9, 3, 5, 7, 4, 6, 2, 1, 0, 8, 10, 13]⟩,
                      ⟨(some 113), .pick (.t 108) (.c (.bool true)) (.t 112), none, [13, 12, 11, 9, 3, 5, 7, 4, 6, 2, 1, 0, 8, 14, 10]⟩,
                      ⟨(some 114), .mov (.t 113), none, [10, 14, 8, 0, 1, 2, 6, 4, 7, 5, 3, 9, 11, 12, 13, 15]⟩,
                      ⟨(some 115), .mov (.t 16), (some (114, false)), [15, 13, 12, 11, 9, 3, 5, 7, 4, 6, 2, 1, 0, 8, 14, 10, 16]⟩,
                      ⟨(some 116), .call 19 [(.t 115)], (some (114, false)), [10, 14, 8, 0, 1, 2, 6, 4, 7, 5, 3, 9, 11, 12, 13, 15, 16, 17]⟩,
                      ⟨(some 117), .b2s (.t 116), (some (114, false)), [17, 15, 13, 12, 11, 9, 3, 5, 7, 4, 6, 2, 1, 0, 8, 14, 10, 16, 18]⟩,
                      ⟨(some 118), .mov (.t 16), (some (114, false)), [15, 13, 12, 11, 9, 3, 5, 7, 4, 6, 2, 1, 0, 8, 14, 10, 16]⟩,
                      ⟨(some 119), .call 20 [(.t 118)], (some (114, false)), [17, 10, 14, 8, 0, 1, 2, 6, 4, 7, 5, 3, 9, 11, 12, 13, 15, 16, 18, 20]⟩,
                      ⟨(some 120), .b2s (.t 119), (some (114, false)), [20, 18, 15, 13, 12, 11, 9, 3, 5, 7, 4, 6, 2, 1, 0, 8, 14, 10, 17, 16, 21]⟩,
                      ⟨(some 121), .cmp .neq 2 (.t 117) (.t 120), (some (114, false)), [21, 20, 18, 10, 14, 8, 0, 1, 2, 6, 4, 7, 5, 3, 9, 11, 12, 13, 15, 17, 16, 22, 19]⟩,
                      ⟨(some 122), .pick (.t 114) (.c (.bool true)) (.t 121), none, [19, 22, 17, 18, 20, 21, 15, 13, 12, 11, 9, 3, 5, 7, 4, 6, 2, 1, 0, 8, 14, 10, 23, 16]⟩,
                      ⟨(some 123), .mov (.t 122), none, [16, 23, 10, 14, 8, 0, 1, 2, 6, 4, 7, 5, 3, 9, 11, 12, 13, 15, 20, 18, 17, 22, 19, 21, 24]⟩,
                      ⟨(some 124), .mov (.t 16), (some (123, false)), [24, 21, 19, 22, 17, 18, 20, 15, 13, 12, 11, 9, 3, 5, 7, 4, 6, 2, 1, 0, 8, 14, 10, 23, 16, 25]⟩,
                      ⟨(some 125), .call 14 [(.t 124)], (some (123, false)), [16, 23, 10, 14, 8, 0, 1, 2, 6, 4, 7, 5, 3, 9, 11, 12, 13, 15, 20, 18, 17, 22, 19, 21, 24, 25, 26]⟩,
                      ⟨(some 126), .b2s (.t 125), (some (123, false)), [26, 24, 21, 19, 22, 17, 18, 20, 15, 13, 12, 11, 9, 3, 5, 7, 4, 6, 2, 1, 0, 8, 14, 10, 23, 16, 25, 27]⟩,
                      ⟨(some 127), .mov (.t 16), (some (123, false)), [24, 21, 19, 22, 17, 18, 20, 15, 13, 12, 11, 9, 3, 5, 7, 4, 6, 2, 1, 0, 8, 14, 10, 23, 16, 25]⟩,
                      ⟨(some 128), .call 21 [(.t 127)], (some (123, false)), [26, 16, 23, 10, 14, 8, 0, 1, 2, 6, 4, 7, 5, 3, 9, 11, 12, 13, 15, 20, 18, 17, 22, 19, 21, 24, 25, 27, 29]⟩,
                      ⟨(some 129), .b2s (.t 128), (some (123, false)), [29, 27, 24, 21, 19, 22, 17, 18, 20, 15, 13, 12, 11, 9, 3, 5, 7, 4, 6, 2, 1, 0, 8, 14, 10, 23, 16, 26, 25, 30]⟩,
                      ⟨(some 130), .cmp .neq 2 (.t 126) (.t 129), (some (123, false)), [30, 29, 27, 16, 23, 10, 14, 8, 0, 1, 2, 6, 4, 7, 5, 3, 9, 11, 12, 13, 15, 20, 18, 17, 22, 19, 21, 24, 26, 25, 31, 28]⟩,
                      ⟨(some 131), .pick (.t 123) (.c (.bool true)) (.t 130), none, [28, 31, 26, 27, 29, 30, 24, 21, 19, 22, 17, 18, 20, 15, 13, 12, 11, 9, 3, 5, 7, 4, 6, 2, 1, 0, 8, 14, 10, 23, 16, 32, 25]⟩] true)
                    (.cond (.t 131)
                     (.seq
                      (.region [
                        ⟨(some 8), .mov (.c (.bool false)), none, []⟩] false)
                      .ret)
                     .skip))))))
               (.region [
                 ⟨(some 132), .arith .add (.t 80) (.c (.int .i64 1)), none, []⟩,
                 ⟨(some 80), .mov (.t 132), none, [0]⟩] false)))))))
         (.seq
          (.region [
            ⟨(some 8), .mov (.c (.bool true)), none, []⟩] false)
          .ret))))))))
def rv6 : List RV := [.t 8]
theorem rc6_ok : comp Try.prog Try.f6.ntmps (Try.f6.body.getD .skip) = some (erase rc6) := by kernel_rfl
theorem rv6_ok : compRes Try.prog Try.f6.results.toList = some rv6 := by kernel_rfl

/-- baseboard/baseboardlaw37.EscapeQuotes [22] -/
def rc7 : RC :=
  (.seq
   (.region [
     ⟨(some 2), .mov (.c (.bool false)), none, []⟩] false)
   (.seq
    (.seq
     (.region [
       ⟨(some 10), .call 9 [], none, []⟩,
       ⟨(some 11), .not (.t 10), none, [0]⟩] false)
     (.cond (.t 11)
      (.seq
       (.region [
         ⟨(some 2), .mov (.c (.bool false)), none, []⟩] false)
       .ret)
      .skip))
    (.seq
     (.seq
      (.region [
        ⟨(some 12), .mov (.t 0), none, []⟩,
        ⟨(some 13), .len 0 (.t 12), none, [0]⟩,
        ⟨(some 14), .cmp .gtr 0 (.t 13) (.c (.int .i64 500)), none, [1]⟩] false)
      (.cond (.t 14)
       (.seq
        (.region [
          ⟨(some 2), .mov (.c (.bool true)), none, []⟩] false)
        .ret)
       .skip))
     (.seq
      (.region [
        ⟨(some 15), .mov (.t 0), none, []⟩,
        ⟨(some 16), .call 10 [(.t 15)], none, [0]⟩,
        ⟨(some 3), .mov (.t 16), none, [1, 1, 0, 1]⟩] false)
      (.seq
       (.region [
         ⟨(some 17), .mov (.t 3), none, []⟩,
         ⟨(some 18), .call 19 [(.t 17)], none, [0]⟩,
         ⟨(some 4), .mov (.t 18), none, [1, 1, 0, 1]⟩] false)
       (.seq
        (.region [
          ⟨(some 20), .call 15 [], none, []⟩,
          ⟨(some 21), .mov (.t 4), none, []⟩,
          ⟨(some 22), .call 11 [(.t 20), (.t 21)], none, [0, 1, 0]⟩,
          ⟨(some 19), .mov (.t 22), none, [2]⟩,
          ⟨(some 23), .extract 0 (.t 19), none, [3]⟩,
          ⟨(some 24), .extract 1 (.t 19), none, [3]⟩,
          ⟨(some 25), .extract 2 (.t 19), none, [3]⟩,
          ⟨(some 5), .alloc [.bool false, .bool false], none, []⟩,
          ⟨none, .store 2 (.t 5) (.t 23), none, [7, 4, 2, 0, 1, 2, 3, 4, 7]⟩,
          ⟨(some 6), .mov (.t 24), none, [5, 8, 0, 1, 2, 3, 4, 5, 7, 8]⟩,
          ⟨(some 7), .mov (.t 25), none, [6, 9, 0, 1, 2, 3, 4, 5, 6, 7, 8, 9]⟩] false)
        (.seq
         (.region [
           ⟨(some 8), .mov (.c (.int .i64 0)), none, []⟩] false)
         (.seq
          (.seq
           (.region [
             ⟨(some 26), .mov (.t 3), none, []⟩,
             ⟨(some 27), .len 0 (.t 26), none, [0]⟩,
             ⟨(some 28), .mov (.c (.int .i64 0)), none, []⟩] false)
           (.block 0
            (.loop 0
             (.seq
              (.region [
                ⟨(some 29), .cmp .lss 0 (.t 28) (.t 27), none, []⟩] false)
              (.seq
               (.cond (.t 29)
                .skip
                (.exit 0))
               (.seq
                (.block 1
                 (.seq
                  (.region [
                    ⟨(some 30), .mov (.t 28), none, []⟩,
                    ⟨(some 9), .mov (.t 30), none, [0, 0]⟩] false)
                  (.seq
                   (.region [
                     ⟨(some 31), .mov (.t 3), none, []⟩,
                     ⟨(some 32), .mov (.t 9), none, []⟩,
                     ⟨(some 33), .iaddrS [.int .u8 0] (.t 31) (.t 32), none, [0, 1]⟩,
                     ⟨(some 34), .load 1 false (.t 33), none, [2]⟩,
                     ⟨(some 35), .cmp .eql 0 (.t 34) (.c (.int .u8 126)), none, [3]⟩,
                     ⟨(some 36), .mov (.t 35), none, [4]⟩,
                     ⟨(some 37), .mov (.t 9), (some (36, true)), [5]⟩,
                     ⟨(some 38), .cmp .eql 0 (.t 37) (.c (.int .i64 0)), (some (36, true)), [6, 5]⟩,
                     ⟨(some 39), .mov (.t 38), (some (36, true)), [7, 5, 5]⟩,
                     ⟨(some 40), .mov (.t 3), (some (39, false)), [8]⟩,
                     ⟨(some 41), .mov (.t 9), (some (39, false)), [8]⟩,
                     ⟨(some 42), .arith .sub (.t 41) (.c (.int .i64 1)), (some (39, false)), [10, 8]⟩,
                     ⟨(some 43), .iaddrS [.int .u8 0] (.t 40) (.t 42), (some (39, false)), [9, 11, 8]⟩,
                     ⟨(some 44), .load 1 false (.t 43), (some (39, false)), [12, 8]⟩,
                     ⟨(some 45), .cmp .eql 0 (.t 44) (.c (.int .u8 13)), (some (39, false)), [13, 8]⟩,
                     ⟨(some 46), .pick (.t 39) (.c (.bool true)) (.t 45), (some (36, true)), [8, 14, 5]⟩,
                     ⟨(some 47), .mov (.t 46), (some (36, true)), [15, 8, 5]⟩,
                     ⟨(some 48), .mov (.t 3), (some (47, false)), [16]⟩,
                     ⟨(some 49), .mov (.t 9), (some (47, false)), [16]⟩,
                     ⟨(some 50), .arith .sub (.t 49) (.c (.int .i64 1)), (some (47, false)), [18, 16]⟩,
                     ⟨(some 51), .iaddrS [.int .u8 0] (.t 48) (.t 50), (some (47, false)), [17, 19, 16]⟩,
                     ⟨(some 52), .load 1 false (.t 51), (some (47, false)), [20, 16]⟩,
                     ⟨(some 53), .cmp .eql 0 (.t 52) (.c (.int .u8 10)), (some (47, false)), [21, 16]⟩,
                     ⟨(some 54), .pick (.t 47) (.c (.bool true)) (.t 53), (some (36, true)), [16, 22, 5]⟩,
                     ⟨(some 55), .pick (.t 36) (.t 54) (.c (.bool false)), none, [5, 23]⟩] false)
                   (.cond (.t 55)
                    (.region [
                      ⟨(some 56), .mov (.t 8), none, []⟩,
                      ⟨(some 57), .arith .add (.t 56) (.c (.int .i64 1)), none, [0]⟩,
                      ⟨(some 8), .mov (.t 57), none, [1, 0, 1]⟩] false)
                    .skip))))
                (.region [
                  ⟨(some 58), .arith .add (.t 28) (.c (.int .i64 1)), none, []⟩,
                  ⟨(some 28), .mov (.t 58), none, [0]⟩] false)))))))
          (.seq
           (.region [
             ⟨(some 59), .mov (.t 6), none, []⟩,
             ⟨(some 60), .b2s (.t 59), none, [0]⟩,
             ⟨(some 61), .mov (.t 3), none, []⟩,
             ⟨(some 62), .b2s (.t 61), none, [2]⟩,
             ⟨(some 63), .cmp .eql 2 (.t 60) (.t 62), none, [1, 3]⟩,
             ⟨(some 64), .mov (.t 63), none, [4]⟩,
             ⟨(some 65), .mov (.t 7), (some (64, true)), [5]⟩,
             ⟨(some 66), .len 0 (.t 65), (some (64, true)), [6, 5]⟩,
             ⟨(some 67), .cmp .eql 0 (.t 66) (.c (.int .i64 0)), (some (64, true)), [7, 5]⟩,
             ⟨(some 68), .pick (.t 64) (.t 67) (.c (.bool false)), none, [5, 8]⟩,
             ⟨(some 69), .mov (.t 68), none, [9, 5]⟩,
             ⟨(some 70), .mov (.t 4), (some (69, true)), [10]⟩,
             ⟨(some 71), .len 0 (.t 70), (some (69, true)), [11, 10]⟩,
             ⟨(some 72), .mov (.t 3), (some (69, true)), [10]⟩,
             ⟨(some 73), .len 0 (.t 72), (some (69, true)), [13, 10]⟩,
             ⟨(some 74), .mov (.t 8), (some (69, true)), [10]⟩,
             ⟨(some 75), .arith .add (.t 73) (.t 74), (some (69, true)), [14, 15, 10]⟩,
             ⟨(some 76), .cmp .eql 0 (.t 71) (.t 75), (some (69, true)), [12, 16, 10]⟩,
             ⟨(some 77), .pick (.t 69) (.t 76) (.c (.bool false)), none, [10, 17]⟩,
             ⟨(some 2), .mov (.t 77), none, [18, 10, 0, 1, 2, 3, 4, 5, 6, 7, 8, 9, 10, 11, 12, 13, 14, 15, 16, 17, 18]⟩] false)
           .ret)))))))))
def rv7 : List RV := [.t 2]
theorem rc7_ok : comp Try.prog Try.f7.ntmps (Try.f7.body.getD .skip) = some (erase rc7) := by kernel_rfl
theorem rv7_ok : compRes Try.prog Try.f7.results.toList = some rv7 := by kernel_rfl

/-- baseboard/baseboardlaw37.EscapeText [22] -/
def rc8 : RC :=
  (.seq
   (.region [
     ⟨(some 2), .mov (.c (.bool false)), none, []⟩] false)
   (.seq
    (.seq
     (.region [
       ⟨(some 10), .call 9 [], none, []⟩,
       ⟨(some 11), .not (.t 10), none, [0]⟩] false)
     (.cond (.t 11)
      (.seq
       (.region [
         ⟨(some 2), .mov (.c (.bool false)), none, []⟩] false)
       .ret)
      .skip))
    (.seq
     (.seq
      (.region [
        ⟨(some 12), .mov (.t 0), none, []⟩,
        ⟨(some 13), .len 0 (.t 12), none, [0]⟩,
        ⟨(some 14), .cmp .gtr 0 (.t 13) (.c (.int .i64 1000)), none, [1]⟩] false)
      (.cond (.t 14)
       (.seq
        (.region [
          ⟨(some 2), .mov (.c (.bool true)), none, []⟩] false)
        .ret)
       .skip))
     (.seq
      (.region [
        ⟨(some 3), .mov (.c (.nil)), none, []⟩] false)
      (.seq
       (.seq
        (.region [
          ⟨(some 15), .mov (.t 0), none, []⟩,
          ⟨(some 16), .len 0 (.t 15), none, [0]⟩,
          ⟨(some 17), .mov (.c (.int .i64 0)), none, []⟩] false)
        (.block 0
         (.loop 0
          (.seq
           (.region [
             ⟨(some 18), .cmp .lss 0 (.t 17) (.t 16), none, []⟩] false)
           (.seq
            (.cond (.t 18)
             .skip
             (.exit 0))
            (.seq
             (.block 1
              (.seq
               (.region [
                 ⟨(some 19), .iaddrS [.int .u8 0] (.t 15) (.t 17), none, []⟩,
                 ⟨(some 20), .load 1 false (.t 19), none, [0]⟩,
                 ⟨(some 5), .mov (.t 20), none, [1, 0, 1]⟩] false)
               (.seq
                (.region [
                  ⟨(some 21), .mov (.t 5), none, []⟩,
                  ⟨(some 22), .cmp .neq 0 (.t 21) (.c (.int .u8 126)), none, [0]⟩,
                  ⟨(some 23), .mov (.t 22), none, [1]⟩,
                  ⟨(some 24), .mov (.t 5), (some (23, true)), [2]⟩,
                  ⟨(some 25), .cmp .neq 0 (.t 24) (.c (.int .u8 27)), (some (23, true)), [3, 2]⟩,
                  ⟨(some 26), .pick (.t 23) (.t 25) (.c (.bool false)), none, [2, 4]⟩] false)
                (.cond (.t 26)
                 (.region [
                   ⟨(some 27), .mov (.t 3), none, []⟩,
                   ⟨(some 28), .mov (.t 5), none, []⟩,
                   ⟨(some 29), .bsliceO 5 1 [.int .u8 0] [(0, (.t 28))], none, [1]⟩,
                   ⟨(some 30), .append 5 1 [.int .u8 0] (.t 27) (.t 29), none, [0, 2]⟩,
                   ⟨(some 3), .mov (.t 30), none, [3, 3, 0, 1, 2, 3]⟩] false)
                 .skip))))
             (.region [
               ⟨(some 31), .arith .add (.t 17) (.c (.int .i64 1)), none, []⟩,
               ⟨(some 17), .mov (.t 31), none, [0]⟩] false)))))))
       (.seq
        (.ghost 3 (.region [
          ⟨(some 33), .call 15 [], none, []⟩,
          ⟨(some 34), .mov (.t 3), none, []⟩,
          ⟨(some 35), .call 11 [(.t 33), (.t 34)], none, [0, 1, 0]⟩,
          ⟨(some 32), .mov (.t 35), none, [2]⟩,
          ⟨(some 36), .extract 0 (.t 32), none, [3]⟩,
          ⟨(some 37), .extract 1 (.t 32), none, [3]⟩,
          ⟨(some 38), .extract 2 (.t 32), none, [3]⟩,
          ⟨(some 6), .alloc [.bool false, .bool false], none, []⟩,
          ⟨none, .store 2 (.t 6) (.t 36), none, [7, 4, 2, 0, 1, 2, 3, 4, 7]⟩,
          ⟨(some 7), .mov (.t 37), none, [5, 8, 0, 1, 2, 3, 4, 5, 7, 8]⟩,
          ⟨(some 8), .mov (.t 38), none, [6, 9, 0, 1, 2, 3, 4, 5, 6, 7, 8, 9]⟩] false))
        (.seq
         (.region [
           ⟨(some 39), .mov (.t 3), none, []⟩,
           ⟨(some 40), .len 0 (.t 39), none, [0]⟩,
           ⟨(some 41), .cmp .eql 0 (.t 40) (.c (.int .i64 0)), none, [1]⟩,
           ⟨(some 9), .mov (.t 41), none, [2, 0, 1, 2]⟩] false)
         (.seq
          (.seq
           (.region [
             ⟨(some 42), .mov (.t 3), none, []⟩,
             ⟨(some 43), .len 0 (.t 42), none, [0]⟩,
             ⟨(some 44), .cmp .gtr 0 (.t 43) (.c (.int .i64 0)), none, [1]⟩] false)
           (.cond (.t 44)
            (.region [
              ⟨(some 45), .mov (.t 3), none, []⟩,
              ⟨(some 46), .mov (.t 3), none, []⟩,
              ⟨(some 47), .len 0 (.t 46), none, [1]⟩,
              ⟨(some 48), .arith .sub (.t 47) (.c (.int .i64 1)), none, [2]⟩,
              ⟨(some 49), .iaddrS [.int .u8 0] (.t 45) (.t 48), none, [0, 3]⟩,
              ⟨(some 50), .load 1 false (.t 49), none, [4]⟩,
              ⟨(some 51), .cmp .eql 0 (.t 50) (.c (.int .u8 13)), none, [5]⟩,
              ⟨(some 52), .mov (.t 51), none, [6]⟩,
              ⟨(some 53), .mov (.t 3), (some (52, false)), [7]⟩,
              ⟨(some 54), .mov (.t 3), (some (52, false)), [7]⟩,
              ⟨(some 55), .len 0 (.t 54), (some (52, false)), [9, 7]⟩,
              ⟨(some 56), .arith .sub (.t 55) (.c (.int .i64 1)), (some (52, false)), [10, 7]⟩,
              ⟨(some 57), .iaddrS [.int .u8 0] (.t 53) (.t 56), (some (52, false)), [8, 11, 7]⟩,
              ⟨(some 58), .load 1 false (.t 57), (some (52, false)), [12, 7]⟩,
              ⟨(some 59), .cmp .eql 0 (.t 58) (.c (.int .u8 10)), (some (52, false)), [13, 7]⟩,
              ⟨(some 60), .pick (.t 52) (.c (.bool true)) (.t 59), none, [7, 14]⟩,
              ⟨(some 9), .mov (.t 60), none, [15, 7, 0, 1, 2, 3, 4, 5, 6, 7, 8, 9, 10, 11, 12, 13, 14, 15]⟩] false)
            .skip))
          (.seq
           (.region [
             ⟨(some 61), .mov (.t 7), none, []⟩,
             ⟨(some 62), .b2s (.t 61), none, [0]⟩,
             ⟨(some 63), .mov (.t 3), none, []⟩,
             ⟨(some 64), .b2s (.t 63), none, [2]⟩,
             ⟨(some 65), .cmp .eql 2 (.t 62) (.t 64), none, [2, 0, 3, 1]⟩,
             ⟨(some 66), .mov (.t 65), none, [1, 3, 0, 2, 4]⟩,
             ⟨(some 67), .mov (.t 8), (some (66, true)), [4, 2, 0, 3, 1, 5]⟩,
             ⟨(some 68), .len 0 (.t 67), (some (66, true)), [1, 3, 0, 2, 4, 5, 6]⟩,
             ⟨(some 69), .cmp .eql 0 (.t 68) (.c (.int .i64 0)), (some (66, true)), [6, 4, 2, 0, 3, 1, 5, 7]⟩,
             ⟨(some 70), .pick (.t 66) (.t 69) (.c (.bool false)), none, [7, 6, 4, 2, 0, 3, 1, 8, 5]⟩,
             ⟨(some 71), .mov (.t 70), none, [8, 1, 3, 0, 2, 4, 6, 7, 5, 9]⟩,
             ⟨(some 72), .mov (.t 3), (some (71, true)), [9, 5, 7, 6, 4, 2, 0, 3, 1, 8, 10]⟩,
             ⟨(some 73), .call 14 [(.t 72)], (some (71, true)), [8, 1, 3, 0, 2, 4, 6, 7, 5, 9, 10, 11]⟩,
             ⟨(some 74), .b2s (.t 73), (some (71, true)), [11, 9, 5, 7, 6, 4, 2, 0, 3, 1, 8, 10, 12]⟩,
             ⟨(some 75), .mov (.t 3), (some (71, true)), [9, 5, 7, 6, 4, 2, 0, 3, 1, 8, 10]⟩,
             ⟨(some 76), .b2s (.t 75), (some (71, true)), [8, 1, 3, 0, 2, 4, 6, 7, 5, 9, 10, 14]⟩,
             ⟨(some 77), .cmp .eql 2 (.t 74) (.t 76), (some (71, true)), [14, 12, 8, 1, 3, 0, 2, 4, 6, 7, 5, 9, 11, 10, 15, 13]⟩,
             ⟨(some 78), .pick (.t 71) (.t 77) (.c (.bool false)), none, [13, 15, 11, 12, 14, 9, 5, 7, 6, 4, 2, 0, 3, 1, 8, 16, 10]⟩,
             ⟨(some 79), .mov (.t 78), none, [10, 16, 8, 1, 3, 0, 2, 4, 6, 7, 5, 9, 14, 11, 15, 13, 12, 17]⟩,
             ⟨(some 80), .mov (.t 3), (some (79, true)), [17, 12, 13, 15, 11, 14, 9, 5, 7, 6, 4, 2, 0, 3, 1, 8, 16, 10, 18]⟩,
             ⟨(some 81), .call 19 [(.t 80)], (some (79, true)), [10, 16, 8, 1, 3, 0, 2, 4, 6, 7, 5, 9, 14, 11, 15, 13, 12, 17, 18, 19]⟩,
             ⟨(some 82), .b2s (.t 81), (some (79, true)), [19, 17, 12, 13, 15, 11, 14, 9, 5, 7, 6, 4, 2, 0, 3, 1, 8, 16, 10, 18, 20]⟩,
             ⟨(some 83), .mov (.t 3), (some (79, true)), [17, 12, 13, 15, 11, 14, 9, 5, 7, 6, 4, 2, 0, 3, 1, 8, 16, 10, 18]⟩,
             ⟨(some 84), .b2s (.t 83), (some (79, true)), [10, 16, 8, 1, 3, 0, 2, 4, 6, 7, 5, 9, 14, 11, 15, 13, 12, 17, 18, 22]⟩,
             ⟨(some 85), .cmp .eql 2 (.t 82) (.t 84), (some (79, true)), [22, 20, 10, 16, 8, 1, 3, 0, 2, 4, 6, 7, 5, 9, 14, 11, 15, 13, 12, 17, 19, 18, 23, 21]⟩,
             ⟨(some 86), .pick (.t 79) (.t 85) (.c (.bool false)), none, [21, 23, 19, 20, 22, 17, 12, 13, 15, 11, 14, 9, 5, 7, 6, 4, 2, 0, 3, 1, 8, 16, 10, 24, 18]⟩,
             ⟨(some 87), .mov (.t 86), none, [18, 24, 10, 16, 8, 1, 3, 0, 2, 4, 6, 7, 5, 9, 14, 11, 15, 13, 12, 17, 22, 19, 23, 21, 20, 25]⟩,
             ⟨(some 88), .faddr 0 (.t 6), (some (87, true)), [25, 20, 21, 23, 19, 22, 17, 12, 13, 15, 11, 14, 9, 5, 7, 6, 4, 2, 0, 3, 1, 8, 16, 10, 24, 18, 26]⟩,
             ⟨(some 89), .load 1 false (.t 88), (some (87, true)), [18, 24, 10, 16, 8, 1, 3, 0, 2, 4, 6, 7, 5, 9, 14, 11, 15, 13, 12, 17, 22, 19, 23, 21, 20, 25, 26, 27]⟩,
             ⟨(some 90), .mov (.t 9), (some (87, true)), [25, 20, 21, 23, 19, 22, 17, 12, 13, 15, 11, 14, 9, 5, 7, 6, 4, 2, 0, 3, 1, 8, 16, 10, 24, 18, 26]⟩,
             ⟨(some 91), .cmp .eql 1 (.t 89) (.t 90), (some (87, true)), [27, 25, 20, 21, 23, 19, 22, 17, 12, 13, 15, 11, 14, 9, 5, 7, 6, 4, 2, 0, 3, 1, 8, 16, 10, 24, 18, 26, 29, 28]⟩,
             ⟨(some 92), .pick (.t 87) (.t 91) (.c (.bool false)), none, [28, 29, 27, 25, 20, 21, 23, 19, 22, 17, 12, 13, 15, 11, 14, 9, 5, 7, 6, 4, 2, 0, 3, 1, 8, 16, 10, 24, 18, 30, 26]⟩,
             ⟨(some 93), .mov (.t 92), none, [30, 18, 24, 10, 16, 8, 1, 3, 0, 2, 4, 6, 7, 5, 9, 14, 11, 15, 13, 12, 17, 22, 19, 23, 21, 20, 25, 27, 29, 28, 26, 31]⟩,
             ⟨(some 94), .faddr 1 (.t 6), (some (93, true)), [31, 26, 28, 29, 27, 25, 20, 21, 23, 19, 22, 17, 12, 13, 15, 11, 14, 9, 5, 7, 6, 4, 2, 0, 3, 1, 8, 16, 10, 24, 18, 30, 32]⟩,
             ⟨(some 95), .load 1 false (.t 94), (some (93, true)), [30, 18, 24, 10, 16, 8, 1, 3, 0, 2, 4, 6, 7, 5, 9, 14, 11, 15, 13, 12, 17, 22, 19, 23, 21, 20, 25, 27, 29, 28, 26, 31, 32, 33]⟩,
             ⟨(some 96), .not (.t 95), (some (93, true)), [33, 31, 26, 28, 29, 27, 25, 20, 21, 23, 19, 22, 17, 12, 13, 15, 11, 14, 9, 5, 7, 6, 4, 2, 0, 3, 1, 8, 16, 10, 24, 18, 30, 32, 34]⟩,
             ⟨(some 97), .pick (.t 93) (.t 96) (.c (.bool false)), none, [34, 33, 31, 26, 28, 29, 27, 25, 20, 21, 23, 19, 22, 17, 12, 13, 15, 11, 14, 9, 5, 7, 6, 4, 2, 0, 3, 1, 8, 16, 10, 24, 18, 30, 35, 32]⟩,
             ⟨(some 2), .mov (.t 97), none, [35, 34, 33, 31, 30, 29, 28, 27, 26, 25, 24, 23, 22, 21, 20, 19, 18, 17, 16, 15, 14, 13, 12, 11, 10, 9, 8, 7, 6, 5, 4, 3, 2, 1, 0, 32, 36]⟩] true)
           .ret)))))))))
def rv8 : List RV := [.t 2]
theorem rc8_ok : comp Try.prog Try.f8.ntmps (Try.f8.body.getD .skip) = some (erase rc8) := by kernel_rfl
theorem rv8_ok : compRes Try.prog Try.f8.results.toList = some rv8 := by kernel_rfl

/-- baseboard/baseboardlaw37.awake [] -/
def rc9 : RC :=
  (.seq
   (.region [
     ⟨(some 0), .mov (.c (.bool false)), none, []⟩] false)
   (.seq
    (.region [
      ⟨(some 5), .call 15 [], none, []⟩,
      ⟨(some 6), .bsliceO 5 5 [.int .u8 0] [(0, (.c (.int .u8 126))), (1, (.c (.int .u8 46))), (2, (.c (.int .u8 97))), (3, (.c (.int .u8 126))), (4, (.c (.int .u8 46)))], none, []⟩,
      ⟨(some 7), .mkstr (.t 6), none, [1]⟩,
      ⟨(some 8), .call 11 [(.t 5), (.t 7)], none, [0, 2, 0]⟩,
      ⟨(some 4), .mov (.t 8), none, [3]⟩,
      ⟨(some 9), .extract 0 (.t 4), none, [4]⟩,
      ⟨(some 10), .extract 1 (.t 4), none, [4]⟩,
      ⟨(some 11), .extract 2 (.t 4), none, [4]⟩,
      ⟨(some 1), .alloc [.bool false, .bool false], none, []⟩,
      ⟨none, .store 2 (.t 1) (.t 9), none, [8, 5, 3, 0, 1, 2, 3, 4, 5, 8]⟩,
      ⟨(some 2), .mov (.t 10), none, [6, 9, 0, 1, 2, 3, 4, 5, 6, 8, 9]⟩,
      ⟨(some 3), .mov (.t 11), none, [7, 10, 0, 1, 2, 3, 4, 5, 6, 7, 8, 9, 10]⟩] false)
    (.seq
     (.split [
       ⟨(some 12), .mov (.t 2), none, []⟩,
       ⟨(some 13), .b2s (.t 12), none, [0]⟩,
       ⟨(some 14), .cmp .eql 2 (.t 13) (.c (.str [97, 126, 46])), none, [1]⟩,
       ⟨(some 15), .mov (.t 14), none, [2]⟩,
       ⟨(some 16), .mov (.t 3), (some (15, true)), [3]⟩,
       ⟨(some 17), .len 0 (.t 16), (some (15, true)), [4, 3]⟩,
       ⟨(some 18), .cmp .eql 0 (.t 17) (.c (.int .i64 1)), (some (15, true)), [5, 3]⟩,
       ⟨(some 19), .pick (.t 15) (.t 18) (.c (.bool false)), none, [3, 6]⟩,
       ⟨(some 20), .mov (.t 19), none, [7, 3]⟩,
       ⟨(some 21), .mov (.t 3), (some (20, true)), [8]⟩,
       ⟨(some 22), .iaddrS [.int .i64 0] (.t 21) (.c (.int .i64 0)), (some (20, true)), [9, 8]⟩,
       ⟨(some 23), .load 1 false (.t 22), (some (20, true)), [10, 8]⟩,
       ⟨(some 24), .cmp .eql 0 (.t 23) (.c (.int .i64 1)), (some (20, true)), [11, 8]⟩,
       ⟨(some 25), .pick (.t 20) (.t 24) (.c (.bool false)), none, [8, 12]⟩,
       ⟨(some 26), .mov (.t 25), none, [13, 8]⟩,
       ⟨(some 27), .bsliceO 5 9 [.int .u8 0] [(0, (.c (.int .u8 97))), (1, (.c (.int .u8 27))), (2, (.c (.int .u8 91))), (3, (.c (.int .u8 49))), (4, (.c (.int .u8 59))), (5, (.c (.int .u8 51))), (6, (.c (.int .u8 49))), (7, (.c (.int .u8 109))), (8, (.c (.int .u8 98)))], (some (26, true)), [14]⟩,
       ⟨(some 28), .mkstr (.t 27), (some (26, true)), [15, 14]⟩,
       ⟨(some 29), .call 14 [(.t 28)], (some (26, true)), [16, 14, 14]⟩,
       ⟨(some 30), .b2s (.t 29), (some (26, true)), [17, 14]⟩,
       ⟨(some 31), .cmp .eql 2 (.t 30) (.c (.str [97, 98])), (some (26, true)), [18, 14]⟩,
       ⟨(some 32), .pick (.t 26) (.t 31) (.c (.bool false)), none, [14, 19]⟩,
       ⟨(some 0), .mov (.t 32), none, [20, 17, 0, 1, 2, 3, 4, 5, 6, 7, 8, 9, 10, 11, 12, 13, 14, 15, 16, 17, 18, 19, 20]⟩])
     .ret)))
def rv9 : List RV := [.t 0]
theorem rc9_ok : comp Try.prog Try.f9.ntmps (Try.f9.body.getD .skip) = some (erase rc9) := by kernel_rfl
theorem rv9_ok : compRes Try.prog Try.f9.results.toList = some rv9 := by kernel_rfl

/-- baseboard/baseboardlaw37.shaped [22] -/
def rc10 : RC :=
  (.seq
   (.region [
     ⟨(some 2), .mov (.c (.nil)), none, []⟩] false)
   (.seq
    (.region [
      ⟨(some 3), .mov (.c (.nil)), none, []⟩] false)
    (.seq
     (.seq
      (.region [
        ⟨(some 6), .mov (.t 0), none, []⟩,
        ⟨(some 7), .len 0 (.t 6), none, [0]⟩,
        ⟨(some 8), .mov (.c (.int .i64 0)), none, []⟩] false)
      (.block 0
       (.loop 0
        (.seq
         (.region [
           ⟨(some 9), .cmp .lss 0 (.t 8) (.t 7), none, []⟩] false)
         (.seq
          (.cond (.t 9)
           .skip
           (.exit 0))
          (.seq
           (.block 1
            (.seq
             (.region [
               ⟨(some 10), .iaddrS [.int .u8 0] (.t 6) (.t 8), none, []⟩,
               ⟨(some 11), .load 1 false (.t 10), none, [0]⟩,
               ⟨(some 5), .mov (.t 11), none, [1, 0, 1]⟩] false)
             (.region [
               ⟨(some 12), .mov (.t 3), none, []⟩,
               ⟨(some 13), .mov (.t 5), none, []⟩,
               ⟨(some 14), .conv .i64 (.t 13), none, [1]⟩,
               ⟨(some 15), .arith .rem (.t 14) (.c (.int .i64 24)), none, [2]⟩,
               ⟨(some 16), .idxS (.c (.str [126, 126, 126, 13, 10, 46, 66, 82, 63, 97, 27, 27, 91, 91, 48, 59, 57, 32, 47, 64, 109, 126, 127, 128])) (.t 15), none, [3]⟩,
               ⟨(some 17), .bsliceO 5 1 [.int .u8 0] [(0, (.t 16))], none, [4]⟩,
               ⟨(some 18), .append 5 1 [.int .u8 0] (.t 12) (.t 17), none, [0, 5]⟩,
               ⟨(some 3), .mov (.t 18), none, [6, 6, 0, 1, 2, 3, 4, 5, 6]⟩] false)))
           (.region [
             ⟨(some 19), .arith .add (.t 8) (.c (.int .i64 1)), none, []⟩,
             ⟨(some 8), .mov (.t 19), none, [0]⟩] false)))))))
     (.seq
      (.region [
        ⟨(some 20), .mov (.t 3), none, []⟩,
        ⟨(some 2), .mov (.t 20), none, [0, 0]⟩] false)
      .ret))))
def rv10 : List RV := [.t 2]
theorem rc10_ok : comp Try.prog Try.f10.ntmps (Try.f10.body.getD .skip) = some (erase rc10) := by kernel_rfl
theorem rv10_ok : compRes Try.prog Try.f10.results.toList = some rv10 := by kernel_rfl

/-- baseboard/escape.Feed [25, 22] -/
def rc11 : RC :=
  (.seq
   (.region [
     ⟨(some 2), .box 2 (.t 0), none, []⟩,
     ⟨(some 4), .alloc [.bool false, .bool false], none, []⟩,
     ⟨(some 5), .mov (.c (.nil)), none, []⟩,
     ⟨(some 6), .mov (.c (.nil)), none, [2]⟩] false)
   (.seq
    (.region [
      ⟨(some 7), .mov (.c (.nil)), none, []⟩] false)
    (.seq
     (.region [
       ⟨(some 8), .mov (.c (.nil)), none, []⟩] false)
     (.seq
      (.seq
       (.region [
         ⟨(some 14), .mov (.t 1), none, []⟩,
         ⟨(some 15), .len 0 (.t 14), none, [0]⟩,
         ⟨(some 16), .mov (.c (.int .i64 0)), none, []⟩] false)
       (.block 0
        (.loop 0
         (.seq
          (.region [
            ⟨(some 17), .cmp .lss 0 (.t 16) (.t 15), none, []⟩] false)
          (.seq
           (.cond (.t 17)
            .skip
            (.exit 0))
           (.seq
            (.block 1
             (.seq
              (.region [
                ⟨(some 18), .iaddrS [.int .u8 0] (.t 14) (.t 16), none, []⟩,
                ⟨(some 19), .load 1 false (.t 18), none, [0]⟩,
                ⟨(some 10), .mov (.t 19), none, [1, 0, 1]⟩] false)
              (.seq
               (.region [
                 ⟨(some 21), .load 2 true (.t 2), none, []⟩,
                 ⟨(some 22), .mov (.t 10), none, []⟩,
                 ⟨(some 23), .call 12 [(.t 21), (.t 22)], none, [0, 1]⟩,
                 ⟨(some 20), .mov (.t 23), none, [2]⟩,
                 ⟨(some 24), .extract 0 (.t 20), none, [3]⟩,
                 ⟨(some 25), .extract 1 (.t 20), none, [3]⟩,
                 ⟨(some 26), .extract 2 (.t 20), none, [3]⟩,
                 ⟨(some 11), .alloc [.bool false, .bool false], none, []⟩,
                 ⟨none, .store 2 (.t 11) (.t 24), none, [7, 4, 2, 0, 1, 2, 3, 4, 7]⟩,
                 ⟨(some 12), .mov (.t 25), none, [5, 8, 0, 1, 2, 3, 4, 5, 7, 8]⟩,
                 ⟨(some 13), .mov (.t 26), none, [6, 9, 0, 1, 2, 3, 4, 5, 6, 7, 8, 9]⟩] false)
               (.seq
                (.region [
                  ⟨(some 27), .load 2 true (.t 11), none, []⟩,
                  ⟨(some 28), .mov (.t 7), none, []⟩,
                  ⟨(some 29), .mov (.t 12), none, []⟩,
                  ⟨(some 30), .appD 5 1 [.int .u8 0] (.t 28) (.t 29), none, [2, 1]⟩,
                  ⟨none, .store 2 (.t 2) (.t 27), none, [1, 2, 3, 0]⟩,
                  ⟨(some 7), .mov (.t 30), none, [2, 1, 0, 4, 3]⟩] true)
                (.seq
                 (.region [
                   ⟨(some 31), .mov (.t 13), none, []⟩,
                   ⟨(some 32), .cmp .neq 0 (.t 31) (.c (.int .i64 0)), none, [0]⟩] false)
                 (.cond (.t 32)
                  (.region [
                    ⟨(some 33), .mov (.t 8), none, []⟩,
                    ⟨(some 34), .mov (.t 13), none, []⟩,
                    ⟨(some 35), .bsliceO 3 1 [.int .i64 0] [(0, (.t 34))], none, [1]⟩,
                    ⟨(some 36), .append 3 8 [.int .i64 0] (.t 33) (.t 35), none, [0, 2]⟩,
                    ⟨(some 8), .mov (.t 36), none, [3, 3, 0, 1, 2, 3]⟩] false)
                  .skip))))))
            (.region [
              ⟨(some 37), .arith .add (.t 16) (.c (.int .i64 1)), none, []⟩,
              ⟨(some 16), .mov (.t 37), none, [0]⟩] false)))))))
      (.seq
       (.region [
         ⟨(some 38), .load 2 true (.t 2), none, []⟩,
         ⟨(some 39), .mov (.t 7), none, []⟩,
         ⟨(some 40), .mov (.t 8), none, []⟩,
         ⟨none, .store 2 (.t 4) (.t 38), none, [0, 0]⟩,
         ⟨(some 5), .mov (.t 39), none, [1, 3, 0, 1, 3]⟩,
         ⟨(some 6), .mov (.t 40), none, [2, 4, 0, 1, 2, 3, 4]⟩] false)
       .ret)))))
def rv11 : List RV := [.c 4 2 true, .t 5, .t 6]
theorem rc11_ok : comp Try.prog Try.f11.ntmps (Try.f11.body.getD .skip) = some (erase rc11) := by kernel_rfl
theorem rv11_ok : compRes Try.prog Try.f11.results.toList = some rv11 := by kernel_rfl

/-- baseboard/escape.Step [25, 5] -/
def rc12 : RC :=
  (.seq
   (.region [
     ⟨(some 2), .box 2 (.t 0), none, []⟩,
     ⟨(some 4), .alloc [.bool false, .bool false], none, []⟩,
     ⟨(some 5), .mov (.c (.nil)), none, []⟩,
     ⟨(some 6), .mov (.c (.int .i64 0)), none, [2]⟩] false)
   (.seq
    (.block 0
     (.seq
      (.region [
        ⟨(some 8), .faddr 1 (.t 2), none, []⟩,
        ⟨(some 9), .load 1 false (.t 8), none, [0]⟩,
        ⟨(some 10), .not (.t 9), none, [1]⟩,
        ⟨(some 11), .mov (.t 10), none, [2]⟩,
        ⟨(some 12), .faddr 0 (.t 2), (some (11, true)), [3]⟩,
        ⟨(some 13), .load 1 false (.t 12), (some (11, true)), [4, 3]⟩,
        ⟨(some 14), .pick (.t 11) (.t 13) (.c (.bool false)), none, [3, 5]⟩,
        ⟨(some 15), .mov (.t 14), none, [6, 3]⟩,
        ⟨(some 16), .mov (.t 1), (some (15, true)), [7]⟩,
        ⟨(some 17), .cmp .eql 0 (.t 16) (.c (.int .u8 126)), (some (15, true)), [8, 7]⟩,
        ⟨(some 18), .pick (.t 15) (.t 17) (.c (.bool false)), none, [7, 9]⟩,
        ⟨(some 7), .mov (.t 18), none, [10, 7]⟩] false)
      (.cond (.t 7)
       (.seq
        (.region [
          ⟨(some 19), .faddr 0 (.t 2), none, []⟩,
          ⟨(some 20), .load 1 false (.t 19), none, [0]⟩,
          ⟨(some 21), .build [.bool false, .bool false] [(0, 1, (.t 20)), (1, 1, (.c (.bool true)))], none, [1]⟩,
          ⟨none, .store 2 (.t 4) (.t 21), none, [2, 0, 1, 2]⟩,
          ⟨(some 5), .mov (.c (.nil)), none, [3, 0, 1, 2, 3]⟩,
          ⟨(some 6), .mov (.c (.int .i64 0)), none, [4, 0, 1, 2, 3, 4]⟩] false)
        .ret)
       (.seq
        (.region [
          ⟨(some 23), .faddr 1 (.t 2), none, []⟩,
          ⟨(some 24), .load 1 false (.t 23), none, [0]⟩,
          ⟨(some 25), .not (.t 24), none, [1]⟩,
          ⟨(some 22), .mov (.t 25), none, [2]⟩] false)
        (.cond (.t 22)
         (.seq
          (.region [
            ⟨(some 26), .mov (.t 1), none, []⟩,
            ⟨(some 27), .call 22 [(.t 26)], none, [0]⟩,
            ⟨(some 28), .build [.bool false, .bool false] [(0, 1, (.t 27))], none, [1]⟩,
            ⟨(some 29), .mov (.t 1), none, []⟩,
            ⟨(some 30), .bsliceO 5 1 [.int .u8 0] [(0, (.t 29))], none, [3]⟩,
            ⟨none, .store 2 (.t 4) (.t 28), none, [2, 1, 0, 1, 2]⟩,
            ⟨(some 5), .mov (.t 30), none, [4, 5, 0, 1, 2, 3, 4, 5]⟩,
            ⟨(some 6), .mov (.c (.int .i64 0)), none, [6, 0, 1, 2, 3, 4, 5, 6]⟩] false)
          .ret)
         (.seq
          (.region [
            ⟨(some 32), .mov (.t 1), none, []⟩,
            ⟨(some 33), .call 23 [(.t 32)], none, [0]⟩,
            ⟨(some 34), .cmp .neq 0 (.t 33) (.c (.int .i64 0)), none, [1]⟩,
            ⟨(some 31), .mov (.t 34), none, [2, 1]⟩] false)
          (.cond (.t 31)
           (.seq
            (.region [
              ⟨(some 35), .build [.bool false, .bool false] [(0, 1, (.c (.bool true)))], none, []⟩,
              ⟨(some 36), .mov (.t 1), none, []⟩,
              ⟨(some 37), .call 23 [(.t 36)], none, [1]⟩,
              ⟨none, .store 2 (.t 4) (.t 35), none, [0, 2, 0]⟩,
              ⟨(some 5), .mov (.c (.nil)), none, [3, 0, 3]⟩,
              ⟨(some 6), .mov (.t 37), none, [2, 4, 0, 1, 2, 3, 4]⟩] false)
            .ret)
           (.seq
            (.region [
              ⟨(some 39), .mov (.t 1), none, []⟩,
              ⟨(some 40), .cmp .eql 0 (.t 39) (.c (.int .u8 126)), none, [0]⟩,
              ⟨(some 38), .mov (.t 40), none, [1]⟩] false)
            (.cond (.t 38)
             (.seq
              (.region [
                ⟨(some 41), .build [.bool false, .bool false] [], none, []⟩,
                ⟨(some 42), .bsliceO 5 1 [.int .u8 0] [(0, (.c (.int .u8 126)))], none, []⟩,
                ⟨none, .store 2 (.t 4) (.t 41), none, [0, 0]⟩,
                ⟨(some 5), .mov (.t 42), none, [1, 2, 0, 1, 2]⟩,
                ⟨(some 6), .mov (.c (.int .i64 0)), none, [3, 0, 1, 2, 3]⟩] false)
              .ret)
             .skip)))))))))
    (.seq
     (.region [
       ⟨(some 43), .mov (.t 1), none, []⟩,
       ⟨(some 44), .call 22 [(.t 43)], none, [0]⟩,
       ⟨(some 45), .build [.bool false, .bool false] [(0, 1, (.t 44))], none, [1]⟩,
       ⟨(some 46), .mov (.t 1), none, []⟩,
       ⟨(some 47), .bsliceO 5 2 [.int .u8 0] [(0, (.c (.int .u8 126))), (1, (.t 46))], none, [3]⟩,
       ⟨none, .store 2 (.t 4) (.t 45), none, [2, 1, 0, 1, 2]⟩,
       ⟨(some 5), .mov (.t 47), none, [4, 5, 0, 1, 2, 3, 4, 5]⟩,
       ⟨(some 6), .mov (.c (.int .i64 0)), none, [6, 0, 1, 2, 3, 4, 5, 6]⟩] false)
     .ret)))
def rv12 : List RV := [.c 4 2 true, .t 5, .t 6]
theorem rc12_ok : comp Try.prog Try.f12.ntmps (Try.f12.body.getD .skip) = some (erase rc12) := by kernel_rfl
theorem rv12_ok : compRes Try.prog Try.f12.results.toList = some rv12 := by kernel_rfl

/-- baseboard/baseboardlaw37.ints [28, 28] -/
def rc13 : RC :=
  (.seq
   (.region [
     ⟨(some 4), .mov (.c (.bool false)), none, []⟩] false)
   (.seq
    (.seq
     (.region [
       ⟨(some 6), .mov (.t 0), none, []⟩,
       ⟨(some 7), .len 0 (.t 6), none, [0]⟩,
       ⟨(some 8), .mov (.t 1), none, []⟩,
       ⟨(some 9), .len 0 (.t 8), none, [2]⟩,
       ⟨(some 10), .cmp .neq 0 (.t 7) (.t 9), none, [1, 3]⟩] false)
     (.cond (.t 10)
      (.seq
       (.region [
         ⟨(some 4), .mov (.c (.bool false)), none, []⟩] false)
       .ret)
      .skip))
    (.seq
     (.seq
      (.region [
        ⟨(some 5), .mov (.c (.int .i64 0)), none, []⟩] false)
      (.block 0
       (.loop 0
        (.seq
         (.seq
          (.region [
            ⟨(some 11), .mov (.t 5), none, []⟩,
            ⟨(some 12), .mov (.t 0), none, []⟩,
            ⟨(some 13), .len 0 (.t 12), none, [1]⟩,
            ⟨(some 14), .cmp .lss 0 (.t 11) (.t 13), none, [0, 2]⟩] false)
          (.cond (.t 14)
           .skip
           (.exit 0)))
         (.seq
          (.block 1
           (.seq
            (.region [
              ⟨(some 17), .mov (.t 0), none, []⟩,
              ⟨(some 18), .mov (.t 5), none, []⟩,
              ⟨(some 19), .iaddrS [.int .i64 0] (.t 17) (.t 18), none, [1, 0]⟩,
              ⟨(some 20), .load 1 false (.t 19), none, [0, 1, 2]⟩,
              ⟨(some 21), .mov (.t 1), none, []⟩,
              ⟨(some 22), .mov (.t 5), none, []⟩,
              ⟨(some 23), .iaddrS [.int .i64 0] (.t 21) (.t 22), none, [5, 4]⟩,
              ⟨(some 24), .load 1 false (.t 23), none, [4, 5, 6]⟩,
              ⟨(some 25), .cmp .neq 0 (.t 20) (.t 24), none, [6, 5, 4, 2, 1, 0, 7, 3]⟩] true)
            (.cond (.t 25)
             (.seq
              (.region [
                ⟨(some 4), .mov (.c (.bool false)), none, []⟩] false)
              .ret)
             .skip)))
          (.region [
            ⟨(some 15), .mov (.t 5), none, []⟩,
            ⟨(some 16), .arith .add (.t 15) (.c (.int .i64 1)), none, [0]⟩,
            ⟨(some 5), .mov (.t 16), none, [1, 0, 1]⟩] false))))))
     (.seq
      (.region [
        ⟨(some 4), .mov (.c (.bool true)), none, []⟩] false)
      .ret))))
def rv13 : List RV := [.t 4]
theorem rc13_ok : comp Try.prog Try.f13.ntmps (Try.f13.body.getD .skip) = some (erase rc13) := by kernel_rfl
theorem rv13_ok : compRes Try.prog Try.f13.results.toList = some rv13 := by kernel_rfl

/-- baseboard/escape.Strip [22] -/
def rc14 : RC :=
  (.seq
   (.region [
     ⟨(some 2), .mov (.c (.nil)), none, []⟩] false)
   (.seq
    (.region [
      ⟨(some 3), .mov (.c (.nil)), none, []⟩] false)
    (.seq
     (.region [
       ⟨(some 4), .mov (.c (.fn 24)), none, []⟩] false)
     (.seq
      (.seq
       (.region [
         ⟨(some 9), .mov (.t 0), none, []⟩,
         ⟨(some 10), .len 0 (.t 9), none, [0]⟩,
         ⟨(some 11), .mov (.c (.int .i64 0)), none, []⟩] false)
       (.block 0
        (.loop 0
         (.seq
          (.region [
            ⟨(some 12), .cmp .lss 0 (.t 11) (.t 10), none, []⟩] false)
          (.seq
           (.cond (.t 12)
            .skip
            (.exit 0))
           (.seq
            (.block 1
             (.seq
              (.region [
                ⟨(some 13), .iaddrS [.int .u8 0] (.t 9) (.t 11), none, []⟩,
                ⟨(some 14), .load 1 false (.t 13), none, [0]⟩,
                ⟨(some 6), .mov (.t 14), none, [1, 0, 1]⟩] false)
              (.seq
               (.region [
                 ⟨(some 16), .mov (.t 4), none, []⟩,
                 ⟨(some 17), .mov (.t 6), none, []⟩,
                 ⟨(some 18), .callv [2, 3, 4, 5, 6, 7, 8, 9, 10, 11, 12, 13, 14, 15, 16, 17, 18, 19, 20, 21, 22, 23, 24, 25, 26, 27, 28, 29, 30] (.t 16) [(.t 17)], none, [0, 1]⟩,
                 ⟨(some 15), .mov (.t 18), none, [2]⟩,
                 ⟨(some 19), .extract 0 (.t 15), none, [3]⟩,
                 ⟨(some 20), .extract 1 (.t 15), none, [3]⟩,
                 ⟨(some 7), .mov (.t 19), none, [4, 2, 0, 1, 2, 3, 4]⟩,
                 ⟨(some 8), .mov (.t 20), none, [5, 6, 0, 1, 2, 3, 4, 5, 6]⟩] false)
               (.seq
                (.seq
                 (.region [
                   ⟨(some 21), .mov (.t 8), none, []⟩] false)
                 (.cond (.t 21)
                  (.region [
                    ⟨(some 22), .mov (.t 3), none, []⟩,
                    ⟨(some 23), .mov (.t 6), none, []⟩,
                    ⟨(some 24), .bsliceO 5 1 [.int .u8 0] [(0, (.t 23))], none, [1]⟩,
                    ⟨(some 25), .append 5 1 [.int .u8 0] (.t 22) (.t 24), none, [0, 2]⟩,
                    ⟨(some 3), .mov (.t 25), none, [3, 3, 0, 1, 2, 3]⟩] false)
                  .skip))
                (.region [
                  ⟨(some 26), .mov (.t 7), none, []⟩,
                  ⟨(some 4), .mov (.t 26), none, [0, 0]⟩] false)))))
            (.region [
              ⟨(some 27), .arith .add (.t 11) (.c (.int .i64 1)), none, []⟩,
              ⟨(some 11), .mov (.t 27), none, [0]⟩] false)))))))
      (.seq
       (.region [
         ⟨(some 28), .mov (.t 3), none, []⟩,
         ⟨(some 2), .mov (.t 28), none, [0, 0]⟩] false)
       .ret)))))
def rv14 : List RV := [.t 2]
theorem rc14_ok : comp Try.prog Try.f14.ntmps (Try.f14.body.getD .skip) = some (erase rc14) := by kernel_rfl
theorem rv14_ok : compRes Try.prog Try.f14.results.toList = some rv14 := by kernel_rfl

/-- baseboard/escape.New [] -/
def rc15 : RC :=
  (.seq
   (.region [
     ⟨(some 0), .alloc [.bool false, .bool false], none, []⟩] false)
   (.seq
    (.region [
      ⟨(some 1), .build [.bool false, .bool false] [(0, 1, (.c (.bool true)))], none, []⟩,
      ⟨none, .store 2 (.t 0) (.t 1), none, [0, 0]⟩] false)
    .ret))
def rv15 : List RV := [.c 0 2 true]
theorem rc15_ok : comp Try.prog Try.f15.ntmps (Try.f15.body.getD .skip) = some (erase rc15) := by kernel_rfl
theorem rv15_ok : compRes Try.prog Try.f15.results.toList = some rv15 := by kernel_rfl

/-- baseboard/baseboardref37.New [] -/
def rc16 : RC :=
  (.seq
   (.region [
     ⟨(some 0), .alloc [.bool false, .bool false], none, []⟩] false)
   (.seq
    (.region [
      ⟨(some 1), .build [.bool false, .bool false] [(0, 1, (.c (.bool true)))], none, []⟩,
      ⟨none, .store 2 (.t 0) (.t 1), none, [0, 0]⟩] false)
    .ret))
def rv16 : List RV := [.c 0 2 true]
theorem rc16_ok : comp Try.prog Try.f16.ntmps (Try.f16.body.getD .skip) = some (erase rc16) := by kernel_rfl
theorem rv16_ok : compRes Try.prog Try.f16.results.toList = some rv16 := by kernel_rfl

/-- baseboard/baseboardref37.Step [25, 5] -/
def rc17 : RC :=
  (.seq
   (.region [
     ⟨(some 2), .box 2 (.t 0), none, []⟩,
     ⟨(some 4), .alloc [.bool false, .bool false], none, []⟩,
     ⟨(some 5), .mov (.c (.nil)), none, []⟩,
     ⟨(some 6), .mov (.c (.int .i64 0)), none, [2]⟩] false)
   (.seq
    (.seq
     (.region [
       ⟨(some 8), .faddr 1 (.t 2), none, []⟩,
       ⟨(some 9), .load 1 false (.t 8), none, [0]⟩,
       ⟨(some 10), .not (.t 9), none, [1]⟩] false)
     (.cond (.t 10)
      (.seq
       (.seq
        (.region [
          ⟨(some 11), .faddr 0 (.t 2), none, []⟩,
          ⟨(some 12), .load 1 false (.t 11), none, [0]⟩,
          ⟨(some 13), .mov (.t 12), none, [1]⟩,
          ⟨(some 14), .mov (.t 1), (some (13, true)), [2]⟩,
          ⟨(some 15), .cmp .eql 0 (.t 14) (.c (.int .u8 126)), (some (13, true)), [3, 2]⟩,
          ⟨(some 16), .pick (.t 13) (.t 15) (.c (.bool false)), none, [2, 4]⟩] false)
        (.cond (.t 16)
         (.seq
          (.region [
            ⟨(some 17), .build [.bool false, .bool false] [(0, 1, (.c (.bool true))), (1, 1, (.c (.bool true)))], none, []⟩,
            ⟨none, .store 2 (.t 4) (.t 17), none, [0, 0]⟩,
            ⟨(some 5), .mov (.c (.nil)), none, [1, 0, 1]⟩,
            ⟨(some 6), .mov (.c (.int .i64 0)), none, [2, 0, 1, 2]⟩] false)
          .ret)
         .skip))
       (.seq
        (.region [
          ⟨(some 18), .mov (.t 1), none, []⟩,
          ⟨(some 19), .call 25 [(.t 18)], none, [0]⟩,
          ⟨(some 20), .build [.bool false, .bool false] [(0, 1, (.t 19))], none, [1]⟩,
          ⟨(some 21), .mov (.t 1), none, []⟩,
          ⟨(some 22), .bsliceO 5 1 [.int .u8 0] [(0, (.t 21))], none, [3]⟩,
          ⟨none, .store 2 (.t 4) (.t 20), none, [2, 1, 0, 1, 2]⟩,
          ⟨(some 5), .mov (.t 22), none, [4, 5, 0, 1, 2, 3, 4, 5]⟩,
          ⟨(some 6), .mov (.c (.int .i64 0)), none, [6, 0, 1, 2, 3, 4, 5, 6]⟩] false)
        .ret))
      .skip))
    (.seq
     (.seq
      (.region [
        ⟨(some 23), .mov (.t 1), none, []⟩,
        ⟨(some 24), .call 26 [(.t 23)], none, [0]⟩,
        ⟨(some 7), .mov (.t 24), none, [1, 1, 0, 1]⟩] false)
      (.seq
       (.region [
         ⟨(some 25), .mov (.t 7), none, []⟩,
         ⟨(some 26), .cmp .neq 0 (.t 25) (.c (.int .i64 0)), none, [0]⟩] false)
       (.cond (.t 26)
        (.seq
         (.region [
           ⟨(some 27), .build [.bool false, .bool false] [(0, 1, (.c (.bool true)))], none, []⟩,
           ⟨(some 28), .mov (.t 7), none, []⟩,
           ⟨none, .store 2 (.t 4) (.t 27), none, [0, 0]⟩,
           ⟨(some 5), .mov (.c (.nil)), none, [2, 0, 2]⟩,
           ⟨(some 6), .mov (.t 28), none, [1, 3, 0, 1, 2, 3]⟩] false)
         .ret)
        .skip)))
     (.seq
      (.seq
       (.region [
         ⟨(some 29), .mov (.t 1), none, []⟩,
         ⟨(some 30), .cmp .eql 0 (.t 29) (.c (.int .u8 126)), none, [0]⟩] false)
       (.cond (.t 30)
        (.seq
         (.region [
           ⟨(some 31), .build [.bool false, .bool false] [], none, []⟩,
           ⟨(some 32), .mov (.t 1), none, []⟩,
           ⟨(some 33), .bsliceO 5 1 [.int .u8 0] [(0, (.t 32))], none, [1]⟩,
           ⟨none, .store 2 (.t 4) (.t 31), none, [0, 0]⟩,
           ⟨(some 5), .mov (.t 33), none, [2, 3, 0, 1, 2, 3]⟩,
           ⟨(some 6), .mov (.c (.int .i64 0)), none, [4, 0, 1, 2, 3, 4]⟩] false)
         .ret)
        .skip))
      (.seq
       (.region [
         ⟨(some 34), .mov (.t 1), none, []⟩,
         ⟨(some 35), .call 25 [(.t 34)], none, [0]⟩,
         ⟨(some 36), .build [.bool false, .bool false] [(0, 1, (.t 35))], none, [1]⟩,
         ⟨(some 37), .mov (.t 1), none, []⟩,
         ⟨(some 38), .bsliceO 5 2 [.int .u8 0] [(0, (.c (.int .u8 126))), (1, (.t 37))], none, [3]⟩,
         ⟨none, .store 2 (.t 4) (.t 36), none, [2, 1, 0, 1, 2]⟩,
         ⟨(some 5), .mov (.t 38), none, [4, 5, 0, 1, 2, 3, 4, 5]⟩,
         ⟨(some 6), .mov (.c (.int .i64 0)), none, [6, 0, 1, 2, 3, 4, 5, 6]⟩] false)
       .ret)))))
def rv17 : List RV := [.c 4 2 true, .t 5, .t 6]
theorem rc17_ok : comp Try.prog Try.f17.ntmps (Try.f17.body.getD .skip) = some (erase rc17) := by kernel_rfl
theorem rv17_ok : compRes Try.prog Try.f17.results.toList = some rv17 := by kernel_rfl

/-- baseboard/baseboardref37.Feed [25, 22] -/
def rc18 : RC :=
  (.seq
   (.region [
     ⟨(some 2), .box 2 (.t 0), none, []⟩,
     ⟨(some 4), .alloc [.bool false, .bool false], none, []⟩,
     ⟨(some 5), .mov (.c (.nil)), none, []⟩,
     ⟨(some 6), .mov (.c (.nil)), none, [2]⟩] false)
   (.seq
    (.region [
      ⟨(some 7), .mov (.c (.nil)), none, []⟩] false)
    (.seq
     (.region [
       ⟨(some 8), .mov (.c (.nil)), none, []⟩] false)
     (.seq
      (.seq
       (.region [
         ⟨(some 9), .mov (.c (.int .i64 0)), none, []⟩] false)
       (.block 0
        (.loop 0
         (.seq
          (.seq
           (.region [
             ⟨(some 13), .mov (.t 9), none, []⟩,
             ⟨(some 14), .mov (.t 1), none, []⟩,
             ⟨(some 15), .len 0 (.t 14), none, [1]⟩,
             ⟨(some 16), .cmp .lss 0 (.t 13) (.t 15), none, [0, 2]⟩] false)
           (.cond (.t 16)
            .skip
            (.exit 0)))
          (.seq
           (.block 1
            (.seq
             (.region [
               ⟨(some 20), .load 2 true (.t 2), none, []⟩,
               ⟨(some 21), .mov (.t 1), none, []⟩,
               ⟨(some 22), .mov (.t 9), none, []⟩,
               ⟨(some 23), .iaddrS [.int .u8 0] (.t 21) (.t 22), none, [2, 1]⟩,
               ⟨(some 24), .load 1 false (.t 23), none, [1, 2, 3]⟩,
               ⟨(some 25), .call 17 [(.t 20), (.t 24)], none, [3, 2, 1, 4, 0]⟩,
               ⟨(some 19), .mov (.t 25), none, [0, 4, 1, 2, 3, 5]⟩,
               ⟨(some 26), .extract 0 (.t 19), none, [5, 3, 2, 1, 4, 0, 6]⟩,
               ⟨(some 27), .extract 1 (.t 19), none, [5, 3, 2, 1, 4, 0, 6]⟩,
               ⟨(some 28), .extract 2 (.t 19), none, [5, 3, 2, 1, 4, 0, 6]⟩,
               ⟨(some 10), .alloc [.bool false, .bool false], none, []⟩,
               ⟨none, .store 2 (.t 10) (.t 26), none, [6, 4, 3, 2, 1, 0, 5, 7, 10]⟩,
               ⟨(some 11), .mov (.t 27), none, [10, 7, 6, 5, 4, 3, 2, 1, 0, 11, 8]⟩,
               ⟨(some 12), .mov (.t 28), none, [11, 10, 8, 7, 6, 5, 4, 3, 2, 1, 0, 12, 9]⟩] true)
             (.seq
              (.region [
                ⟨(some 29), .load 2 true (.t 10), none, []⟩,
                ⟨(some 30), .mov (.t 7), none, []⟩,
                ⟨(some 31), .mov (.t 11), none, []⟩,
                ⟨(some 32), .appD 5 1 [.int .u8 0] (.t 30) (.t 31), none, [2, 1]⟩,
                ⟨none, .store 2 (.t 2) (.t 29), none, [1, 2, 3, 0]⟩,
                ⟨(some 7), .mov (.t 32), none, [2, 1, 0, 4, 3]⟩] true)
              (.seq
               (.region [
                 ⟨(some 33), .mov (.t 12), none, []⟩,
                 ⟨(some 34), .cmp .neq 0 (.t 33) (.c (.int .i64 0)), none, [0]⟩] false)
               (.cond (.t 34)
                (.region [
                  ⟨(some 35), .mov (.t 8), none, []⟩,
                  ⟨(some 36), .mov (.t 12), none, []⟩,
                  ⟨(some 37), .bsliceO 3 1 [.int .i64 0] [(0, (.t 36))], none, [1]⟩,
                  ⟨(some 38), .append 3 8 [.int .i64 0] (.t 35) (.t 37), none, [0, 2]⟩,
                  ⟨(some 8), .mov (.t 38), none, [3, 3, 0, 1, 2, 3]⟩] false)
                .skip)))))
           (.region [
             ⟨(some 17), .mov (.t 9), none, []⟩,
             ⟨(some 18), .arith .add (.t 17) (.c (.int .i64 1)), none, [0]⟩,
             ⟨(some 9), .mov (.t 18), none, [1, 0, 1]⟩] false))))))
      (.seq
       (.region [
         ⟨(some 39), .load 2 true (.t 2), none, []⟩,
         ⟨(some 40), .mov (.t 7), none, []⟩,
         ⟨(some 41), .mov (.t 8), none, []⟩,
         ⟨none, .store 2 (.t 4) (.t 39), none, [0, 0]⟩,
         ⟨(some 5), .mov (.t 40), none, [1, 3, 0, 1, 3]⟩,
         ⟨(some 6), .mov (.t 41), none, [2, 4, 0, 1, 2, 3, 4]⟩] false)
       .ret)))))
def rv18 : List RV := [.c 4 2 true, .t 5, .t 6]
theorem rc18_ok : comp Try.prog Try.f18.ntmps (Try.f18.body.getD .skip) = some (erase rc18) := by kernel_rfl
theorem rv18_ok : compRes Try.prog Try.f18.results.toList = some rv18 := by kernel_rfl

/-- baseboard/escape.Quote [22] -/
def rc19 : RC :=
  (.seq
   (.region [
     ⟨(some 2), .mov (.c (.nil)), none, []⟩] false)
   (.seq
    (.region [
      ⟨(some 3), .mov (.c (.nil)), none, []⟩] false)
    (.seq
     (.region [
       ⟨(some 4), .mov (.c (.bool true)), none, []⟩] false)
     (.seq
      (.seq
       (.region [
         ⟨(some 7), .mov (.t 0), none, []⟩,
         ⟨(some 8), .len 0 (.t 7), none, [0]⟩,
         ⟨(some 9), .mov (.c (.int .i64 0)), none, []⟩] false)
       (.block 0
        (.loop 0
         (.seq
          (.region [
            ⟨(some 10), .cmp .lss 0 (.t 9) (.t 8), none, []⟩] false)
          (.seq
           (.cond (.t 10)
            .skip
            (.exit 0))
           (.seq
            (.block 1
             (.seq
              (.region [
                ⟨(some 11), .iaddrS [.int .u8 0] (.t 7) (.t 9), none, []⟩,
                ⟨(some 12), .load 1 false (.t 11), none, [0]⟩,
                ⟨(some 6), .mov (.t 12), none, [1, 0, 1]⟩] false)
              (.seq
               (.seq
                (.region [
                  ⟨(some 13), .mov (.t 4), none, []⟩,
                  ⟨(some 14), .mov (.t 13), none, [0]⟩,
                  ⟨(some 15), .mov (.t 6), (some (14, true)), [1]⟩,
                  ⟨(some 16), .cmp .eql 0 (.t 15) (.c (.int .u8 126)), (some (14, true)), [2, 1]⟩,
                  ⟨(some 17), .pick (.t 14) (.t 16) (.c (.bool false)), none, [1, 3]⟩] false)
                (.cond (.t 17)
                 (.region [
                   ⟨(some 18), .mov (.t 3), none, []⟩,
                   ⟨(some 19), .bsliceO 5 1 [.int .u8 0] [(0, (.c (.int .u8 126)))], none, []⟩,
                   ⟨(some 20), .append 5 1 [.int .u8 0] (.t 18) (.t 19), none, [0, 1]⟩,
                   ⟨(some 3), .mov (.t 20), none, [2, 2, 0, 1, 2]⟩] false)
                 .skip))
               (.seq
                (.region [
                  ⟨(some 21), .mov (.t 3), none, []⟩,
                  ⟨(some 22), .mov (.t 6), none, []⟩,
                  ⟨(some 23), .bsliceO 5 1 [.int .u8 0] [(0, (.t 22))], none, [1]⟩,
                  ⟨(some 24), .append 5 1 [.int .u8 0] (.t 21) (.t 23), none, [0, 2]⟩,
                  ⟨(some 3), .mov (.t 24), none, [3, 3, 0, 1, 2, 3]⟩] false)
                (.region [
                  ⟨(some 25), .mov (.t 6), none, []⟩,
                  ⟨(some 26), .call 22 [(.t 25)], none, [0]⟩,
                  ⟨(some 4), .mov (.t 26), none, [1, 1, 0, 1]⟩] false)))))
            (.region [
              ⟨(some 27), .arith .add (.t 9) (.c (.int .i64 1)), none, []⟩,
              ⟨(some 9), .mov (.t 27), none, [0]⟩] false)))))))
      (.seq
       (.region [
         ⟨(some 28), .mov (.t 3), none, []⟩,
         ⟨(some 2), .mov (.t 28), none, [0, 0]⟩] false)
       .ret)))))
def rv19 : List RV := [.t 2]
theorem rc19_ok : comp Try.prog Try.f19.ntmps (Try.f19.body.getD .skip) = some (erase rc19) := by kernel_rfl
theorem rv19_ok : compRes Try.prog Try.f19.results.toList = some rv19 := by kernel_rfl

/-- baseboard/baseboardref37.Quote [22] -/
def rc20 : RC :=
  (.seq
   (.region [
     ⟨(some 2), .mov (.c (.nil)), none, []⟩] false)
   (.seq
    (.region [
      ⟨(some 3), .mov (.c (.nil)), none, []⟩] false)
    (.seq
     (.seq
      (.region [
        ⟨(some 4), .mov (.c (.int .i64 0)), none, []⟩] false)
      (.block 0
       (.loop 0
        (.seq
         (.seq
          (.region [
            ⟨(some 5), .mov (.t 4), none, []⟩,
            ⟨(some 6), .mov (.t 0), none, []⟩,
            ⟨(some 7), .len 0 (.t 6), none, [1]⟩,
            ⟨(some 8), .cmp .lss 0 (.t 5) (.t 7), none, [0, 2]⟩] false)
          (.cond (.t 8)
           .skip
           (.exit 0)))
         (.seq
          (.block 1
           (.seq
            (.seq
             (.region [
               ⟨(some 11), .mov (.t 0), none, []⟩,
               ⟨(some 12), .mov (.t 4), none, []⟩,
               ⟨(some 13), .iaddrS [.int .u8 0] (.t 11) (.t 12), none, [0, 1]⟩,
               ⟨(some 14), .load 1 false (.t 13), none, [2]⟩,
               ⟨(some 15), .cmp .eql 0 (.t 14) (.c (.int .u8 126)), none, [3]⟩,
               ⟨(some 16), .mov (.t 15), none, [4]⟩,
               ⟨(some 17), .mov (.t 4), (some (16, true)), [5]⟩,
               ⟨(some 18), .cmp .eql 0 (.t 17) (.c (.int .i64 0)), (some (16, true)), [6, 5]⟩,
               ⟨(some 19), .mov (.t 18), (some (16, true)), [7, 5, 5]⟩,
               ⟨(some 20), .mov (.t 0), (some (19, false)), [8]⟩,
               ⟨(some 21), .mov (.t 4), (some (19, false)), [8]⟩,
               ⟨(some 22), .arith .sub (.t 21) (.c (.int .i64 1)), (some (19, false)), [10, 8]⟩,
               ⟨(some 23), .iaddrS [.int .u8 0] (.t 20) (.t 22), (some (19, false)), [9, 11, 8]⟩,
               ⟨(some 24), .load 1 false (.t 23), (some (19, false)), [12, 8]⟩,
               ⟨(some 25), .call 25 [(.t 24)], (some (19, false)), [13, 8, 8]⟩,
               ⟨(some 26), .pick (.t 19) (.c (.bool true)) (.t 25), (some (16, true)), [8, 14, 5]⟩,
               ⟨(some 27), .pick (.t 16) (.t 26) (.c (.bool false)), none, [5, 15]⟩] false)
             (.cond (.t 27)
              (.region [
                ⟨(some 28), .mov (.t 3), none, []⟩,
                ⟨(some 29), .bsliceO 5 1 [.int .u8 0] [(0, (.c (.int .u8 126)))], none, []⟩,
                ⟨(some 30), .append 5 1 [.int .u8 0] (.t 28) (.t 29), none, [0, 1]⟩,
                ⟨(some 3), .mov (.t 30), none, [2, 2, 0, 1, 2]⟩] false)
              .skip))
            (.region [
              ⟨(some 31), .mov (.t 3), none, []⟩,
              ⟨(some 32), .mov (.t 0), none, []⟩,
              ⟨(some 33), .mov (.t 4), none, []⟩,
              ⟨(some 34), .iaddrS [.int .u8 0] (.t 32) (.t 33), none, [1, 2]⟩,
              ⟨(some 35), .load 1 false (.t 34), none, [3]⟩,
              ⟨(some 36), .bsliceO 5 1 [.int .u8 0] [(0, (.t 35))], none, [4]⟩,
              ⟨(some 37), .append 5 1 [.int .u8 0] (.t 31) (.t 36), none, [0, 5]⟩,
              ⟨(some 3), .mov (.t 37), none, [6, 6, 0, 1, 2, 3, 4, 5, 6]⟩] false)))
          (.region [
            ⟨(some 9), .mov (.t 4), none, []⟩,
            ⟨(some 10), .arith .add (.t 9) (.c (.int .i64 1)), none, [0]⟩,
            ⟨(some 4), .mov (.t 10), none, [1, 0, 1]⟩] false))))))
     (.seq
      (.region [
        ⟨(some 38), .mov (.t 3), none, []⟩,
        ⟨(some 2), .mov (.t 38), none, [0, 0]⟩] false)
      .ret))))
def rv20 : List RV := [.t 2]
theorem rc20_ok : comp Try.prog Try.f20.ntmps (Try.f20.body.getD .skip) = some (erase rc20) := by kernel_rfl
theorem rv20_ok : compRes Try.prog Try.f20.results.toList = some rv20 := by kernel_rfl

/-- baseboard/baseboardref37.Strip [22] -/
def rc21 : RC :=
  (.seq
   (.region [
     ⟨(some 2), .mov (.c (.nil)), none, []⟩] false)
   (.seq
    (.region [
      ⟨(some 3), .mov (.c (.nil)), none, []⟩] false)
    (.seq
     (.seq
      (.region [
        ⟨(some 4), .mov (.c (.int .i64 0)), none, []⟩] false)
      (.block 0
       (.loop 0
        (.seq
         (.seq
          (.region [
            ⟨(some 5), .mov (.t 4), none, []⟩,
            ⟨(some 6), .mov (.t 0), none, []⟩,
            ⟨(some 7), .len 0 (.t 6), none, [1]⟩,
            ⟨(some 8), .cmp .lss 0 (.t 5) (.t 7), none, [0, 2]⟩] false)
          (.cond (.t 8)
           .skip
           (.exit 0)))
         (.block 1
          (.seq
           (.seq
            (.region [
              ⟨(some 9), .mov (.t 0), none, []⟩,
              ⟨(some 10), .mov (.t 4), none, []⟩,
              ⟨(some 11), .iaddrS [.int .u8 0] (.t 9) (.t 10), none, [0, 1]⟩,
              ⟨(some 12), .load 1 false (.t 11), none, [2]⟩,
              ⟨(some 13), .cmp .eql 0 (.t 12) (.c (.int .u8 27)), none, [3]⟩] false)
            (.cond (.t 13)
             (.seq
              (.region [
                ⟨(some 14), .mov (.t 0), none, []⟩,
                ⟨(some 15), .mov (.t 4), none, []⟩,
                ⟨(some 16), .call 27 [(.t 14), (.t 15)], none, [0, 1]⟩,
                ⟨(some 4), .mov (.t 16), none, [2, 2, 0, 1, 2]⟩] false)
              (.exit 1))
             .skip))
           (.seq
            (.region [
              ⟨(some 17), .mov (.t 3), none, []⟩,
              ⟨(some 18), .mov (.t 0), none, []⟩,
              ⟨(some 19), .mov (.t 4), none, []⟩,
              ⟨(some 20), .iaddrS [.int .u8 0] (.t 18) (.t 19), none, [1, 2]⟩,
              ⟨(some 21), .load 1 false (.t 20), none, [3]⟩,
              ⟨(some 22), .bsliceO 5 1 [.int .u8 0] [(0, (.t 21))], none, [4]⟩,
              ⟨(some 23), .append 5 1 [.int .u8 0] (.t 17) (.t 22), none, [0, 5]⟩,
              ⟨(some 3), .mov (.t 23), none, [6, 6, 0, 1, 2, 3, 4, 5, 6]⟩] false)
            (.region [
              ⟨(some 24), .mov (.t 4), none, []⟩,
              ⟨(some 25), .arith .add (.t 24) (.c (.int .i64 1)), none, [0]⟩,
              ⟨(some 4), .mov (.t 25), none, [1, 0, 1]⟩] false))))))))
     (.seq
      (.region [
        ⟨(some 26), .mov (.t 3), none, []⟩,
        ⟨(some 2), .mov (.t 26), none, [0, 0]⟩] false)
      .ret))))
def rv21 : List RV := [.t 2]
theorem rc21_ok : comp Try.prog Try.f21.ntmps (Try.f21.body.getD .skip) = some (erase rc21) := by kernel_rfl
theorem rv21_ok : compRes Try.prog Try.f21.results.toList = some rv21 := by kernel_rfl

/-- baseboard/escape.ends [5] -/
def rc22 : RC :=
  (.seq
   (.region [
     ⟨(some 2), .mov (.c (.bool false)), none, []⟩] false)
   (.seq
    (.region [
      ⟨(some 3), .mov (.t 0), none, []⟩,
      ⟨(some 4), .cmp .eql 0 (.t 3) (.c (.int .u8 13)), none, [0]⟩,
      ⟨(some 5), .mov (.t 4), none, [1]⟩,
      ⟨(some 6), .mov (.t 0), (some (5, false)), [2]⟩,
      ⟨(some 7), .cmp .eql 0 (.t 6) (.c (.int .u8 10)), (some (5, false)), [3, 2]⟩,
      ⟨(some 8), .pick (.t 5) (.c (.bool true)) (.t 7), none, [2, 4]⟩,
      ⟨(some 2), .mov (.t 8), none, [5, 2, 0, 1, 2, 3, 4, 5]⟩] false)
    .ret))
def rv22 : List RV := [.t 2]
theorem rc22_ok : comp Try.prog Try.f22.ntmps (Try.f22.body.getD .skip) = some (erase rc22) := by kernel_rfl
theorem rv22_ok : compRes Try.prog Try.f22.results.toList = some rv22 := by kernel_rfl

/-- baseboard/escape.action [5] -/
def rc23 : RC :=
  (.seq
   (.region [
     ⟨(some 2), .mov (.c (.int .i64 0)), none, []⟩] false)
   (.seq
    (.seq
     (.region [
       ⟨(some 3), .mov (.t 0), none, []⟩] false)
     (.block 0
      (.seq
       (.region [
         ⟨(some 5), .cmp .eql 0 (.t 3) (.c (.int .u8 46)), none, []⟩,
         ⟨(some 4), .mov (.t 5), none, [0]⟩] false)
       (.cond (.t 4)
        (.seq
         (.region [
           ⟨(some 2), .mov (.c (.int .i64 1)), none, []⟩] false)
         .ret)
        (.seq
         (.region [
           ⟨(some 7), .cmp .eql 0 (.t 3) (.c (.int .u8 66)), none, []⟩,
           ⟨(some 6), .mov (.t 7), none, [0]⟩] false)
         (.cond (.t 6)
          (.seq
           (.region [
             ⟨(some 2), .mov (.c (.int .i64 2)), none, []⟩] false)
           .ret)
          (.seq
           (.region [
             ⟨(some 9), .cmp .eql 0 (.t 3) (.c (.int .u8 82)), none, []⟩,
             ⟨(some 8), .mov (.t 9), none, [0]⟩] false)
           (.cond (.t 8)
            (.seq
             (.region [
               ⟨(some 2), .mov (.c (.int .i64 3)), none, []⟩] false)
             .ret)
            (.seq
             (.region [
               ⟨(some 11), .cmp .eql 0 (.t 3) (.c (.int .u8 63)), none, []⟩,
               ⟨(some 10), .mov (.t 11), none, [0]⟩] false)
             (.cond (.t 10)
              (.seq
               (.region [
                 ⟨(some 2), .mov (.c (.int .i64 4)), none, []⟩] false)
               .ret)
              .skip))))))))))
    (.seq
     (.region [
       ⟨(some 2), .mov (.c (.int .i64 0)), none, []⟩] false)
     .ret)))
def rv23 : List RV := [.t 2]
theorem rc23_ok : comp Try.prog Try.f23.ntmps (Try.f23.body.getD .skip) = some (erase rc23) := by kernel_rfl
theorem rv23_ok : compRes Try.prog Try.f23.results.toList = some rv23 := by kernel_rfl

/-- baseboard/escape.text [5] -/
def rc24 : RC :=
  (.seq
   (.region [
     ⟨(some 2), .mov (.c (.junk)), none, []⟩,
     ⟨(some 3), .mov (.c (.bool false)), none, [0]⟩] false)
   (.seq
    (.seq
     (.region [
       ⟨(some 4), .mov (.t 0), none, []⟩,
       ⟨(some 5), .cmp .eql 0 (.t 4) (.c (.int .u8 27)), none, [0]⟩] false)
     (.cond (.t 5)
      (.seq
       (.region [
         ⟨(some 2), .mov (.c (.fn 28)), none, []⟩,
         ⟨(some 3), .mov (.c (.bool false)), none, [0, 0]⟩] false)
       .ret)
      .skip))
    (.seq
     (.region [
       ⟨(some 2), .mov (.c (.fn 24)), none, []⟩,
       ⟨(some 3), .mov (.c (.bool true)), none, [0, 0]⟩] false)
     .ret)))
def rv24 : List RV := [.t 2, .t 3]
theorem rc24_ok : comp Try.prog Try.f24.ntmps (Try.f24.body.getD .skip) = some (erase rc24) := by kernel_rfl
theorem rv24_ok : compRes Try.prog Try.f24.results.toList = some rv24 := by kernel_rfl

/-- baseboard/baseboardref37.ends [5] -/
def rc25 : RC :=
  (.seq
   (.region [
     ⟨(some 2), .mov (.c (.bool false)), none, []⟩] false)
   (.seq
    (.region [
      ⟨(some 3), .mov (.t 0), none, []⟩,
      ⟨(some 4), .cmp .eql 0 (.t 3) (.c (.int .u8 13)), none, [0]⟩,
      ⟨(some 5), .mov (.t 4), none, [1]⟩,
      ⟨(some 6), .mov (.t 0), (some (5, false)), [2]⟩,
      ⟨(some 7), .cmp .eql 0 (.t 6) (.c (.int .u8 10)), (some (5, false)), [3, 2]⟩,
      ⟨(some 8), .pick (.t 5) (.c (.bool true)) (.t 7), none, [2, 4]⟩,
      ⟨(some 2), .mov (.t 8), none, [5, 2, 0, 1, 2, 3, 4, 5]⟩] false)
    .ret))
def rv25 : List RV := [.t 2]
theorem rc25_ok : comp Try.prog Try.f25.ntmps (Try.f25.body.getD .skip) = some (erase rc25) := by kernel_rfl
theorem rv25_ok : compRes Try.prog Try.f25.results.toList = some rv25 := by kernel_rfl

/-- baseboard/baseboardref37.action [5] -/
def rc26 : RC :=
  (.seq
   (.region [
     ⟨(some 2), .mov (.c (.int .i64 0)), none, []⟩] false)
   (.seq
    (.seq
     (.region [
       ⟨(some 3), .mov (.t 0), none, []⟩] false)
     (.block 0
      (.seq
       (.region [
         ⟨(some 5), .cmp .eql 0 (.t 3) (.c (.int .u8 46)), none, []⟩,
         ⟨(some 4), .mov (.t 5), none, [0]⟩] false)
       (.cond (.t 4)
        (.seq
         (.region [
           ⟨(some 2), .mov (.c (.int .i64 1)), none, []⟩] false)
         .ret)
        (.seq
         (.region [
           ⟨(some 7), .cmp .eql 0 (.t 3) (.c (.int .u8 66)), none, []⟩,
           ⟨(some 6), .mov (.t 7), none, [0]⟩] false)
         (.cond (.t 6)
          (.seq
           (.region [
             ⟨(some 2), .mov (.c (.int .i64 2)), none, []⟩] false)
           .ret)
          (.seq
           (.region [
             ⟨(some 9), .cmp .eql 0 (.t 3) (.c (.int .u8 82)), none, []⟩,
             ⟨(some 8), .mov (.t 9), none, [0]⟩] false)
           (.cond (.t 8)
            (.seq
             (.region [
               ⟨(some 2), .mov (.c (.int .i64 3)), none, []⟩] false)
             .ret)
            (.seq
             (.region [
               ⟨(some 11), .cmp .eql 0 (.t 3) (.c (.int .u8 63)), none, []⟩,
               ⟨(some 10), .mov (.t 11), none, [0]⟩] false)
             (.cond (.t 10)
              (.seq
               (.region [
                 ⟨(some 2), .mov (.c (.int .i64 4)), none, []⟩] false)
               .ret)
              .skip))))))))))
    (.seq
     (.region [
       ⟨(some 2), .mov (.c (.int .i64 0)), none, []⟩] false)
     .ret)))
def rv26 : List RV := [.t 2]
theorem rc26_ok : comp Try.prog Try.f26.ntmps (Try.f26.body.getD .skip) = some (erase rc26) := by kernel_rfl
theorem rv26_ok : compRes Try.prog Try.f26.results.toList = some rv26 := by kernel_rfl

/-- baseboard/baseboardref37.sequence [22, 3] -/
def rc27 : RC :=
  (.seq
   (.region [
     ⟨(some 4), .mov (.c (.int .i64 0)), none, []⟩] false)
   (.seq
    (.region [
      ⟨(some 6), .mov (.t 1), none, []⟩,
      ⟨(some 7), .arith .add (.t 6) (.c (.int .i64 1)), none, [0]⟩,
      ⟨(some 5), .mov (.t 7), none, [1, 0, 1]⟩] false)
    (.seq
     (.seq
      (.region [
        ⟨(some 8), .mov (.t 5), none, []⟩,
        ⟨(some 9), .mov (.t 0), none, []⟩,
        ⟨(some 10), .len 0 (.t 9), none, [1]⟩,
        ⟨(some 11), .cmp .geq 0 (.t 8) (.t 10), none, [0, 2]⟩,
        ⟨(some 12), .mov (.t 11), none, [3]⟩,
        ⟨(some 13), .mov (.t 0), (some (12, false)), [4]⟩,
        ⟨(some 14), .mov (.t 5), (some (12, false)), [4]⟩,
        ⟨(some 15), .iaddrS [.int .u8 0] (.t 13) (.t 14), (some (12, false)), [5, 6, 4]⟩,
        ⟨(some 16), .load 1 false (.t 15), (some (12, false)), [7, 4]⟩,
        ⟨(some 17), .cmp .neq 0 (.t 16) (.c (.int .u8 91)), (some (12, false)), [8, 4]⟩,
        ⟨(some 18), .pick (.t 12) (.c (.bool true)) (.t 17), none, [4, 9]⟩] false)
      (.cond (.t 18)
       (.seq
        (.seq
         (.region [
           ⟨(some 19), .mov (.t 5), none, []⟩,
           ⟨(some 20), .mov (.t 0), none, []⟩,
           ⟨(some 21), .len 0 (.t 20), none, [1]⟩,
           ⟨(some 22), .cmp .lss 0 (.t 19) (.t 21), none, [0, 2]⟩,
           ⟨(some 23), .mov (.t 22), none, [3]⟩,
           ⟨(some 24), .mov (.t 0), (some (23, true)), [4]⟩,
           ⟨(some 25), .mov (.t 5), (some (23, true)), [4]⟩,
           ⟨(some 26), .iaddrS [.int .u8 0] (.t 24) (.t 25), (some (23, true)), [5, 6, 4]⟩,
           ⟨(some 27), .load 1 false (.t 26), (some (23, true)), [7, 4]⟩,
           ⟨(some 28), .cmp .geq 0 (.t 27) (.c (.int .u8 48)), (some (23, true)), [8, 4]⟩,
           ⟨(some 29), .pick (.t 23) (.t 28) (.c (.bool false)), none, [4, 9]⟩,
           ⟨(some 30), .mov (.t 29), none, [10, 4]⟩,
           ⟨(some 31), .mov (.t 0), (some (30, true)), [11]⟩,
           ⟨(some 32), .mov (.t 5), (some (30, true)), [11]⟩,
           ⟨(some 33), .iaddrS [.int .u8 0] (.t 31) (.t 32), (some (30, true)), [12, 13, 11]⟩,
           ⟨(some 34), .load 1 false (.t 33), (some (30, true)), [14, 11]⟩,
           ⟨(some 35), .cmp .leq 0 (.t 34) (.c (.int .u8 126)), (some (30, true)), [15, 11]⟩,
           ⟨(some 36), .pick (.t 30) (.t 35) (.c (.bool false)), none, [11, 16]⟩] false)
         (.cond (.t 36)
          (.region [
            ⟨(some 37), .mov (.t 5), none, []⟩,
            ⟨(some 38), .arith .add (.t 37) (.c (.int .i64 1)), none, [0]⟩,
            ⟨(some 5), .mov (.t 38), none, [1, 0, 1]⟩] false)
          .skip))
        (.seq
         (.region [
           ⟨(some 39), .mov (.t 5), none, []⟩,
           ⟨(some 4), .mov (.t 39), none, [0, 0]⟩] false)
         .ret))
       .skip))
     (.seq
      (.region [
        ⟨(some 40), .mov (.t 5), none, []⟩,
        ⟨(some 41), .arith .add (.t 40) (.c (.int .i64 1)), none, [0]⟩,
        ⟨(some 5), .mov (.t 41), none, [1, 0, 1]⟩] false)
      (.seq
       (.block 0
        (.loop 0
         (.seq
          (.seq
           (.region [
             ⟨(some 42), .mov (.t 5), none, []⟩,
             ⟨(some 43), .mov (.t 0), none, []⟩,
             ⟨(some 44), .len 0 (.t 43), none, [1]⟩,
             ⟨(some 45), .cmp .lss 0 (.t 42) (.t 44), none, [0, 2]⟩,
             ⟨(some 46), .mov (.t 45), none, [3]⟩,
             ⟨(some 47), .mov (.t 0), (some (46, true)), [4]⟩,
             ⟨(some 48), .mov (.t 5), (some (46, true)), [4]⟩,
             ⟨(some 49), .iaddrS [.int .u8 0] (.t 47) (.t 48), (some (46, true)), [5, 6, 4]⟩,
             ⟨(some 50), .load 1 false (.t 49), (some (46, true)), [7, 4]⟩,
             ⟨(some 51), .cmp .geq 0 (.t 50) (.c (.int .u8 48)), (some (46, true)), [8, 4]⟩,
             ⟨(some 52), .pick (.t 46) (.t 51) (.c (.bool false)), none, [4, 9]⟩,
             ⟨(some 53), .mov (.t 52), none, [10, 4]⟩,
             ⟨(some 54), .mov (.t 0), (some (53, true)), [11]⟩,
             ⟨(some 55), .mov (.t 5), (some (53, true)), [11]⟩,
             ⟨(some 56), .iaddrS [.int .u8 0] (.t 54) (.t 55), (some (53, true)), [12, 13, 11]⟩,
             ⟨(some 57), .load 1 false (.t 56), (some (53, true)), [14, 11]⟩,
             ⟨(some 58), .cmp .leq 0 (.t 57) (.c (.int .u8 63)), (some (53, true)), [15, 11]⟩,
             ⟨(some 59), .pick (.t 53) (.t 58) (.c (.bool false)), none, [11, 16]⟩] false)
           (.cond (.t 59)
            .skip
            (.exit 0)))
          (.block 1
           (.region [
             ⟨(some 60), .mov (.t 5), none, []⟩,
             ⟨(some 61), .arith .add (.t 60) (.c (.int .i64 1)), none, [0]⟩,
             ⟨(some 5), .mov (.t 61), none, [1, 0, 1]⟩] false)))))
       (.seq
        (.block 2
         (.loop 1
          (.seq
           (.seq
            (.region [
              ⟨(some 62), .mov (.t 5), none, []⟩,
              ⟨(some 63), .mov (.t 0), none, []⟩,
              ⟨(some 64), .len 0 (.t 63), none, [1]⟩,
              ⟨(some 65), .cmp .lss 0 (.t 62) (.t 64), none, [0, 2]⟩,
              ⟨(some 66), .mov (.t 65), none, [3]⟩,
              ⟨(some 67), .mov (.t 0), (some (66, true)), [4]⟩,
              ⟨(some 68), .mov (.t 5), (some (66, true)), [4]⟩,
              ⟨(some 69), .iaddrS [.int .u8 0] (.t 67) (.t 68), (some (66, true)), [5, 6, 4]⟩,
              ⟨(some 70), .load 1 false (.t 69), (some (66, true)), [7, 4]⟩,
              ⟨(some 71), .cmp .geq 0 (.t 70) (.c (.int .u8 32)), (some (66, true)), [8, 4]⟩,
              ⟨(some 72), .pick (.t 66) (.t 71) (.c (.bool false)), none, [4, 9]⟩,
              ⟨(some 73), .mov (.t 72), none, [10, 4]⟩,
              ⟨(some 74), .mov (.t 0), (some (73, true)), [11]⟩,
              ⟨(some 75), .mov (.t 5), (some (73, true)), [11]⟩,
              ⟨(some 76), .iaddrS [.int .u8 0] (.t 74) (.t 75), (some (73, true)), [12, 13, 11]⟩,
              ⟨(some 77), .load 1 false (.t 76), (some (73, true)), [14, 11]⟩,
              ⟨(some 78), .cmp .leq 0 (.t 77) (.c (.int .u8 47)), (some (73, true)), [15, 11]⟩,
              ⟨(some 79), .pick (.t 73) (.t 78) (.c (.bool false)), none, [11, 16]⟩] false)
            (.cond (.t 79)
             .skip
             (.exit 2)))
           (.block 3
            (.region [
              ⟨(some 80), .mov (.t 5), none, []⟩,
              ⟨(some 81), .arith .add (.t 80) (.c (.int .i64 1)), none, [0]⟩,
              ⟨(some 5), .mov (.t 81), none, [1, 0, 1]⟩] false)))))
        (.seq
         (.seq
          (.region [
            ⟨(some 82), .mov (.t 5), none, []⟩,
            ⟨(some 83), .mov (.t 0), none, []⟩,
            ⟨(some 84), .len 0 (.t 83), none, [1]⟩,
            ⟨(some 85), .cmp .lss 0 (.t 82) (.t 84), none, [0, 2]⟩,
            ⟨(some 86), .mov (.t 85), none, [3]⟩,
            ⟨(some 87), .mov (.t 0), (some (86, true)), [4]⟩,
            ⟨(some 88), .mov (.t 5), (some (86, true)), [4]⟩,
            ⟨(some 89), .iaddrS [.int .u8 0] (.t 87) (.t 88), (some (86, true)), [5, 6, 4]⟩,
            ⟨(some 90), .load 1 false (.t 89), (some (86, true)), [7, 4]⟩,
            ⟨(some 91), .cmp .geq 0 (.t 90) (.c (.int .u8 64)), (some (86, true)), [8, 4]⟩,
            ⟨(some 92), .pick (.t 86) (.t 91) (.c (.bool false)), none, [4, 9]⟩,
            ⟨(some 93), .mov (.t 92), none, [10, 4]⟩,
            ⟨(some 94), .mov (.t 0), (some (93, true)), [11]⟩,
            ⟨(some 95), .mov (.t 5), (some (93, true)), [11]⟩,
            ⟨(some 96), .iaddrS [.int .u8 0] (.t 94) (.t 95), (some (93, true)), [12, 13, 11]⟩,
            ⟨(some 97), .load 1 false (.t 96), (some (93, true)), [14, 11]⟩,
            ⟨(some 98), .cmp .leq 0 (.t 97) (.c (.int .u8 126)), (some (93, true)), [15, 11]⟩,
            ⟨(some 99), .pick (.t 93) (.t 98) (.c (.bool false)), none, [11, 16]⟩] false)
          (.cond (.t 99)
           (.region [
             ⟨(some 100), .mov (.t 5), none, []⟩,
             ⟨(some 101), .arith .add (.t 100) (.c (.int .i64 1)), none, [0]⟩,
             ⟨(some 5), .mov (.t 101), none, [1, 0, 1]⟩] false)
           .skip))
         (.seq
          (.region [
            ⟨(some 102), .mov (.t 5), none, []⟩,
            ⟨(some 4), .mov (.t 102), none, [0, 0]⟩] false)
          .ret))))))))
def rv27 : List RV := [.t 4]
theorem rc27_ok : comp Try.prog Try.f27.ntmps (Try.f27.body.getD .skip) = some (erase rc27) := by kernel_rfl
theorem rv27_ok : compRes Try.prog Try.f27.results.toList = some rv27 := by kernel_rfl

/-- baseboard/escape.begun [5] -/
def rc28 : RC :=
  (.seq
   (.region [
     ⟨(some 2), .mov (.c (.junk)), none, []⟩,
     ⟨(some 3), .mov (.c (.bool false)), none, [0]⟩] false)
   (.seq
    (.block 0
     (.seq
      (.region [
        ⟨(some 5), .mov (.t 0), none, []⟩,
        ⟨(some 6), .cmp .eql 0 (.t 5) (.c (.int .u8 91)), none, [0]⟩,
        ⟨(some 4), .mov (.t 6), none, [1]⟩] false)
      (.cond (.t 4)
       (.seq
        (.region [
          ⟨(some 2), .mov (.c (.fn 29)), none, []⟩,
          ⟨(some 3), .mov (.c (.bool false)), none, [0, 0]⟩] false)
        .ret)
       (.seq
        (.region [
          ⟨(some 8), .mov (.t 0), none, []⟩,
          ⟨(some 9), .cmp .geq 0 (.t 8) (.c (.int .u8 48)), none, [0]⟩,
          ⟨(some 10), .mov (.t 9), none, [1]⟩,
          ⟨(some 11), .mov (.t 0), (some (10, true)), [2]⟩,
          ⟨(some 12), .cmp .leq 0 (.t 11) (.c (.int .u8 126)), (some (10, true)), [3, 2]⟩,
          ⟨(some 13), .pick (.t 10) (.t 12) (.c (.bool false)), none, [2, 4]⟩,
          ⟨(some 7), .mov (.t 13), none, [5, 2]⟩] false)
        (.cond (.t 7)
         (.seq
          (.region [
            ⟨(some 2), .mov (.c (.fn 24)), none, []⟩,
            ⟨(some 3), .mov (.c (.bool false)), none, [0, 0]⟩] false)
          .ret)
         .skip)))))
    (.seq
     (.region [
       ⟨(some 14), .mov (.t 0), none, []⟩,
       ⟨(some 15), .call 24 [(.t 14)], none, [0]⟩,
       ⟨(some 16), .extract 0 (.t 15), none, [1]⟩,
       ⟨(some 17), .extract 1 (.t 15), none, [1]⟩,
       ⟨(some 2), .mov (.t 16), none, [2, 1, 0, 1, 2, 3]⟩,
       ⟨(some 3), .mov (.t 17), none, [3, 4, 0, 1, 2, 3, 4]⟩] false)
     .ret)))
def rv28 : List RV := [.t 2, .t 3]
theorem rc28_ok : comp Try.prog Try.f28.ntmps (Try.f28.body.getD .skip) = some (erase rc28) := by kernel_rfl
theorem rv28_ok : compRes Try.prog Try.f28.results.toList = some rv28 := by kernel_rfl

/-- baseboard/escape.parameters [5] -/
def rc29 : RC :=
  (.seq
   (.region [
     ⟨(some 2), .mov (.c (.junk)), none, []⟩,
     ⟨(some 3), .mov (.c (.bool false)), none, [0]⟩] false)
   (.seq
    (.seq
     (.region [
       ⟨(some 4), .mov (.t 0), none, []⟩,
       ⟨(some 5), .cmp .geq 0 (.t 4) (.c (.int .u8 48)), none, [0]⟩,
       ⟨(some 6), .mov (.t 5), none, [1]⟩,
       ⟨(some 7), .mov (.t 0), (some (6, true)), [2]⟩,
       ⟨(some 8), .cmp .leq 0 (.t 7) (.c (.int .u8 63)), (some (6, true)), [3, 2]⟩,
       ⟨(some 9), .pick (.t 6) (.t 8) (.c (.bool false)), none, [2, 4]⟩] false)
     (.cond (.t 9)
      (.seq
       (.region [
         ⟨(some 2), .mov (.c (.fn 29)), none, []⟩,
         ⟨(some 3), .mov (.c (.bool false)), none, [0, 0]⟩] false)
       .ret)
      .skip))
    (.seq
     (.region [
       ⟨(some 10), .mov (.t 0), none, []⟩,
       ⟨(some 11), .call 30 [(.t 10)], none, [0]⟩,
       ⟨(some 12), .extract 0 (.t 11), none, [1]⟩,
       ⟨(some 13), .extract 1 (.t 11), none, [1]⟩,
       ⟨(some 2), .mov (.t 12), none, [2, 1, 0, 1, 2, 3]⟩,
       ⟨(some 3), .mov (.t 13), none, [3, 4, 0, 1, 2, 3, 4]⟩] false)
     .ret)))
def rv29 : List RV := [.t 2, .t 3]
theorem rc29_ok : comp Try.prog Try.f29.ntmps (Try.f29.body.getD .skip) = some (erase rc29) := by kernel_rfl
theorem rv29_ok : compRes Try.prog Try.f29.results.toList = some rv29 := by kernel_rfl

/-- baseboard/escape.intermediates [5] -/
def rc30 : RC :=
  (.seq
   (.region [
     ⟨(some 2), .mov (.c (.junk)), none, []⟩,
     ⟨(some 3), .mov (.c (.bool false)), none, [0]⟩] false)
   (.seq
    (.block 0
     (.seq
      (.region [
        ⟨(some 5), .mov (.t 0), none, []⟩,
        ⟨(some 6), .cmp .geq 0 (.t 5) (.c (.int .u8 32)), none, [0]⟩,
        ⟨(some 7), .mov (.t 6), none, [1]⟩,
        ⟨(some 8), .mov (.t 0), (some (7, true)), [2]⟩,
        ⟨(some 9), .cmp .leq 0 (.t 8) (.c (.int .u8 47)), (some (7, true)), [3, 2]⟩,
        ⟨(some 10), .pick (.t 7) (.t 9) (.c (.bool false)), none, [2, 4]⟩,
        ⟨(some 4), .mov (.t 10), none, [5, 2]⟩] false)
      (.cond (.t 4)
       (.seq
        (.region [
          ⟨(some 2), .mov (.c (.fn 30)), none, []⟩,
          ⟨(some 3), .mov (.c (.bool false)), none, [0, 0]⟩] false)
        .ret)
       (.seq
        (.region [
          ⟨(some 12), .mov (.t 0), none, []⟩,
          ⟨(some 13), .cmp .geq 0 (.t 12) (.c (.int .u8 64)), none, [0]⟩,
          ⟨(some 14), .mov (.t 13), none, [1]⟩,
          ⟨(some 15), .mov (.t 0), (some (14, true)), [2]⟩,
          ⟨(some 16), .cmp .leq 0 (.t 15) (.c (.int .u8 126)), (some (14, true)), [3, 2]⟩,
          ⟨(some 17), .pick (.t 14) (.t 16) (.c (.bool false)), none, [2, 4]⟩,
          ⟨(some 11), .mov (.t 17), none, [5, 2]⟩] false)
        (.cond (.t 11)
         (.seq
          (.region [
            ⟨(some 2), .mov (.c (.fn 24)), none, []⟩,
            ⟨(some 3), .mov (.c (.bool false)), none, [0, 0]⟩] false)
          .ret)
         .skip)))))
    (.seq
     (.region [
       ⟨(some 18), .mov (.t 0), none, []⟩,
       ⟨(some 19), .call 24 [(.t 18)], none, [0]⟩,
       ⟨(some 20), .extract 0 (.t 19), none, [1]⟩,
       ⟨(some 21), .extract 1 (.t 19), none, [1]⟩,
       ⟨(some 2), .mov (.t 20), none, [2, 1, 0, 1, 2, 3]⟩,
       ⟨(some 3), .mov (.t 21), none, [3, 4, 0, 1, 2, 3, 4]⟩] false)
     .ret)))
def rv30 : List RV := [.t 2, .t 3]
theorem rc30_ok : comp Try.prog Try.f30.ntmps (Try.f30.body.getD .skip) = some (erase rc30) := by kernel_rfl
theorem rv30_ok : compRes Try.prog Try.f30.results.toList = some rv30 := by kernel_rfl

end Go.Proofs.Ytfmndopgbikgjaa

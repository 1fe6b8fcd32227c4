/- A part of the proof: symbolic evaluation of the program's functions, proved sound against the model; no condition. -/
import Derived.Test.YtkpjkembnkadaaaEvU
import Derived.Test.YtkpjkembnkadaaaChecked
namespace Go.Proofs.Ytkpjkembnkadaaa
open Go Go.RowKit Go.Ev
set_option linter.unusedSimpArgs false
set_option linter.unusedVariables false
set_option maxRecDepth 20000
/-- baseboard/baseboardlaw40.WatchdogExpires [22, 22, 23] -/
def rc3 : RC :=
  (.seq
   (.region [
     ⟨(some 6), .mov (.c (.bool false)), none, []⟩] false)
   (.seq
    (.seq
     (.region [
       ⟨(some 23), .call 7 [], none, []⟩,
       ⟨(some 24), .not (.t 23), none, [0]⟩] false)
     (.cond (.t 24)
      (.seq
       (.region [
         ⟨(some 6), .mov (.c (.bool false)), none, []⟩] false)
       .ret)
      .skip))
    (.seq
     (.region [
       ⟨(some 25), .mov (.t 0), none, []⟩,
       ⟨(some 26), .conv .i64 (.t 25), none, [0]⟩,
       ⟨(some 27), .arith .rem (.t 26) (.c (.int .i64 300)), none, [1]⟩,
       ⟨(some 28), .arith .add (.c (.int .i64 2)) (.t 27), none, [2]⟩,
       ⟨(some 7), .mov (.t 28), none, [3, 0, 1, 2, 3]⟩] false)
     (.seq
      (.region [
        ⟨(some 29), .mov (.t 1), none, []⟩,
        ⟨(some 30), .conv .i64 (.t 29), none, [0]⟩,
        ⟨(some 31), .mov (.t 7), none, []⟩,
        ⟨(some 32), .arith .rem (.t 30) (.t 31), none, [1, 2]⟩,
        ⟨(some 8), .mov (.t 32), none, [3, 0, 1, 2, 3]⟩] false)
      (.seq
       (.region [
         ⟨(some 34), .mov (.t 7), none, []⟩,
         ⟨(some 35), .mov (.t 8), none, []⟩,
         ⟨(some 36), .call 8 [(.t 34), (.t 35), (.c (.int .i64 3))], none, [0, 1]⟩,
         ⟨(some 33), .mov (.t 36), none, [2]⟩,
         ⟨(some 37), .extract 0 (.t 33), none, [3]⟩,
         ⟨(some 38), .extract 1 (.t 33), none, [3]⟩,
         ⟨(some 9), .alloc [.bool false, .int .i64 0, .int .i64 0, .int .i64 0, .int .i64 0, .bool false, .int .i64 0], none, []⟩,
         ⟨none, .store 7 (.t 9) (.t 37), none, [6, 4, 2, 0, 1, 2, 3, 4, 6]⟩,
         ⟨(some 10), .mov (.t 38), none, [5, 7, 0, 1, 2, 3, 4, 5, 6, 7]⟩] false)
       (.seq
        (.seq
         (.region [
           ⟨(some 39), .mov (.t 10), none, []⟩,
           ⟨(some 40), .cmp .neq 0 (.t 39) (.c (.int .i64 0)), none, [0]⟩] false)
         (.cond (.t 40)
          (.seq
           (.region [
             ⟨(some 6), .mov (.c (.bool false)), none, []⟩] false)
           .ret)
          .skip))
        (.seq
         (.seq
          (.region [
            ⟨(some 11), .mov (.c (.int .i64 0)), none, []⟩] false)
          (.block 0
           (.loop 0
            (.seq
             (.seq
              (.region [
                ⟨(some 41), .mov (.t 11), none, []⟩,
                ⟨(some 42), .mov (.t 2), none, []⟩,
                ⟨(some 43), .len 0 (.t 42), none, [1]⟩,
                ⟨(some 44), .cmp .lss 0 (.t 41) (.t 43), none, [0, 2]⟩,
                ⟨(some 45), .mov (.t 44), none, [3]⟩,
                ⟨(some 46), .mov (.t 11), (some (45, true)), [4]⟩,
                ⟨(some 47), .cmp .lss 0 (.t 46) (.c (.int .i64 10)), (some (45, true)), [5, 4]⟩,
                ⟨(some 48), .pick (.t 45) (.t 47) (.c (.bool false)), none, [4, 6]⟩] false)
              (.cond (.t 48)
               .skip
               (.exit 0)))
             (.seq
              (.block 1
               (.seq
                (.region [
                  ⟨(some 51), .load 7 true (.t 9), none, []⟩,
                  ⟨(some 52), .call 9 [(.t 51)], none, [0]⟩,
                  ⟨none, .store 7 (.t 9) (.t 52), none, [1, 1, 0, 1]⟩] false)
                (.seq
                 (.region [
                   ⟨(some 12), .mov (.c (.int .i64 0)), none, []⟩] false)
                 (.block 2
                  (.loop 1
                   (.seq
                    (.seq
                     (.region [
                       ⟨(some 53), .mov (.t 12), none, []⟩,
                       ⟨(some 54), .mov (.t 2), none, []⟩,
                       ⟨(some 55), .mov (.t 11), none, []⟩,
                       ⟨(some 56), .iaddrS [.int .u8 0] (.t 54) (.t 55), none, [1, 2]⟩,
                       ⟨(some 57), .load 1 false (.t 56), none, [3]⟩,
                       ⟨(some 58), .conv .i64 (.t 57), none, [4]⟩,
                       ⟨(some 59), .mov (.t 7), none, []⟩,
                       ⟨(some 60), .arith .rem (.t 58) (.t 59), none, [5, 6]⟩,
                       ⟨(some 61), .cmp .lss 0 (.t 53) (.t 60), none, [0, 7]⟩] false)
                     (.cond (.t 61)
                      .skip
                      (.exit 2)))
                    (.seq
                     (.block 3
                      (.seq
                       (.region [
                         ⟨(some 65), .load 7 true (.t 9), none, []⟩,
                         ⟨(some 66), .call 10 [(.t 65)], none, [0]⟩,
                         ⟨(some 64), .mov (.t 66), none, [1]⟩,
                         ⟨(some 67), .extract 0 (.t 64), none, [2]⟩,
                         ⟨(some 68), .extract 1 (.t 64), none, [2]⟩,
                         ⟨(some 69), .extract 2 (.t 64), none, [2]⟩,
                         ⟨(some 13), .alloc [.bool false, .int .i64 0, .int .i64 0, .int .i64 0, .int .i64 0, .bool false, .int .i64 0], none, []⟩,
                         ⟨none, .store 7 (.t 13) (.t 67), none, [6, 3, 1, 0, 1, 2, 3, 6]⟩,
                         ⟨(some 14), .mov (.t 68), none, [4, 7, 0, 1, 2, 3, 4, 6, 7]⟩,
                         ⟨(some 15), .mov (.t 69), none, [5, 8, 0, 1, 2, 3, 4, 5, 6, 7, 8]⟩] false)
                       (.seq
                        (.region [
                          ⟨(some 70), .load 7 true (.t 13), none, []⟩,
                          ⟨none, .store 7 (.t 9) (.t 70), none, [0, 0]⟩] false)
                        (.seq
                         (.region [
                           ⟨(some 71), .mov (.t 15), none, []⟩] false)
                         (.cond (.t 71)
                          (.seq
                           (.region [
                             ⟨(some 6), .mov (.c (.bool false)), none, []⟩] false)
                           .ret)
                          .skip)))))
                     (.region [
                       ⟨(some 62), .mov (.t 12), none, []⟩,
                       ⟨(some 63), .arith .add (.t 62) (.c (.int .i64 1)), none, [0]⟩,
                       ⟨(some 12), .mov (.t 63), none, [1, 0, 1]⟩] false))))))))
              (.region [
                ⟨(some 49), .mov (.t 11), none, []⟩,
                ⟨(some 50), .arith .add (.t 49) (.c (.int .i64 1)), none, [0]⟩,
                ⟨(some 11), .mov (.t 50), none, [1, 0, 1]⟩] false))))))
         (.seq
          (.region [
            ⟨(some 72), .load 7 true (.t 9), none, []⟩,
            ⟨(some 73), .call 9 [(.t 72)], none, [0]⟩,
            ⟨none, .store 7 (.t 9) (.t 73), none, [1, 1, 0, 1]⟩] false)
          (.seq
           (.seq
            (.region [
              ⟨(some 16), .mov (.c (.int .i64 1)), none, []⟩] false)
            (.block 4
             (.loop 2
              (.seq
               (.seq
                (.region [
                  ⟨(some 74), .mov (.t 16), none, []⟩,
                  ⟨(some 75), .mov (.t 7), none, []⟩,
                  ⟨(some 76), .cmp .leq 0 (.t 74) (.t 75), none, [0, 1]⟩] false)
                (.cond (.t 76)
                 .skip
                 (.exit 4)))
               (.seq
                (.block 5
                 (.seq
                  (.region [
                    ⟨(some 80), .load 7 true (.t 9), none, []⟩,
                    ⟨(some 81), .call 10 [(.t 80)], none, [0]⟩,
                    ⟨(some 79), .mov (.t 81), none, [1]⟩,
                    ⟨(some 82), .extract 0 (.t 79), none, [2]⟩,
                    ⟨(some 83), .extract 1 (.t 79), none, [2]⟩,
                    ⟨(some 84), .extract 2 (.t 79), none, [2]⟩,
                    ⟨(some 17), .alloc [.bool false, .int .i64 0, .int .i64 0, .int .i64 0, .int .i64 0, .bool false, .int .i64 0], none, []⟩,
                    ⟨none, .store 7 (.t 17) (.t 82), none, [6, 3, 1, 0, 1, 2, 3, 6]⟩,
                    ⟨(some 18), .mov (.t 83), none, [4, 7, 0, 1, 2, 3, 4, 6, 7]⟩,
                    ⟨(some 19), .mov (.t 84), none, [5, 8, 0, 1, 2, 3, 4, 5, 6, 7, 8]⟩] false)
                  (.seq
                   (.region [
                     ⟨(some 85), .load 7 true (.t 17), none, []⟩,
                     ⟨none, .store 7 (.t 9) (.t 85), none, [0, 0]⟩] false)
                   (.seq
                    (.region [
                      ⟨(some 86), .mov (.t 18), none, []⟩,
                      ⟨(some 87), .mov (.t 8), none, []⟩,
                      ⟨(some 88), .cmp .gtr 0 (.t 87) (.c (.int .i64 0)), none, [1]⟩,
                      ⟨(some 89), .mov (.t 88), none, [2]⟩,
                      ⟨(some 90), .mov (.t 16), (some (89, true)), [3]⟩,
                      ⟨(some 91), .mov (.t 7), (some (89, true)), [3]⟩,
                      ⟨(some 92), .mov (.t 8), (some (89, true)), [3]⟩,
                      ⟨(some 93), .arith .sub (.t 91) (.t 92), (some (89, true)), [5, 6, 3]⟩,
                      ⟨(some 94), .cmp .eql 0 (.t 90) (.t 93), (some (89, true)), [4, 7, 3]⟩,
                      ⟨(some 95), .pick (.t 89) (.t 94) (.c (.bool false)), none, [3, 8]⟩,
                      ⟨(some 96), .cmp .neq 1 (.t 86) (.t 95), none, [0, 9]⟩,
                      ⟨(some 97), .mov (.t 96), none, [10, 3]⟩,
                      ⟨(some 98), .mov (.t 19), (some (97, false)), [11]⟩,
                      ⟨(some 99), .mov (.t 16), (some (97, false)), [11]⟩,
                      ⟨(some 100), .mov (.t 7), (some (97, false)), [11]⟩,
                      ⟨(some 101), .cmp .eql 0 (.t 99) (.t 100), (some (97, false)), [13, 14, 11]⟩,
                      ⟨(some 102), .cmp .neq 1 (.t 98) (.t 101), (some (97, false)), [12, 15, 11]⟩,
                      ⟨(some 103), .pick (.t 97) (.c (.bool true)) (.t 102), none, [11, 16]⟩,
                      ⟨(some 104), .mov (.t 103), none, [17, 11]⟩,
                      ⟨(some 105), .faddr 0 (.t 9), (some (104, false)), [18]⟩,
                      ⟨(some 106), .load 1 false (.t 105), (some (104, false)), [19, 18]⟩,
                      ⟨(some 107), .mov (.t 16), (some (104, false)), [18]⟩,
                      ⟨(some 108), .mov (.t 7), (some (104, false)), [18]⟩,
                      ⟨(some 109), .cmp .lss 0 (.t 107) (.t 108), (some (104, false)), [21, 22, 18]⟩,
                      ⟨(some 110), .cmp .neq 1 (.t 106) (.t 109), (some (104, false)), [20, 23, 18]⟩,
                      ⟨(some 111), .pick (.t 104) (.c (.bool true)) (.t 110), none, [18, 24]⟩] false)
                    (.cond (.t 111)
                     (.seq
                      (.region [
                        ⟨(some 6), .mov (.c (.bool false)), none, []⟩] false)
                      .ret)
                     .skip)))))
                (.region [
                  ⟨(some 77), .mov (.t 16), none, []⟩,
                  ⟨(some 78), .arith .add (.t 77) (.c (.int .i64 1)), none, [0]⟩,
                  ⟨(some 16), .mov (.t 78), none, [1, 0, 1]⟩] false))))))
           (.seq
            (.region [
              ⟨(some 113), .load 7 true (.t 9), none, []⟩,
              ⟨(some 114), .call 10 [(.t 113)], none, [0]⟩,
              ⟨(some 112), .mov (.t 114), none, [1]⟩,
              ⟨(some 115), .extract 0 (.t 112), none, [2]⟩,
              ⟨(some 116), .extract 1 (.t 112), none, [2]⟩,
              ⟨(some 117), .extract 2 (.t 112), none, [2]⟩,
              ⟨(some 20), .alloc [.bool false, .int .i64 0, .int .i64 0, .int .i64 0, .int .i64 0, .bool false, .int .i64 0], none, []⟩,
              ⟨none, .store 7 (.t 20) (.t 115), none, [6, 3, 1, 0, 1, 2, 3, 6]⟩,
              ⟨(some 21), .mov (.t 116), none, [4, 7, 0, 1, 2, 3, 4, 6, 7]⟩,
              ⟨(some 22), .mov (.t 117), none, [5, 8, 0, 1, 2, 3, 4, 5, 6, 7, 8]⟩] false)
            (.seq
             (.region [
               ⟨(some 118), .load 7 true (.t 20), none, []⟩,
               ⟨(some 119), .load 7 true (.t 9), none, []⟩,
               ⟨(some 120), .eqa false [1, 0, 0, 0, 0, 1, 0] (.t 118) (.t 119), none, [0, 1]⟩,
               ⟨(some 121), .mov (.t 120), none, [2]⟩,
               ⟨(some 122), .mov (.t 21), (some (121, true)), [3]⟩,
               ⟨(some 123), .not (.t 122), (some (121, true)), [4, 3]⟩,
               ⟨(some 124), .pick (.t 121) (.t 123) (.c (.bool false)), none, [3, 5]⟩,
               ⟨(some 125), .mov (.t 124), none, [6, 3]⟩,
               ⟨(some 126), .mov (.t 22), (some (125, true)), [7]⟩,
               ⟨(some 127), .not (.t 126), (some (125, true)), [8, 7]⟩,
               ⟨(some 128), .pick (.t 125) (.t 127) (.c (.bool false)), none, [7, 9]⟩,
               ⟨(some 129), .mov (.t 128), none, [10, 7]⟩,
               ⟨(some 130), .faddr 6 (.t 9), (some (129, true)), [11]⟩,
               ⟨(some 131), .load 1 false (.t 130), (some (129, true)), [12, 11]⟩,
               ⟨(some 132), .cmp .eql 0 (.t 131) (.c (.int .i64 1)), (some (129, true)), [13, 11]⟩,
               ⟨(some 133), .pick (.t 129) (.t 132) (.c (.bool false)), none, [11, 14]⟩,
               ⟨(some 6), .mov (.t 133), none, [15, 11, 0, 1, 2, 3, 4, 5, 6, 7, 8, 9, 10, 11, 12, 13, 14, 15]⟩] false)
             .ret)))))))))))
def rv3 : List RV := [.t 6]
theorem rc3_ok : comp Try.prog Try.f3.ntmps (Try.f3.body.getD .skip) = some (erase rc3) := by kernel_rfl
theorem rv3_ok : compRes Try.prog Try.f3.results.toList = some rv3 := by kernel_rfl

/-- baseboard/baseboardlaw40.WatchdogSaturates [22, 5] -/
def rc4 : RC :=
  (.seq
   (.region [
     ⟨(some 4), .mov (.c (.bool false)), none, []⟩] false)
   (.seq
    (.seq
     (.region [
       ⟨(some 9), .call 7 [], none, []⟩,
       ⟨(some 10), .not (.t 9), none, [0]⟩] false)
     (.cond (.t 10)
      (.seq
       (.region [
         ⟨(some 4), .mov (.c (.bool false)), none, []⟩] false)
       .ret)
      .skip))
    (.seq
     (.region [
       ⟨(some 11), .mov (.t 1), none, []⟩,
       ⟨(some 12), .conv .i64 (.t 11), none, [0]⟩,
       ⟨(some 13), .arith .rem (.t 12) (.c (.int .i64 20)), none, [1]⟩,
       ⟨(some 14), .arith .add (.c (.int .i64 1)) (.t 13), none, [2]⟩,
       ⟨(some 5), .mov (.t 14), none, [3, 0, 1, 2, 3]⟩] false)
     (.seq
      (.region [
        ⟨(some 16), .mov (.t 5), none, []⟩,
        ⟨(some 17), .call 8 [(.t 16), (.c (.int .i64 0)), (.c (.int .i64 0))], none, [0]⟩,
        ⟨(some 15), .mov (.t 17), none, [1]⟩,
        ⟨(some 18), .extract 0 (.t 15), none, [2]⟩,
        ⟨(some 19), .extract 1 (.t 15), none, [2]⟩,
        ⟨(some 6), .alloc [.bool false, .int .i64 0, .int .i64 0, .int .i64 0, .int .i64 0, .bool false, .int .i64 0], none, []⟩,
        ⟨none, .store 7 (.t 6) (.t 18), none, [5, 3, 1, 0, 1, 2, 3, 5]⟩,
        ⟨(some 7), .mov (.t 19), none, [4, 6, 0, 1, 2, 3, 4, 5, 6]⟩] false)
      (.seq
       (.seq
        (.region [
          ⟨(some 20), .mov (.t 7), none, []⟩,
          ⟨(some 21), .cmp .neq 0 (.t 20) (.c (.int .i64 0)), none, [0]⟩,
          ⟨(some 22), .mov (.t 21), none, [1]⟩,
          ⟨(some 23), .faddr 6 (.t 6), (some (22, false)), [2]⟩,
          ⟨(some 24), .load 1 false (.t 23), (some (22, false)), [3, 2]⟩,
          ⟨(some 25), .cmp .neq 0 (.t 24) (.c (.int .i64 0)), (some (22, false)), [4, 2]⟩,
          ⟨(some 26), .pick (.t 22) (.c (.bool true)) (.t 25), none, [2, 5]⟩,
          ⟨(some 27), .mov (.t 26), none, [6, 2]⟩,
          ⟨(some 28), .faddr 0 (.t 6), (some (27, false)), [7]⟩,
          ⟨(some 29), .load 1 false (.t 28), (some (27, false)), [8, 7]⟩,
          ⟨(some 30), .pick (.t 27) (.c (.bool true)) (.t 29), none, [7, 9]⟩] false)
        (.cond (.t 30)
         (.seq
          (.region [
            ⟨(some 4), .mov (.c (.bool false)), none, []⟩] false)
          .ret)
         .skip))
       (.seq
        (.region [
          ⟨(some 31), .mov (.t 0), none, []⟩,
          ⟨(some 32), .conv .i64 (.t 31), none, [0]⟩,
          ⟨(some 33), .faddr 6 (.t 6), none, [0, 1]⟩,
          ⟨none, .store 1 (.t 33) (.t 32), none, [2, 1, 0, 1]⟩] false)
        (.seq
         (.region [
           ⟨(some 34), .load 7 true (.t 6), none, []⟩,
           ⟨(some 35), .call 9 [(.t 34)], none, [0]⟩,
           ⟨none, .store 7 (.t 6) (.t 35), none, [1, 1, 0, 1]⟩] false)
         (.seq
          (.seq
           (.region [
             ⟨(some 8), .mov (.c (.int .i64 0)), none, []⟩] false)
           (.block 0
            (.loop 0
             (.seq
              (.seq
               (.region [
                 ⟨(some 36), .mov (.t 8), none, []⟩,
                 ⟨(some 37), .mov (.t 5), none, []⟩,
                 ⟨(some 38), .cmp .lss 0 (.t 36) (.t 37), none, [0, 1]⟩] false)
               (.cond (.t 38)
                .skip
                (.exit 0)))
              (.seq
               (.block 1
                (.region [
                  ⟨(some 42), .load 7 true (.t 6), none, []⟩,
                  ⟨(some 43), .call 10 [(.t 42)], none, [0]⟩,
                  ⟨(some 41), .mov (.t 43), none, [1]⟩,
                  ⟨(some 44), .extract 0 (.t 41), none, [2]⟩,
                  ⟨(some 45), .extract 1 (.t 41), none, [2]⟩,
                  ⟨(some 46), .extract 2 (.t 41), none, [2]⟩,
                  ⟨none, .store 7 (.t 6) (.t 44), none, [3, 1, 0, 1, 2, 3]⟩] false))
               (.region [
                 ⟨(some 39), .mov (.t 8), none, []⟩,
                 ⟨(some 40), .arith .add (.t 39) (.c (.int .i64 1)), none, [0]⟩,
                 ⟨(some 8), .mov (.t 40), none, [1, 0, 1]⟩] false))))))
          (.seq
           (.region [
             ⟨(some 47), .faddr 6 (.t 6), none, []⟩,
             ⟨(some 48), .load 1 false (.t 47), none, [0]⟩,
             ⟨(some 49), .mov (.t 0), none, []⟩,
             ⟨(some 50), .conv .i64 (.t 49), none, [2]⟩,
             ⟨(some 51), .arith .add (.t 50) (.c (.int .i64 1)), none, [3]⟩,
             ⟨(some 52), .minmax false [(.t 51), (.c (.int .i64 65535))], none, [4]⟩,
             ⟨(some 53), .cmp .eql 0 (.t 48) (.t 52), none, [1, 5]⟩,
             ⟨(some 54), .mov (.t 53), none, [6]⟩,
             ⟨(some 55), .faddr 0 (.t 6), (some (54, true)), [7]⟩,
             ⟨(some 56), .load 1 false (.t 55), (some (54, true)), [8, 7]⟩,
             ⟨(some 57), .not (.t 56), (some (54, true)), [9, 7]⟩,
             ⟨(some 58), .pick (.t 54) (.t 57) (.c (.bool false)), none, [7, 10]⟩,
             ⟨(some 59), .mov (.t 58), none, [11, 7]⟩,
             ⟨(some 60), .load 7 true (.t 6), (some (59, true)), [12]⟩,
             ⟨(some 61), .call 11 [(.t 60)], (some (59, true)), [13, 12, 12]⟩,
             ⟨(some 62), .pick (.t 59) (.t 61) (.c (.bool false)), none, [12, 14]⟩,
             ⟨(some 4), .mov (.t 62), none, [15, 14, 0, 1, 2, 3, 4, 5, 6, 7, 8, 9, 10, 11, 12, 13, 14, 15]⟩] false)
           .ret)))))))))
def rv4 : List RV := [.t 4]
theorem rc4_ok : comp Try.prog Try.f4.ntmps (Try.f4.body.getD .skip) = some (erase rc4) := by kernel_rfl
theorem rv4_ok : compRes Try.prog Try.f4.results.toList = some rv4 := by kernel_rfl

/-- baseboard/baseboardlaw40.WatchdogAnswers [26, 3, 3, 3, 5, 5, 5, 4, 4] -/
def rc5 : RC :=
  (.seq
   (.region [
     ⟨(some 9), .box 7 (.t 0), none, []⟩,
     ⟨(some 18), .mov (.c (.bool false)), none, []⟩] false)
   (.seq
    (.seq
     (.region [
       ⟨(some 32), .call 7 [], none, []⟩,
       ⟨(some 33), .not (.t 32), none, [0]⟩] false)
     (.cond (.t 33)
      (.seq
       (.region [
         ⟨(some 18), .mov (.c (.bool false)), none, []⟩] false)
       .ret)
      .skip))
    (.seq
     (.region [
       ⟨(some 35), .mov (.t 1), none, []⟩,
       ⟨(some 36), .mov (.t 2), none, []⟩,
       ⟨(some 37), .mov (.t 3), none, []⟩,
       ⟨(some 38), .call 8 [(.t 35), (.t 36), (.t 37)], none, [0, 1, 2]⟩,
       ⟨(some 34), .mov (.t 38), none, [3]⟩,
       ⟨(some 39), .extract 0 (.t 34), none, [4]⟩,
       ⟨(some 40), .extract 1 (.t 34), none, [4]⟩,
       ⟨(some 19), .alloc [.bool false, .int .i64 0, .int .i64 0, .int .i64 0, .int .i64 0, .bool false, .int .i64 0], none, []⟩,
       ⟨none, .store 7 (.t 19) (.t 39), none, [7, 5, 3, 0, 1, 2, 3, 4, 5, 7]⟩,
       ⟨(some 20), .mov (.t 40), none, [6, 8, 0, 1, 2, 3, 4, 5, 6, 7, 8]⟩] false)
     (.seq
      (.region [
        ⟨(some 42), .mov (.t 1), none, []⟩,
        ⟨(some 43), .mov (.t 2), none, []⟩,
        ⟨(some 44), .mov (.t 3), none, []⟩,
        ⟨(some 45), .call 12 [(.t 42), (.t 43), (.t 44)], none, [0, 1, 2]⟩,
        ⟨(some 41), .mov (.t 45), none, [3]⟩,
        ⟨(some 46), .extract 0 (.t 41), none, [4]⟩,
        ⟨(some 47), .extract 1 (.t 41), none, [4]⟩,
        ⟨(some 21), .alloc [.bool false, .int .i64 0, .int .i64 0, .int .i64 0, .int .i64 0, .bool false, .int .i64 0], none, []⟩,
        ⟨none, .store 7 (.t 21) (.t 46), none, [7, 5, 3, 0, 1, 2, 3, 4, 5, 7]⟩,
        ⟨(some 22), .mov (.t 47), none, [6, 8, 0, 1, 2, 3, 4, 5, 6, 7, 8]⟩] false)
      (.seq
       (.seq
        (.region [
          ⟨(some 48), .mov (.t 20), none, []⟩,
          ⟨(some 49), .mov (.t 22), none, []⟩,
          ⟨(some 50), .cmp .neq 0 (.t 48) (.t 49), none, [0, 1]⟩,
          ⟨(some 51), .mov (.t 50), none, [2]⟩,
          ⟨(some 52), .load 7 true (.t 19), (some (51, false)), [3]⟩,
          ⟨(some 53), .load 7 true (.t 21), (some (51, false)), [3]⟩,
          ⟨(some 54), .eqa true [1, 0, 0, 0, 0, 1, 0] (.t 52) (.t 53), (some (51, false)), [4, 5, 3]⟩,
          ⟨(some 55), .pick (.t 51) (.c (.bool true)) (.t 54), none, [3, 6]⟩] false)
        (.cond (.t 55)
         (.seq
          (.region [
            ⟨(some 18), .mov (.c (.bool false)), none, []⟩] false)
          .ret)
         .skip))
       (.seq
        (.region [
          ⟨(some 56), .mov (.t 4), none, []⟩,
          ⟨(some 57), .arith .rem (.t 56) (.c (.int .u8 12)), none, [0]⟩,
          ⟨(some 58), .conv .i64 (.t 57), none, [0, 1]⟩,
          ⟨(some 59), .mov (.t 5), none, []⟩,
          ⟨(some 60), .arith .rem (.t 59) (.c (.int .u8 12)), none, [3]⟩,
          ⟨(some 61), .conv .i64 (.t 60), none, [3, 4]⟩,
          ⟨(some 62), .bslice 6 [.int .i64 0] [(0, (.c (.int .i64 0))), (1, (.c (.int .i64 2))), (2, (.c (.int .i64 3))), (3, (.c (.int .i64 4))), (4, (.c (.int .i64 1))), (5, (.c (.int .i64 5)))], none, []⟩,
          ⟨(some 63), .mov (.t 6), none, []⟩,
          ⟨(some 64), .arith .rem (.t 63) (.c (.int .u8 6)), none, [7]⟩,
          ⟨(some 65), .iaddrS [.int .i64 0] (.t 62) (.t 64), none, [7, 8, 6]⟩,
          ⟨(some 66), .load 1 false (.t 65), none, [6, 8, 7, 9]⟩,
          ⟨(some 67), .mov (.t 7), none, []⟩,
          ⟨(some 68), .mov (.t 8), none, []⟩,
          ⟨(some 69), .bslice 5 [.int .i64 0] [(0, (.c (.int .i64 0))), (1, (.c (.int .i64 1))), (2, (.c (.int .i64 65534))), (3, (.c (.int .i64 65535))), (4, (.c (.int .i64 65536)))], none, []⟩,
          ⟨(some 70), .mov (.t 6), none, []⟩,
          ⟨(some 71), .arith .rem (.t 70) (.c (.int .u8 5)), none, [14]⟩,
          ⟨(some 72), .iaddrS [.int .i64 0] (.t 69) (.t 71), none, [14, 15, 13]⟩,
          ⟨(some 73), .load 1 false (.t 72), none, [13, 15, 14, 16]⟩,
          ⟨(some 74), .build [.bool false, .int .i64 0, .int .i64 0, .int .i64 0, .int .i64 0, .bool false, .int .i64 0] [(1, 1, (.t 58)), (3, 1, (.t 61)), (4, 1, (.t 66)), (0, 1, (.t 67)), (5, 1, (.t 68)), (6, 1, (.t 73))], none, [16, 14, 15, 13, 9, 7, 8, 6, 4, 3, 1, 0, 17, 12, 11, 10, 5, 2]⟩,
          ⟨(some 23), .alloc [.bool false, .int .i64 0, .int .i64 0, .int .i64 0, .int .i64 0, .bool false, .int .i64 0], none, []⟩,
          ⟨none, .store 7 (.t 23) (.t 74), none, [17, 16, 15, 14, 13, 12, 11, 10, 9, 8, 7, 6, 5, 4, 3, 2, 1, 0, 18, 19]⟩] true)
        (.seq
         (.seq
          (.region [
            ⟨(some 75), .mov (.t 7), none, []⟩] false)
          (.cond (.t 75)
           (.region [
             ⟨(some 76), .mov (.t 6), none, []⟩,
             ⟨(some 77), .arith .rem (.t 76) (.c (.int .u8 13)), none, [0]⟩,
             ⟨(some 78), .conv .i64 (.t 77), none, [1]⟩,
             ⟨(some 79), .faddr 2 (.t 23), none, [0, 1, 2]⟩,
             ⟨none, .store 1 (.t 79) (.t 78), none, [3, 2, 0, 1, 2]⟩] false)
           .skip))
         (.seq
          (.seq
           (.region [
             ⟨(some 80), .load 7 true (.t 9), none, []⟩,
             ⟨(some 81), .load 7 true (.t 23), none, []⟩,
             ⟨(some 82), .load 7 true (.t 23), none, []⟩,
             ⟨(some 83), .call 9 [(.t 82)], none, [2]⟩,
             ⟨(some 84), .bslice 3 [.bool false, .int .i64 0, .int .i64 0, .int .i64 0, .int .i64 0, .bool false, .int .i64 0] [(0, (.t 80)), (1, (.t 81)), (2, (.t 83))], none, [2, 3, 1, 0]⟩,
             ⟨(some 85), .len 0 (.t 84), none, [0, 1, 3, 2, 4]⟩,
             ⟨(some 86), .mov (.c (.int .i64 0)), none, []⟩] true)
           (.block 0
            (.loop 0
             (.seq
              (.region [
                ⟨(some 87), .cmp .lss 0 (.t 86) (.t 85), none, []⟩] false)
              (.seq
               (.cond (.t 87)
                .skip
                (.exit 0))
               (.seq
                (.block 1
                 (.seq
                  (.region [
                    ⟨(some 88), .iaddrS [.bool false, .int .i64 0, .int .i64 0, .int .i64 0, .int .i64 0, .bool false, .int .i64 0] (.t 84) (.t 86), none, []⟩,
                    ⟨(some 89), .load 7 true (.t 88), none, [0]⟩,
                    ⟨(some 25), .alloc [.bool false, .int .i64 0, .int .i64 0, .int .i64 0, .int .i64 0, .bool false, .int .i64 0], none, []⟩,
                    ⟨none, .store 7 (.t 25) (.t 89), none, [2, 1, 0, 1, 2]⟩] false)
                  (.seq
                   (.region [
                     ⟨(some 91), .load 7 true (.t 25), none, []⟩,
                     ⟨(some 92), .call 10 [(.t 91)], none, [0]⟩,
                     ⟨(some 90), .mov (.t 92), none, [1]⟩,
                     ⟨(some 93), .extract 0 (.t 90), none, [2]⟩,
                     ⟨(some 94), .extract 1 (.t 90), none, [2]⟩,
                     ⟨(some 95), .extract 2 (.t 90), none, [2]⟩,
                     ⟨(some 26), .alloc [.bool false, .int .i64 0, .int .i64 0, .int .i64 0, .int .i64 0, .bool false, .int .i64 0], none, []⟩,
                     ⟨none, .store 7 (.t 26) (.t 93), none, [6, 3, 1, 0, 1, 2, 3, 6]⟩,
                     ⟨(some 27), .mov (.t 94), none, [4, 7, 0, 1, 2, 3, 4, 6, 7]⟩,
                     ⟨(some 28), .mov (.t 95), none, [5, 8, 0, 1, 2, 3, 4, 5, 6, 7, 8]⟩] false)
                   (.seq
                    (.region [
                      ⟨(some 97), .load 7 true (.t 25), none, []⟩,
                      ⟨(some 98), .call 13 [(.t 97)], none, [0]⟩,
                      ⟨(some 96), .mov (.t 98), none, [1]⟩,
                      ⟨(some 99), .extract 0 (.t 96), none, [2]⟩,
                      ⟨(some 100), .extract 1 (.t 96), none, [2]⟩,
                      ⟨(some 101), .extract 2 (.t 96), none, [2]⟩,
                      ⟨(some 29), .alloc [.bool false, .int .i64 0, .int .i64 0, .int .i64 0, .int .i64 0, .bool false, .int .i64 0], none, []⟩,
                      ⟨none, .store 7 (.t 29) (.t 99), none, [6, 3, 1, 0, 1, 2, 3, 6]⟩,
                      ⟨(some 30), .mov (.t 100), none, [4, 7, 0, 1, 2, 3, 4, 6, 7]⟩,
                      ⟨(some 31), .mov (.t 101), none, [5, 8, 0, 1, 2, 3, 4, 5, 6, 7, 8]⟩] false)
                    (.seq
                     (.region [
                       ⟨(some 102), .load 7 true (.t 25), none, []⟩,
                       ⟨(some 103), .call 11 [(.t 102)], none, [0]⟩,
                       ⟨(some 104), .load 7 true (.t 25), none, []⟩,
                       ⟨(some 105), .call 14 [(.t 104)], none, [0, 1, 2]⟩,
                       ⟨(some 106), .cmp .neq 1 (.t 103) (.t 105), none, [2, 0, 3, 1]⟩,
                       ⟨(some 107), .mov (.t 106), none, [1, 0, 2, 3, 4]⟩,
                       ⟨(some 108), .load 7 true (.t 25), (some (107, false)), [4, 3, 2, 0, 1, 5]⟩,
                       ⟨(some 109), .call 9 [(.t 108)], (some (107, false)), [1, 0, 2, 3, 4, 5, 6]⟩,
                       ⟨(some 110), .load 7 true (.t 25), (some (107, false)), [4, 3, 2, 0, 1, 5]⟩,
                       ⟨(some 111), .call 15 [(.t 110)], (some (107, false)), [6, 1, 0, 2, 3, 4, 5, 7, 8]⟩,
                       ⟨(some 112), .eqa true [1, 0, 0, 0, 0, 1, 0] (.t 109) (.t 111), (some (107, false)), [8, 6, 4, 3, 2, 0, 1, 5, 9, 7]⟩,
                       ⟨(some 113), .pick (.t 107) (.c (.bool true)) (.t 112), none, [7, 9, 6, 8, 4, 3, 2, 0, 1, 10, 5]⟩,
                       ⟨(some 114), .mov (.t 113), none, [5, 10, 1, 0, 2, 3, 4, 8, 6, 7, 9, 11]⟩,
                       ⟨(some 115), .load 7 true (.t 25), (some (114, false)), [11, 9, 7, 6, 8, 4, 3, 2, 0, 1, 10, 5, 12]⟩,
                       ⟨(some 116), .call 16 [(.t 115)], (some (114, false)), [5, 10, 1, 0, 2, 3, 4, 8, 6, 7, 9, 11, 12, 13]⟩,
                       ⟨(some 117), .load 7 true (.t 25), (some (114, false)), [11, 9, 7, 6, 8, 4, 3, 2, 0, 1, 10, 5, 12]⟩,
                       ⟨(some 118), .call 17 [(.t 117)], (some (114, false)), [13, 5, 10, 1, 0, 2, 3, 4, 8, 6, 7, 9, 11, 12, 14, 15]⟩,
                       ⟨(some 119), .eqa true [1, 0, 0, 0, 0, 1, 0] (.t 116) (.t 118), (some (114, false)), [15, 13, 11, 9, 7, 6, 8, 4, 3, 2, 0, 1, 10, 5, 12, 16, 14]⟩,
                       ⟨(some 120), .pick (.t 114) (.c (.bool true)) (.t 119), none, [14, 16, 13, 15, 11, 9, 7, 6, 8, 4, 3, 2, 0, 1, 10, 5, 17, 12]⟩,
                       ⟨(some 121), .mov (.t 120), none, [12, 17, 5, 10, 1, 0, 2, 3, 4, 8, 6, 7, 9, 11, 15, 13, 14, 16, 18]⟩,
                       ⟨(some 122), .load 7 true (.t 26), (some (121, false)), [18, 16, 14, 13, 15, 11, 9, 7, 6, 8, 4, 3, 2, 0, 1, 10, 5, 17, 12, 19]⟩,
                       ⟨(some 123), .load 7 true (.t 29), (some (121, false)), [18, 16, 14, 13, 15, 11, 9, 7, 6, 8, 4, 3, 2, 0, 1, 10, 5, 17, 12, 19]⟩,
                       ⟨(some 124), .eqa true [1, 0, 0, 0, 0, 1, 0] (.t 122) (.t 123), (some (121, false)), [12, 17, 5, 10, 1, 0, 2, 3, 4, 8, 6, 7, 9, 11, 15, 13, 14, 16, 18, 19, 21, 20]⟩,
                       ⟨(some 125), .pick (.t 121) (.c (.bool true)) (.t 124), none, [20, 21, 18, 16, 14, 13, 15, 11, 9, 7, 6, 8, 4, 3, 2, 0, 1, 10, 5, 17, 12, 22, 19]⟩,
                       ⟨(some 126), .mov (.t 125), none, [22, 12, 17, 5, 10, 1, 0, 2, 3, 4, 8, 6, 7, 9, 11, 15, 13, 14, 16, 18, 21, 20, 19, 23]⟩,
                       ⟨(some 127), .mov (.t 27), (some (126, false)), [23, 19, 20, 21, 18, 16, 14, 13, 15, 11, 9, 7, 6, 8, 4, 3, 2, 0, 1, 10, 5, 17, 12, 22, 24]⟩,
                       ⟨(some 128), .mov (.t 30), (some (126, false)), [23, 19, 20, 21, 18, 16, 14, 13, 15, 11, 9, 7, 6, 8, 4, 3, 2, 0, 1, 10, 5, 17, 12, 22, 24]⟩,
                       ⟨(some 129), .cmp .neq 1 (.t 127) (.t 128), (some (126, false)), [22, 12, 17, 5, 10, 1, 0, 2, 3, 4, 8, 6, 7, 9, 11, 15, 13, 14, 16, 18, 21, 20, 19, 23, 24, 26, 25]⟩,
                       ⟨(some 130), .pick (.t 126) (.c (.bool true)) (.t 129), none, [25, 26, 23, 19, 20, 21, 18, 16, 14, 13, 15, 11, 9, 7, 6, 8, 4, 3, 2, 0, 1, 10, 5, 17, 12, 22, 27, 24]⟩,
                       ⟨(some 131), .mov (.t 130), none, [27, 22, 12, 17, 5, 10, 1, 0, 2, 3, 4, 8, 6, 7, 9, 11, 15, 13, 14, 16, 18, 21, 20, 19, 23, 26, 25, 24, 28]⟩,
                       ⟨(some 132), .mov (.t 28), (some (131, false)), [28, 24, 25, 26, 23, 19, 20, 21, 18, 16, 14, 13, 15, 11, 9, 7, 6, 8, 4, 3, 2, 0, 1, 10, 5, 17, 12, 22, 27, 29]⟩,
                       ⟨(some 133), .mov (.t 31), (some (131, false)), [28, 24, 25, 26, 23, 19, 20, 21, 18, 16, 14, 13, 15, 11, 9, 7, 6, 8, 4, 3, 2, 0, 1, 10, 5, 17, 12, 22, 27, 29]⟩,
                       ⟨(some 134), .cmp .neq 1 (.t 132) (.t 133), (some (131, false)), [27, 22, 12, 17, 5, 10, 1, 0, 2, 3, 4, 8, 6, 7, 9, 11, 15, 13, 14, 16, 18, 21, 20, 19, 23, 26, 25, 24, 28, 29, 31, 30]⟩,
                       ⟨(some 135), .pick (.t 131) (.c (.bool true)) (.t 134), none, [30, 31, 28, 24, 25, 26, 23, 19, 20, 21, 18, 16, 14, 13, 15, 11, 9, 7, 6, 8, 4, 3, 2, 0, 1, 10, 5, 17, 12, 22, 27, 32, 29]⟩] true)
                     (.cond (.t 135)
                      (.seq
                       (.region [
                         ⟨(some 18), .mov (.c (.bool false)), none, []⟩] false)
                       .ret)
                      .skip))))))
                (.region [
                  ⟨(some 136), .arith .add (.t 86) (.c (.int .i64 1)), none, []⟩,
                  ⟨(some 86), .mov (.t 136), none, [0]⟩] false)))))))
          (.seq
           (.region [
             ⟨(some 18), .mov (.c (.bool true)), none, []⟩] false)
           .ret)))))))))
def rv5 : List RV := [.t 18]
theorem rc5_ok : comp Try.prog Try.f5.ntmps (Try.f5.body.getD .skip) = some (erase rc5) := by kernel_rfl
theorem rv5_ok : compRes Try.prog Try.f5.results.toList = some rv5 := by kernel_rfl

/-- baseboard/baseboardlaw40.WatchdogStops [5, 5, 23] -/
def rc6 : RC :=
  (.seq
   (.region [
     ⟨(some 6), .mov (.c (.bool false)), none, []⟩] false)
   (.seq
    (.seq
     (.region [
       ⟨(some 13), .call 7 [], none, []⟩,
       ⟨(some 14), .not (.t 13), none, [0]⟩] false)
     (.cond (.t 14)
      (.seq
       (.region [
         ⟨(some 6), .mov (.c (.bool false)), none, []⟩] false)
       .ret)
      .skip))
    (.seq
     (.region [
       ⟨(some 16), .mov (.t 0), none, []⟩,
       ⟨(some 17), .conv .i64 (.t 16), none, [0]⟩,
       ⟨(some 18), .mov (.t 1), none, []⟩,
       ⟨(some 19), .conv .i64 (.t 18), none, [2]⟩,
       ⟨(some 20), .call 8 [(.t 17), (.t 19), (.c (.int .i64 2))], none, [1, 3]⟩,
       ⟨(some 15), .mov (.t 20), none, [4]⟩,
       ⟨(some 21), .extract 0 (.t 15), none, [5]⟩,
       ⟨(some 22), .extract 1 (.t 15), none, [5]⟩,
       ⟨(some 7), .alloc [.bool false, .int .i64 0, .int .i64 0, .int .i64 0, .int .i64 0, .bool false, .int .i64 0], none, []⟩,
       ⟨none, .store 7 (.t 7) (.t 21), none, [8, 6, 4, 0, 1, 2, 3, 4, 5, 6, 8]⟩,
       ⟨(some 8), .mov (.t 22), none, [7, 9, 0, 1, 2, 3, 4, 5, 6, 7, 8, 9]⟩] false)
     (.seq
      (.seq
       (.region [
         ⟨(some 23), .mov (.t 8), none, []⟩,
         ⟨(some 24), .cmp .neq 0 (.t 23) (.c (.int .i64 0)), none, [0]⟩] false)
       (.cond (.t 24)
        (.seq
         (.region [
           ⟨(some 25), .mov (.t 1), none, []⟩,
           ⟨(some 26), .cmp .neq 0 (.t 25) (.c (.int .u8 0)), none, [0]⟩,
           ⟨(some 27), .mov (.t 26), none, [1]⟩,
           ⟨(some 28), .mov (.t 1), (some (27, true)), [2]⟩,
           ⟨(some 29), .mov (.t 0), (some (27, true)), [2]⟩,
           ⟨(some 30), .cmp .geq 0 (.t 28) (.t 29), (some (27, true)), [3, 4, 2]⟩,
           ⟨(some 31), .pick (.t 27) (.t 30) (.c (.bool false)), none, [2, 5]⟩,
           ⟨(some 6), .mov (.t 31), none, [6, 2, 0, 1, 2, 3, 4, 5, 6]⟩] false)
         .ret)
        .skip))
      (.seq
       (.seq
        (.region [
          ⟨(some 9), .mov (.c (.int .i64 0)), none, []⟩] false)
        (.block 0
         (.loop 0
          (.seq
           (.seq
            (.region [
              ⟨(some 32), .mov (.t 9), none, []⟩,
              ⟨(some 33), .mov (.t 2), none, []⟩,
              ⟨(some 34), .len 0 (.t 33), none, [1]⟩,
              ⟨(some 35), .cmp .lss 0 (.t 32) (.t 34), none, [0, 2]⟩,
              ⟨(some 36), .mov (.t 35), none, [3]⟩,
              ⟨(some 37), .mov (.t 9), (some (36, true)), [4]⟩,
              ⟨(some 38), .cmp .lss 0 (.t 37) (.c (.int .i64 200)), (some (36, true)), [5, 4]⟩,
              ⟨(some 39), .pick (.t 36) (.t 38) (.c (.bool false)), none, [4, 6]⟩] false)
            (.cond (.t 39)
             .skip
             (.exit 0)))
           (.seq
            (.block 1
             (.seq
              (.region [
                ⟨(some 10), .mov (.c (.bool false)), none, []⟩,
                ⟨(some 11), .mov (.c (.bool false)), none, [0, 0]⟩] false)
              (.seq
               (.region [
                 ⟨(some 42), .faddr 0 (.t 7), none, []⟩,
                 ⟨(some 43), .load 1 false (.t 42), none, [0]⟩,
                 ⟨(some 12), .mov (.t 43), none, [1, 0, 1]⟩] false)
               (.seq
                (.seq
                 (.region [
                   ⟨(some 44), .mov (.t 2), none, []⟩,
                   ⟨(some 45), .mov (.t 9), none, []⟩,
                   ⟨(some 46), .iaddrS [.int .u8 0] (.t 44) (.t 45), none, [0, 1]⟩,
                   ⟨(some 47), .load 1 false (.t 46), none, [2]⟩,
                   ⟨(some 48), .arith .rem (.t 47) (.c (.int .u8 4)), none, [3]⟩] false)
                 (.block 2
                  (.seq
                   (.region [
                     ⟨(some 56), .cmp .eql 0 (.t 48) (.c (.int .u8 0)), none, []⟩,
                     ⟨(some 55), .mov (.t 56), none, [0]⟩] false)
                   (.cond (.t 55)
                    (.region [
                      ⟨(some 57), .load 7 true (.t 7), none, []⟩,
                      ⟨(some 58), .call 9 [(.t 57)], none, [0]⟩,
                      ⟨none, .store 7 (.t 7) (.t 58), none, [1, 1, 0, 1]⟩] false)
                    (.seq
                     (.region [
                       ⟨(some 60), .cmp .eql 0 (.t 48) (.c (.int .u8 1)), none, []⟩,
                       ⟨(some 59), .mov (.t 60), none, [0]⟩] false)
                     (.cond (.t 59)
                      (.region [
                        ⟨(some 61), .load 7 true (.t 7), none, []⟩,
                        ⟨(some 62), .call 16 [(.t 61)], none, [0]⟩,
                        ⟨none, .store 7 (.t 7) (.t 62), none, [1, 1, 0, 1]⟩] false)
                      (.region [
                        ⟨(some 50), .load 7 true (.t 7), none, []⟩,
                        ⟨(some 51), .call 10 [(.t 50)], none, [0]⟩,
                        ⟨(some 49), .mov (.t 51), none, [1]⟩,
                        ⟨(some 52), .extract 0 (.t 49), none, [2]⟩,
                        ⟨(some 53), .extract 1 (.t 49), none, [2]⟩,
                        ⟨(some 54), .extract 2 (.t 49), none, [2]⟩,
                        ⟨none, .store 7 (.t 7) (.t 52), none, [3, 1, 0, 1, 2, 3]⟩,
                        ⟨(some 10), .mov (.t 53), none, [4, 6, 0, 1, 2, 3, 4, 6]⟩,
                        ⟨(some 11), .mov (.t 54), none, [5, 7, 0, 1, 2, 3, 4, 5, 6, 7]⟩] false)))))))
                (.seq
                 (.region [
                   ⟨(some 63), .load 7 true (.t 7), none, []⟩,
                   ⟨(some 64), .call 11 [(.t 63)], none, [0]⟩,
                   ⟨(some 65), .not (.t 64), none, [1]⟩,
                   ⟨(some 66), .mov (.t 65), none, [2, 1]⟩,
                   ⟨(some 67), .mov (.t 10), (some (66, false)), [3]⟩,
                   ⟨(some 68), .mov (.t 67), (some (66, false)), [4, 3, 3]⟩,
                   ⟨(some 69), .mov (.t 11), (some (68, false)), [5]⟩,
                   ⟨(some 70), .pick (.t 68) (.c (.bool true)) (.t 69), (some (66, false)), [5, 6, 3]⟩,
                   ⟨(some 71), .mov (.t 70), (some (66, false)), [7, 5, 3]⟩,
                   ⟨(some 72), .mov (.t 12), (some (71, true)), [8]⟩,
                   ⟨(some 73), .not (.t 72), (some (71, true)), [9, 8]⟩,
                   ⟨(some 74), .pick (.t 71) (.t 73) (.c (.bool false)), (some (66, false)), [8, 10, 3]⟩,
                   ⟨(some 75), .pick (.t 66) (.c (.bool true)) (.t 74), none, [3, 11]⟩] false)
                 (.cond (.t 75)
                  (.seq
                   (.region [
                     ⟨(some 6), .mov (.c (.bool false)), none, []⟩] false)
                   .ret)
                  .skip))))))
            (.region [
              ⟨(some 40), .mov (.t 9), none, []⟩,
              ⟨(some 41), .arith .add (.t 40) (.c (.int .i64 1)), none, [0]⟩,
              ⟨(some 9), .mov (.t 41), none, [1, 0, 1]⟩] false))))))
       (.seq
        (.region [
          ⟨(some 6), .mov (.c (.bool true)), none, []⟩] false)
        .ret))))))
def rv6 : List RV := [.t 6]
theorem rc6_ok : comp Try.prog Try.f6.ntmps (Try.f6.body.getD .skip) = some (erase rc6) := by kernel_rfl
theorem rv6_ok : compRes Try.prog Try.f6.results.toList = some rv6 := by kernel_rfl

/-- baseboard/baseboardlaw40.awake [] -/
def rc7 : RC :=
  (.seq
   (.region [
     ⟨(some 0), .mov (.c (.bool false)), none, []⟩] false)
   (.seq
    (.region [
      ⟨(some 8), .call 8 [(.c (.int .i64 10)), (.c (.int .i64 3)), (.c (.int .i64 4))], none, []⟩,
      ⟨(some 7), .mov (.t 8), none, [0]⟩,
      ⟨(some 9), .extract 0 (.t 7), none, [1]⟩,
      ⟨(some 10), .extract 1 (.t 7), none, [1]⟩,
      ⟨(some 1), .alloc [.bool false, .int .i64 0, .int .i64 0, .int .i64 0, .int .i64 0, .bool false, .int .i64 0], none, []⟩,
      ⟨none, .store 7 (.t 1) (.t 9), none, [4, 2, 0, 0, 1, 2, 4]⟩,
      ⟨(some 2), .mov (.t 10), none, [3, 5, 0, 1, 2, 3, 4, 5]⟩] false)
    (.seq
     (.region [
       ⟨(some 11), .load 7 true (.t 1), none, []⟩,
       ⟨(some 12), .call 9 [(.t 11)], none, [0]⟩,
       ⟨none, .store 7 (.t 1) (.t 12), none, [1, 1, 0, 1]⟩] false)
     (.seq
      (.seq
       (.region [
         ⟨(some 3), .mov (.c (.int .i64 1)), none, []⟩] false)
       (.block 0
        (.loop 0
         (.seq
          (.seq
           (.region [
             ⟨(some 13), .mov (.t 3), none, []⟩,
             ⟨(some 14), .cmp .leq 0 (.t 13) (.c (.int .i64 10)), none, [0]⟩] false)
           (.cond (.t 14)
            .skip
            (.exit 0)))
          (.seq
           (.block 1
            (.seq
             (.region [
               ⟨(some 18), .load 7 true (.t 1), none, []⟩,
               ⟨(some 19), .call 10 [(.t 18)], none, [0]⟩,
               ⟨(some 17), .mov (.t 19), none, [1]⟩,
               ⟨(some 20), .extract 0 (.t 17), none, [2]⟩,
               ⟨(some 21), .extract 1 (.t 17), none, [2]⟩,
               ⟨(some 22), .extract 2 (.t 17), none, [2]⟩,
               ⟨(some 4), .alloc [.bool false, .int .i64 0, .int .i64 0, .int .i64 0, .int .i64 0, .bool false, .int .i64 0], none, []⟩,
               ⟨none, .store 7 (.t 4) (.t 20), none, [6, 3, 1, 0, 1, 2, 3, 6]⟩,
               ⟨(some 5), .mov (.t 21), none, [4, 7, 0, 1, 2, 3, 4, 6, 7]⟩,
               ⟨(some 6), .mov (.t 22), none, [5, 8, 0, 1, 2, 3, 4, 5, 6, 7, 8]⟩] false)
             (.seq
              (.region [
                ⟨(some 23), .load 7 true (.t 4), none, []⟩,
                ⟨none, .store 7 (.t 1) (.t 23), none, [0, 0]⟩] false)
              (.seq
               (.region [
                 ⟨(some 24), .mov (.t 5), none, []⟩,
                 ⟨(some 25), .mov (.t 3), none, []⟩,
                 ⟨(some 26), .cmp .eql 0 (.t 25) (.c (.int .i64 7)), none, [1]⟩,
                 ⟨(some 27), .cmp .neq 1 (.t 24) (.t 26), none, [0, 2]⟩,
                 ⟨(some 28), .mov (.t 27), none, [3]⟩,
                 ⟨(some 29), .mov (.t 6), (some (28, false)), [4]⟩,
                 ⟨(some 30), .mov (.t 3), (some (28, false)), [4]⟩,
                 ⟨(some 31), .cmp .eql 0 (.t 30) (.c (.int .i64 10)), (some (28, false)), [6, 4]⟩,
                 ⟨(some 32), .cmp .neq 1 (.t 29) (.t 31), (some (28, false)), [5, 7, 4]⟩,
                 ⟨(some 33), .pick (.t 28) (.c (.bool true)) (.t 32), none, [4, 8]⟩] false)
               (.cond (.t 33)
                (.seq
                 (.region [
                   ⟨(some 0), .mov (.c (.bool false)), none, []⟩] false)
                 .ret)
                .skip)))))
           (.region [
             ⟨(some 15), .mov (.t 3), none, []⟩,
             ⟨(some 16), .arith .add (.t 15) (.c (.int .i64 1)), none, [0]⟩,
             ⟨(some 3), .mov (.t 16), none, [1, 0, 1]⟩] false))))))
      (.seq
       (.region [
         ⟨(some 34), .mov (.t 2), none, []⟩,
         ⟨(some 35), .cmp .eql 0 (.t 34) (.c (.int .i64 0)), none, [0]⟩,
         ⟨(some 36), .mov (.t 35), none, [1]⟩,
         ⟨(some 37), .faddr 0 (.t 1), (some (36, true)), [2]⟩,
         ⟨(some 38), .load 1 false (.t 37), (some (36, true)), [3, 2]⟩,
         ⟨(some 39), .not (.t 38), (some (36, true)), [4, 2]⟩,
         ⟨(some 40), .pick (.t 36) (.t 39) (.c (.bool false)), none, [2, 5]⟩,
         ⟨(some 41), .mov (.t 40), none, [6, 2]⟩,
         ⟨(some 42), .faddr 6 (.t 1), (some (41, true)), [7]⟩,
         ⟨(some 43), .load 1 false (.t 42), (some (41, true)), [8, 7]⟩,
         ⟨(some 44), .cmp .eql 0 (.t 43) (.c (.int .i64 1)), (some (41, true)), [9, 7]⟩,
         ⟨(some 45), .pick (.t 41) (.t 44) (.c (.bool false)), none, [7, 10]⟩,
         ⟨(some 0), .mov (.t 45), none, [11, 7, 0, 1, 2, 3, 4, 5, 6, 7, 8, 9, 10, 11]⟩] false)
       .ret)))))
def rv7 : List RV := [.t 0]
theorem rc7_ok : comp Try.prog Try.f7.ntmps (Try.f7.body.getD .skip) = some (erase rc7) := by kernel_rfl
theorem rv7_ok : compRes Try.prog Try.f7.results.toList = some rv7 := by kernel_rfl

/-- baseboard/watchdog.New [3, 3, 3] -/
def rc8 : RC :=
  (.seq
   (.region [
     ⟨(some 6), .alloc [.bool false, .int .i64 0, .int .i64 0, .int .i64 0, .int .i64 0, .bool false, .int .i64 0], none, []⟩,
     ⟨(some 7), .mov (.c (.int .i64 0)), none, []⟩] false)
   (.seq
    (.region [
      ⟨(some 9), .mov (.t 0), none, []⟩,
      ⟨(some 10), .mov (.t 1), none, []⟩,
      ⟨(some 11), .mov (.t 2), none, []⟩,
      ⟨(some 12), .build [.bool false, .int .i64 0, .int .i64 0, .int .i64 0, .int .i64 0, .bool false, .int .i64 0] [(1, 1, (.t 9)), (3, 1, (.t 10)), (4, 1, (.t 11))], none, [0, 1, 2]⟩,
      ⟨(some 8), .alloc [.bool false, .int .i64 0, .int .i64 0, .int .i64 0, .int .i64 0, .bool false, .int .i64 0], none, []⟩,
      ⟨none, .store 7 (.t 8) (.t 12), none, [4, 3, 0, 1, 2, 3, 4]⟩] false)
    (.seq
     (.seq
      (.region [
        ⟨(some 13), .load 7 true (.t 8), none, []⟩,
        ⟨(some 14), .call 11 [(.t 13)], none, [0]⟩,
        ⟨(some 15), .not (.t 14), none, [1]⟩] false)
      (.cond (.t 15)
       (.seq
        (.region [
          ⟨(some 16), .build [.bool false, .int .i64 0, .int .i64 0, .int .i64 0, .int .i64 0, .bool false, .int .i64 0] [], none, []⟩,
          ⟨none, .store 7 (.t 6) (.t 16), none, [0, 0]⟩,
          ⟨(some 7), .mov (.c (.int .i64 2)), none, [1, 0, 1]⟩] false)
        .ret)
       .skip))
     (.seq
      (.region [
        ⟨(some 17), .load 7 true (.t 8), none, []⟩,
        ⟨none, .store 7 (.t 6) (.t 17), none, [0, 0]⟩,
        ⟨(some 7), .mov (.c (.int .i64 0)), none, [1, 0, 1]⟩] false)
      .ret))))
def rv8 : List RV := [.c 6 7 true, .t 7]
theorem rc8_ok : comp Try.prog Try.f8.ntmps (Try.f8.body.getD .skip) = some (erase rc8) := by kernel_rfl
theorem rv8_ok : compRes Try.prog Try.f8.results.toList = some rv8 := by kernel_rfl

/-- baseboard/watchdog.Start [26] -/
def rc9 : RC :=
  (.seq
   (.region [
     ⟨(some 1), .box 7 (.t 0), none, []⟩,
     ⟨(some 2), .alloc [.bool false, .int .i64 0, .int .i64 0, .int .i64 0, .int .i64 0, .bool false, .int .i64 0], none, []⟩] false)
   (.seq
    (.seq
     (.region [
       ⟨(some 3), .load 7 true (.t 1), none, []⟩,
       ⟨(some 4), .call 11 [(.t 3)], none, [0]⟩,
       ⟨(some 5), .mov (.t 4), none, [1, 1]⟩,
       ⟨(some 6), .faddr 1 (.t 1), (some (5, true)), [2]⟩,
       ⟨(some 7), .load 1 false (.t 6), (some (5, true)), [3, 2]⟩,
       ⟨(some 8), .cmp .gtr 0 (.t 7) (.c (.int .i64 0)), (some (5, true)), [4, 2]⟩,
       ⟨(some 9), .pick (.t 5) (.t 8) (.c (.bool false)), none, [2, 5]⟩] false)
     (.cond (.t 9)
      (.region [
        ⟨(some 10), .faddr 1 (.t 1), none, []⟩,
        ⟨(some 11), .load 1 false (.t 10), none, [0]⟩,
        ⟨(some 12), .faddr 0 (.t 1), none, [0, 1]⟩,
        ⟨none, .store 1 (.t 12) (.c (.bool true)), none, [2, 0, 1]⟩,
        ⟨(some 13), .faddr 2 (.t 1), none, [0, 1, 2, 3]⟩,
        ⟨none, .store 1 (.t 13) (.t 11), none, [4, 1, 3, 0, 1, 2, 3]⟩,
        ⟨(some 14), .faddr 5 (.t 1), none, [0, 1, 2, 3, 4, 5]⟩,
        ⟨none, .store 1 (.t 14) (.c (.bool false)), none, [6, 5, 0, 1, 2, 3, 4, 5]⟩] false)
      .skip))
    (.seq
     (.region [
       ⟨(some 15), .load 7 true (.t 1), none, []⟩,
       ⟨none, .store 7 (.t 2) (.t 15), none, [0, 0]⟩] false)
     .ret)))
def rv9 : List RV := [.c 2 7 true]
theorem rc9_ok : comp Try.prog Try.f9.ntmps (Try.f9.body.getD .skip) = some (erase rc9) := by kernel_rfl
theorem rv9_ok : compRes Try.prog Try.f9.results.toList = some rv9 := by kernel_rfl

/-- baseboard/watchdog.Step [26] -/
def rc10 : RC :=
  (.seq
   (.region [
     ⟨(some 1), .box 7 (.t 0), none, []⟩,
     ⟨(some 2), .alloc [.bool false, .int .i64 0, .int .i64 0, .int .i64 0, .int .i64 0, .bool false, .int .i64 0], none, []⟩,
     ⟨(some 3), .mov (.c (.bool false)), none, []⟩,
     ⟨(some 4), .mov (.c (.bool false)), none, [2]⟩] false)
   (.seq
    (.region [
      ⟨(some 5), .load 7 true (.t 1), none, []⟩,
      ⟨none, .store 7 (.t 2) (.t 5), none, [0, 0]⟩] false)
    (.seq
     (.seq
      (.region [
        ⟨(some 6), .load 7 true (.t 1), none, []⟩,
        ⟨(some 7), .call 11 [(.t 6)], none, [0]⟩,
        ⟨(some 8), .not (.t 7), none, [1]⟩,
        ⟨(some 9), .mov (.t 8), none, [2, 1]⟩,
        ⟨(some 10), .faddr 0 (.t 1), (some (9, false)), [3]⟩,
        ⟨(some 11), .load 1 false (.t 10), (some (9, false)), [4, 3]⟩,
        ⟨(some 12), .not (.t 11), (some (9, false)), [5, 3]⟩,
        ⟨(some 13), .pick (.t 9) (.c (.bool true)) (.t 12), none, [3, 6]⟩] false)
      (.cond (.t 13)
       .ret
       .skip))
     (.seq
      (.region [
        ⟨(some 14), .faddr 2 (.t 2), none, []⟩,
        ⟨(some 15), .load 1 false (.t 14), none, [0]⟩,
        ⟨(some 16), .arith .sub (.t 15) (.c (.int .i64 1)), none, [1]⟩,
        ⟨(some 17), .faddr 2 (.t 2), none, [0, 1, 2]⟩,
        ⟨none, .store 1 (.t 17) (.t 16), none, [3, 2, 0, 1, 2]⟩] false)
      (.seq
       (.seq
        (.region [
          ⟨(some 18), .faddr 2 (.t 2), none, []⟩,
          ⟨(some 19), .load 1 false (.t 18), none, [0]⟩,
          ⟨(some 20), .cmp .eql 0 (.t 19) (.c (.int .i64 0)), none, [1]⟩] false)
        (.cond (.t 20)
         (.seq
          (.region [
            ⟨(some 4), .mov (.c (.bool true)), none, []⟩] false)
          (.seq
           (.region [
             ⟨(some 21), .faddr 0 (.t 2), none, []⟩,
             ⟨none, .store 1 (.t 21) (.c (.bool false)), none, [0]⟩,
             ⟨(some 22), .faddr 5 (.t 2), none, [0, 1]⟩,
             ⟨none, .store 1 (.t 22) (.c (.bool false)), none, [2, 1, 0, 1]⟩] false)
           (.seq
            (.region [
              ⟨(some 23), .faddr 6 (.t 2), none, []⟩,
              ⟨(some 24), .load 1 false (.t 23), none, [0]⟩,
              ⟨(some 25), .arith .add (.t 24) (.c (.int .i64 1)), none, [1]⟩,
              ⟨(some 26), .minmax false [(.t 25), (.c (.int .i64 65535))], none, [2]⟩,
              ⟨(some 27), .faddr 6 (.t 2), none, [0, 1, 2, 3]⟩,
              ⟨none, .store 1 (.t 27) (.t 26), none, [4, 3, 0, 1, 2, 3]⟩] false)
            .ret)))
         .skip))
       (.seq
        (.seq
         (.region [
           ⟨(some 28), .faddr 2 (.t 2), none, []⟩,
           ⟨(some 29), .load 1 false (.t 28), none, [0]⟩,
           ⟨(some 30), .faddr 3 (.t 2), none, []⟩,
           ⟨(some 31), .load 1 false (.t 30), none, [2]⟩,
           ⟨(some 32), .cmp .eql 0 (.t 29) (.t 31), none, [1, 3]⟩] false)
         (.cond (.t 32)
          (.region [
            ⟨(some 3), .mov (.c (.bool true)), none, []⟩,
            ⟨(some 33), .faddr 5 (.t 2), none, [0]⟩,
            ⟨none, .store 1 (.t 33) (.c (.bool true)), none, [1, 0, 0]⟩] false)
          .skip))
        .ret))))))
def rv10 : List RV := [.c 2 7 true, .t 3, .t 4]
theorem rc10_ok : comp Try.prog Try.f10.ntmps (Try.f10.body.getD .skip) = some (erase rc10) := by kernel_rfl
theorem rv10_ok : compRes Try.prog Try.f10.results.toList = some rv10 := by kernel_rfl

/-- baseboard/watchdog.Valid [26] -/
def rc11 : RC :=
  (.seq
   (.region [
     ⟨(some 1), .box 7 (.t 0), none, []⟩,
     ⟨(some 2), .mov (.c (.bool false)), none, []⟩] false)
   (.seq
    (.seq
     (.region [
       ⟨(some 3), .faddr 1 (.t 1), none, []⟩,
       ⟨(some 4), .load 1 false (.t 3), none, [0]⟩,
       ⟨(some 5), .cmp .lss 0 (.t 4) (.c (.int .i64 0)), none, [1]⟩,
       ⟨(some 6), .mov (.t 5), none, [2]⟩,
       ⟨(some 7), .faddr 1 (.t 1), (some (6, false)), [3]⟩,
       ⟨(some 8), .load 1 false (.t 7), (some (6, false)), [4, 3]⟩,
       ⟨(some 9), .cmp .gtr 0 (.t 8) (.c (.int .i64 65535)), (some (6, false)), [5, 3]⟩,
       ⟨(some 10), .pick (.t 6) (.c (.bool true)) (.t 9), none, [3, 6]⟩,
       ⟨(some 11), .mov (.t 10), none, [7, 3]⟩,
       ⟨(some 12), .faddr 6 (.t 1), (some (11, false)), [8]⟩,
       ⟨(some 13), .load 1 false (.t 12), (some (11, false)), [9, 8]⟩,
       ⟨(some 14), .cmp .lss 0 (.t 13) (.c (.int .i64 0)), (some (11, false)), [10, 8]⟩,
       ⟨(some 15), .pick (.t 11) (.c (.bool true)) (.t 14), none, [8, 11]⟩,
       ⟨(some 16), .mov (.t 15), none, [12, 8]⟩,
       ⟨(some 17), .faddr 6 (.t 1), (some (16, false)), [13]⟩,
       ⟨(some 18), .load 1 false (.t 17), (some (16, false)), [14, 13]⟩,
       ⟨(some 19), .cmp .gtr 0 (.t 18) (.c (.int .i64 65535)), (some (16, false)), [15, 13]⟩,
       ⟨(some 20), .pick (.t 16) (.c (.bool true)) (.t 19), none, [13, 16]⟩] false)
     (.cond (.t 20)
      (.seq
       (.region [
         ⟨(some 2), .mov (.c (.bool false)), none, []⟩] false)
       .ret)
      .skip))
    (.seq
     (.seq
      (.region [
        ⟨(some 21), .faddr 3 (.t 1), none, []⟩,
        ⟨(some 22), .load 1 false (.t 21), none, [0]⟩,
        ⟨(some 23), .cmp .neq 0 (.t 22) (.c (.int .i64 0)), none, [1]⟩,
        ⟨(some 24), .mov (.t 23), none, [2]⟩,
        ⟨(some 25), .faddr 3 (.t 1), (some (24, true)), [3]⟩,
        ⟨(some 26), .load 1 false (.t 25), (some (24, true)), [4, 3]⟩,
        ⟨(some 27), .cmp .lss 0 (.t 26) (.c (.int .i64 1)), (some (24, true)), [5, 3]⟩,
        ⟨(some 28), .mov (.t 27), (some (24, true)), [6, 3, 3]⟩,
        ⟨(some 29), .faddr 3 (.t 1), (some (28, false)), [7]⟩,
        ⟨(some 30), .load 1 false (.t 29), (some (28, false)), [8, 7]⟩,
        ⟨(some 31), .faddr 1 (.t 1), (some (28, false)), [7]⟩,
        ⟨(some 32), .load 1 false (.t 31), (some (28, false)), [10, 7]⟩,
        ⟨(some 33), .arith .sub (.t 32) (.c (.int .i64 1)), (some (28, false)), [11, 7]⟩,
        ⟨(some 34), .cmp .gtr 0 (.t 30) (.t 33), (some (28, false)), [9, 12, 7]⟩,
        ⟨(some 35), .pick (.t 28) (.c (.bool true)) (.t 34), (some (24, true)), [7, 13, 3]⟩,
        ⟨(some 36), .pick (.t 24) (.t 35) (.c (.bool false)), none, [3, 14]⟩] false)
      (.cond (.t 36)
       (.seq
        (.region [
          ⟨(some 2), .mov (.c (.bool false)), none, []⟩] false)
        .ret)
       .skip))
     (.seq
      (.seq
       (.region [
         ⟨(some 37), .faddr 4 (.t 1), none, []⟩,
         ⟨(some 38), .load 1 false (.t 37), none, [0]⟩] false)
       (.block 0
        (.seq
         (.seq
          (.region [
            ⟨(some 40), .cmp .eql 0 (.t 38) (.c (.int .i64 0)), none, []⟩,
            ⟨(some 39), .mov (.t 40), none, [0]⟩] false)
          (.cond (.t 39)
           .skip
           (.seq
            (.region [
              ⟨(some 41), .cmp .eql 0 (.t 38) (.c (.int .i64 2)), none, []⟩,
              ⟨(some 39), .mov (.t 41), none, [0]⟩] false)
            (.cond (.t 39)
             .skip
             (.seq
              (.region [
                ⟨(some 42), .cmp .eql 0 (.t 38) (.c (.int .i64 3)), none, []⟩,
                ⟨(some 39), .mov (.t 42), none, [0]⟩] false)
              (.cond (.t 39)
               .skip
               (.region [
                 ⟨(some 43), .cmp .eql 0 (.t 38) (.c (.int .i64 4)), none, []⟩,
                 ⟨(some 39), .mov (.t 43), none, [0]⟩] false)))))))
         (.cond (.t 39)
          .skip
          (.seq
           (.region [
             ⟨(some 2), .mov (.c (.bool false)), none, []⟩] false)
           .ret)))))
      (.seq
       (.seq
        (.region [
          ⟨(some 44), .faddr 0 (.t 1), none, []⟩,
          ⟨(some 45), .load 1 false (.t 44), none, [0]⟩] false)
        (.cond (.t 45)
         (.seq
          (.region [
            ⟨(some 46), .faddr 2 (.t 1), none, []⟩,
            ⟨(some 47), .load 1 false (.t 46), none, [0]⟩,
            ⟨(some 48), .cmp .geq 0 (.t 47) (.c (.int .i64 1)), none, [1]⟩,
            ⟨(some 49), .mov (.t 48), none, [2]⟩,
            ⟨(some 50), .faddr 2 (.t 1), (some (49, true)), [3]⟩,
            ⟨(some 51), .load 1 false (.t 50), (some (49, true)), [4, 3]⟩,
            ⟨(some 52), .faddr 1 (.t 1), (some (49, true)), [3]⟩,
            ⟨(some 53), .load 1 false (.t 52), (some (49, true)), [6, 3]⟩,
            ⟨(some 54), .cmp .leq 0 (.t 51) (.t 53), (some (49, true)), [5, 7, 3]⟩,
            ⟨(some 55), .pick (.t 49) (.t 54) (.c (.bool false)), none, [3, 8]⟩,
            ⟨(some 2), .mov (.t 55), none, [9, 3, 0, 1, 2, 3, 4, 5, 6, 7, 8, 9]⟩] false)
          .ret)
         .skip))
       (.seq
        (.region [
          ⟨(some 56), .faddr 2 (.t 1), none, []⟩,
          ⟨(some 57), .load 1 false (.t 56), none, [0]⟩,
          ⟨(some 58), .cmp .eql 0 (.t 57) (.c (.int .i64 0)), none, [1]⟩,
          ⟨(some 59), .mov (.t 58), none, [2]⟩,
          ⟨(some 60), .faddr 5 (.t 1), (some (59, true)), [3]⟩,
          ⟨(some 61), .load 1 false (.t 60), (some (59, true)), [4, 3]⟩,
          ⟨(some 62), .not (.t 61), (some (59, true)), [5, 3]⟩,
          ⟨(some 63), .pick (.t 59) (.t 62) (.c (.bool false)), none, [3, 6]⟩,
          ⟨(some 2), .mov (.t 63), none, [7, 3, 0, 1, 2, 3, 4, 5, 6, 7]⟩] false)
        .ret))))))
def rv11 : List RV := [.t 2]
theorem rc11_ok : comp Try.prog Try.f11.ntmps (Try.f11.body.getD .skip) = some (erase rc11) := by kernel_rfl
theorem rv11_ok : compRes Try.prog Try.f11.results.toList = some rv11 := by kernel_rfl

/-- baseboard/baseboardref40.New [3, 3, 3] -/
def rc12 : RC :=
  (.seq
   (.region [
     ⟨(some 6), .alloc [.bool false, .int .i64 0, .int .i64 0, .int .i64 0, .int .i64 0, .bool false, .int .i64 0], none, []⟩,
     ⟨(some 7), .mov (.c (.int .i64 0)), none, []⟩] false)
   (.seq
    (.region [
      ⟨(some 9), .mov (.t 0), none, []⟩,
      ⟨(some 10), .mov (.t 1), none, []⟩,
      ⟨(some 11), .mov (.t 2), none, []⟩,
      ⟨(some 12), .build [.bool false, .int .i64 0, .int .i64 0, .int .i64 0, .int .i64 0, .bool false, .int .i64 0] [(1, 1, (.t 9)), (3, 1, (.t 10)), (4, 1, (.t 11))], none, [0, 1, 2]⟩,
      ⟨(some 8), .alloc [.bool false, .int .i64 0, .int .i64 0, .int .i64 0, .int .i64 0, .bool false, .int .i64 0], none, []⟩,
      ⟨none, .store 7 (.t 8) (.t 12), none, [4, 3, 0, 1, 2, 3, 4]⟩] false)
    (.seq
     (.seq
      (.region [
        ⟨(some 13), .load 7 true (.t 8), none, []⟩,
        ⟨(some 14), .call 14 [(.t 13)], none, [0]⟩,
        ⟨(some 15), .not (.t 14), none, [1]⟩] false)
      (.cond (.t 15)
       (.seq
        (.region [
          ⟨(some 16), .build [.bool false, .int .i64 0, .int .i64 0, .int .i64 0, .int .i64 0, .bool false, .int .i64 0] [], none, []⟩,
          ⟨none, .store 7 (.t 6) (.t 16), none, [0, 0]⟩,
          ⟨(some 7), .mov (.c (.int .i64 2)), none, [1, 0, 1]⟩] false)
        .ret)
       .skip))
     (.seq
      (.region [
        ⟨(some 17), .load 7 true (.t 8), none, []⟩,
        ⟨none, .store 7 (.t 6) (.t 17), none, [0, 0]⟩,
        ⟨(some 7), .mov (.c (.int .i64 0)), none, [1, 0, 1]⟩] false)
      .ret))))
def rv12 : List RV := [.c 6 7 true, .t 7]
theorem rc12_ok : comp Try.prog Try.f12.ntmps (Try.f12.body.getD .skip) = some (erase rc12) := by kernel_rfl
theorem rv12_ok : compRes Try.prog Try.f12.results.toList = some rv12 := by kernel_rfl

/-- baseboard/baseboardref40.Step [26] -/
def rc13 : RC :=
  (.seq
   (.region [
     ⟨(some 1), .box 7 (.t 0), none, []⟩,
     ⟨(some 2), .alloc [.bool false, .int .i64 0, .int .i64 0, .int .i64 0, .int .i64 0, .bool false, .int .i64 0], none, []⟩,
     ⟨(some 3), .mov (.c (.bool false)), none, []⟩,
     ⟨(some 4), .mov (.c (.bool false)), none, [2]⟩] false)
   (.seq
    (.seq
     (.region [
       ⟨(some 6), .load 7 true (.t 1), none, []⟩,
       ⟨(some 7), .call 14 [(.t 6)], none, [0]⟩,
       ⟨(some 8), .not (.t 7), none, [1]⟩,
       ⟨(some 9), .mov (.t 8), none, [2, 1]⟩,
       ⟨(some 10), .faddr 0 (.t 1), (some (9, false)), [3]⟩,
       ⟨(some 11), .load 1 false (.t 10), (some (9, false)), [4, 3]⟩,
       ⟨(some 12), .not (.t 11), (some (9, false)), [5, 3]⟩,
       ⟨(some 13), .pick (.t 9) (.c (.bool true)) (.t 12), none, [3, 6]⟩] false)
     (.cond (.t 13)
      (.seq
       (.region [
         ⟨(some 14), .load 7 true (.t 1), none, []⟩,
         ⟨none, .store 7 (.t 2) (.t 14), none, [0, 0]⟩,
         ⟨(some 3), .mov (.c (.bool false)), none, [1, 0, 1]⟩,
         ⟨(some 4), .mov (.c (.bool false)), none, [2, 0, 1, 2]⟩] false)
       .ret)
      .skip))
    (.seq
     (.region [
       ⟨(some 15), .faddr 2 (.t 1), none, []⟩,
       ⟨(some 16), .load 1 false (.t 15), none, [0]⟩,
       ⟨(some 17), .arith .sub (.t 16) (.c (.int .i64 1)), none, [1]⟩,
       ⟨(some 18), .faddr 2 (.t 1), none, [0, 1, 2]⟩,
       ⟨none, .store 1 (.t 18) (.t 17), none, [3, 2, 0, 1, 2]⟩] false)
     (.seq
      (.seq
       (.region [
         ⟨(some 19), .faddr 2 (.t 1), none, []⟩,
         ⟨(some 20), .load 1 false (.t 19), none, [0]⟩,
         ⟨(some 21), .cmp .eql 0 (.t 20) (.c (.int .i64 0)), none, [1]⟩] false)
       (.cond (.t 21)
        (.seq
         (.region [
           ⟨(some 22), .faddr 6 (.t 1), none, []⟩,
           ⟨(some 23), .load 1 false (.t 22), none, [0]⟩,
           ⟨(some 24), .arith .add (.t 23) (.c (.int .i64 1)), none, [1]⟩,
           ⟨(some 25), .minmax false [(.t 24), (.c (.int .i64 65535))], none, [2]⟩,
           ⟨(some 26), .faddr 0 (.t 1), none, [0, 1]⟩,
           ⟨none, .store 1 (.t 26) (.c (.bool false)), none, [4, 0, 1]⟩,
           ⟨(some 27), .faddr 5 (.t 1), none, [0, 1, 4, 5]⟩,
           ⟨none, .store 1 (.t 27) (.c (.bool false)), none, [6, 5, 0, 1, 4, 5]⟩,
           ⟨(some 28), .faddr 6 (.t 1), none, [0, 1, 2, 3, 4, 5, 6, 7]⟩,
           ⟨none, .store 1 (.t 28) (.t 25), none, [8, 3, 7, 0, 1, 2, 3, 4, 5, 6, 7]⟩] false)
         (.seq
          (.region [
            ⟨(some 29), .load 7 true (.t 1), none, []⟩,
            ⟨none, .store 7 (.t 2) (.t 29), none, [0, 0]⟩,
            ⟨(some 3), .mov (.c (.bool false)), none, [1, 0, 1]⟩,
            ⟨(some 4), .mov (.c (.bool true)), none, [2, 0, 1, 2]⟩] false)
          .ret))
        .skip))
      (.seq
       (.region [
         ⟨(some 30), .faddr 3 (.t 1), none, []⟩,
         ⟨(some 31), .load 1 false (.t 30), none, [0]⟩,
         ⟨(some 32), .cmp .neq 0 (.t 31) (.c (.int .i64 0)), none, [1]⟩,
         ⟨(some 33), .mov (.t 32), none, [2]⟩,
         ⟨(some 34), .faddr 2 (.t 1), (some (33, true)), [3]⟩,
         ⟨(some 35), .load 1 false (.t 34), (some (33, true)), [4, 3]⟩,
         ⟨(some 36), .faddr 3 (.t 1), (some (33, true)), [3]⟩,
         ⟨(some 37), .load 1 false (.t 36), (some (33, true)), [6, 3]⟩,
         ⟨(some 38), .cmp .eql 0 (.t 35) (.t 37), (some (33, true)), [5, 7, 3]⟩,
         ⟨(some 39), .pick (.t 33) (.t 38) (.c (.bool false)), none, [3, 8]⟩,
         ⟨(some 5), .mov (.t 39), none, [9, 3, 0, 1, 2, 3, 4, 5, 6, 7, 8, 9]⟩] false)
       (.seq
        (.region [
          ⟨(some 40), .faddr 5 (.t 1), none, []⟩,
          ⟨(some 41), .load 1 false (.t 40), none, [0]⟩,
          ⟨(some 42), .mov (.t 41), none, [1]⟩,
          ⟨(some 43), .mov (.t 5), (some (42, false)), [2]⟩,
          ⟨(some 44), .pick (.t 42) (.c (.bool true)) (.t 43), none, [2, 3]⟩,
          ⟨(some 45), .faddr 5 (.t 1), none, [0, 1, 2, 3, 4]⟩,
          ⟨none, .store 1 (.t 45) (.t 44), none, [5, 4, 2, 0, 1, 2, 3, 4]⟩] false)
        (.seq
         (.region [
           ⟨(some 46), .load 7 true (.t 1), none, []⟩,
           ⟨(some 47), .mov (.t 5), none, []⟩,
           ⟨none, .store 7 (.t 2) (.t 46), none, [0, 0]⟩,
           ⟨(some 3), .mov (.t 47), none, [1, 2, 0, 1, 2]⟩,
           ⟨(some 4), .mov (.c (.bool false)), none, [3, 0, 1, 2, 3]⟩] false)
         .ret)))))))
def rv13 : List RV := [.c 2 7 true, .t 3, .t 4]
theorem rc13_ok : comp Try.prog Try.f13.ntmps (Try.f13.body.getD .skip) = some (erase rc13) := by kernel_rfl
theorem rv13_ok : compRes Try.prog Try.f13.results.toList = some rv13 := by kernel_rfl

/-- baseboard/baseboardref40.Valid [26] -/
def rc14 : RC :=
  (.seq
   (.region [
     ⟨(some 1), .box 7 (.t 0), none, []⟩,
     ⟨(some 2), .mov (.c (.bool false)), none, []⟩] false)
   (.seq
    (.seq
     (.region [
       ⟨(some 3), .faddr 1 (.t 1), none, []⟩,
       ⟨(some 4), .load 1 false (.t 3), none, [0]⟩,
       ⟨(some 5), .cmp .lss 0 (.t 4) (.c (.int .i64 0)), none, [1]⟩,
       ⟨(some 6), .mov (.t 5), none, [2]⟩,
       ⟨(some 7), .faddr 1 (.t 1), (some (6, false)), [3]⟩,
       ⟨(some 8), .load 1 false (.t 7), (some (6, false)), [4, 3]⟩,
       ⟨(some 9), .cmp .gtr 0 (.t 8) (.c (.int .i64 65535)), (some (6, false)), [5, 3]⟩,
       ⟨(some 10), .pick (.t 6) (.c (.bool true)) (.t 9), none, [3, 6]⟩,
       ⟨(some 11), .mov (.t 10), none, [7, 3]⟩,
       ⟨(some 12), .faddr 3 (.t 1), (some (11, false)), [8]⟩,
       ⟨(some 13), .load 1 false (.t 12), (some (11, false)), [9, 8]⟩,
       ⟨(some 14), .cmp .lss 0 (.t 13) (.c (.int .i64 0)), (some (11, false)), [10, 8]⟩,
       ⟨(some 15), .pick (.t 11) (.c (.bool true)) (.t 14), none, [8, 11]⟩,
       ⟨(some 16), .mov (.t 15), none, [12, 8]⟩,
       ⟨(some 17), .faddr 3 (.t 1), (some (16, false)), [13]⟩,
       ⟨(some 18), .load 1 false (.t 17), (some (16, false)), [14, 13]⟩,
       ⟨(some 19), .cmp .neq 0 (.t 18) (.c (.int .i64 0)), (some (16, false)), [15, 13]⟩,
       ⟨(some 20), .mov (.t 19), (some (16, false)), [16, 13, 13]⟩,
       ⟨(some 21), .faddr 3 (.t 1), (some (20, true)), [17]⟩,
       ⟨(some 22), .load 1 false (.t 21), (some (20, true)), [18, 17]⟩,
       ⟨(some 23), .faddr 1 (.t 1), (some (20, true)), [17]⟩,
       ⟨(some 24), .load 1 false (.t 23), (some (20, true)), [20, 17]⟩,
       ⟨(some 25), .cmp .geq 0 (.t 22) (.t 24), (some (20, true)), [19, 21, 17]⟩,
       ⟨(some 26), .pick (.t 20) (.t 25) (.c (.bool false)), (some (16, false)), [17, 22, 13]⟩,
       ⟨(some 27), .pick (.t 16) (.c (.bool true)) (.t 26), none, [13, 23]⟩,
       ⟨(some 28), .mov (.t 27), none, [24, 17]⟩,
       ⟨(some 29), .faddr 6 (.t 1), (some (28, false)), [25]⟩,
       ⟨(some 30), .load 1 false (.t 29), (some (28, false)), [26, 25]⟩,
       ⟨(some 31), .cmp .lss 0 (.t 30) (.c (.int .i64 0)), (some (28, false)), [27, 25]⟩,
       ⟨(some 32), .pick (.t 28) (.c (.bool true)) (.t 31), none, [25, 28]⟩,
       ⟨(some 33), .mov (.t 32), none, [29, 25]⟩,
       ⟨(some 34), .faddr 6 (.t 1), (some (33, false)), [30]⟩,
       ⟨(some 35), .load 1 false (.t 34), (some (33, false)), [31, 30]⟩,
       ⟨(some 36), .cmp .gtr 0 (.t 35) (.c (.int .i64 65535)), (some (33, false)), [32, 30]⟩,
       ⟨(some 37), .pick (.t 33) (.c (.bool true)) (.t 36), none, [30, 33]⟩] false)
     (.cond (.t 37)
      (.seq
       (.region [
         ⟨(some 2), .mov (.c (.bool false)), none, []⟩] false)
       .ret)
      .skip))
    (.seq
     (.seq
      (.region [
        ⟨(some 38), .faddr 4 (.t 1), none, []⟩,
        ⟨(some 39), .load 1 false (.t 38), none, [0]⟩,
        ⟨(some 40), .cmp .neq 0 (.t 39) (.c (.int .i64 0)), none, [1]⟩,
        ⟨(some 41), .mov (.t 40), none, [2]⟩,
        ⟨(some 42), .faddr 4 (.t 1), (some (41, true)), [3]⟩,
        ⟨(some 43), .load 1 false (.t 42), (some (41, true)), [4, 3]⟩,
        ⟨(some 44), .cmp .neq 0 (.t 43) (.c (.int .i64 2)), (some (41, true)), [5, 3]⟩,
        ⟨(some 45), .pick (.t 41) (.t 44) (.c (.bool false)), none, [3, 6]⟩,
        ⟨(some 46), .mov (.t 45), none, [7, 3]⟩,
        ⟨(some 47), .faddr 4 (.t 1), (some (46, true)), [8]⟩,
        ⟨(some 48), .load 1 false (.t 47), (some (46, true)), [9, 8]⟩,
        ⟨(some 49), .cmp .neq 0 (.t 48) (.c (.int .i64 3)), (some (46, true)), [10, 8]⟩,
        ⟨(some 50), .pick (.t 46) (.t 49) (.c (.bool false)), none, [8, 11]⟩,
        ⟨(some 51), .mov (.t 50), none, [12, 8]⟩,
        ⟨(some 52), .faddr 4 (.t 1), (some (51, true)), [13]⟩,
        ⟨(some 53), .load 1 false (.t 52), (some (51, true)), [14, 13]⟩,
        ⟨(some 54), .cmp .neq 0 (.t 53) (.c (.int .i64 4)), (some (51, true)), [15, 13]⟩,
        ⟨(some 55), .pick (.t 51) (.t 54) (.c (.bool false)), none, [13, 16]⟩] false)
      (.cond (.t 55)
       (.seq
        (.region [
          ⟨(some 2), .mov (.c (.bool false)), none, []⟩] false)
        .ret)
       .skip))
     (.seq
      (.seq
       (.region [
         ⟨(some 56), .faddr 0 (.t 1), none, []⟩,
         ⟨(some 57), .load 1 false (.t 56), none, [0]⟩] false)
       (.cond (.t 57)
        (.seq
         (.region [
           ⟨(some 58), .faddr 2 (.t 1), none, []⟩,
           ⟨(some 59), .load 1 false (.t 58), none, [0]⟩,
           ⟨(some 60), .cmp .geq 0 (.t 59) (.c (.int .i64 1)), none, [1]⟩,
           ⟨(some 61), .mov (.t 60), none, [2]⟩,
           ⟨(some 62), .faddr 2 (.t 1), (some (61, true)), [3]⟩,
           ⟨(some 63), .load 1 false (.t 62), (some (61, true)), [4, 3]⟩,
           ⟨(some 64), .faddr 1 (.t 1), (some (61, true)), [3]⟩,
           ⟨(some 65), .load 1 false (.t 64), (some (61, true)), [6, 3]⟩,
           ⟨(some 66), .cmp .leq 0 (.t 63) (.t 65), (some (61, true)), [5, 7, 3]⟩,
           ⟨(some 67), .pick (.t 61) (.t 66) (.c (.bool false)), none, [3, 8]⟩,
           ⟨(some 2), .mov (.t 67), none, [9, 3, 0, 1, 2, 3, 4, 5, 6, 7, 8, 9]⟩] false)
         .ret)
        .skip))
      (.seq
       (.region [
         ⟨(some 68), .faddr 2 (.t 1), none, []⟩,
         ⟨(some 69), .load 1 false (.t 68), none, [0]⟩,
         ⟨(some 70), .cmp .eql 0 (.t 69) (.c (.int .i64 0)), none, [1]⟩,
         ⟨(some 71), .mov (.t 70), none, [2]⟩,
         ⟨(some 72), .faddr 5 (.t 1), (some (71, true)), [3]⟩,
         ⟨(some 73), .load 1 false (.t 72), (some (71, true)), [4, 3]⟩,
         ⟨(some 74), .not (.t 73), (some (71, true)), [5, 3]⟩,
         ⟨(some 75), .pick (.t 71) (.t 74) (.c (.bool false)), none, [3, 6]⟩,
         ⟨(some 2), .mov (.t 75), none, [7, 3, 0, 1, 2, 3, 4, 5, 6, 7]⟩] false)
       .ret)))))
def rv14 : List RV := [.t 2]
theorem rc14_ok : comp Try.prog Try.f14.ntmps (Try.f14.body.getD .skip) = some (erase rc14) := by kernel_rfl
theorem rv14_ok : compRes Try.prog Try.f14.results.toList = some rv14 := by kernel_rfl

/-- baseboard/baseboardref40.Start [26] -/
def rc15 : RC :=
  (.seq
   (.region [
     ⟨(some 1), .box 7 (.t 0), none, []⟩,
     ⟨(some 2), .alloc [.bool false, .int .i64 0, .int .i64 0, .int .i64 0, .int .i64 0, .bool false, .int .i64 0], none, []⟩] false)
   (.seq
    (.seq
     (.region [
       ⟨(some 3), .load 7 true (.t 1), none, []⟩,
       ⟨(some 4), .call 14 [(.t 3)], none, [0]⟩,
       ⟨(some 5), .mov (.t 4), none, [1, 1]⟩,
       ⟨(some 6), .faddr 1 (.t 1), (some (5, true)), [2]⟩,
       ⟨(some 7), .load 1 false (.t 6), (some (5, true)), [3, 2]⟩,
       ⟨(some 8), .cmp .gtr 0 (.t 7) (.c (.int .i64 0)), (some (5, true)), [4, 2]⟩,
       ⟨(some 9), .pick (.t 5) (.t 8) (.c (.bool false)), none, [2, 5]⟩] false)
     (.cond (.t 9)
      (.region [
        ⟨(some 10), .faddr 1 (.t 1), none, []⟩,
        ⟨(some 11), .load 1 false (.t 10), none, [0]⟩,
        ⟨(some 12), .faddr 0 (.t 1), none, [0, 1]⟩,
        ⟨none, .store 1 (.t 12) (.c (.bool true)), none, [2, 0, 1]⟩,
        ⟨(some 13), .faddr 2 (.t 1), none, [0, 1, 2, 3]⟩,
        ⟨none, .store 1 (.t 13) (.t 11), none, [4, 1, 3, 0, 1, 2, 3]⟩,
        ⟨(some 14), .faddr 5 (.t 1), none, [0, 1, 2, 3, 4, 5]⟩,
        ⟨none, .store 1 (.t 14) (.c (.bool false)), none, [6, 5, 0, 1, 2, 3, 4, 5]⟩] false)
      .skip))
    (.seq
     (.region [
       ⟨(some 15), .load 7 true (.t 1), none, []⟩,
       ⟨none, .store 7 (.t 2) (.t 15), none, [0, 0]⟩] false)
     .ret)))
def rv15 : List RV := [.c 2 7 true]
theorem rc15_ok : comp Try.prog Try.f15.ntmps (Try.f15.body.getD .skip) = some (erase rc15) := by kernel_rfl
theorem rv15_ok : compRes Try.prog Try.f15.results.toList = some rv15 := by kernel_rfl

/-- baseboard/watchdog.Stop [26] -/
def rc16 : RC :=
  (.seq
   (.region [
     ⟨(some 1), .box 7 (.t 0), none, []⟩,
     ⟨(some 2), .alloc [.bool false, .int .i64 0, .int .i64 0, .int .i64 0, .int .i64 0, .bool false, .int .i64 0], none, []⟩] false)
   (.seq
    (.seq
     (.region [
       ⟨(some 3), .load 7 true (.t 1), none, []⟩,
       ⟨(some 4), .call 11 [(.t 3)], none, [0]⟩] false)
     (.cond (.t 4)
      (.region [
        ⟨(some 5), .faddr 0 (.t 1), none, []⟩,
        ⟨none, .store 1 (.t 5) (.c (.bool false)), none, [0]⟩,
        ⟨(some 6), .faddr 2 (.t 1), none, [0, 1]⟩,
        ⟨none, .store 1 (.t 6) (.c (.int .i64 0)), none, [2, 1, 0, 1]⟩,
        ⟨(some 7), .faddr 5 (.t 1), none, [0, 1, 2, 3]⟩,
        ⟨none, .store 1 (.t 7) (.c (.bool false)), none, [4, 3, 0, 1, 2, 3]⟩] false)
      .skip))
    (.seq
     (.region [
       ⟨(some 8), .load 7 true (.t 1), none, []⟩,
       ⟨none, .store 7 (.t 2) (.t 8), none, [0, 0]⟩] false)
     .ret)))
def rv16 : List RV := [.c 2 7 true]
theorem rc16_ok : comp Try.prog Try.f16.ntmps (Try.f16.body.getD .skip) = some (erase rc16) := by kernel_rfl
theorem rv16_ok : compRes Try.prog Try.f16.results.toList = some rv16 := by kernel_rfl

/-- baseboard/baseboardref40.Stop [26] -/
def rc17 : RC :=
  (.seq
   (.region [
     ⟨(some 1), .box 7 (.t 0), none, []⟩,
     ⟨(some 2), .alloc [.bool false, .int .i64 0, .int .i64 0, .int .i64 0, .int .i64 0, .bool false, .int .i64 0], none, []⟩] false)
   (.seq
    (.seq
     (.region [
       ⟨(some 3), .load 7 true (.t 1), none, []⟩,
       ⟨(some 4), .call 14 [(.t 3)], none, [0]⟩] false)
     (.cond (.t 4)
      (.region [
        ⟨(some 5), .faddr 0 (.t 1), none, []⟩,
        ⟨none, .store 1 (.t 5) (.c (.bool false)), none, [0]⟩,
        ⟨(some 6), .faddr 2 (.t 1), none, [0, 1]⟩,
        ⟨none, .store 1 (.t 6) (.c (.int .i64 0)), none, [2, 1, 0, 1]⟩,
        ⟨(some 7), .faddr 5 (.t 1), none, [0, 1, 2, 3]⟩,
        ⟨none, .store 1 (.t 7) (.c (.bool false)), none, [4, 3, 0, 1, 2, 3]⟩] false)
      .skip))
    (.seq
     (.region [
       ⟨(some 8), .load 7 true (.t 1), none, []⟩,
       ⟨none, .store 7 (.t 2) (.t 8), none, [0, 0]⟩] false)
     .ret)))
def rv17 : List RV := [.c 2 7 true]
theorem rc17_ok : comp Try.prog Try.f17.ntmps (Try.f17.body.getD .skip) = some (erase rc17) := by kernel_rfl
theorem rv17_ok : compRes Try.prog Try.f17.results.toList = some rv17 := by kernel_rfl

end Go.Proofs.Ytkpjkembnkadaaa

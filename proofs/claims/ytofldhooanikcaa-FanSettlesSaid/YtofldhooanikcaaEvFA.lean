/- A part of the proof: symbolic evaluation of the program's functions, proved sound against the model; no condition. -/
import Derived.Test.YtofldhooanikcaaEvM
import Derived.Test.YtofldhooanikcaaChecked
namespace Go.Proofs.Ytofldhooanikcaa
open Go Go.RowKit Go.Ev
set_option linter.unusedSimpArgs false
set_option linter.unusedVariables false
set_option maxRecDepth 20000
/-- baseboard/baseboardlaw41.FanAnswers [22, 24, 26, 27, 28, 3] -/
def rc3 : RC :=
  (.seq
   (.region [
     ⟨(some 7), .box 7 (.t 1), none, []⟩,
     ⟨(some 8), .box 2 (.t 2), none, []⟩,
     ⟨(some 12), .mov (.c (.bool false)), none, []⟩] false)
   (.seq
    (.seq
     (.region [
       ⟨(some 19), .call 9 [], none, []⟩,
       ⟨(some 20), .not (.t 19), none, [0]⟩] false)
     (.cond (.t 20)
      (.seq
       (.region [
         ⟨(some 12), .mov (.c (.bool false)), none, []⟩] false)
       .ret)
      .skip))
    (.seq
     (.seq
      (.region [
        ⟨(some 21), .faddr 0 (.t 7), none, []⟩,
        ⟨(some 22), .load 1 false (.t 21), none, [0]⟩,
        ⟨(some 23), .len 0 (.t 22), none, [1]⟩,
        ⟨(some 24), .cmp .gtr 0 (.t 23) (.c (.int .i64 40)), none, [2]⟩,
        ⟨(some 25), .mov (.t 24), none, [3]⟩,
        ⟨(some 26), .mov (.t 3), (some (25, false)), [4]⟩,
        ⟨(some 27), .len 0 (.t 26), (some (25, false)), [5, 4]⟩,
        ⟨(some 28), .cmp .gtr 0 (.t 27) (.c (.int .i64 40)), (some (25, false)), [6, 4]⟩,
        ⟨(some 29), .pick (.t 25) (.c (.bool true)) (.t 28), none, [4, 7]⟩,
        ⟨(some 30), .mov (.t 29), none, [8, 4]⟩,
        ⟨(some 31), .mov (.t 4), (some (30, false)), [9]⟩,
        ⟨(some 32), .len 0 (.t 31), (some (30, false)), [10, 9]⟩,
        ⟨(some 33), .cmp .gtr 0 (.t 32) (.c (.int .i64 40)), (some (30, false)), [11, 9]⟩,
        ⟨(some 34), .pick (.t 30) (.c (.bool true)) (.t 33), none, [9, 12]⟩] false)
      (.cond (.t 34)
       (.seq
        (.region [
          ⟨(some 12), .mov (.c (.bool true)), none, []⟩] false)
        .ret)
       .skip))
     (.seq
      (.region [
        ⟨(some 35), .mov (.t 0), none, []⟩,
        ⟨(some 36), .call 10 [(.t 35), (.c (.int .i64 80))], none, [0]⟩,
        ⟨(some 13), .mov (.t 36), none, [1, 1, 0, 1]⟩] false)
      (.seq
       (.region [
         ⟨(some 37), .mov (.t 13), none, []⟩,
         ⟨(some 38), .call 11 [(.t 37)], none, [0]⟩,
         ⟨(some 14), .alloc [.nil, .int .i64 0, .int .i64 0, .int .i64 0, .int .i64 0, .int .i64 0, .int .i64 0], none, []⟩,
         ⟨none, .store 7 (.t 14) (.t 38), none, [2, 1, 1, 0, 1, 2]⟩] false)
       (.seq
        (.region [
          ⟨(some 39), .mov (.t 13), none, []⟩,
          ⟨(some 40), .load 7 true (.t 14), none, []⟩,
          ⟨(some 41), .call 12 [(.t 39), (.t 40)], none, [0, 1]⟩,
          ⟨(some 15), .alloc [.int .i64 0, .int .i64 0], none, []⟩,
          ⟨none, .store 2 (.t 15) (.t 41), none, [3, 2, 2, 0, 1, 2, 3]⟩] false)
        (.seq
         (.region [
           ⟨(some 43), .mov (.t 13), none, []⟩,
           ⟨(some 44), .load 7 true (.t 14), none, []⟩,
           ⟨(some 45), .call 13 [(.t 43), (.t 44)], none, [0, 1]⟩,
           ⟨(some 42), .mov (.t 45), none, [2]⟩,
           ⟨(some 46), .extract 0 (.t 42), none, [3]⟩,
           ⟨(some 47), .extract 1 (.t 42), none, [3]⟩,
           ⟨(some 16), .mov (.t 46), none, [4, 2, 0, 1, 2, 3, 4]⟩,
           ⟨(some 17), .mov (.t 47), none, [5, 6, 0, 1, 2, 3, 4, 5, 6]⟩] false)
         (.seq
          (.seq
           (.region [
             ⟨(some 48), .mov (.t 13), none, []⟩,
             ⟨(some 49), .call 14 [(.t 48), (.c (.int .i64 8))], none, [0]⟩,
             ⟨(some 50), .cmp .eql 0 (.t 49) (.c (.int .i64 7)), none, [1]⟩] false)
           (.cond (.t 50)
            (.region [
              ⟨(some 51), .mov (.t 3), none, []⟩,
              ⟨(some 52), .mov (.t 4), none, []⟩,
              ⟨(some 16), .mov (.t 51), none, [0, 0]⟩,
              ⟨(some 17), .mov (.t 52), none, [1, 2, 0, 1, 2]⟩] false)
            .skip))
          (.seq
           (.region [
             ⟨(some 53), .mov (.t 13), none, []⟩,
             ⟨(some 54), .call 14 [(.t 53), (.c (.int .i64 4000))], none, [0]⟩,
             ⟨(some 55), .arith .sub (.t 54) (.c (.int .i64 2000)), none, [1]⟩,
             ⟨(some 18), .mov (.t 55), none, [2, 1, 0, 1, 2]⟩] false)
           (.seq
            (.seq
             (.region [
               ⟨(some 56), .mov (.t 13), none, []⟩,
               ⟨(some 57), .call 14 [(.t 56), (.c (.int .i64 4))], none, [0]⟩,
               ⟨(some 58), .cmp .eql 0 (.t 57) (.c (.int .i64 3)), none, [1]⟩] false)
             (.cond (.t 58)
              (.region [
                ⟨(some 59), .mov (.t 5), none, []⟩,
                ⟨(some 18), .mov (.t 59), none, [0, 0]⟩] false)
              .skip))
            (.seq
             (.region [
               ⟨(some 60), .load 7 true (.t 14), none, []⟩,
               ⟨(some 61), .load 2 true (.t 15), none, []⟩,
               ⟨(some 62), .mov (.t 16), none, []⟩,
               ⟨(some 63), .mov (.t 17), none, []⟩,
               ⟨(some 64), .mov (.t 18), none, []⟩,
               ⟨(some 65), .call 15 [(.t 60), (.t 61), (.t 62), (.t 63), (.t 64)], none, [0, 1, 2, 3, 4]⟩,
               ⟨(some 66), .mov (.t 65), none, [5, 5]⟩,
               ⟨(some 67), .load 7 true (.t 7), (some (66, true)), [6]⟩,
               ⟨(some 68), .load 2 true (.t 8), (some (66, true)), [6]⟩,
               ⟨(some 69), .mov (.t 3), (some (66, true)), [6]⟩,
               ⟨(some 70), .mov (.t 4), (some (66, true)), [6]⟩,
               ⟨(some 71), .mov (.t 5), (some (66, true)), [6]⟩,
               ⟨(some 72), .call 15 [(.t 67), (.t 68), (.t 69), (.t 70), (.t 71)], (some (66, true)), [7, 8, 9, 10, 11, 6, 6]⟩,
               ⟨(some 73), .pick (.t 66) (.t 72) (.c (.bool false)), none, [6, 12]⟩,
               ⟨(some 74), .mov (.t 73), none, [13, 12]⟩,
               ⟨(some 75), .load 7 true (.t 14), (some (74, true)), [14]⟩,
               ⟨(some 76), .load 2 true (.t 8), (some (74, true)), [14]⟩,
               ⟨(some 77), .mov (.t 16), (some (74, true)), [14]⟩,
               ⟨(some 78), .mov (.t 17), (some (74, true)), [14]⟩,
               ⟨(some 79), .mov (.t 5), (some (74, true)), [14]⟩,
               ⟨(some 80), .call 15 [(.t 75), (.t 76), (.t 77), (.t 78), (.t 79)], (some (74, true)), [15, 16, 17, 18, 19, 14, 14]⟩,
               ⟨(some 81), .pick (.t 74) (.t 80) (.c (.bool false)), none, [14, 20]⟩,
               ⟨(some 12), .mov (.t 81), none, [21, 20, 0, 1, 2, 3, 4, 5, 6, 7, 8, 9, 10, 11, 12, 13, 14, 15, 16, 17, 18, 19, 20, 21]⟩] false)
             .ret)))))))))))
def rv3 : List RV := [.t 12]
theorem rc3_ok : comp Try.prog Try.f3.ntmps (Try.f3.body.getD .skip) = some (erase rc3) := by kernel_rfl
theorem rv3_ok : compRes Try.prog Try.f3.results.toList = some rv3 := by kernel_rfl

/-- baseboard/baseboardlaw41.FanBounds [22] -/
def rc4 : RC :=
  (.seq
   (.region [
     ⟨(some 2), .mov (.c (.bool false)), none, []⟩] false)
   (.seq
    (.seq
     (.region [
       ⟨(some 15), .call 9 [], none, []⟩,
       ⟨(some 16), .not (.t 15), none, [0]⟩] false)
     (.cond (.t 16)
      (.seq
       (.region [
         ⟨(some 2), .mov (.c (.bool false)), none, []⟩] false)
       .ret)
      .skip))
    (.seq
     (.region [
       ⟨(some 17), .mov (.t 0), none, []⟩,
       ⟨(some 18), .call 10 [(.t 17), (.c (.int .i64 200))], none, [0]⟩,
       ⟨(some 3), .mov (.t 18), none, [1, 1, 0, 1]⟩] false)
     (.seq
      (.region [
        ⟨(some 19), .mov (.t 3), none, []⟩,
        ⟨(some 20), .call 11 [(.t 19)], none, [0]⟩,
        ⟨(some 4), .alloc [.nil, .int .i64 0, .int .i64 0, .int .i64 0, .int .i64 0, .int .i64 0, .int .i64 0], none, []⟩,
        ⟨none, .store 7 (.t 4) (.t 20), none, [2, 1, 1, 0, 1, 2]⟩] false)
      (.seq
       (.region [
         ⟨(some 22), .load 7 true (.t 4), none, []⟩,
         ⟨(some 23), .call 16 [(.t 22)], none, [0]⟩,
         ⟨(some 21), .mov (.t 23), none, [1]⟩,
         ⟨(some 24), .extract 0 (.t 21), none, [2]⟩,
         ⟨(some 25), .extract 1 (.t 21), none, [2]⟩,
         ⟨(some 5), .alloc [.int .i64 0, .int .i64 0], none, []⟩,
         ⟨none, .store 2 (.t 5) (.t 24), none, [5, 3, 1, 0, 1, 2, 3, 5]⟩,
         ⟨(some 6), .mov (.t 25), none, [4, 6, 0, 1, 2, 3, 4, 5, 6]⟩] false)
       (.seq
        (.seq
         (.region [
           ⟨(some 26), .mov (.t 6), none, []⟩,
           ⟨(some 27), .cmp .neq 0 (.t 26) (.c (.int .i64 0)), none, [0]⟩] false)
         (.cond (.t 27)
          (.seq
           (.region [
             ⟨(some 28), .load 7 true (.t 4), none, []⟩,
             ⟨(some 29), .call 17 [(.t 28)], none, [0]⟩,
             ⟨(some 30), .not (.t 29), none, [1]⟩,
             ⟨(some 2), .mov (.t 30), none, [2, 1, 0, 1, 2]⟩] false)
           .ret)
          .skip))
        (.seq
         (.seq
          (.region [
            ⟨(some 7), .mov (.c (.int .i64 0)), none, []⟩] false)
          (.block 0
           (.loop 0
            (.seq
             (.seq
              (.region [
                ⟨(some 31), .mov (.t 7), none, []⟩,
                ⟨(some 32), .cmp .lss 0 (.t 31) (.c (.int .i64 20)), none, [0]⟩] false)
              (.cond (.t 32)
               .skip
               (.exit 0)))
             (.seq
              (.block 1
               (.seq
                (.region [
                  ⟨(some 36), .mov (.t 3), none, []⟩,
                  ⟨(some 37), .load 7 true (.t 4), none, []⟩,
                  ⟨(some 38), .call 13 [(.t 36), (.t 37)], none, [0, 1]⟩,
                  ⟨(some 35), .mov (.t 38), none, [2]⟩,
                  ⟨(some 39), .extract 0 (.t 35), none, [3]⟩,
                  ⟨(some 40), .extract 1 (.t 35), none, [3]⟩,
                  ⟨(some 8), .mov (.t 39), none, [4, 2, 0, 1, 2, 3, 4]⟩,
                  ⟨(some 9), .mov (.t 40), none, [5, 6, 0, 1, 2, 3, 4, 5, 6]⟩] false)
                (.seq
                 (.region [
                   ⟨(some 42), .load 7 true (.t 4), none, []⟩,
                   ⟨(some 43), .load 2 true (.t 5), none, []⟩,
                   ⟨(some 44), .mov (.t 8), none, []⟩,
                   ⟨(some 45), .mov (.t 9), none, []⟩,
                   ⟨(some 46), .call 18 [(.t 42), (.t 43), (.t 44), (.t 45)], none, [0, 1, 2, 3]⟩,
                   ⟨(some 41), .mov (.t 46), none, [4]⟩,
                   ⟨(some 47), .extract 0 (.t 41), none, [5]⟩,
                   ⟨(some 48), .extract 1 (.t 41), none, [5]⟩,
                   ⟨(some 10), .alloc [.int .i64 0, .int .i64 0], none, []⟩,
                   ⟨none, .store 2 (.t 10) (.t 47), none, [8, 6, 4, 0, 1, 2, 3, 4, 5, 6, 8]⟩,
                   ⟨(some 11), .mov (.t 48), none, [7, 9, 0, 1, 2, 3, 4, 5, 6, 7, 8, 9]⟩] false)
                 (.seq
                  (.seq
                   (.region [
                     ⟨(some 49), .mov (.t 11), none, []⟩,
                     ⟨(some 50), .cmp .eql 0 (.t 49) (.c (.int .i64 2)), none, [0]⟩,
                     ⟨(some 51), .mov (.t 50), none, [1]⟩,
                     ⟨(some 52), .mov (.t 8), (some (51, true)), [2]⟩,
                     ⟨(some 53), .len 0 (.t 52), (some (51, true)), [3, 2]⟩,
                     ⟨(some 54), .faddr 0 (.t 4), (some (51, true)), [2]⟩,
                     ⟨(some 55), .load 1 false (.t 54), (some (51, true)), [5, 2]⟩,
                     ⟨(some 56), .len 0 (.t 55), (some (51, true)), [6, 2]⟩,
                     ⟨(some 57), .cmp .neq 0 (.t 53) (.t 56), (some (51, true)), [4, 7, 2]⟩,
                     ⟨(some 58), .pick (.t 51) (.t 57) (.c (.bool false)), none, [2, 8]⟩] false)
                   (.cond (.t 58)
                    (.exit 1)
                    .skip))
                  (.seq
                   (.region [
                     ⟨(some 59), .faddr 0 (.t 10), none, []⟩,
                     ⟨(some 60), .load 1 false (.t 59), none, [0]⟩,
                     ⟨(some 61), .faddr 0 (.t 5), none, []⟩,
                     ⟨(some 62), .load 1 false (.t 61), none, [2]⟩,
                     ⟨(some 63), .arith .sub (.t 60) (.t 62), none, [1, 3]⟩,
                     ⟨(some 12), .mov (.t 63), none, [4, 0, 1, 2, 3, 4]⟩] false)
                   (.seq
                    (.seq
                     (.region [
                       ⟨(some 64), .mov (.t 11), none, []⟩,
                       ⟨(some 65), .cmp .neq 0 (.t 64) (.c (.int .i64 0)), none, [0]⟩,
                       ⟨(some 66), .mov (.t 65), none, [1]⟩,
                       ⟨(some 67), .faddr 0 (.t 10), (some (66, false)), [2]⟩,
                       ⟨(some 68), .load 1 false (.t 67), (some (66, false)), [3, 2]⟩,
                       ⟨(some 69), .faddr 4 (.t 4), (some (66, false)), [2]⟩,
                       ⟨(some 70), .load 1 false (.t 69), (some (66, false)), [5, 2]⟩,
                       ⟨(some 71), .cmp .lss 0 (.t 68) (.t 70), (some (66, false)), [4, 6, 2]⟩,
                       ⟨(some 72), .pick (.t 66) (.c (.bool true)) (.t 71), none, [2, 7]⟩,
                       ⟨(some 73), .mov (.t 72), none, [8, 2]⟩,
                       ⟨(some 74), .faddr 0 (.t 10), (some (73, false)), [9]⟩,
                       ⟨(some 75), .load 1 false (.t 74), (some (73, false)), [10, 9]⟩,
                       ⟨(some 76), .faddr 5 (.t 4), (some (73, false)), [9]⟩,
                       ⟨(some 77), .load 1 false (.t 76), (some (73, false)), [12, 9]⟩,
                       ⟨(some 78), .cmp .gtr 0 (.t 75) (.t 77), (some (73, false)), [11, 13, 9]⟩,
                       ⟨(some 79), .pick (.t 73) (.c (.bool true)) (.t 78), none, [9, 14]⟩,
                       ⟨(some 80), .mov (.t 79), none, [15, 9]⟩,
                       ⟨(some 81), .mov (.t 12), (some (80, false)), [16]⟩,
                       ⟨(some 82), .faddr 6 (.t 4), (some (80, false)), [16]⟩,
                       ⟨(some 83), .load 1 false (.t 82), (some (80, false)), [18, 16]⟩,
                       ⟨(some 84), .cmp .gtr 0 (.t 81) (.t 83), (some (80, false)), [17, 19, 16]⟩,
                       ⟨(some 85), .pick (.t 80) (.c (.bool true)) (.t 84), none, [16, 20]⟩,
                       ⟨(some 86), .mov (.t 85), none, [21, 16]⟩,
                       ⟨(some 87), .mov (.t 12), (some (86, false)), [22]⟩,
                       ⟨(some 88), .neg (.t 87), (some (86, false)), [23, 22]⟩,
                       ⟨(some 89), .faddr 6 (.t 4), (some (86, false)), [22]⟩,
                       ⟨(some 90), .load 1 false (.t 89), (some (86, false)), [25, 22]⟩,
                       ⟨(some 91), .cmp .gtr 0 (.t 88) (.t 90), (some (86, false)), [24, 26, 22]⟩,
                       ⟨(some 92), .pick (.t 86) (.c (.bool true)) (.t 91), none, [22, 27]⟩,
                       ⟨(some 93), .mov (.t 92), none, [28, 22]⟩,
                       ⟨(some 94), .load 7 true (.t 4), (some (93, false)), [29]⟩,
                       ⟨(some 95), .load 2 true (.t 10), (some (93, false)), [29]⟩,
                       ⟨(some 96), .call 19 [(.t 94), (.t 95)], (some (93, false)), [30, 31, 29, 29]⟩,
                       ⟨(some 97), .not (.t 96), (some (93, false)), [32, 29]⟩,
                       ⟨(some 98), .pick (.t 93) (.c (.bool true)) (.t 97), none, [29, 33]⟩] false)
                     (.cond (.t 98)
                      (.seq
                       (.region [
                         ⟨(some 2), .mov (.c (.bool false)), none, []⟩] false)
                       .ret)
                      .skip))
                    (.seq
                     (.seq
                      (.region [
                        ⟨(some 100), .load 7 true (.t 4), none, []⟩,
                        ⟨(some 101), .mov (.t 8), none, []⟩,
                        ⟨(some 102), .mov (.t 9), none, []⟩,
                        ⟨(some 103), .call 20 [(.t 100), (.t 101), (.t 102)], none, [0, 1, 2]⟩,
                        ⟨(some 99), .mov (.t 103), none, [3]⟩,
                        ⟨(some 104), .extract 0 (.t 99), none, [4]⟩,
                        ⟨(some 105), .extract 1 (.t 99), none, [4]⟩,
                        ⟨(some 13), .mov (.t 104), none, [5, 3, 0, 1, 2, 3, 4, 5]⟩,
                        ⟨(some 14), .mov (.t 105), none, [6, 7, 0, 1, 2, 3, 4, 5, 6, 7]⟩] false)
                      (.seq
                       (.region [
                         ⟨(some 106), .mov (.t 14), none, []⟩,
                         ⟨(some 107), .not (.t 106), none, [0]⟩,
                         ⟨(some 108), .mov (.t 107), none, [1]⟩,
                         ⟨(some 109), .faddr 1 (.t 10), (some (108, true)), [2]⟩,
                         ⟨(some 110), .load 1 false (.t 109), (some (108, true)), [3, 2]⟩,
                         ⟨(some 111), .faddr 1 (.t 5), (some (108, true)), [2]⟩,
                         ⟨(some 112), .load 1 false (.t 111), (some (108, true)), [5, 2]⟩,
                         ⟨(some 113), .cmp .neq 0 (.t 110) (.t 112), (some (108, true)), [4, 6, 2]⟩,
                         ⟨(some 114), .mov (.t 113), (some (108, true)), [7, 2, 2]⟩,
                         ⟨(some 115), .faddr 0 (.t 10), (some (114, false)), [8]⟩,
                         ⟨(some 116), .load 1 false (.t 115), (some (114, false)), [9, 8]⟩,
                         ⟨(some 117), .faddr 5 (.t 4), (some (114, false)), [8]⟩,
                         ⟨(some 118), .load 1 false (.t 117), (some (114, false)), [11, 8]⟩,
                         ⟨(some 119), .faddr 0 (.t 5), (some (114, false)), [8]⟩,
                         ⟨(some 120), .load 1 false (.t 119), (some (114, false)), [13, 8]⟩,
                         ⟨(some 121), .faddr 6 (.t 4), (some (114, false)), [8]⟩,
                         ⟨(some 122), .load 1 false (.t 121), (some (114, false)), [15, 8]⟩,
                         ⟨(some 123), .arith .add (.t 120) (.t 122), (some (114, false)), [14, 16, 8]⟩,
                         ⟨(some 124), .minmax false [(.t 118), (.t 123)], (some (114, false)), [12, 17, 8]⟩,
                         ⟨(some 125), .cmp .neq 0 (.t 116) (.t 124), (some (114, false)), [10, 18, 8]⟩,
                         ⟨(some 126), .pick (.t 114) (.c (.bool true)) (.t 125), (some (108, true)), [8, 19, 2]⟩,
                         ⟨(some 127), .pick (.t 108) (.t 126) (.c (.bool false)), none, [2, 20]⟩] false)
                       (.cond (.t 127)
                        (.seq
                         (.region [
                           ⟨(some 2), .mov (.c (.bool false)), none, []⟩] false)
                         .ret)
                        .skip)))
                     (.region [
                       ⟨(some 128), .load 2 true (.t 10), none, []⟩,
                       ⟨none, .store 2 (.t 5) (.t 128), none, [0, 0]⟩] false))))))))
              (.region [
                ⟨(some 33), .mov (.t 7), none, []⟩,
                ⟨(some 34), .arith .add (.t 33) (.c (.int .i64 1)), none, [0]⟩,
                ⟨(some 7), .mov (.t 34), none, [1, 0, 1]⟩] false))))))
         (.seq
          (.region [
            ⟨(some 2), .mov (.c (.bool true)), none, []⟩] false)
          .ret))))))))
def rv4 : List RV := [.t 2]
theorem rc4_ok : comp Try.prog Try.f4.ntmps (Try.f4.body.getD .skip) = some (erase rc4) := by kernel_rfl
theorem rv4_ok : compRes Try.prog Try.f4.results.toList = some rv4 := by kernel_rfl

/-- baseboard/baseboardlaw41.FanRises [22, 48, 49] -/
def rc5 : RC :=
  (.seq
   (.region [
     ⟨(some 6), .mov (.c (.bool false)), none, []⟩] false)
   (.seq
    (.seq
     (.region [
       ⟨(some 21), .call 9 [], none, []⟩,
       ⟨(some 22), .not (.t 21), none, [0]⟩] false)
     (.cond (.t 22)
      (.seq
       (.region [
         ⟨(some 6), .mov (.c (.bool false)), none, []⟩] false)
       .ret)
      .skip))
    (.seq
     (.region [
       ⟨(some 23), .mov (.t 0), none, []⟩,
       ⟨(some 24), .call 10 [(.t 23), (.c (.int .i64 100))], none, [0]⟩,
       ⟨(some 7), .mov (.t 24), none, [1, 1, 0, 1]⟩] false)
     (.seq
      (.region [
        ⟨(some 25), .mov (.t 7), none, []⟩,
        ⟨(some 26), .call 11 [(.t 25)], none, [0]⟩,
        ⟨(some 8), .alloc [.nil, .int .i64 0, .int .i64 0, .int .i64 0, .int .i64 0, .int .i64 0, .int .i64 0], none, []⟩,
        ⟨none, .store 7 (.t 8) (.t 26), none, [2, 1, 1, 0, 1, 2]⟩] false)
      (.seq
       (.region [
         ⟨(some 27), .mov (.t 7), none, []⟩,
         ⟨(some 28), .load 7 true (.t 8), none, []⟩,
         ⟨(some 29), .call 12 [(.t 27), (.t 28)], none, [0, 1]⟩,
         ⟨(some 9), .alloc [.int .i64 0, .int .i64 0], none, []⟩,
         ⟨none, .store 2 (.t 9) (.t 29), none, [3, 2, 2, 0, 1, 2, 3]⟩] false)
       (.seq
        (.region [
          ⟨(some 31), .mov (.t 7), none, []⟩,
          ⟨(some 32), .load 7 true (.t 8), none, []⟩,
          ⟨(some 33), .call 13 [(.t 31), (.t 32)], none, [0, 1]⟩,
          ⟨(some 30), .mov (.t 33), none, [2]⟩,
          ⟨(some 34), .extract 0 (.t 30), none, [3]⟩,
          ⟨(some 35), .extract 1 (.t 30), none, [3]⟩,
          ⟨(some 10), .mov (.t 34), none, [4, 2, 0, 1, 2, 3, 4]⟩,
          ⟨(some 11), .mov (.t 35), none, [5, 6, 0, 1, 2, 3, 4, 5, 6]⟩] false)
        (.seq
         (.region [
           ⟨(some 36), .mov (.t 10), none, []⟩,
           ⟨(some 37), .append 2 8 [.int .i64 0] (.c (.nil)) (.t 36), none, [0]⟩,
           ⟨(some 12), .mov (.t 37), none, [1, 1, 0, 1]⟩] false)
         (.seq
          (.seq
           (.region [
             ⟨(some 38), .mov (.t 12), none, []⟩,
             ⟨(some 39), .len 0 (.t 38), none, [0]⟩,
             ⟨(some 40), .mov (.c (.int .i64 0)), none, []⟩] false)
           (.block 0
            (.loop 0
             (.seq
              (.region [
                ⟨(some 41), .cmp .lss 0 (.t 40) (.t 39), none, []⟩] false)
              (.seq
               (.cond (.t 41)
                .skip
                (.exit 0))
               (.seq
                (.block 1
                 (.seq
                  (.region [
                    ⟨(some 42), .mov (.t 40), none, []⟩,
                    ⟨(some 13), .mov (.t 42), none, [0, 0]⟩] false)
                  (.seq
                   (.region [
                     ⟨(some 43), .mov (.t 11), none, []⟩,
                     ⟨(some 44), .mov (.t 13), none, []⟩,
                     ⟨(some 45), .mov (.t 11), none, []⟩,
                     ⟨(some 46), .len 0 (.t 45), none, [2]⟩,
                     ⟨(some 47), .minmax true [(.c (.int .i64 1)), (.t 46)], none, [3]⟩,
                     ⟨(some 48), .arith .rem (.t 44) (.t 47), none, [1, 4]⟩,
                     ⟨(some 49), .iaddrS [.bool false] (.t 43) (.t 48), none, [0, 5, 0, 1, 2, 3, 4, 5]⟩,
                     ⟨none, .store 1 (.t 49) (.c (.bool true)), none, [6, 0, 1, 2, 3, 4, 5]⟩] false)
                   (.seq
                    (.region [
                      ⟨(some 50), .mov (.t 13), none, []⟩,
                      ⟨(some 51), .mov (.t 1), none, []⟩,
                      ⟨(some 52), .len 0 (.t 51), none, [1]⟩,
                      ⟨(some 53), .cmp .lss 0 (.t 50) (.t 52), none, [0, 2]⟩] false)
                    (.cond (.t 53)
                     (.region [
                       ⟨(some 54), .mov (.t 12), none, []⟩,
                       ⟨(some 55), .mov (.t 13), none, []⟩,
                       ⟨(some 56), .iaddrS [.int .i64 0] (.t 54) (.t 55), none, [1, 0]⟩,
                       ⟨(some 57), .load 1 false (.t 56), none, [0, 1, 2]⟩,
                       ⟨(some 58), .mov (.t 1), none, []⟩,
                       ⟨(some 59), .mov (.t 13), none, []⟩,
                       ⟨(some 60), .iaddrS [.int .u16 0] (.t 58) (.t 59), none, [5, 4]⟩,
                       ⟨(some 61), .load 1 false (.t 60), none, [4, 5, 6]⟩,
                       ⟨(some 62), .conv .i64 (.t 61), none, [6, 5, 4, 7]⟩,
                       ⟨(some 63), .arith .mul (.t 62) (.c (.int .i64 1000)), none, [7, 4, 5, 6, 8]⟩,
                       ⟨(some 64), .arith .add (.t 57) (.t 63), none, [8, 6, 5, 4, 7, 2, 1, 0, 9, 3]⟩,
                       ⟨(some 65), .iaddrS [.int .i64 0] (.t 54) (.t 55), none, [10, 9, 8, 7, 6, 5, 4, 3, 2, 1, 0]⟩,
                       ⟨none, .store 1 (.t 65) (.t 64), none, [9, 8, 7, 6, 5, 4, 3, 2, 1, 0, 10, 11]⟩] true)
                     .skip)))))
                (.region [
                  ⟨(some 66), .arith .add (.t 40) (.c (.int .i64 1)), none, []⟩,
                  ⟨(some 40), .mov (.t 66), none, [0]⟩] false)))))))
          (.seq
           (.region [
             ⟨(some 67), .load 2 true (.t 9), none, []⟩,
             ⟨(some 14), .alloc [.int .i64 0, .int .i64 0], none, []⟩,
             ⟨none, .store 2 (.t 14) (.t 67), none, [1, 0, 0, 1]⟩] false)
           (.seq
            (.region [
              ⟨(some 68), .faddr 1 (.t 14), none, []⟩,
              ⟨(some 69), .load 1 false (.t 68), none, [0]⟩,
              ⟨(some 70), .mov (.t 2), none, []⟩,
              ⟨(some 71), .conv .i64 (.t 70), none, [2]⟩,
              ⟨(some 72), .arith .add (.t 69) (.t 71), none, [1, 3]⟩,
              ⟨(some 73), .faddr 1 (.t 14), none, [0, 1, 2, 3, 4]⟩,
              ⟨none, .store 1 (.t 73) (.t 72), none, [5, 4, 0, 1, 2, 3, 4]⟩] false)
            (.seq
             (.region [
               ⟨(some 75), .load 7 true (.t 8), none, []⟩,
               ⟨(some 76), .load 2 true (.t 9), none, []⟩,
               ⟨(some 77), .mov (.t 10), none, []⟩,
               ⟨(some 78), .mov (.t 11), none, []⟩,
               ⟨(some 79), .call 18 [(.t 75), (.t 76), (.t 77), (.t 78)], none, [0, 1, 2, 3]⟩,
               ⟨(some 74), .mov (.t 79), none, [4]⟩,
               ⟨(some 80), .extract 0 (.t 74), none, [5]⟩,
               ⟨(some 81), .extract 1 (.t 74), none, [5]⟩,
               ⟨(some 15), .alloc [.int .i64 0, .int .i64 0], none, []⟩,
               ⟨none, .store 2 (.t 15) (.t 80), none, [8, 6, 4, 0, 1, 2, 3, 4, 5, 6, 8]⟩,
               ⟨(some 16), .mov (.t 81), none, [7, 9, 0, 1, 2, 3, 4, 5, 6, 7, 8, 9]⟩] false)
             (.seq
              (.region [
                ⟨(some 83), .load 7 true (.t 8), none, []⟩,
                ⟨(some 84), .load 2 true (.t 9), none, []⟩,
                ⟨(some 85), .mov (.t 12), none, []⟩,
                ⟨(some 86), .mov (.t 11), none, []⟩,
                ⟨(some 87), .call 18 [(.t 83), (.t 84), (.t 85), (.t 86)], none, [0, 1, 2, 3]⟩,
                ⟨(some 82), .mov (.t 87), none, [4]⟩,
                ⟨(some 88), .extract 0 (.t 82), none, [5]⟩,
                ⟨(some 89), .extract 1 (.t 82), none, [5]⟩,
                ⟨(some 17), .alloc [.int .i64 0, .int .i64 0], none, []⟩,
                ⟨none, .store 2 (.t 17) (.t 88), none, [8, 6, 4, 0, 1, 2, 3, 4, 5, 6, 8]⟩,
                ⟨(some 18), .mov (.t 89), none, [7, 9, 0, 1, 2, 3, 4, 5, 6, 7, 8, 9]⟩] false)
              (.seq
               (.region [
                 ⟨(some 91), .load 7 true (.t 8), none, []⟩,
                 ⟨(some 92), .load 2 true (.t 14), none, []⟩,
                 ⟨(some 93), .mov (.t 10), none, []⟩,
                 ⟨(some 94), .mov (.t 11), none, []⟩,
                 ⟨(some 95), .call 18 [(.t 91), (.t 92), (.t 93), (.t 94)], none, [0, 1, 2, 3]⟩,
                 ⟨(some 90), .mov (.t 95), none, [4]⟩,
                 ⟨(some 96), .extract 0 (.t 90), none, [5]⟩,
                 ⟨(some 97), .extract 1 (.t 90), none, [5]⟩,
                 ⟨(some 19), .alloc [.int .i64 0, .int .i64 0], none, []⟩,
                 ⟨none, .store 2 (.t 19) (.t 96), none, [8, 6, 4, 0, 1, 2, 3, 4, 5, 6, 8]⟩,
                 ⟨(some 20), .mov (.t 97), none, [7, 9, 0, 1, 2, 3, 4, 5, 6, 7, 8, 9]⟩] false)
               (.seq
                (.seq
                 (.region [
                   ⟨(some 98), .mov (.t 16), none, []⟩,
                   ⟨(some 99), .mov (.t 18), none, []⟩,
                   ⟨(some 100), .cmp .neq 0 (.t 98) (.t 99), none, [0, 1]⟩,
                   ⟨(some 101), .mov (.t 100), none, [2]⟩,
                   ⟨(some 102), .mov (.t 16), (some (101, false)), [3]⟩,
                   ⟨(some 103), .cmp .eql 0 (.t 102) (.c (.int .i64 0)), (some (101, false)), [4, 3]⟩,
                   ⟨(some 104), .mov (.t 103), (some (101, false)), [5, 3, 3]⟩,
                   ⟨(some 105), .faddr 0 (.t 17), (some (104, true)), [6]⟩,
                   ⟨(some 106), .load 1 false (.t 105), (some (104, true)), [7, 6]⟩,
                   ⟨(some 107), .faddr 0 (.t 15), (some (104, true)), [6]⟩,
                   ⟨(some 108), .load 1 false (.t 107), (some (104, true)), [9, 6]⟩,
                   ⟨(some 109), .cmp .lss 0 (.t 106) (.t 108), (some (104, true)), [8, 10, 6]⟩,
                   ⟨(some 110), .mov (.t 109), (some (104, true)), [11, 6, 6]⟩,
                   ⟨(some 111), .faddr 1 (.t 17), (some (110, false)), [12]⟩,
                   ⟨(some 112), .load 1 false (.t 111), (some (110, false)), [13, 12]⟩,
                   ⟨(some 113), .faddr 1 (.t 15), (some (110, false)), [12]⟩,
                   ⟨(some 114), .load 1 false (.t 113), (some (110, false)), [15, 12]⟩,
                   ⟨(some 115), .cmp .lss 0 (.t 112) (.t 114), (some (110, false)), [14, 16, 12]⟩,
                   ⟨(some 116), .pick (.t 110) (.c (.bool true)) (.t 115), (some (104, true)), [12, 17, 6]⟩,
                   ⟨(some 117), .pick (.t 104) (.t 116) (.c (.bool false)), (some (101, false)), [6, 18, 3]⟩,
                   ⟨(some 118), .pick (.t 101) (.c (.bool true)) (.t 117), none, [3, 19]⟩] false)
                 (.cond (.t 118)
                  (.seq
                   (.region [
                     ⟨(some 6), .mov (.c (.bool false)), none, []⟩] false)
                   .ret)
                  .skip))
                (.seq
                 (.region [
                   ⟨(some 119), .mov (.t 16), none, []⟩,
                   ⟨(some 120), .cmp .neq 0 (.t 119) (.c (.int .i64 0)), none, [0]⟩,
                   ⟨(some 121), .mov (.t 120), none, [1]⟩,
                   ⟨(some 122), .mov (.t 20), (some (121, false)), [2]⟩,
                   ⟨(some 123), .cmp .neq 0 (.t 122) (.c (.int .i64 0)), (some (121, false)), [3, 2]⟩,
                   ⟨(some 124), .pick (.t 121) (.c (.bool true)) (.t 123), none, [2, 4]⟩,
                   ⟨(some 125), .mov (.t 124), none, [5, 2]⟩,
                   ⟨(some 126), .faddr 0 (.t 19), (some (125, false)), [6]⟩,
                   ⟨(some 127), .load 1 false (.t 126), (some (125, false)), [7, 6]⟩,
                   ⟨(some 128), .faddr 0 (.t 15), (some (125, false)), [6]⟩,
                   ⟨(some 129), .load 1 false (.t 128), (some (125, false)), [9, 6]⟩,
                   ⟨(some 130), .cmp .geq 0 (.t 127) (.t 129), (some (125, false)), [8, 10, 6]⟩,
                   ⟨(some 131), .mov (.t 130), (some (125, false)), [11, 6, 6]⟩,
                   ⟨(some 132), .faddr 1 (.t 19), (some (131, true)), [12]⟩,
                   ⟨(some 133), .load 1 false (.t 132), (some (131, true)), [13, 12]⟩,
                   ⟨(some 134), .faddr 1 (.t 15), (some (131, true)), [12]⟩,
                   ⟨(some 135), .load 1 false (.t 134), (some (131, true)), [15, 12]⟩,
                   ⟨(some 136), .cmp .geq 0 (.t 133) (.t 135), (some (131, true)), [14, 16, 12]⟩,
                   ⟨(some 137), .pick (.t 131) (.t 136) (.c (.bool false)), (some (125, false)), [12, 17, 6]⟩,
                   ⟨(some 138), .pick (.t 125) (.c (.bool true)) (.t 137), none, [6, 18]⟩,
                   ⟨(some 6), .mov (.t 138), none, [19, 12, 0, 1, 2, 3, 4, 5, 6, 7, 8, 9, 10, 11, 12, 13, 14, 15, 16, 17, 18, 19]⟩] false)
                 .ret)))))))))))))))
def rv5 : List RV := [.t 6]
theorem rc5_ok : comp Try.prog Try.f5.ntmps (Try.f5.body.getD .skip) = some (erase rc5) := by kernel_rfl
theorem rv5_ok : compRes Try.prog Try.f5.results.toList = some rv5 := by kernel_rfl

/-- baseboard/baseboardlaw41.FanFails [22, 5] -/
def rc6 : RC :=
  (.seq
   (.region [
     ⟨(some 4), .mov (.c (.bool false)), none, []⟩] false)
   (.seq
    (.seq
     (.region [
       ⟨(some 15), .call 9 [], none, []⟩,
       ⟨(some 16), .not (.t 15), none, [0]⟩] false)
     (.cond (.t 16)
      (.seq
       (.region [
         ⟨(some 4), .mov (.c (.bool false)), none, []⟩] false)
       .ret)
      .skip))
    (.seq
     (.region [
       ⟨(some 17), .mov (.t 0), none, []⟩,
       ⟨(some 18), .call 10 [(.t 17), (.c (.int .i64 60))], none, [0]⟩,
       ⟨(some 5), .mov (.t 18), none, [1, 1, 0, 1]⟩] false)
     (.seq
      (.region [
        ⟨(some 19), .mov (.t 5), none, []⟩,
        ⟨(some 20), .call 11 [(.t 19)], none, [0]⟩,
        ⟨(some 6), .alloc [.nil, .int .i64 0, .int .i64 0, .int .i64 0, .int .i64 0, .int .i64 0, .int .i64 0], none, []⟩,
        ⟨none, .store 7 (.t 6) (.t 20), none, [2, 1, 1, 0, 1, 2]⟩] false)
      (.seq
       (.region [
         ⟨(some 21), .mov (.t 5), none, []⟩,
         ⟨(some 22), .load 7 true (.t 6), none, []⟩,
         ⟨(some 23), .call 12 [(.t 21), (.t 22)], none, [0, 1]⟩,
         ⟨(some 7), .alloc [.int .i64 0, .int .i64 0], none, []⟩,
         ⟨none, .store 2 (.t 7) (.t 23), none, [3, 2, 2, 0, 1, 2, 3]⟩] false)
       (.seq
        (.seq
         (.region [
           ⟨(some 24), .load 7 true (.t 6), none, []⟩,
           ⟨(some 25), .load 2 true (.t 7), none, []⟩,
           ⟨(some 26), .call 19 [(.t 24), (.t 25)], none, [0, 1]⟩,
           ⟨(some 27), .not (.t 26), none, [2]⟩] false)
         (.cond (.t 27)
          (.seq
           (.region [
             ⟨(some 4), .mov (.c (.bool true)), none, []⟩] false)
           .ret)
          .skip))
        (.seq
         (.region [
           ⟨(some 28), .faddr 0 (.t 6), none, []⟩,
           ⟨(some 29), .load 1 false (.t 28), none, [0]⟩,
           ⟨(some 30), .len 0 (.t 29), none, [0, 1]⟩,
           ⟨(some 31), .mkslice 2 8 [.int .i64 0] (.t 30) (.t 30), none, [1, 0, 2]⟩,
           ⟨(some 32), .faddr 0 (.t 6), none, []⟩,
           ⟨(some 33), .load 1 false (.t 32), none, [4]⟩,
           ⟨(some 34), .len 0 (.t 33), none, [4, 5]⟩,
           ⟨(some 35), .mkslice 4 1 [.bool false] (.t 34) (.t 34), none, [5, 4, 6]⟩,
           ⟨(some 8), .mov (.t 31), none, [2, 1, 0, 3]⟩,
           ⟨(some 9), .mov (.t 35), none, [6, 5, 4, 3, 2, 1, 0, 8, 7]⟩] true)
         (.seq
          (.seq
           (.region [
             ⟨(some 36), .mov (.t 9), none, []⟩,
             ⟨(some 37), .len 0 (.t 36), none, [0]⟩,
             ⟨(some 38), .mov (.c (.int .i64 0)), none, []⟩] false)
           (.block 0
            (.loop 0
             (.seq
              (.region [
                ⟨(some 39), .cmp .lss 0 (.t 38) (.t 37), none, []⟩] false)
              (.seq
               (.cond (.t 39)
                .skip
                (.exit 0))
               (.seq
                (.block 1
                 (.seq
                  (.region [
                    ⟨(some 40), .mov (.t 38), none, []⟩,
                    ⟨(some 10), .mov (.t 40), none, [0, 0]⟩] false)
                  (.region [
                    ⟨(some 41), .mov (.t 9), none, []⟩,
                    ⟨(some 42), .mov (.t 10), none, []⟩,
                    ⟨(some 43), .mov (.t 10), none, []⟩,
                    ⟨(some 44), .mov (.t 1), none, []⟩,
                    ⟨(some 45), .conv .i64 (.t 44), none, [3]⟩,
                    ⟨(some 46), .mov (.t 9), none, []⟩,
                    ⟨(some 47), .len 0 (.t 46), none, [5]⟩,
                    ⟨(some 48), .arith .rem (.t 45) (.t 47), none, [4, 6]⟩,
                    ⟨(some 49), .cmp .neq 0 (.t 43) (.t 48), none, [2, 7]⟩,
                    ⟨(some 50), .iaddrS [.bool false] (.t 41) (.t 42), none, [0, 1, 0, 1, 2, 3, 4, 5, 6, 7, 8]⟩,
                    ⟨none, .store 1 (.t 50) (.t 49), none, [9, 8, 0, 1, 2, 3, 4, 5, 6, 7, 8]⟩] false)))
                (.region [
                  ⟨(some 51), .arith .add (.t 38) (.c (.int .i64 1)), none, []⟩,
                  ⟨(some 38), .mov (.t 51), none, [0]⟩] false)))))))
          (.seq
           (.region [
             ⟨(some 52), .faddr 1 (.t 7), none, []⟩,
             ⟨(some 53), .load 1 false (.t 52), none, [0]⟩,
             ⟨(some 11), .mov (.t 53), none, [1, 0, 1]⟩] false)
           (.seq
            (.seq
             (.region [
               ⟨(some 54), .faddr 5 (.t 6), none, []⟩,
               ⟨(some 55), .load 1 false (.t 54), none, [0]⟩,
               ⟨(some 56), .faddr 4 (.t 6), none, []⟩,
               ⟨(some 57), .load 1 false (.t 56), none, [2]⟩,
               ⟨(some 58), .arith .sub (.t 55) (.t 57), none, [1, 3]⟩,
               ⟨(some 59), .faddr 6 (.t 6), none, []⟩,
               ⟨(some 60), .load 1 false (.t 59), none, [5]⟩,
               ⟨(some 61), .arith .quo (.t 58) (.t 60), none, [4, 6]⟩,
               ⟨(some 62), .arith .add (.t 61) (.c (.int .i64 1)), none, [7]⟩,
               ⟨(some 12), .mov (.t 62), none, [8, 0, 1, 2, 3, 4, 5, 6, 7, 8]⟩] false)
             (.block 2
              (.loop 1
               (.seq
                (.seq
                 (.region [
                   ⟨(some 63), .mov (.t 12), none, []⟩,
                   ⟨(some 64), .cmp .gtr 0 (.t 63) (.c (.int .i64 0)), none, [0]⟩] false)
                 (.cond (.t 64)
                  .skip
                  (.exit 2)))
                (.seq
                 (.block 3
                  (.seq
                   (.region [
                     ⟨(some 68), .load 7 true (.t 6), none, []⟩,
                     ⟨(some 69), .load 2 true (.t 7), none, []⟩,
                     ⟨(some 70), .mov (.t 8), none, []⟩,
                     ⟨(some 71), .mov (.t 9), none, []⟩,
                     ⟨(some 72), .call 18 [(.t 68), (.t 69), (.t 70), (.t 71)], none, [0, 1, 2, 3]⟩,
                     ⟨(some 67), .mov (.t 72), none, [4]⟩,
                     ⟨(some 73), .extract 0 (.t 67), none, [5]⟩,
                     ⟨(some 74), .extract 1 (.t 67), none, [5]⟩,
                     ⟨(some 13), .alloc [.int .i64 0, .int .i64 0], none, []⟩,
                     ⟨none, .store 2 (.t 13) (.t 73), none, [8, 6, 4, 0, 1, 2, 3, 4, 5, 6, 8]⟩,
                     ⟨(some 14), .mov (.t 74), none, [7, 9, 0, 1, 2, 3, 4, 5, 6, 7, 8, 9]⟩] false)
                   (.seq
                    (.seq
                     (.region [
                       ⟨(some 75), .mov (.t 14), none, []⟩,
                       ⟨(some 76), .cmp .neq 0 (.t 75) (.c (.int .i64 0)), none, [0]⟩,
                       ⟨(some 77), .mov (.t 76), none, [1]⟩,
                       ⟨(some 78), .faddr 0 (.t 13), (some (77, false)), [2]⟩,
                       ⟨(some 79), .load 1 false (.t 78), (some (77, false)), [3, 2]⟩,
                       ⟨(some 80), .faddr 0 (.t 7), (some (77, false)), [2]⟩,
                       ⟨(some 81), .load 1 false (.t 80), (some (77, false)), [5, 2]⟩,
                       ⟨(some 82), .cmp .lss 0 (.t 79) (.t 81), (some (77, false)), [4, 6, 2]⟩,
                       ⟨(some 83), .pick (.t 77) (.c (.bool true)) (.t 82), none, [2, 7]⟩] false)
                     (.cond (.t 83)
                      (.seq
                       (.region [
                         ⟨(some 4), .mov (.c (.bool false)), none, []⟩] false)
                       .ret)
                      .skip))
                    (.region [
                      ⟨(some 84), .load 2 true (.t 13), none, []⟩,
                      ⟨none, .store 2 (.t 7) (.t 84), none, [0, 0]⟩] false))))
                 (.region [
                   ⟨(some 65), .mov (.t 12), none, []⟩,
                   ⟨(some 66), .arith .sub (.t 65) (.c (.int .i64 1)), none, [0]⟩,
                   ⟨(some 12), .mov (.t 66), none, [1, 0, 1]⟩] false))))))
            (.seq
             (.region [
               ⟨(some 85), .faddr 0 (.t 7), none, []⟩,
               ⟨(some 86), .load 1 false (.t 85), none, [0]⟩,
               ⟨(some 87), .faddr 5 (.t 6), none, []⟩,
               ⟨(some 88), .load 1 false (.t 87), none, [2]⟩,
               ⟨(some 89), .cmp .eql 0 (.t 86) (.t 88), none, [1, 3]⟩,
               ⟨(some 90), .mov (.t 89), none, [4]⟩,
               ⟨(some 91), .faddr 1 (.t 7), (some (90, true)), [5]⟩,
               ⟨(some 92), .load 1 false (.t 91), (some (90, true)), [6, 5]⟩,
               ⟨(some 93), .mov (.t 11), (some (90, true)), [5]⟩,
               ⟨(some 94), .cmp .eql 0 (.t 92) (.t 93), (some (90, true)), [7, 8, 5]⟩,
               ⟨(some 95), .pick (.t 90) (.t 94) (.c (.bool false)), none, [5, 9]⟩,
               ⟨(some 4), .mov (.t 95), none, [10, 5, 0, 1, 2, 3, 4, 5, 6, 7, 8, 9, 10]⟩] false)
             .ret)))))))))))
def rv6 : List RV := [.t 4]
theorem rc6_ok : comp Try.prog Try.f6.ntmps (Try.f6.body.getD .skip) = some (erase rc6) := by kernel_rfl
theorem rv6_ok : compRes Try.prog Try.f6.results.toList = some rv6 := by kernel_rfl

/-- baseboard/baseboardlaw41.FanTargets [22, 48] -/
def rc7 : RC :=
  (.seq
   (.region [
     ⟨(some 4), .mov (.c (.bool false)), none, []⟩] false)
   (.seq
    (.seq
     (.region [
       ⟨(some 17), .call 9 [], none, []⟩,
       ⟨(some 18), .not (.t 17), none, [0]⟩] false)
     (.cond (.t 18)
      (.seq
       (.region [
         ⟨(some 4), .mov (.c (.bool false)), none, []⟩] false)
       .ret)
      .skip))
    (.seq
     (.region [
       ⟨(some 19), .mov (.t 0), none, []⟩,
       ⟨(some 20), .call 10 [(.t 19), (.c (.int .i64 60))], none, [0]⟩,
       ⟨(some 5), .mov (.t 20), none, [1, 1, 0, 1]⟩] false)
     (.seq
      (.region [
        ⟨(some 21), .mov (.t 5), none, []⟩,
        ⟨(some 22), .call 11 [(.t 21)], none, [0]⟩,
        ⟨(some 6), .alloc [.nil, .int .i64 0, .int .i64 0, .int .i64 0, .int .i64 0, .int .i64 0, .int .i64 0], none, []⟩,
        ⟨none, .store 7 (.t 6) (.t 22), none, [2, 1, 1, 0, 1, 2]⟩] false)
      (.seq
       (.seq
        (.region [
          ⟨(some 23), .load 7 true (.t 6), none, []⟩,
          ⟨(some 24), .call 17 [(.t 23)], none, [0]⟩,
          ⟨(some 25), .not (.t 24), none, [1]⟩] false)
        (.cond (.t 25)
         (.seq
          (.region [
            ⟨(some 4), .mov (.c (.bool true)), none, []⟩] false)
          .ret)
         .skip))
       (.seq
        (.region [
          ⟨(some 26), .faddr 0 (.t 6), none, []⟩,
          ⟨(some 27), .load 1 false (.t 26), none, [0]⟩,
          ⟨(some 28), .len 0 (.t 27), none, [0, 1]⟩,
          ⟨(some 29), .mkslice 2 8 [.int .i64 0] (.t 28) (.t 28), none, [1, 0, 2]⟩,
          ⟨(some 30), .faddr 0 (.t 6), none, []⟩,
          ⟨(some 31), .load 1 false (.t 30), none, [4]⟩,
          ⟨(some 32), .len 0 (.t 31), none, [4, 5]⟩,
          ⟨(some 33), .mkslice 4 1 [.bool false] (.t 32) (.t 32), none, [5, 4, 6]⟩,
          ⟨(some 7), .mov (.t 29), none, [2, 1, 0, 3]⟩,
          ⟨(some 8), .mov (.t 33), none, [6, 5, 4, 3, 2, 1, 0, 8, 7]⟩] true)
        (.seq
         (.region [
           ⟨(some 9), .mov (.c (.int .i64 0)), none, []⟩] false)
         (.seq
          (.seq
           (.region [
             ⟨(some 34), .mov (.t 7), none, []⟩,
             ⟨(some 35), .len 0 (.t 34), none, [0]⟩,
             ⟨(some 36), .mov (.c (.int .i64 0)), none, []⟩] false)
           (.block 0
            (.loop 0
             (.seq
              (.region [
                ⟨(some 37), .cmp .lss 0 (.t 36) (.t 35), none, []⟩] false)
              (.seq
               (.cond (.t 37)
                .skip
                (.exit 0))
               (.seq
                (.block 1
                 (.seq
                  (.region [
                    ⟨(some 38), .mov (.t 36), none, []⟩,
                    ⟨(some 10), .mov (.t 38), none, [0, 0]⟩] false)
                  (.seq
                   (.region [
                     ⟨(some 39), .mov (.t 8), none, []⟩,
                     ⟨(some 40), .mov (.t 10), none, []⟩,
                     ⟨(some 41), .iaddrS [.bool false] (.t 39) (.t 40), none, [0, 1, 0, 1]⟩,
                     ⟨none, .store 1 (.t 41) (.c (.bool true)), none, [2, 0, 1]⟩] false)
                   (.seq
                    (.seq
                     (.region [
                       ⟨(some 42), .mov (.t 10), none, []⟩,
                       ⟨(some 43), .mov (.t 1), none, []⟩,
                       ⟨(some 44), .len 0 (.t 43), none, [1]⟩,
                       ⟨(some 45), .cmp .lss 0 (.t 42) (.t 44), none, [0, 2]⟩] false)
                     (.cond (.t 45)
                      (.region [
                        ⟨(some 46), .mov (.t 7), none, []⟩,
                        ⟨(some 47), .mov (.t 10), none, []⟩,
                        ⟨(some 48), .mov (.t 1), none, []⟩,
                        ⟨(some 49), .mov (.t 10), none, []⟩,
                        ⟨(some 50), .iaddrS [.int .u16 0] (.t 48) (.t 49), none, [2, 3]⟩,
                        ⟨(some 51), .load 1 false (.t 50), none, [4]⟩,
                        ⟨(some 52), .conv .i64 (.t 51), none, [5]⟩,
                        ⟨(some 53), .arith .mul (.t 52) (.c (.int .i64 1000)), none, [6]⟩,
                        ⟨(some 54), .iaddrS [.int .i64 0] (.t 46) (.t 47), none, [0, 1, 0, 1, 2, 3, 4, 5, 6, 7]⟩,
                        ⟨none, .store 1 (.t 54) (.t 53), none, [8, 7, 0, 1, 2, 3, 4, 5, 6, 7]⟩] false)
                      .skip))
                    (.region [
                      ⟨(some 55), .mov (.t 9), none, []⟩,
                      ⟨(some 56), .mov (.t 7), none, []⟩,
                      ⟨(some 57), .mov (.t 10), none, []⟩,
                      ⟨(some 58), .iaddrS [.int .i64 0] (.t 56) (.t 57), none, [1, 2]⟩,
                      ⟨(some 59), .load 1 false (.t 58), none, [3]⟩,
                      ⟨(some 60), .minmax true [(.t 55), (.t 59)], none, [0, 4]⟩,
                      ⟨(some 9), .mov (.t 60), none, [5, 0, 1, 2, 3, 4, 5]⟩] false)))))
                (.region [
                  ⟨(some 61), .arith .add (.t 36) (.c (.int .i64 1)), none, []⟩,
                  ⟨(some 36), .mov (.t 61), none, [0]⟩] false)))))))
          (.seq
           (.seq
            (.region [
              ⟨(some 62), .mov (.t 7), none, []⟩,
              ⟨(some 63), .len 0 (.t 62), none, [0]⟩,
              ⟨(some 64), .mov (.c (.int .i64 0)), none, []⟩] false)
            (.block 2
             (.loop 1
              (.seq
               (.region [
                 ⟨(some 65), .cmp .lss 0 (.t 64) (.t 63), none, []⟩] false)
               (.seq
                (.cond (.t 65)
                 .skip
                 (.exit 2))
                (.seq
                 (.block 3
                  (.seq
                   (.region [
                     ⟨(some 66), .mov (.t 64), none, []⟩,
                     ⟨(some 11), .mov (.t 66), none, [0, 0]⟩] false)
                   (.region [
                     ⟨(some 67), .mov (.t 7), none, []⟩,
                     ⟨(some 68), .mov (.t 11), none, []⟩,
                     ⟨(some 69), .iaddrS [.int .i64 0] (.t 67) (.t 68), none, [1, 0]⟩,
                     ⟨(some 70), .load 1 false (.t 69), none, [0, 1, 2]⟩,
                     ⟨(some 71), .faddr 1 (.t 6), none, []⟩,
                     ⟨(some 72), .load 1 false (.t 71), none, [4]⟩,
                     ⟨(some 73), .arith .add (.t 70) (.t 72), none, [4, 2, 1, 0, 5, 3]⟩,
                     ⟨(some 74), .iaddrS [.int .i64 0] (.t 67) (.t 68), none, [6, 5, 4, 3, 2, 1, 0]⟩,
                     ⟨none, .store 1 (.t 74) (.t 73), none, [5, 4, 3, 2, 1, 0, 6, 7]⟩] true)))
                 (.region [
                   ⟨(some 75), .arith .add (.t 64) (.c (.int .i64 1)), none, []⟩,
                   ⟨(some 64), .mov (.t 75), none, [0]⟩] false)))))))
           (.seq
            (.region [
              ⟨(some 77), .load 7 true (.t 6), none, []⟩,
              ⟨(some 78), .mov (.t 7), none, []⟩,
              ⟨(some 79), .mov (.t 8), none, []⟩,
              ⟨(some 80), .call 20 [(.t 77), (.t 78), (.t 79)], none, [0, 1, 2]⟩,
              ⟨(some 76), .mov (.t 80), none, [3]⟩,
              ⟨(some 81), .extract 0 (.t 76), none, [4]⟩,
              ⟨(some 82), .extract 1 (.t 76), none, [4]⟩,
              ⟨(some 12), .mov (.t 81), none, [5, 3, 0, 1, 2, 3, 4, 5]⟩,
              ⟨(some 13), .mov (.t 82), none, [6, 7, 0, 1, 2, 3, 4, 5, 6, 7]⟩] false)
            (.seq
             (.region [
               ⟨(some 83), .load 7 true (.t 6), none, []⟩,
               ⟨(some 14), .alloc [.nil, .int .i64 0, .int .i64 0, .int .i64 0, .int .i64 0, .int .i64 0, .int .i64 0], none, []⟩,
               ⟨none, .store 7 (.t 14) (.t 83), none, [1, 0, 0, 1]⟩] false)
             (.seq
              (.region [
                ⟨(some 84), .faddr 0 (.t 6), none, []⟩,
                ⟨(some 85), .load 1 false (.t 84), none, [0]⟩,
                ⟨(some 86), .slice 1 (.t 85) none (some (.c (.int .i64 1))), none, [1]⟩,
                ⟨(some 87), .faddr 0 (.t 14), none, [0, 1, 2]⟩,
                ⟨none, .store 1 (.t 87) (.t 86), none, [3, 2, 0, 1, 2]⟩] false)
              (.seq
               (.region [
                 ⟨(some 89), .load 7 true (.t 14), none, []⟩,
                 ⟨(some 90), .faddr 1 (.t 6), none, []⟩,
                 ⟨(some 91), .load 1 false (.t 90), none, [1]⟩,
                 ⟨(some 92), .mov (.t 9), none, []⟩,
                 ⟨(some 93), .arith .add (.t 91) (.t 92), none, [2, 3]⟩,
                 ⟨(some 94), .bsliceO 2 1 [.int .i64 0] [(0, (.t 93))], none, [4]⟩,
                 ⟨(some 95), .bsliceO 4 1 [.bool false] [(0, (.c (.bool true)))], none, []⟩,
                 ⟨(some 96), .call 20 [(.t 89), (.t 94), (.t 95)], none, [0, 5, 6]⟩,
                 ⟨(some 88), .mov (.t 96), none, [7]⟩,
                 ⟨(some 97), .extract 0 (.t 88), none, [8]⟩,
                 ⟨(some 98), .extract 1 (.t 88), none, [8]⟩,
                 ⟨(some 15), .mov (.t 97), none, [9, 7, 0, 1, 2, 3, 4, 5, 6, 7, 8, 9]⟩,
                 ⟨(some 16), .mov (.t 98), none, [10, 11, 0, 1, 2, 3, 4, 5, 6, 7, 8, 9, 10, 11]⟩] false)
               (.seq
                (.region [
                  ⟨(some 99), .mov (.t 13), none, []⟩,
                  ⟨(some 100), .mov (.t 99), none, [0]⟩,
                  ⟨(some 101), .mov (.t 16), (some (100, true)), [0, 1]⟩,
                  ⟨(some 102), .pick (.t 100) (.t 101) (.c (.bool false)), none, [0, 2, 1]⟩,
                  ⟨(some 103), .mov (.t 102), none, [2, 0, 1, 3]⟩,
                  ⟨(some 104), .mov (.t 12), (some (103, true)), [3, 1, 0, 2, 4]⟩,
                  ⟨(some 105), .mov (.t 15), (some (103, true)), [3, 1, 0, 2, 4]⟩,
                  ⟨(some 106), .cmp .eql 0 (.t 104) (.t 105), (some (103, true)), [2, 0, 1, 3, 4, 6, 5]⟩,
                  ⟨(some 107), .pick (.t 103) (.t 106) (.c (.bool false)), none, [5, 6, 3, 1, 0, 2, 7, 4]⟩,
                  ⟨(some 108), .mov (.t 107), none, [7, 2, 0, 1, 3, 6, 5, 4, 8]⟩,
                  ⟨(some 109), .mov (.t 12), (some (108, true)), [8, 4, 5, 6, 3, 1, 0, 2, 7, 9]⟩,
                  ⟨(some 110), .mov (.t 9), (some (108, true)), [8, 4, 5, 6, 3, 1, 0, 2, 7, 9]⟩,
                  ⟨(some 111), .arith .quo (.t 110) (.c (.int .i64 1000)), (some (108, true)), [7, 2, 0, 1, 3, 6, 5, 4, 8, 9, 11]⟩,
                  ⟨(some 112), .cmp .eql 0 (.t 109) (.t 111), (some (108, true)), [11, 7, 2, 0, 1, 3, 6, 5, 4, 8, 9, 12, 10]⟩,
                  ⟨(some 113), .pick (.t 108) (.t 112) (.c (.bool false)), none, [10, 12, 11, 8, 4, 5, 6, 3, 1, 0, 2, 7, 13, 9]⟩,
                  ⟨(some 114), .mov (.t 113), none, [13, 7, 2, 0, 1, 3, 6, 5, 4, 8, 11, 12, 10, 9, 14]⟩,
                  ⟨(some 115), .load 7 true (.t 6), (some (114, true)), [14, 9, 10, 12, 11, 8, 4, 5, 6, 3, 1, 0, 2, 7, 13, 15]⟩,
                  ⟨(some 116), .faddr 4 (.t 6), (some (114, true)), [14, 9, 10, 12, 11, 8, 4, 5, 6, 3, 1, 0, 2, 7, 13, 15]⟩,
                  ⟨(some 117), .load 1 false (.t 116), (some (114, true)), [13, 7, 2, 0, 1, 3, 6, 5, 4, 8, 11, 12, 10, 9, 14, 15, 17]⟩,
                  ⟨(some 118), .build [.int .i64 0, .int .i64 0] [(0, 1, (.t 117))], (some (114, true)), [17, 14, 9, 10, 12, 11, 8, 4, 5, 6, 3, 1, 0, 2, 7, 13, 15, 18]⟩,
                  ⟨(some 119), .call 21 [(.t 115), (.t 118), (.c (.int .i64 0))], (some (114, true)), [18, 17, 13, 7, 2, 0, 1, 3, 6, 5, 4, 8, 11, 12, 10, 9, 14, 15, 19, 16]⟩,
                  ⟨(some 120), .faddr 4 (.t 6), (some (114, true)), [14, 9, 10, 12, 11, 8, 4, 5, 6, 3, 1, 0, 2, 7, 13, 15]⟩,
                  ⟨(some 121), .load 1 false (.t 120), (some (114, true)), [13, 7, 2, 0, 1, 3, 6, 5, 4, 8, 11, 12, 10, 9, 14, 15, 21]⟩,
                  ⟨(some 122), .cmp .eql 0 (.t 119) (.t 121), (some (114, true)), [21, 16, 19, 14, 9, 10, 12, 11, 8, 4, 5, 6, 3, 1, 0, 2, 7, 13, 17, 18, 15, 22, 20]⟩,
                  ⟨(some 123), .pick (.t 114) (.t 122) (.c (.bool false)), none, [20, 22, 18, 17, 19, 16, 21, 14, 9, 10, 12, 11, 8, 4, 5, 6, 3, 1, 0, 2, 7, 13, 23, 15]⟩,
                  ⟨(some 4), .mov (.t 123), none, [23, 22, 21, 19, 18, 17, 16, 15, 14, 13, 12, 11, 10, 9, 8, 7, 6, 5, 4, 3, 2, 1, 0, 20, 24]⟩] true)
                .ret))))))))))))))
def rv7 : List RV := [.t 4]
theorem rc7_ok : comp Try.prog Try.f7.ntmps (Try.f7.body.getD .skip) = some (erase rc7) := by kernel_rfl
theorem rv7_ok : compRes Try.prog Try.f7.results.toList = some rv7 := by kernel_rfl

/-- baseboard/baseboardlaw41.FanSettles [22, 3] -/
def rc8 : RC :=
  (.seq
   (.region [
     ⟨(some 4), .mov (.c (.bool false)), none, []⟩] false)
   (.seq
    (.seq
     (.region [
       ⟨(some 23), .call 9 [], none, []⟩,
       ⟨(some 24), .not (.t 23), none, [0]⟩] false)
     (.cond (.t 24)
      (.seq
       (.region [
         ⟨(some 4), .mov (.c (.bool false)), none, []⟩] false)
       .ret)
      .skip))
    (.seq
     (.region [
       ⟨(some 25), .mov (.t 0), none, []⟩,
       ⟨(some 26), .call 10 [(.t 25), (.c (.int .i64 60))], none, [0]⟩,
       ⟨(some 5), .mov (.t 26), none, [1, 1, 0, 1]⟩] false)
     (.seq
      (.region [
        ⟨(some 27), .mov (.t 5), none, []⟩,
        ⟨(some 28), .call 11 [(.t 27)], none, [0]⟩,
        ⟨(some 6), .alloc [.nil, .int .i64 0, .int .i64 0, .int .i64 0, .int .i64 0, .int .i64 0, .int .i64 0], none, []⟩,
        ⟨none, .store 7 (.t 6) (.t 28), none, [2, 1, 1, 0, 1, 2]⟩] false)
      (.seq
       (.region [
         ⟨(some 29), .mov (.t 5), none, []⟩,
         ⟨(some 30), .load 7 true (.t 6), none, []⟩,
         ⟨(some 31), .call 12 [(.t 29), (.t 30)], none, [0, 1]⟩,
         ⟨(some 7), .alloc [.int .i64 0, .int .i64 0], none, []⟩,
         ⟨none, .store 2 (.t 7) (.t 31), none, [3, 2, 2, 0, 1, 2, 3]⟩] false)
       (.seq
        (.seq
         (.region [
           ⟨(some 32), .mov (.t 5), none, []⟩,
           ⟨(some 33), .call 14 [(.t 32), (.c (.int .i64 6))], none, [0]⟩,
           ⟨(some 34), .cmp .lss 0 (.t 33) (.c (.int .i64 5)), none, [1]⟩] false)
         (.cond (.t 34)
          (.region [
            ⟨(some 35), .mov (.t 5), none, []⟩,
            ⟨(some 36), .call 14 [(.t 35), (.c (.int .i64 2000))], none, [0]⟩,
            ⟨(some 37), .arith .sub (.t 36) (.c (.int .i64 1000)), none, [1]⟩,
            ⟨(some 1), .mov (.t 37), none, [2, 1, 0, 1, 2]⟩] false)
          .skip))
        (.seq
         (.region [
           ⟨(some 39), .load 7 true (.t 6), none, []⟩,
           ⟨(some 40), .load 2 true (.t 7), none, []⟩,
           ⟨(some 41), .mov (.t 1), none, []⟩,
           ⟨(some 42), .call 22 [(.t 39), (.t 40), (.t 41)], none, [0, 1, 2]⟩,
           ⟨(some 38), .mov (.t 42), none, [3]⟩,
           ⟨(some 43), .extract 0 (.t 38), none, [4]⟩,
           ⟨(some 44), .extract 1 (.t 38), none, [4]⟩,
           ⟨(some 45), .extract 2 (.t 38), none, [4]⟩,
           ⟨(some 8), .alloc [.int .i64 0, .int .i64 0], none, []⟩,
           ⟨none, .store 2 (.t 8) (.t 43), none, [8, 5, 3, 0, 1, 2, 3, 4, 5, 8]⟩,
           ⟨(some 9), .mov (.t 44), none, [6, 9, 0, 1, 2, 3, 4, 5, 6, 8, 9]⟩,
           ⟨(some 10), .mov (.t 45), none, [7, 10, 0, 1, 2, 3, 4, 5, 6, 7, 8, 9, 10]⟩] false)
         (.seq
          (.region [
            ⟨(some 47), .load 7 true (.t 6), none, []⟩,
            ⟨(some 48), .load 2 true (.t 7), none, []⟩,
            ⟨(some 49), .mov (.t 1), none, []⟩,
            ⟨(some 50), .call 23 [(.t 47), (.t 48), (.t 49)], none, [0, 1, 2]⟩,
            ⟨(some 46), .mov (.t 50), none, [3]⟩,
            ⟨(some 51), .extract 0 (.t 46), none, [4]⟩,
            ⟨(some 52), .extract 1 (.t 46), none, [4]⟩,
            ⟨(some 53), .extract 2 (.t 46), none, [4]⟩,
            ⟨(some 11), .alloc [.int .i64 0, .int .i64 0], none, []⟩,
            ⟨none, .store 2 (.t 11) (.t 51), none, [8, 5, 3, 0, 1, 2, 3, 4, 5, 8]⟩,
            ⟨(some 12), .mov (.t 52), none, [6, 9, 0, 1, 2, 3, 4, 5, 6, 8, 9]⟩,
            ⟨(some 13), .mov (.t 53), none, [7, 10, 0, 1, 2, 3, 4, 5, 6, 7, 8, 9, 10]⟩] false)
          (.seq
           (.seq
            (.region [
              ⟨(some 54), .mov (.t 10), none, []⟩,
              ⟨(some 55), .mov (.t 13), none, []⟩,
              ⟨(some 56), .cmp .neq 0 (.t 54) (.t 55), none, [0, 1]⟩,
              ⟨(some 57), .mov (.t 56), none, [2]⟩,
              ⟨(some 58), .load 2 true (.t 8), (some (57, false)), [3]⟩,
              ⟨(some 59), .load 2 true (.t 11), (some (57, false)), [3]⟩,
              ⟨(some 60), .eqa true [0, 0] (.t 58) (.t 59), (some (57, false)), [4, 5, 3]⟩,
              ⟨(some 61), .pick (.t 57) (.c (.bool true)) (.t 60), none, [3, 6]⟩,
              ⟨(some 62), .mov (.t 61), none, [7, 3]⟩,
              ⟨(some 63), .mov (.t 9), (some (62, false)), [8]⟩,
              ⟨(some 64), .mov (.t 12), (some (62, false)), [8]⟩,
              ⟨(some 65), .cmp .neq 0 (.t 63) (.t 64), (some (62, false)), [9, 10, 8]⟩,
              ⟨(some 66), .pick (.t 62) (.c (.bool true)) (.t 65), none, [8, 11]⟩] false)
            (.cond (.t 66)
             (.seq
              (.region [
                ⟨(some 4), .mov (.c (.bool false)), none, []⟩] false)
              .ret)
             .skip))
           (.seq
            (.seq
             (.region [
               ⟨(some 67), .mov (.t 10), none, []⟩,
               ⟨(some 68), .cmp .neq 0 (.t 67) (.c (.int .i64 0)), none, [0]⟩,
               ⟨(some 69), .mov (.t 68), none, [1]⟩,
               ⟨(some 70), .mov (.t 9), (some (69, false)), [2]⟩,
               ⟨(some 71), .cmp .gtr 0 (.t 70) (.c (.int .i64 3000)), (some (69, false)), [3, 2]⟩,
               ⟨(some 72), .pick (.t 69) (.c (.bool true)) (.t 71), none, [2, 4]⟩] false)
             (.cond (.t 72)
              (.seq
               (.region [
                 ⟨(some 73), .mov (.t 10), none, []⟩,
                 ⟨(some 74), .cmp .neq 0 (.t 73) (.c (.int .i64 0)), none, [0]⟩,
                 ⟨(some 75), .mov (.t 74), none, [1]⟩,
                 ⟨(some 76), .mov (.t 9), (some (75, false)), [2]⟩,
                 ⟨(some 77), .faddr 5 (.t 6), (some (75, false)), [2]⟩,
                 ⟨(some 78), .load 1 false (.t 77), (some (75, false)), [4, 2]⟩,
                 ⟨(some 79), .faddr 4 (.t 6), (some (75, false)), [2]⟩,
                 ⟨(some 80), .load 1 false (.t 79), (some (75, false)), [6, 2]⟩,
                 ⟨(some 81), .arith .sub (.t 78) (.t 80), (some (75, false)), [5, 7, 2]⟩,
                 ⟨(some 82), .arith .mul (.c (.int .i64 1000)) (.t 81), (some (75, false)), [8, 2]⟩,
                 ⟨(some 83), .arith .add (.t 82) (.c (.int .i64 1000)), (some (75, false)), [9, 2]⟩,
                 ⟨(some 84), .arith .add (.t 83) (.c (.int .i64 2)), (some (75, false)), [10, 2]⟩,
                 ⟨(some 85), .cmp .leq 0 (.t 76) (.t 84), (some (75, false)), [3, 11, 2]⟩,
                 ⟨(some 86), .pick (.t 75) (.c (.bool true)) (.t 85), none, [2, 12]⟩,
                 ⟨(some 4), .mov (.t 86), none, [13, 2, 0, 1, 2, 3, 4, 5, 6, 7, 8, 9, 10, 11, 12, 13]⟩] false)
               .ret)
              .skip))
            (.seq
             (.region [
               ⟨(some 87), .faddr 0 (.t 6), none, []⟩,
               ⟨(some 88), .load 1 false (.t 87), none, [0]⟩,
               ⟨(some 89), .len 0 (.t 88), none, [0, 1]⟩,
               ⟨(some 90), .mkslice 2 8 [.int .i64 0] (.t 89) (.t 89), none, [1, 0, 2]⟩,
               ⟨(some 91), .faddr 0 (.t 6), none, []⟩,
               ⟨(some 92), .load 1 false (.t 91), none, [4]⟩,
               ⟨(some 93), .len 0 (.t 92), none, [4, 5]⟩,
               ⟨(some 94), .mkslice 4 1 [.bool false] (.t 93) (.t 93), none, [5, 4, 6]⟩,
               ⟨(some 14), .mov (.t 90), none, [2, 1, 0, 3]⟩,
               ⟨(some 15), .mov (.t 94), none, [6, 5, 4, 3, 2, 1, 0, 8, 7]⟩] true)
             (.seq
              (.seq
               (.region [
                 ⟨(some 95), .mov (.t 14), none, []⟩,
                 ⟨(some 96), .len 0 (.t 95), none, [0]⟩,
                 ⟨(some 97), .mov (.c (.int .i64 0)), none, []⟩] false)
               (.block 0
                (.loop 0
                 (.seq
                  (.region [
                    ⟨(some 98), .cmp .lss 0 (.t 97) (.t 96), none, []⟩] false)
                  (.seq
                   (.cond (.t 98)
                    .skip
                    (.exit 0))
                   (.seq
                    (.block 1
                     (.seq
                      (.region [
                        ⟨(some 99), .mov (.t 97), none, []⟩,
                        ⟨(some 16), .mov (.t 99), none, [0, 0]⟩] false)
                      (.region [
                        ⟨(some 100), .mov (.t 14), none, []⟩,
                        ⟨(some 101), .mov (.t 16), none, []⟩,
                        ⟨(some 102), .mov (.t 15), none, []⟩,
                        ⟨(some 103), .mov (.t 16), none, []⟩,
                        ⟨(some 104), .faddr 1 (.t 6), none, []⟩,
                        ⟨(some 105), .load 1 false (.t 104), none, [4]⟩,
                        ⟨(some 106), .mov (.t 1), none, []⟩,
                        ⟨(some 107), .arith .mul (.c (.int .i64 1000)) (.t 106), none, [6]⟩,
                        ⟨(some 108), .arith .add (.t 105) (.t 107), none, [5, 7]⟩,
                        ⟨(some 109), .iaddrS [.int .i64 0] (.t 100) (.t 101), none, [0, 1, 0, 1, 4, 5, 6, 7, 8]⟩,
                        ⟨none, .store 1 (.t 109) (.t 108), none, [9, 8, 0, 1, 4, 5, 6, 7, 8]⟩,
                        ⟨(some 110), .iaddrS [.bool false] (.t 102) (.t 103), none, [2, 3, 0, 1, 2, 3, 4, 5, 6, 7, 8, 9, 10]⟩,
                        ⟨none, .store 1 (.t 110) (.c (.bool true)), none, [11, 10, 0, 1, 2, 3, 4, 5, 6, 7, 8, 9, 10]⟩] false)))
                    (.region [
                      ⟨(some 111), .arith .add (.t 97) (.c (.int .i64 1)), none, []⟩,
                      ⟨(some 97), .mov (.t 111), none, [0]⟩] false)))))))
              (.seq
               (.region [
                 ⟨(some 112), .load 2 true (.t 7), none, []⟩,
                 ⟨(some 17), .alloc [.int .i64 0, .int .i64 0], none, []⟩,
                 ⟨none, .store 2 (.t 17) (.t 112), none, [1, 0, 0, 1]⟩] false)
               (.seq
                (.seq
                 (.region [
                   ⟨(some 18), .mov (.c (.int .i64 0)), none, []⟩] false)
                 (.block 2
                  (.loop 1
                   (.seq
                    (.seq
                     (.region [
                       ⟨(some 113), .mov (.t 18), none, []⟩,
                       ⟨(some 114), .mov (.t 9), none, []⟩,
                       ⟨(some 115), .cmp .lss 0 (.t 113) (.t 114), none, [0, 1]⟩] false)
                     (.cond (.t 115)
                      .skip
                      (.exit 2)))
                    (.seq
                     (.block 3
                      (.seq
                       (.region [
                         ⟨(some 118), .load 2 true (.t 7), none, []⟩,
                         ⟨none, .store 2 (.t 17) (.t 118), none, [0, 0]⟩] false)
                       (.seq
                        (.region [
                          ⟨(some 120), .load 7 true (.t 6), none, []⟩,
                          ⟨(some 121), .load 2 true (.t 7), none, []⟩,
                          ⟨(some 122), .mov (.t 14), none, []⟩,
                          ⟨(some 123), .mov (.t 15), none, []⟩,
                          ⟨(some 124), .call 18 [(.t 120), (.t 121), (.t 122), (.t 123)], none, [0, 1, 2, 3]⟩,
                          ⟨(some 119), .mov (.t 124), none, [4]⟩,
                          ⟨(some 125), .extract 0 (.t 119), none, [5]⟩,
                          ⟨(some 126), .extract 1 (.t 119), none, [5]⟩,
                          ⟨(some 19), .alloc [.int .i64 0, .int .i64 0], none, []⟩,
                          ⟨none, .store 2 (.t 19) (.t 125), none, [8, 6, 4, 0, 1, 2, 3, 4, 5, 6, 8]⟩,
                          ⟨(some 20), .mov (.t 126), none, [7, 9, 0, 1, 2, 3, 4, 5, 6, 7, 8, 9]⟩] false)
                        (.seq
                         (.seq
                          (.region [
                            ⟨(some 127), .mov (.t 20), none, []⟩,
                            ⟨(some 128), .cmp .neq 0 (.t 127) (.c (.int .i64 0)), none, [0]⟩] false)
                          (.cond (.t 128)
                           (.seq
                            (.region [
                              ⟨(some 4), .mov (.c (.bool false)), none, []⟩] false)
                            .ret)
                           .skip))
                         (.region [
                           ⟨(some 129), .load 2 true (.t 19), none, []⟩,
                           ⟨none, .store 2 (.t 7) (.t 129), none, [0, 0]⟩] false)))))
                     (.region [
                       ⟨(some 116), .mov (.t 18), none, []⟩,
                       ⟨(some 117), .arith .add (.t 116) (.c (.int .i64 1)), none, [0]⟩,
                       ⟨(some 18), .mov (.t 117), none, [1, 0, 1]⟩] false))))))
                (.seq
                 (.region [
                   ⟨(some 131), .load 7 true (.t 6), none, []⟩,
                   ⟨(some 132), .load 2 true (.t 7), none, []⟩,
                   ⟨(some 133), .mov (.t 14), none, []⟩,
                   ⟨(some 134), .mov (.t 15), none, []⟩,
                   ⟨(some 135), .call 18 [(.t 131), (.t 132), (.t 133), (.t 134)], none, [0, 1, 2, 3]⟩,
                   ⟨(some 130), .mov (.t 135), none, [4]⟩,
                   ⟨(some 136), .extract 0 (.t 130), none, [5]⟩,
                   ⟨(some 137), .extract 1 (.t 130), none, [5]⟩,
                   ⟨(some 21), .alloc [.int .i64 0, .int .i64 0], none, []⟩,
                   ⟨none, .store 2 (.t 21) (.t 136), none, [8, 6, 4, 0, 1, 2, 3, 4, 5, 6, 8]⟩,
                   ⟨(some 22), .mov (.t 137), none, [7, 9, 0, 1, 2, 3, 4, 5, 6, 7, 8, 9]⟩] false)
                 (.seq
                  (.region [
                    ⟨(some 138), .mov (.t 22), none, []⟩,
                    ⟨(some 139), .cmp .eql 0 (.t 138) (.c (.int .i64 0)), none, [0]⟩,
                    ⟨(some 140), .mov (.t 139), none, [1]⟩,
                    ⟨(some 141), .load 2 true (.t 7), (some (140, true)), [2]⟩,
                    ⟨(some 142), .load 2 true (.t 8), (some (140, true)), [2]⟩,
                    ⟨(some 143), .eqa false [0, 0] (.t 141) (.t 142), (some (140, true)), [3, 4, 2]⟩,
                    ⟨(some 144), .pick (.t 140) (.t 143) (.c (.bool false)), none, [2, 5]⟩,
                    ⟨(some 145), .mov (.t 144), none, [6, 2]⟩,
                    ⟨(some 146), .load 2 true (.t 21), (some (145, true)), [7]⟩,
                    ⟨(some 147), .load 2 true (.t 7), (some (145, true)), [7]⟩,
                    ⟨(some 148), .eqa false [0, 0] (.t 146) (.t 147), (some (145, true)), [8, 9, 7]⟩,
                    ⟨(some 149), .pick (.t 145) (.t 148) (.c (.bool false)), none, [7, 10]⟩,
                    ⟨(some 150), .mov (.t 149), none, [11, 7]⟩,
                    ⟨(some 151), .mov (.t 9), (some (150, true)), [12]⟩,
                    ⟨(some 152), .cmp .eql 0 (.t 151) (.c (.int .i64 0)), (some (150, true)), [13, 12]⟩,
                    ⟨(some 153), .mov (.t 152), (some (150, true)), [14, 12, 12]⟩,
                    ⟨(some 154), .load 2 true (.t 17), (some (153, false)), [15]⟩,
                    ⟨(some 155), .load 2 true (.t 7), (some (153, false)), [15]⟩,
                    ⟨(some 156), .eqa true [0, 0] (.t 154) (.t 155), (some (153, false)), [16, 17, 15]⟩,
                    ⟨(some 157), .pick (.t 153) (.c (.bool true)) (.t 156), (some (150, true)), [15, 18, 12]⟩,
                    ⟨(some 158), .pick (.t 150) (.t 157) (.c (.bool false)), none, [12, 19]⟩,
                    ⟨(some 159), .mov (.t 158), none, [20, 15]⟩,
                    ⟨(some 160), .mov (.t 9), (some (159, true)), [21]⟩,
                    ⟨(some 161), .faddr 5 (.t 6), (some (159, true)), [21]⟩,
                    ⟨(some 162), .load 1 false (.t 161), (some (159, true)), [23, 21]⟩,
                    ⟨(some 163), .faddr 4 (.t 6), (some (159, true)), [21]⟩,
                    ⟨(some 164), .load 1 false (.t 163), (some (159, true)), [25, 21]⟩,
                    ⟨(some 165), .arith .sub (.t 162) (.t 164), (some (159, true)), [24, 26, 21]⟩,
                    ⟨(some 166), .arith .mul (.c (.int .i64 1000)) (.t 165), (some (159, true)), [27, 21]⟩,
                    ⟨(some 167), .arith .add (.t 166) (.c (.int .i64 1000)), (some (159, true)), [28, 21]⟩,
                    ⟨(some 168), .arith .add (.t 167) (.c (.int .i64 2)), (some (159, true)), [29, 21]⟩,
                    ⟨(some 169), .cmp .leq 0 (.t 160) (.t 168), (some (159, true)), [22, 30, 21]⟩,
                    ⟨(some 170), .pick (.t 159) (.t 169) (.c (.bool false)), none, [21, 31]⟩,
                    ⟨(some 4), .mov (.t 170), none, [32, 21, 0, 1, 2, 3, 4, 5, 6, 7, 8, 9, 10, 11, 12, 13, 14, 15, 16, 17, 18, 19, 20, 21, 22, 23, 24, 25, 26, 27, 28, 29, 30, 31, 32]⟩] false)
                  .ret))))))))))))))))
def rv8 : List RV := [.t 4]
theorem rc8_ok : comp Try.prog Try.f8.ntmps (Try.f8.body.getD .skip) = some (erase rc8) := by kernel_rfl
theorem rv8_ok : compRes Try.prog Try.f8.results.toList = some rv8 := by kernel_rfl

/-- baseboard/baseboardlaw41.awake [] -/
def rc9 : RC :=
  (.seq
   (.region [
     ⟨(some 0), .mov (.c (.bool false)), none, []⟩] false)
   (.seq
    (.region [
      ⟨(some 6), .bsliceO 5 1 [.int .u8 0] [(0, (.c (.int .u8 1)))], none, []⟩,
      ⟨(some 7), .build [.nil, .int .i64 0, .int .i64 0, .int .i64 0, .int .i64 0, .int .i64 0, .int .i64 0] [(0, 1, (.t 6)), (1, 1, (.c (.int .i64 25000000))), (2, 1, (.c (.int .i64 50))), (4, 1, (.c (.int .i64 200))), (5, 1, (.c (.int .i64 1000))), (6, 1, (.c (.int .i64 1000)))], none, [0]⟩,
      ⟨(some 1), .alloc [.nil, .int .i64 0, .int .i64 0, .int .i64 0, .int .i64 0, .int .i64 0, .int .i64 0], none, []⟩,
      ⟨none, .store 7 (.t 1) (.t 7), none, [2, 1, 0, 1, 2]⟩] false)
    (.seq
     (.region [
       ⟨(some 9), .load 7 true (.t 1), none, []⟩,
       ⟨(some 10), .call 16 [(.t 9)], none, [0]⟩,
       ⟨(some 8), .mov (.t 10), none, [1]⟩,
       ⟨(some 11), .extract 0 (.t 8), none, [2]⟩,
       ⟨(some 12), .extract 1 (.t 8), none, [2]⟩,
       ⟨(some 2), .alloc [.int .i64 0, .int .i64 0], none, []⟩,
       ⟨none, .store 2 (.t 2) (.t 11), none, [5, 3, 1, 0, 1, 2, 3, 5]⟩,
       ⟨(some 3), .mov (.t 12), none, [4, 6, 0, 1, 2, 3, 4, 5, 6]⟩] false)
     (.seq
      (.region [
        ⟨(some 13), .load 7 true (.t 1), none, []⟩,
        ⟨(some 14), .load 2 true (.t 2), none, []⟩,
        ⟨(some 15), .call 21 [(.t 13), (.t 14), (.c (.int .i64 2000))], none, [0, 1]⟩,
        ⟨(some 4), .mov (.t 15), none, [2, 2, 0, 1, 2]⟩] false)
      (.seq
       (.region [
         ⟨(some 17), .load 7 true (.t 1), none, []⟩,
         ⟨(some 18), .load 2 true (.t 2), none, []⟩,
         ⟨(some 19), .bsliceO 2 1 [.int .i64 0] [(0, (.c (.int .i64 27000000)))], none, []⟩,
         ⟨(some 20), .bsliceO 4 1 [.bool false] [(0, (.c (.bool true)))], none, []⟩,
         ⟨(some 21), .call 18 [(.t 17), (.t 18), (.t 19), (.t 20)], none, [0, 1, 2, 3]⟩,
         ⟨(some 16), .mov (.t 21), none, [4]⟩,
         ⟨(some 22), .extract 0 (.t 16), none, [5]⟩,
         ⟨(some 23), .extract 1 (.t 16), none, [5]⟩,
         ⟨none, .store 2 (.t 2) (.t 22), none, [6, 4, 0, 1, 2, 3, 4, 5, 6]⟩,
         ⟨(some 5), .mov (.t 23), none, [7, 8, 0, 1, 2, 3, 4, 5, 6, 7, 8]⟩] false)
       (.seq
        (.region [
          ⟨(some 24), .mov (.t 3), none, []⟩,
          ⟨(some 25), .cmp .eql 0 (.t 24) (.c (.int .i64 0)), none, [0]⟩,
          ⟨(some 26), .mov (.t 25), none, [1]⟩,
          ⟨(some 27), .mov (.t 5), (some (26, true)), [2]⟩,
          ⟨(some 28), .cmp .eql 0 (.t 27) (.c (.int .i64 0)), (some (26, true)), [3, 2]⟩,
          ⟨(some 29), .pick (.t 26) (.t 28) (.c (.bool false)), none, [2, 4]⟩,
          ⟨(some 30), .mov (.t 29), none, [5, 2]⟩,
          ⟨(some 31), .mov (.t 4), (some (30, true)), [6]⟩,
          ⟨(some 32), .cmp .eql 0 (.t 31) (.c (.int .i64 300)), (some (30, true)), [7, 6]⟩,
          ⟨(some 33), .pick (.t 30) (.t 32) (.c (.bool false)), none, [6, 8]⟩,
          ⟨(some 34), .mov (.t 33), none, [9, 6]⟩,
          ⟨(some 35), .faddr 0 (.t 2), (some (34, true)), [10]⟩,
          ⟨(some 36), .load 1 false (.t 35), (some (34, true)), [11, 10]⟩,
          ⟨(some 37), .cmp .eql 0 (.t 36) (.c (.int .i64 300)), (some (34, true)), [12, 10]⟩,
          ⟨(some 38), .pick (.t 34) (.t 37) (.c (.bool false)), none, [10, 13]⟩,
          ⟨(some 0), .mov (.t 38), none, [14, 10, 0, 1, 2, 3, 4, 5, 6, 7, 8, 9, 10, 11, 12, 13, 14]⟩] false)
        .ret))))))
def rv9 : List RV := [.t 0]
theorem rc9_ok : comp Try.prog Try.f9.ntmps (Try.f9.body.getD .skip) = some (erase rc9) := by kernel_rfl
theorem rv9_ok : compRes Try.prog Try.f9.results.toList = some rv9 := by kernel_rfl

/-- baseboard/baseboardfield.New [22, 3] -/
def rc10 : RC :=
  (.seq
   (.region [
     ⟨(some 4), .mov (.c (.junk)), none, []⟩] false)
   (.seq
    (.region [
      ⟨(some 5), .mov (.t 0), none, []⟩,
      ⟨(some 6), .mov (.t 0), none, []⟩,
      ⟨(some 7), .len 0 (.t 6), none, [1]⟩,
      ⟨(some 8), .mov (.t 1), none, []⟩,
      ⟨(some 9), .minmax false [(.t 7), (.t 8)], none, [2, 3]⟩,
      ⟨(some 10), .slice 1 (.t 5) none (some (.t 9)), none, [0, 4]⟩,
      ⟨(some 11), .build [.nil, .int .i64 0] [(0, 1, (.t 10))], none, [5]⟩,
      ⟨(some 12), .box 2 (.t 11), none, [6]⟩,
      ⟨(some 4), .mov (.t 12), none, [7, 0, 1, 2, 3, 4, 5, 6, 7]⟩] false)
    .ret))
def rv10 : List RV := [.t 4]
theorem rc10_ok : comp Try.prog Try.f10.ntmps (Try.f10.body.getD .skip) = some (erase rc10) := by kernel_rfl
theorem rv10_ok : compRes Try.prog Try.f10.results.toList = some rv10 := by kernel_rfl

/-- (*baseboard/baseboardfield.Codes).Zone [30] -/
def rc11 : RC :=
  (.seq
   (.region [
     ⟨(some 2), .alloc [.nil, .int .i64 0, .int .i64 0, .int .i64 0, .int .i64 0, .int .i64 0, .int .i64 0], none, []⟩] false)
   (.seq
    (.region [
      ⟨(some 6), .mov (.t 0), none, []⟩,
      ⟨(some 7), .call 14 [(.t 6), (.c (.int .i64 60))], none, [0]⟩,
      ⟨(some 8), .arith .mul (.t 7) (.c (.int .i64 1000000)), none, [0, 1]⟩,
      ⟨(some 9), .bslice 5 [.int .i64 0] [(0, (.c (.int .i64 0))), (1, (.c (.int .i64 20))), (2, (.c (.int .i64 50))), (3, (.c (.int .i64 1000))), (4, (.c (.int .i64 10000)))], none, []⟩,
      ⟨(some 10), .mov (.t 0), none, []⟩,
      ⟨(some 11), .call 14 [(.t 10), (.c (.int .i64 5))], none, [0, 1, 4]⟩,
      ⟨(some 12), .iaddrS [.int .i64 0] (.t 9) (.t 11), none, [4, 1, 0, 5, 3]⟩,
      ⟨(some 13), .load 1 false (.t 12), none, [3, 5, 0, 1, 4, 6]⟩,
      ⟨(some 14), .bslice 5 [.int .i64 0] [(0, (.c (.int .i64 0))), (1, (.c (.int .i64 1))), (2, (.c (.int .i64 5))), (3, (.c (.int .i64 100))), (4, (.c (.int .i64 10000)))], none, []⟩,
      ⟨(some 15), .mov (.t 0), none, []⟩,
      ⟨(some 16), .call 14 [(.t 15), (.c (.int .i64 5))], none, [4, 1, 0, 5, 9]⟩,
      ⟨(some 17), .iaddrS [.int .i64 0] (.t 14) (.t 16), none, [9, 5, 0, 1, 4, 10, 8]⟩,
      ⟨(some 18), .load 1 false (.t 17), none, [8, 10, 4, 1, 0, 5, 9, 11]⟩,
      ⟨(some 19), .bslice 3 [.int .i64 0] [(0, (.c (.int .i64 0))), (1, (.c (.int .i64 200))), (2, (.c (.int .i64 1000)))], none, []⟩,
      ⟨(some 20), .mov (.t 0), none, []⟩,
      ⟨(some 21), .call 14 [(.t 20), (.c (.int .i64 3))], none, [9, 5, 0, 1, 4, 10, 14]⟩,
      ⟨(some 22), .iaddrS [.int .i64 0] (.t 19) (.t 21), none, [14, 10, 4, 1, 0, 5, 9, 15, 13]⟩,
      ⟨(some 23), .load 1 false (.t 22), none, [13, 15, 9, 5, 0, 1, 4, 10, 14, 16]⟩,
      ⟨(some 24), .bslice 3 [.int .i64 0] [(0, (.c (.int .i64 1000))), (1, (.c (.int .i64 600))), (2, (.c (.int .i64 200)))], none, []⟩,
      ⟨(some 25), .mov (.t 0), none, []⟩,
      ⟨(some 26), .call 14 [(.t 25), (.c (.int .i64 3))], none, [14, 10, 4, 1, 0, 5, 9, 15, 19]⟩,
      ⟨(some 27), .iaddrS [.int .i64 0] (.t 24) (.t 26), none, [19, 15, 9, 5, 0, 1, 4, 10, 14, 20, 18]⟩,
      ⟨(some 28), .load 1 false (.t 27), none, [18, 20, 14, 10, 4, 1, 0, 5, 9, 15, 19, 21]⟩,
      ⟨(some 29), .bslice 4 [.int .i64 0] [(0, (.c (.int .i64 1))), (1, (.c (.int .i64 10))), (2, (.c (.int .i64 50))), (3, (.c (.int .i64 1000)))], none, []⟩,
      ⟨(some 30), .mov (.t 0), none, []⟩,
      ⟨(some 31), .call 14 [(.t 30), (.c (.int .i64 4))], none, [19, 15, 9, 5, 0, 1, 4, 10, 14, 20, 24]⟩,
      ⟨(some 32), .iaddrS [.int .i64 0] (.t 29) (.t 31), none, [24, 20, 14, 10, 4, 1, 0, 5, 9, 15, 19, 25, 23]⟩,
      ⟨(some 33), .load 1 false (.t 32), none, [23, 25, 19, 15, 9, 5, 0, 1, 4, 10, 14, 20, 24, 26]⟩,
      ⟨(some 34), .build [.nil, .int .i64 0, .int .i64 0, .int .i64 0, .int .i64 0, .int .i64 0, .int .i64 0] [(1, 1, (.t 8)), (2, 1, (.t 13)), (3, 1, (.t 18)), (4, 1, (.t 23)), (5, 1, (.t 28)), (6, 1, (.t 33))], none, [26, 24, 25, 23, 21, 19, 20, 18, 16, 14, 15, 13, 11, 9, 10, 8, 6, 4, 5, 3, 1, 0, 27, 22, 17, 12, 7, 2]⟩,
      ⟨(some 3), .alloc [.nil, .int .i64 0, .int .i64 0, .int .i64 0, .int .i64 0, .int .i64 0, .int .i64 0], none, []⟩,
      ⟨none, .store 7 (.t 3) (.t 34), none, [27, 26, 24, 23, 22, 21, 20, 19, 18, 17, 16, 15, 14, 13, 12, 11, 10, 9, 8, 7, 6, 5, 4, 3, 2, 1, 0, 25, 28, 29]⟩] true)
    (.seq
     (.seq
      (.region [
        ⟨(some 35), .mov (.t 0), none, []⟩,
        ⟨(some 36), .call 14 [(.t 35), (.c (.int .i64 3))], none, [0]⟩,
        ⟨(some 4), .mov (.c (.int .i64 0)), none, [1]⟩,
        ⟨(some 5), .mov (.t 36), none, [1, 2, 0, 1, 2]⟩] false)
      (.block 0
       (.loop 0
        (.seq
         (.seq
          (.region [
            ⟨(some 37), .mov (.t 4), none, []⟩,
            ⟨(some 38), .mov (.t 5), none, []⟩,
            ⟨(some 39), .cmp .leq 0 (.t 37) (.t 38), none, [0, 1]⟩] false)
          (.cond (.t 39)
           .skip
           (.exit 0)))
         (.seq
          (.block 1
           (.region [
             ⟨(some 42), .faddr 0 (.t 3), none, []⟩,
             ⟨(some 43), .load 1 false (.t 42), none, [0]⟩,
             ⟨(some 44), .mov (.t 4), none, []⟩,
             ⟨(some 45), .arith .mul (.c (.int .i64 3)) (.t 44), none, [2]⟩,
             ⟨(some 46), .arith .add (.t 45) (.c (.int .i64 1)), none, [3]⟩,
             ⟨(some 47), .conv .u8 (.t 46), none, [4]⟩,
             ⟨(some 48), .bsliceO 5 1 [.int .u8 0] [(0, (.t 47))], none, [5]⟩,
             ⟨(some 49), .append 5 1 [.int .u8 0] (.t 43) (.t 48), none, [1, 6]⟩,
             ⟨(some 50), .faddr 0 (.t 3), none, [0, 1, 2, 3, 4, 5, 6, 7]⟩,
             ⟨none, .store 1 (.t 50) (.t 49), none, [8, 7, 7, 0, 1, 2, 3, 4, 5, 6, 7]⟩] false))
          (.region [
            ⟨(some 40), .mov (.t 4), none, []⟩,
            ⟨(some 41), .arith .add (.t 40) (.c (.int .i64 1)), none, [0]⟩,
            ⟨(some 4), .mov (.t 41), none, [1, 0, 1]⟩] false))))))
     (.seq
      (.seq
       (.region [
         ⟨(some 51), .mov (.t 0), none, []⟩,
         ⟨(some 52), .call 14 [(.t 51), (.c (.int .i64 20))], none, [0]⟩] false)
       (.block 2
        (.seq
         (.region [
           ⟨(some 54), .cmp .eql 0 (.t 52) (.c (.int .i64 19)), none, []⟩,
           ⟨(some 53), .mov (.t 54), none, [0]⟩] false)
         (.cond (.t 53)
          (.region [
            ⟨(some 55), .bsliceO 3 2 [.int .i64 0] [(0, (.c (.int .i64 0))), (1, (.c (.int .i64 1001)))], none, []⟩,
            ⟨(some 56), .mov (.t 0), none, []⟩,
            ⟨(some 57), .call 14 [(.t 56), (.c (.int .i64 2))], none, [1]⟩,
            ⟨(some 58), .iaddrS [.int .i64 0] (.t 55) (.t 57), none, [0, 2]⟩,
            ⟨(some 59), .load 1 false (.t 58), none, [3]⟩,
            ⟨(some 60), .faddr 6 (.t 3), none, [0, 1, 2, 3, 4]⟩,
            ⟨none, .store 1 (.t 60) (.t 59), none, [5, 4, 2, 0, 1, 2, 3, 4]⟩] false)
          (.seq
           (.region [
             ⟨(some 62), .cmp .eql 0 (.t 52) (.c (.int .i64 18)), none, []⟩,
             ⟨(some 61), .mov (.t 62), none, [0]⟩] false)
           (.cond (.t 61)
            (.region [
              ⟨(some 63), .bsliceO 5 2 [.int .u8 0] [(0, (.c (.int .u8 2))), (1, (.c (.int .u8 2)))], none, []⟩,
              ⟨(some 64), .faddr 0 (.t 3), none, [0]⟩,
              ⟨none, .store 1 (.t 64) (.t 63), none, [1, 0, 0]⟩] false)
            .skip))))))
      (.seq
       (.region [
         ⟨(some 65), .load 7 true (.t 3), none, []⟩,
         ⟨none, .store 7 (.t 2) (.t 65), none, [0, 0]⟩] false)
       .ret)))))
def rv11 : List RV := [.c 2 7 true]
theorem rc11_ok : comp Try.prog Try.f11.ntmps (Try.f11.body.getD .skip) = some (erase rc11) := by kernel_rfl
theorem rv11_ok : compRes Try.prog Try.f11.results.toList = some rv11 := by kernel_rfl

/-- (*baseboard/baseboardfield.Codes).Speed [30, 24] -/
def rc12 : RC :=
  (.seq
   (.region [
     ⟨(some 3), .box 7 (.t 1), none, []⟩,
     ⟨(some 4), .alloc [.int .i64 0, .int .i64 0], none, []⟩] false)
   (.seq
    (.region [
      ⟨(some 6), .faddr 4 (.t 3), none, []⟩,
      ⟨(some 7), .load 1 false (.t 6), none, [0]⟩,
      ⟨(some 8), .build [.int .i64 0, .int .i64 0] [(0, 1, (.t 7))], none, [1]⟩,
      ⟨(some 5), .alloc [.int .i64 0, .int .i64 0], none, []⟩,
      ⟨none, .store 2 (.t 5) (.t 8), none, [3, 2, 0, 1, 2, 3]⟩] false)
    (.seq
     (.seq
      (.region [
        ⟨(some 9), .faddr 5 (.t 3), none, []⟩,
        ⟨(some 10), .load 1 false (.t 9), none, [0]⟩,
        ⟨(some 11), .faddr 4 (.t 3), none, []⟩,
        ⟨(some 12), .load 1 false (.t 11), none, [2]⟩,
        ⟨(some 13), .cmp .gtr 0 (.t 10) (.t 12), none, [1, 3]⟩] false)
      (.cond (.t 13)
       (.seq
        (.region [
          ⟨(some 14), .faddr 0 (.t 5), none, []⟩,
          ⟨(some 15), .load 1 false (.t 14), none, [0]⟩,
          ⟨(some 16), .mov (.t 0), none, []⟩,
          ⟨(some 17), .faddr 5 (.t 3), none, []⟩,
          ⟨(some 18), .load 1 false (.t 17), none, [3]⟩,
          ⟨(some 19), .faddr 4 (.t 3), none, []⟩,
          ⟨(some 20), .load 1 false (.t 19), none, [5]⟩,
          ⟨(some 21), .arith .sub (.t 18) (.t 20), none, [5, 3, 6, 4]⟩,
          ⟨(some 22), .arith .add (.t 21) (.c (.int .i64 1)), none, [4, 6, 3, 5, 7]⟩,
          ⟨(some 23), .call 14 [(.t 16), (.t 22)], none, [7, 5, 3, 6, 4, 8, 2]⟩,
          ⟨(some 24), .arith .add (.t 15) (.t 23), none, [2, 8, 4, 6, 3, 5, 7, 0, 9, 1]⟩,
          ⟨(some 25), .faddr 0 (.t 5), none, [10, 9, 8, 7, 6, 5, 4, 3, 2, 1, 0]⟩,
          ⟨none, .store 1 (.t 25) (.t 24), none, [8, 7, 6, 5, 4, 3, 2, 1, 0, 9, 10, 11]⟩] true)
        (.region [
          ⟨(some 26), .mov (.t 0), none, []⟩,
          ⟨(some 27), .call 14 [(.t 26), (.c (.int .i64 1000))], none, [0]⟩,
          ⟨(some 28), .faddr 5 (.t 3), none, []⟩,
          ⟨(some 29), .load 1 false (.t 28), none, [2]⟩,
          ⟨(some 30), .faddr 4 (.t 3), none, []⟩,
          ⟨(some 31), .load 1 false (.t 30), none, [4]⟩,
          ⟨(some 32), .arith .sub (.t 29) (.t 31), none, [4, 2, 5, 3]⟩,
          ⟨(some 33), .arith .mul (.t 27) (.t 32), none, [3, 5, 2, 4, 0, 6, 1]⟩,
          ⟨(some 34), .faddr 1 (.t 5), none, [7, 6, 5, 4, 3, 2, 1, 0]⟩,
          ⟨none, .store 1 (.t 34) (.t 33), none, [6, 5, 4, 3, 2, 0, 1, 7, 8]⟩] true))
       .skip))
     (.seq
      (.seq
       (.region [
         ⟨(some 35), .mov (.t 0), none, []⟩,
         ⟨(some 36), .call 14 [(.t 35), (.c (.int .i64 20))], none, [0]⟩,
         ⟨(some 37), .cmp .eql 0 (.t 36) (.c (.int .i64 19)), none, [1]⟩] false)
       (.cond (.t 37)
        (.region [
          ⟨(some 38), .bsliceO 2 2 [.int .i64 0] [(0, (.c (.int .i64 (-1)))), (1, (.c (.int .i64 1099511627776)))], none, []⟩,
          ⟨(some 39), .mov (.t 0), none, []⟩,
          ⟨(some 40), .call 14 [(.t 39), (.c (.int .i64 2))], none, [1]⟩,
          ⟨(some 41), .iaddrS [.int .i64 0] (.t 38) (.t 40), none, [0, 2]⟩,
          ⟨(some 42), .load 1 false (.t 41), none, [3]⟩,
          ⟨(some 43), .faddr 1 (.t 5), none, [0, 1, 2, 3, 4]⟩,
          ⟨none, .store 1 (.t 43) (.t 42), none, [5, 4, 2, 0, 1, 2, 3, 4]⟩] false)
        .skip))
      (.seq
       (.region [
         ⟨(some 44), .load 2 true (.t 5), none, []⟩,
         ⟨none, .store 2 (.t 4) (.t 44), none, [0, 0]⟩] false)
       .ret)))))
def rv12 : List RV := [.c 4 2 true]
theorem rc12_ok : comp Try.prog Try.f12.ntmps (Try.f12.body.getD .skip) = some (erase rc12) := by kernel_rfl
theorem rv12_ok : compRes Try.prog Try.f12.results.toList = some rv12 := by kernel_rfl

/-- (*baseboard/baseboardfield.Codes).Readings [30, 24] -/
def rc13 : RC :=
  (.seq
   (.region [
     ⟨(some 3), .box 7 (.t 1), none, []⟩,
     ⟨(some 4), .mov (.c (.nil)), none, []⟩,
     ⟨(some 5), .mov (.c (.nil)), none, [1]⟩] false)
   (.seq
    (.region [
      ⟨(some 6), .mov (.c (.nil)), none, []⟩] false)
    (.seq
     (.region [
       ⟨(some 7), .mov (.c (.nil)), none, []⟩] false)
     (.seq
      (.seq
       (.region [
         ⟨(some 9), .faddr 0 (.t 3), none, []⟩,
         ⟨(some 10), .load 1 false (.t 9), none, [0]⟩,
         ⟨(some 11), .len 0 (.t 10), none, [1]⟩,
         ⟨(some 12), .mov (.c (.int .i64 0)), none, []⟩] false)
       (.block 0
        (.loop 0
         (.seq
          (.region [
            ⟨(some 13), .cmp .lss 0 (.t 12) (.t 11), none, []⟩] false)
          (.seq
           (.cond (.t 13)
            .skip
            (.exit 0))
           (.seq
            (.block 1
             (.seq
              (.region [
                ⟨(some 14), .faddr 1 (.t 3), none, []⟩,
                ⟨(some 15), .load 1 false (.t 14), none, [0]⟩,
                ⟨(some 16), .mov (.t 0), none, []⟩,
                ⟨(some 17), .call 14 [(.t 16), (.c (.int .i64 40))], none, [2]⟩,
                ⟨(some 18), .arith .sub (.t 17) (.c (.int .i64 20)), none, [2, 3]⟩,
                ⟨(some 19), .bslice 5 [.int .i64 0] [(0, (.c (.int .i64 1))), (1, (.c (.int .i64 999))), (2, (.c (.int .i64 1000))), (3, (.c (.int .i64 1000000))), (4, (.c (.int .i64 100000000000)))], none, []⟩,
                ⟨(some 20), .mov (.t 0), none, []⟩,
                ⟨(some 21), .call 14 [(.t 20), (.c (.int .i64 5))], none, [2, 3, 6]⟩,
                ⟨(some 22), .iaddrS [.int .i64 0] (.t 19) (.t 21), none, [6, 3, 2, 7, 5]⟩,
                ⟨(some 23), .load 1 false (.t 22), none, [5, 7, 2, 3, 6, 8]⟩,
                ⟨(some 24), .arith .mul (.t 18) (.t 23), none, [8, 6, 7, 5, 3, 2, 9, 4]⟩,
                ⟨(some 25), .arith .add (.t 15) (.t 24), none, [4, 9, 2, 3, 5, 7, 6, 8, 0, 10, 1]⟩,
                ⟨(some 8), .mov (.t 25), none, [10, 9, 8, 6, 5, 4, 3, 2, 1, 0, 7, 11]⟩] true)
              (.region [
                ⟨(some 26), .mov (.t 6), none, []⟩,
                ⟨(some 27), .mov (.t 8), none, []⟩,
                ⟨(some 28), .bsliceO 2 1 [.int .i64 0] [(0, (.t 27))], none, [1]⟩,
                ⟨(some 29), .append 2 8 [.int .i64 0] (.t 26) (.t 28), none, [0, 2]⟩,
                ⟨(some 30), .mov (.t 7), none, []⟩,
                ⟨(some 31), .mov (.t 0), none, []⟩,
                ⟨(some 32), .call 14 [(.t 31), (.c (.int .i64 10))], none, [5, 3]⟩,
                ⟨(some 33), .cmp .lss 0 (.t 32) (.c (.int .i64 9)), none, [6]⟩,
                ⟨(some 34), .bsliceO 4 1 [.bool false] [(0, (.t 33))], none, [7]⟩,
                ⟨(some 35), .append 4 1 [.bool false] (.t 30) (.t 34), none, [4, 8, 6]⟩,
                ⟨(some 6), .mov (.t 29), none, [3, 9, 0, 1, 2, 3]⟩,
                ⟨(some 7), .mov (.t 35), none, [9, 10, 0, 1, 2, 3, 4, 5, 6, 7, 8, 9, 10]⟩] false)))
            (.region [
              ⟨(some 36), .arith .add (.t 12) (.c (.int .i64 1)), none, []⟩,
              ⟨(some 12), .mov (.t 36), none, [0]⟩] false)))))))
      (.seq
       (.seq
        (.region [
          ⟨(some 37), .mov (.t 0), none, []⟩,
          ⟨(some 38), .call 14 [(.t 37), (.c (.int .i64 20))], none, [0]⟩,
          ⟨(some 39), .cmp .eql 0 (.t 38) (.c (.int .i64 19)), none, [1]⟩] false)
        (.cond (.t 39)
         (.region [
           ⟨(some 40), .mov (.t 6), none, []⟩,
           ⟨(some 41), .bsliceO 2 1 [.int .i64 0] [(0, (.c (.int .i64 0)))], none, []⟩,
           ⟨(some 42), .append 2 8 [.int .i64 0] (.t 40) (.t 41), none, [0, 1]⟩,
           ⟨(some 6), .mov (.t 42), none, [2, 2, 0, 1, 2]⟩] false)
         .skip))
       (.seq
        (.region [
          ⟨(some 43), .mov (.t 6), none, []⟩,
          ⟨(some 44), .mov (.t 7), none, []⟩,
          ⟨(some 4), .mov (.t 43), none, [0, 0]⟩,
          ⟨(some 5), .mov (.t 44), none, [1, 2, 0, 1, 2]⟩] false)
        .ret))))))
def rv13 : List RV := [.t 4, .t 5]
theorem rc13_ok : comp Try.prog Try.f13.ntmps (Try.f13.body.getD .skip) = some (erase rc13) := by kernel_rfl
theorem rv13_ok : compRes Try.prog Try.f13.results.toList = some rv13 := by kernel_rfl

/-- (*baseboard/baseboardfield.Codes).Next [30, 3] -/
def rc14 : RC :=
  (.seq
   (.region [
     ⟨(some 4), .mov (.c (.int .i64 0)), none, []⟩] false)
   (.seq
    (.seq
     (.region [
       ⟨(some 6), .mov (.t 0), none, []⟩,
       ⟨(some 7), .call 24 [(.t 6)], none, [0]⟩,
       ⟨(some 8), .not (.t 7), none, [1]⟩,
       ⟨(some 9), .mov (.t 8), none, [2, 1]⟩,
       ⟨(some 10), .mov (.t 1), (some (9, false)), [3]⟩,
       ⟨(some 11), .cmp .lss 0 (.t 10) (.c (.int .i64 1)), (some (9, false)), [4, 3]⟩,
       ⟨(some 12), .pick (.t 9) (.c (.bool true)) (.t 11), none, [3, 5]⟩] false)
     (.cond (.t 12)
      (.seq
       (.region [
         ⟨(some 4), .mov (.c (.int .i64 0)), none, []⟩] false)
       .ret)
      .skip))
    (.seq
     (.region [
       ⟨(some 13), .mov (.t 0), none, []⟩,
       ⟨(some 14), .nilchk (.t 13), none, [0]⟩,
       ⟨(some 15), .faddr 0 (.t 14), none, [0, 1]⟩,
       ⟨(some 16), .load 1 false (.t 15), none, [1, 0, 2]⟩,
       ⟨(some 17), .mov (.t 0), none, []⟩,
       ⟨(some 18), .nilchk (.t 17), none, [4]⟩,
       ⟨(some 19), .faddr 1 (.t 18), none, [4, 5]⟩,
       ⟨(some 20), .load 1 false (.t 19), none, [5, 4, 6]⟩,
       ⟨(some 21), .iaddrS [.int .u8 0] (.t 16) (.t 20), none, [6, 4, 5, 2, 0, 1, 7, 3]⟩,
       ⟨(some 22), .load 1 false (.t 21), none, [3, 7, 1, 0, 2, 5, 4, 6, 8]⟩,
       ⟨(some 23), .conv .i64 (.t 22), none, [8, 6, 4, 5, 2, 0, 1, 7, 3, 9]⟩,
       ⟨(some 5), .mov (.t 23), none, [9, 8, 7, 6, 5, 4, 3, 2, 1, 0, 10]⟩] true)
     (.seq
      (.region [
        ⟨(some 24), .mov (.t 0), none, []⟩,
        ⟨(some 25), .nilchk (.t 24), none, [0]⟩,
        ⟨(some 26), .faddr 1 (.t 25), none, [1]⟩,
        ⟨(some 27), .load 1 false (.t 26), none, [2]⟩,
        ⟨(some 28), .arith .add (.t 27) (.c (.int .i64 1)), none, [3]⟩,
        ⟨(some 29), .nilchk (.t 24), none, [0, 0, 1, 2, 3, 4]⟩,
        ⟨(some 30), .faddr 1 (.t 29), none, [5, 0, 1, 2, 3, 4]⟩,
        ⟨none, .store 1 (.t 30) (.t 28), none, [6, 4, 0, 1, 2, 3, 4]⟩] false)
      (.seq
       (.seq
        (.region [
          ⟨(some 31), .mov (.t 1), none, []⟩,
          ⟨(some 32), .cmp .gtr 0 (.t 31) (.c (.int .i64 256)), none, [0]⟩,
          ⟨(some 33), .mov (.t 32), none, [1]⟩,
          ⟨(some 34), .mov (.t 0), (some (33, true)), [2]⟩,
          ⟨(some 35), .call 24 [(.t 34)], (some (33, true)), [3, 2, 2]⟩,
          ⟨(some 36), .pick (.t 33) (.t 35) (.c (.bool false)), none, [2, 4]⟩] false)
        (.cond (.t 36)
         (.seq
          (.region [
            ⟨(some 37), .mov (.t 5), none, []⟩,
            ⟨(some 38), .mov (.t 0), none, []⟩,
            ⟨(some 39), .nilchk (.t 38), none, [1]⟩,
            ⟨(some 40), .faddr 0 (.t 39), none, [1, 2]⟩,
            ⟨(some 41), .load 1 false (.t 40), none, [2, 1, 3]⟩,
            ⟨(some 42), .mov (.t 0), none, []⟩,
            ⟨(some 43), .nilchk (.t 42), none, [5]⟩,
            ⟨(some 44), .faddr 1 (.t 43), none, [5, 6]⟩,
            ⟨(some 45), .load 1 false (.t 44), none, [6, 5, 7]⟩,
            ⟨(some 46), .iaddrS [.int .u8 0] (.t 41) (.t 45), none, [7, 5, 6, 3, 1, 2, 8, 4]⟩,
            ⟨(some 47), .load 1 false (.t 46), none, [4, 8, 2, 1, 3, 6, 5, 7, 9]⟩,
            ⟨(some 48), .conv .i64 (.t 47), none, [9, 7, 5, 6, 3, 1, 2, 8, 4, 10]⟩,
            ⟨(some 49), .shl 8 (.t 48), none, [10, 4, 8, 2, 1, 3, 6, 5, 7, 9, 11]⟩,
            ⟨(some 50), .arith .or (.t 37) (.t 49), none, [11, 9, 7, 5, 6, 3, 1, 2, 8, 4, 10, 12, 0]⟩,
            ⟨(some 5), .mov (.t 50), none, [12, 11, 10, 9, 8, 7, 6, 5, 4, 3, 2, 1, 0, 13]⟩] true)
          (.region [
            ⟨(some 51), .mov (.t 0), none, []⟩,
            ⟨(some 52), .nilchk (.t 51), none, [0]⟩,
            ⟨(some 53), .faddr 1 (.t 52), none, [1]⟩,
            ⟨(some 54), .load 1 false (.t 53), none, [2]⟩,
            ⟨(some 55), .arith .add (.t 54) (.c (.int .i64 1)), none, [3]⟩,
            ⟨(some 56), .nilchk (.t 51), none, [0, 0, 1, 2, 3, 4]⟩,
            ⟨(some 57), .faddr 1 (.t 56), none, [5, 0, 1, 2, 3, 4]⟩,
            ⟨none, .store 1 (.t 57) (.t 55), none, [6, 4, 0, 1, 2, 3, 4]⟩] false))
         .skip))
       (.seq
        (.region [
          ⟨(some 58), .mov (.t 5), none, []⟩,
          ⟨(some 59), .mov (.t 1), none, []⟩,
          ⟨(some 60), .arith .rem (.t 58) (.t 59), none, [0, 1]⟩,
          ⟨(some 4), .mov (.t 60), none, [2, 0, 1, 2]⟩] false)
        .ret))))))
def rv14 : List RV := [.t 4]
theorem rc14_ok : comp Try.prog Try.f14.ntmps (Try.f14.body.getD .skip) = some (erase rc14) := by kernel_rfl
theorem rv14_ok : compRes Try.prog Try.f14.results.toList = some rv14 := by kernel_rfl

/-- baseboard/baseboardlaw41.same [24, 26, 27, 28, 3] -/
def rc15 : RC :=
  (.seq
   (.region [
     ⟨(some 5), .box 7 (.t 0), none, []⟩,
     ⟨(some 6), .box 2 (.t 1), none, []⟩,
     ⟨(some 10), .mov (.c (.bool false)), none, []⟩] false)
   (.seq
    (.region [
      ⟨(some 24), .load 7 true (.t 5), none, []⟩,
      ⟨(some 25), .call 16 [(.t 24)], none, [0]⟩,
      ⟨(some 23), .mov (.t 25), none, [1]⟩,
      ⟨(some 26), .extract 0 (.t 23), none, [2]⟩,
      ⟨(some 27), .extract 1 (.t 23), none, [2]⟩,
      ⟨(some 11), .alloc [.int .i64 0, .int .i64 0], none, []⟩,
      ⟨none, .store 2 (.t 11) (.t 26), none, [5, 3, 1, 0, 1, 2, 3, 5]⟩,
      ⟨(some 12), .mov (.t 27), none, [4, 6, 0, 1, 2, 3, 4, 5, 6]⟩] false)
    (.seq
     (.region [
       ⟨(some 29), .load 7 true (.t 5), none, []⟩,
       ⟨(some 30), .call 25 [(.t 29)], none, [0]⟩,
       ⟨(some 28), .mov (.t 30), none, [1]⟩,
       ⟨(some 31), .extract 0 (.t 28), none, [2]⟩,
       ⟨(some 32), .extract 1 (.t 28), none, [2]⟩,
       ⟨(some 13), .alloc [.int .i64 0, .int .i64 0], none, []⟩,
       ⟨none, .store 2 (.t 13) (.t 31), none, [5, 3, 1, 0, 1, 2, 3, 5]⟩,
       ⟨(some 14), .mov (.t 32), none, [4, 6, 0, 1, 2, 3, 4, 5, 6]⟩] false)
     (.seq
      (.region [
        ⟨(some 34), .load 7 true (.t 5), none, []⟩,
        ⟨(some 35), .mov (.t 2), none, []⟩,
        ⟨(some 36), .mov (.t 3), none, []⟩,
        ⟨(some 37), .call 20 [(.t 34), (.t 35), (.t 36)], none, [0, 1, 2]⟩,
        ⟨(some 33), .mov (.t 37), none, [3]⟩,
        ⟨(some 38), .extract 0 (.t 33), none, [4]⟩,
        ⟨(some 39), .extract 1 (.t 33), none, [4]⟩,
        ⟨(some 15), .mov (.t 38), none, [5, 3, 0, 1, 2, 3, 4, 5]⟩,
        ⟨(some 16), .mov (.t 39), none, [6, 7, 0, 1, 2, 3, 4, 5, 6, 7]⟩] false)
      (.seq
       (.region [
         ⟨(some 41), .load 7 true (.t 5), none, []⟩,
         ⟨(some 42), .mov (.t 2), none, []⟩,
         ⟨(some 43), .mov (.t 3), none, []⟩,
         ⟨(some 44), .call 26 [(.t 41), (.t 42), (.t 43)], none, [0, 1, 2]⟩,
         ⟨(some 40), .mov (.t 44), none, [3]⟩,
         ⟨(some 45), .extract 0 (.t 40), none, [4]⟩,
         ⟨(some 46), .extract 1 (.t 40), none, [4]⟩,
         ⟨(some 17), .mov (.t 45), none, [5, 3, 0, 1, 2, 3, 4, 5]⟩,
         ⟨(some 18), .mov (.t 46), none, [6, 7, 0, 1, 2, 3, 4, 5, 6, 7]⟩] false)
       (.seq
        (.region [
          ⟨(some 48), .load 7 true (.t 5), none, []⟩,
          ⟨(some 49), .load 2 true (.t 6), none, []⟩,
          ⟨(some 50), .mov (.t 2), none, []⟩,
          ⟨(some 51), .mov (.t 3), none, []⟩,
          ⟨(some 52), .call 18 [(.t 48), (.t 49), (.t 50), (.t 51)], none, [0, 1, 2, 3]⟩,
          ⟨(some 47), .mov (.t 52), none, [4]⟩,
          ⟨(some 53), .extract 0 (.t 47), none, [5]⟩,
          ⟨(some 54), .extract 1 (.t 47), none, [5]⟩,
          ⟨(some 19), .alloc [.int .i64 0, .int .i64 0], none, []⟩,
          ⟨none, .store 2 (.t 19) (.t 53), none, [8, 6, 4, 0, 1, 2, 3, 4, 5, 6, 8]⟩,
          ⟨(some 20), .mov (.t 54), none, [7, 9, 0, 1, 2, 3, 4, 5, 6, 7, 8, 9]⟩] false)
        (.seq
         (.region [
           ⟨(some 56), .load 7 true (.t 5), none, []⟩,
           ⟨(some 57), .load 2 true (.t 6), none, []⟩,
           ⟨(some 58), .mov (.t 2), none, []⟩,
           ⟨(some 59), .mov (.t 3), none, []⟩,
           ⟨(some 60), .call 27 [(.t 56), (.t 57), (.t 58), (.t 59)], none, [0, 1, 2, 3]⟩,
           ⟨(some 55), .mov (.t 60), none, [4]⟩,
           ⟨(some 61), .extract 0 (.t 55), none, [5]⟩,
           ⟨(some 62), .extract 1 (.t 55), none, [5]⟩,
           ⟨(some 21), .alloc [.int .i64 0, .int .i64 0], none, []⟩,
           ⟨none, .store 2 (.t 21) (.t 61), none, [8, 6, 4, 0, 1, 2, 3, 4, 5, 6, 8]⟩,
           ⟨(some 22), .mov (.t 62), none, [7, 9, 0, 1, 2, 3, 4, 5, 6, 7, 8, 9]⟩] false)
         (.seq
          (.region [
            ⟨(some 63), .load 7 true (.t 5), none, []⟩,
            ⟨(some 64), .call 17 [(.t 63)], none, [0]⟩,
            ⟨(some 65), .load 7 true (.t 5), none, []⟩,
            ⟨(some 66), .call 28 [(.t 65)], none, [0, 1, 2]⟩,
            ⟨(some 67), .cmp .eql 1 (.t 64) (.t 66), none, [2, 0, 3, 1]⟩,
            ⟨(some 68), .mov (.t 67), none, [1, 0, 2, 3, 4]⟩,
            ⟨(some 69), .load 7 true (.t 5), (some (68, true)), [4, 3, 2, 0, 1, 5]⟩,
            ⟨(some 70), .load 2 true (.t 6), (some (68, true)), [4, 3, 2, 0, 1, 5]⟩,
            ⟨(some 71), .call 19 [(.t 69), (.t 70)], (some (68, true)), [1, 0, 2, 3, 4, 5, 7, 6]⟩,
            ⟨(some 72), .load 7 true (.t 5), (some (68, true)), [4, 3, 2, 0, 1, 5]⟩,
            ⟨(some 73), .load 2 true (.t 6), (some (68, true)), [4, 3, 2, 0, 1, 5]⟩,
            ⟨(some 74), .call 29 [(.t 72), (.t 73)], (some (68, true)), [6, 7, 1, 0, 2, 3, 4, 5, 8, 10, 9]⟩,
            ⟨(some 75), .cmp .eql 1 (.t 71) (.t 74), (some (68, true)), [9, 10, 6, 7, 4, 3, 2, 0, 1, 5, 11, 8]⟩,
            ⟨(some 76), .pick (.t 68) (.t 75) (.c (.bool false)), none, [8, 11, 7, 6, 10, 9, 4, 3, 2, 0, 1, 12, 5]⟩,
            ⟨(some 77), .mov (.t 76), none, [5, 12, 1, 0, 2, 3, 4, 9, 10, 6, 7, 8, 11, 13]⟩,
            ⟨(some 78), .mov (.t 12), (some (77, true)), [13, 11, 8, 7, 6, 10, 9, 4, 3, 2, 0, 1, 12, 5, 14]⟩,
            ⟨(some 79), .mov (.t 14), (some (77, true)), [13, 11, 8, 7, 6, 10, 9, 4, 3, 2, 0, 1, 12, 5, 14]⟩,
            ⟨(some 80), .cmp .eql 0 (.t 78) (.t 79), (some (77, true)), [5, 12, 1, 0, 2, 3, 4, 9, 10, 6, 7, 8, 11, 13, 14, 16, 15]⟩,
            ⟨(some 81), .pick (.t 77) (.t 80) (.c (.bool false)), none, [15, 16, 13, 11, 8, 7, 6, 10, 9, 4, 3, 2, 0, 1, 12, 5, 17, 14]⟩,
            ⟨(some 82), .mov (.t 81), none, [17, 5, 12, 1, 0, 2, 3, 4, 9, 10, 6, 7, 8, 11, 13, 16, 15, 14, 18]⟩,
            ⟨(some 83), .load 2 true (.t 11), (some (82, true)), [18, 14, 15, 16, 13, 11, 8, 7, 6, 10, 9, 4, 3, 2, 0, 1, 12, 5, 17, 19]⟩,
            ⟨(some 84), .load 2 true (.t 13), (some (82, true)), [18, 14, 15, 16, 13, 11, 8, 7, 6, 10, 9, 4, 3, 2, 0, 1, 12, 5, 17, 19]⟩,
            ⟨(some 85), .eqa false [0, 0] (.t 83) (.t 84), (some (82, true)), [17, 5, 12, 1, 0, 2, 3, 4, 9, 10, 6, 7, 8, 11, 13, 16, 15, 14, 18, 19, 21, 20]⟩,
            ⟨(some 86), .pick (.t 82) (.t 85) (.c (.bool false)), none, [20, 21, 18, 14, 15, 16, 13, 11, 8, 7, 6, 10, 9, 4, 3, 2, 0, 1, 12, 5, 17, 22, 19]⟩,
            ⟨(some 87), .mov (.t 86), none, [22, 17, 5, 12, 1, 0, 2, 3, 4, 9, 10, 6, 7, 8, 11, 13, 16, 15, 14, 18, 21, 20, 19, 23]⟩,
            ⟨(some 88), .mov (.t 16), (some (87, true)), [23, 19, 20, 21, 18, 14, 15, 16, 13, 11, 8, 7, 6, 10, 9, 4, 3, 2, 0, 1, 12, 5, 17, 22, 24]⟩,
            ⟨(some 89), .mov (.t 18), (some (87, true)), [23, 19, 20, 21, 18, 14, 15, 16, 13, 11, 8, 7, 6, 10, 9, 4, 3, 2, 0, 1, 12, 5, 17, 22, 24]⟩,
            ⟨(some 90), .cmp .eql 1 (.t 88) (.t 89), (some (87, true)), [22, 17, 5, 12, 1, 0, 2, 3, 4, 9, 10, 6, 7, 8, 11, 13, 16, 15, 14, 18, 21, 20, 19, 23, 24, 26, 25]⟩,
            ⟨(some 91), .pick (.t 87) (.t 90) (.c (.bool false)), none, [25, 26, 23, 19, 20, 21, 18, 14, 15, 16, 13, 11, 8, 7, 6, 10, 9, 4, 3, 2, 0, 1, 12, 5, 17, 22, 27, 24]⟩,
            ⟨(some 92), .mov (.t 91), none, [27, 22, 17, 5, 12, 1, 0, 2, 3, 4, 9, 10, 6, 7, 8, 11, 13, 16, 15, 14, 18, 21, 20, 19, 23, 26, 25, 24, 28]⟩,
            ⟨(some 93), .mov (.t 15), (some (92, true)), [28, 24, 25, 26, 23, 19, 20, 21, 18, 14, 15, 16, 13, 11, 8, 7, 6, 10, 9, 4, 3, 2, 0, 1, 12, 5, 17, 22, 27, 29]⟩,
            ⟨(some 94), .mov (.t 17), (some (92, true)), [28, 24, 25, 26, 23, 19, 20, 21, 18, 14, 15, 16, 13, 11, 8, 7, 6, 10, 9, 4, 3, 2, 0, 1, 12, 5, 17, 22, 27, 29]⟩,
            ⟨(some 95), .cmp .eql 0 (.t 93) (.t 94), (some (92, true)), [27, 22, 17, 5, 12, 1, 0, 2, 3, 4, 9, 10, 6, 7, 8, 11, 13, 16, 15, 14, 18, 21, 20, 19, 23, 26, 25, 24, 28, 29, 31, 30]⟩,
            ⟨(some 96), .pick (.t 92) (.t 95) (.c (.bool false)), none, [30, 31, 28, 24, 25, 26, 23, 19, 20, 21, 18, 14, 15, 16, 13, 11, 8, 7, 6, 10, 9, 4, 3, 2, 0, 1, 12, 5, 17, 22, 27, 32, 29]⟩,
            ⟨(some 97), .mov (.t 96), none, [32, 27, 22, 17, 5, 12, 1, 0, 2, 3, 4, 9, 10, 6, 7, 8, 11, 13, 16, 15, 14, 18, 21, 20, 19, 23, 26, 25, 24, 28, 31, 30, 29, 33]⟩,
            ⟨(some 98), .mov (.t 20), (some (97, true)), [33, 29, 30, 31, 28, 24, 25, 26, 23, 19, 20, 21, 18, 14, 15, 16, 13, 11, 8, 7, 6, 10, 9, 4, 3, 2, 0, 1, 12, 5, 17, 22, 27, 32, 34]⟩,
            ⟨(some 99), .mov (.t 22), (some (97, true)), [33, 29, 30, 31, 28, 24, 25, 26, 23, 19, 20, 21, 18, 14, 15, 16, 13, 11, 8, 7, 6, 10, 9, 4, 3, 2, 0, 1, 12, 5, 17, 22, 27, 32, 34]⟩,
            ⟨(some 100), .cmp .eql 0 (.t 98) (.t 99), (some (97, true)), [32, 27, 22, 17, 5, 12, 1, 0, 2, 3, 4, 9, 10, 6, 7, 8, 11, 13, 16, 15, 14, 18, 21, 20, 19, 23, 26, 25, 24, 28, 31, 30, 29, 33, 34, 36, 35]⟩,
            ⟨(some 101), .pick (.t 97) (.t 100) (.c (.bool false)), none, [35, 36, 33, 29, 30, 31, 28, 24, 25, 26, 23, 19, 20, 21, 18, 14, 15, 16, 13, 11, 8, 7, 6, 10, 9, 4, 3, 2, 0, 1, 12, 5, 17, 22, 27, 32, 37, 34]⟩,
            ⟨(some 102), .mov (.t 101), none, [37, 32, 27, 22, 17, 5, 12, 1, 0, 2, 3, 4, 9, 10, 6, 7, 8, 11, 13, 16, 15, 14, 18, 21, 20, 19, 23, 26, 25, 24, 28, 31, 30, 29, 33, 36, 35, 34, 38]⟩,
            ⟨(some 103), .load 2 true (.t 19), (some (102, true)), [38, 34, 35, 36, 33, 29, 30, 31, 28, 24, 25, 26, 23, 19, 20, 21, 18, 14, 15, 16, 13, 11, 8, 7, 6, 10, 9, 4, 3, 2, 0, 1, 12, 5, 17, 22, 27, 32, 37, 39]⟩,
            ⟨(some 104), .load 2 true (.t 21), (some (102, true)), [38, 34, 35, 36, 33, 29, 30, 31, 28, 24, 25, 26, 23, 19, 20, 21, 18, 14, 15, 16, 13, 11, 8, 7, 6, 10, 9, 4, 3, 2, 0, 1, 12, 5, 17, 22, 27, 32, 37, 39]⟩,
            ⟨(some 105), .eqa false [0, 0] (.t 103) (.t 104), (some (102, true)), [37, 32, 27, 22, 17, 5, 12, 1, 0, 2, 3, 4, 9, 10, 6, 7, 8, 11, 13, 16, 15, 14, 18, 21, 20, 19, 23, 26, 25, 24, 28, 31, 30, 29, 33, 36, 35, 34, 38, 39, 41, 40]⟩,
            ⟨(some 106), .pick (.t 102) (.t 105) (.c (.bool false)), none, [40, 41, 38, 34, 35, 36, 33, 29, 30, 31, 28, 24, 25, 26, 23, 19, 20, 21, 18, 14, 15, 16, 13, 11, 8, 7, 6, 10, 9, 4, 3, 2, 0, 1, 12, 5, 17, 22, 27, 32, 37, 42, 39]⟩,
            ⟨(some 107), .mov (.t 106), none, [42, 37, 32, 27, 22, 17, 5, 12, 1, 0, 2, 3, 4, 9, 10, 6, 7, 8, 11, 13, 16, 15, 14, 18, 21, 20, 19, 23, 26, 25, 24, 28, 31, 30, 29, 33, 36, 35, 34, 38, 41, 40, 39, 43]⟩,
            ⟨(some 108), .load 7 true (.t 5), (some (107, true)), [43, 39, 40, 41, 38, 34, 35, 36, 33, 29, 30, 31, 28, 24, 25, 26, 23, 19, 20, 21, 18, 14, 15, 16, 13, 11, 8, 7, 6, 10, 9, 4, 3, 2, 0, 1, 12, 5, 17, 22, 27, 32, 37, 42, 44]⟩,
            ⟨(some 109), .load 2 true (.t 6), (some (107, true)), [43, 39, 40, 41, 38, 34, 35, 36, 33, 29, 30, 31, 28, 24, 25, 26, 23, 19, 20, 21, 18, 14, 15, 16, 13, 11, 8, 7, 6, 10, 9, 4, 3, 2, 0, 1, 12, 5, 17, 22, 27, 32, 37, 42, 44]⟩,
            ⟨(some 110), .mov (.t 4), (some (107, true)), [43, 39, 40, 41, 38, 34, 35, 36, 33, 29, 30, 31, 28, 24, 25, 26, 23, 19, 20, 21, 18, 14, 15, 16, 13, 11, 8, 7, 6, 10, 9, 4, 3, 2, 0, 1, 12, 5, 17, 22, 27, 32, 37, 42, 44]⟩,
            ⟨(some 111), .call 21 [(.t 108), (.t 109), (.t 110)], (some (107, true)), [42, 37, 32, 27, 22, 17, 5, 12, 1, 0, 2, 3, 4, 9, 10, 6, 7, 8, 11, 13, 16, 15, 14, 18, 21, 20, 19, 23, 26, 25, 24, 28, 31, 30, 29, 33, 36, 35, 34, 38, 41, 40, 39, 43, 44, 47, 46, 45]⟩,
            ⟨(some 112), .load 7 true (.t 5), (some (107, true)), [43, 39, 40, 41, 38, 34, 35, 36, 33, 29, 30, 31, 28, 24, 25, 26, 23, 19, 20, 21, 18, 14, 15, 16, 13, 11, 8, 7, 6, 10, 9, 4, 3, 2, 0, 1, 12, 5, 17, 22, 27, 32, 37, 42, 44]⟩,
            ⟨(some 113), .load 2 true (.t 6), (some (107, true)), [43, 39, 40, 41, 38, 34, 35, 36, 33, 29, 30, 31, 28, 24, 25, 26, 23, 19, 20, 21, 18, 14, 15, 16, 13, 11, 8, 7, 6, 10, 9, 4, 3, 2, 0, 1, 12, 5, 17, 22, 27, 32, 37, 42, 44]⟩,
            ⟨(some 114), .mov (.t 4), (some (107, true)), [43, 39, 40, 41, 38, 34, 35, 36, 33, 29, 30, 31, 28, 24, 25, 26, 23, 19, 20, 21, 18, 14, 15, 16, 13, 11, 8, 7, 6, 10, 9, 4, 3, 2, 0, 1, 12, 5, 17, 22, 27, 32, 37, 42, 44]⟩,
            ⟨(some 115), .call 30 [(.t 112), (.t 113), (.t 114)], (some (107, true)), [45, 46, 47, 42, 37, 32, 27, 22, 17, 5, 12, 1, 0, 2, 3, 4, 9, 10, 6, 7, 8, 11, 13, 16, 15, 14, 18, 21, 20, 19, 23, 26, 25, 24, 28, 31, 30, 29, 33, 36, 35, 34, 38, 41, 40, 39, 43, 44, 48, 51, 50, 49]⟩,
            ⟨(some 116), .cmp .eql 0 (.t 111) (.t 115), (some (107, true)), [49, 50, 51, 45, 46, 47, 43, 39, 40, 41, 38, 34, 35, 36, 33, 29, 30, 31, 28, 24, 25, 26, 23, 19, 20, 21, 18, 14, 15, 16, 13, 11, 8, 7, 6, 10, 9, 4, 3, 2, 0, 1, 12, 5, 17, 22, 27, 32, 37, 42, 44, 52, 48]⟩,
            ⟨(some 117), .pick (.t 107) (.t 116) (.c (.bool false)), none, [48, 52, 47, 46, 45, 51, 50, 49, 43, 39, 40, 41, 38, 34, 35, 36, 33, 29, 30, 31, 28, 24, 25, 26, 23, 19, 20, 21, 18, 14, 15, 16, 13, 11, 8, 7, 6, 10, 9, 4, 3, 2, 0, 1, 12, 5, 17, 22, 27, 32, 37, 42, 53, 44]⟩,
            ⟨(some 10), .mov (.t 117), none, [53, 51, 50, 49, 48, 47, 46, 45, 44, 43, 42, 41, 40, 39, 38, 37, 36, 35, 34, 33, 32, 31, 30, 29, 28, 27, 26, 25, 24, 23, 22, 21, 20, 19, 18, 17, 16, 15, 14, 13, 12, 11, 10, 9, 8, 7, 6, 5, 4, 3, 2, 1, 0, 52, 54]⟩] true)
          .ret))))))))
def rv15 : List RV := [.t 10]
theorem rc15_ok : comp Try.prog Try.f15.ntmps (Try.f15.body.getD .skip) = some (erase rc15) := by kernel_rfl
theorem rv15_ok : compRes Try.prog Try.f15.results.toList = some rv15 := by kernel_rfl

/-- baseboard/fan.Start [24] -/
def rc16 : RC :=
  (.seq
   (.region [
     ⟨(some 1), .box 7 (.t 0), none, []⟩,
     ⟨(some 2), .alloc [.int .i64 0, .int .i64 0], none, []⟩,
     ⟨(some 3), .mov (.c (.int .i64 0)), none, []⟩] false)
   (.seq
    (.seq
     (.region [
       ⟨(some 4), .load 7 true (.t 1), none, []⟩,
       ⟨(some 5), .call 17 [(.t 4)], none, [0]⟩,
       ⟨(some 6), .not (.t 5), none, [1]⟩] false)
     (.cond (.t 6)
      (.seq
       (.region [
         ⟨(some 7), .build [.int .i64 0, .int .i64 0] [], none, []⟩,
         ⟨none, .store 2 (.t 2) (.t 7), none, [0, 0]⟩,
         ⟨(some 3), .mov (.c (.int .i64 1)), none, [1, 0, 1]⟩] false)
       .ret)
      .skip))
    (.seq
     (.region [
       ⟨(some 8), .faddr 5 (.t 1), none, []⟩,
       ⟨(some 9), .load 1 false (.t 8), none, [0]⟩,
       ⟨(some 10), .build [.int .i64 0, .int .i64 0] [(0, 1, (.t 9))], none, [1]⟩,
       ⟨none, .store 2 (.t 2) (.t 10), none, [2, 0, 1, 2]⟩,
       ⟨(some 3), .mov (.c (.int .i64 0)), none, [3, 0, 1, 2, 3]⟩] false)
     .ret)))
def rv16 : List RV := [.c 2 2 true, .t 3]
theorem rc16_ok : comp Try.prog Try.f16.ntmps (Try.f16.body.getD .skip) = some (erase rc16) := by kernel_rfl
theorem rv16_ok : compRes Try.prog Try.f16.results.toList = some rv16 := by kernel_rfl

/-- baseboard/fan.Valid [24] -/
def rc17 : RC :=
  (.seq
   (.region [
     ⟨(some 1), .box 7 (.t 0), none, []⟩,
     ⟨(some 2), .mov (.c (.bool false)), none, []⟩] false)
   (.seq
    (.seq
     (.region [
       ⟨(some 5), .faddr 0 (.t 1), none, []⟩,
       ⟨(some 6), .load 1 false (.t 5), none, [0]⟩,
       ⟨(some 7), .len 0 (.t 6), none, [1]⟩,
       ⟨(some 8), .call 31 [(.t 7), (.c (.int .i64 1)), (.c (.int .i64 8))], none, [2]⟩,
       ⟨(some 9), .not (.t 8), none, [3]⟩,
       ⟨(some 10), .mov (.t 9), none, [4, 3]⟩,
       ⟨(some 11), .faddr 1 (.t 1), (some (10, false)), [5]⟩,
       ⟨(some 12), .load 1 false (.t 11), (some (10, false)), [6, 5]⟩,
       ⟨(some 13), .call 32 [(.t 12), (.c (.int .i64 (-1000000000000))), (.c (.int .i64 1000000000000))], (some (10, false)), [7, 5, 5]⟩,
       ⟨(some 14), .not (.t 13), (some (10, false)), [8, 5]⟩,
       ⟨(some 15), .pick (.t 10) (.c (.bool true)) (.t 14), none, [5, 9]⟩,
       ⟨(some 16), .mov (.t 15), none, [10, 8]⟩,
       ⟨(some 17), .faddr 2 (.t 1), (some (16, false)), [11]⟩,
       ⟨(some 18), .load 1 false (.t 17), (some (16, false)), [12, 11]⟩,
       ⟨(some 19), .call 31 [(.t 18), (.c (.int .i64 0)), (.c (.int .i64 10000))], (some (16, false)), [13, 11, 11]⟩,
       ⟨(some 20), .not (.t 19), (some (16, false)), [14, 11]⟩,
       ⟨(some 21), .pick (.t 16) (.c (.bool true)) (.t 20), none, [11, 15]⟩,
       ⟨(some 22), .mov (.t 21), none, [16, 14]⟩,
       ⟨(some 23), .faddr 3 (.t 1), (some (22, false)), [17]⟩,
       ⟨(some 24), .load 1 false (.t 23), (some (22, false)), [18, 17]⟩,
       ⟨(some 25), .call 31 [(.t 24), (.c (.int .i64 0)), (.c (.int .i64 10000))], (some (22, false)), [19, 17, 17]⟩,
       ⟨(some 26), .not (.t 25), (some (22, false)), [20, 17]⟩,
       ⟨(some 27), .pick (.t 22) (.c (.bool true)) (.t 26), none, [17, 21]⟩] false)
     (.cond (.t 27)
      (.seq
       (.region [
         ⟨(some 2), .mov (.c (.bool false)), none, []⟩] false)
       .ret)
      .skip))
    (.seq
     (.seq
      (.region [
        ⟨(some 28), .faddr 0 (.t 1), none, []⟩,
        ⟨(some 29), .load 1 false (.t 28), none, [0]⟩,
        ⟨(some 30), .len 0 (.t 29), none, [1]⟩,
        ⟨(some 31), .mov (.c (.int .i64 0)), none, []⟩] false)
      (.block 0
       (.loop 0
        (.seq
         (.region [
           ⟨(some 32), .cmp .lss 0 (.t 31) (.t 30), none, []⟩] false)
         (.seq
          (.cond (.t 32)
           .skip
           (.exit 0))
          (.seq
           (.block 1
            (.seq
             (.region [
               ⟨(some 33), .mov (.t 31), none, []⟩,
               ⟨(some 34), .iaddrS [.int .u8 0] (.t 29) (.t 31), none, []⟩,
               ⟨(some 35), .load 1 false (.t 34), none, [1]⟩,
               ⟨(some 3), .mov (.t 33), none, [0, 0, 1, 2]⟩,
               ⟨(some 4), .mov (.t 35), none, [2, 3, 0, 1, 2, 3]⟩] false)
             (.seq
              (.region [
                ⟨(some 36), .mov (.t 3), none, []⟩,
                ⟨(some 37), .cmp .gtr 0 (.t 36) (.c (.int .i64 0)), none, [0]⟩,
                ⟨(some 38), .mov (.t 37), none, [1]⟩,
                ⟨(some 39), .mov (.t 4), (some (38, true)), [2]⟩,
                ⟨(some 40), .faddr 0 (.t 1), (some (38, true)), [2]⟩,
                ⟨(some 41), .load 1 false (.t 40), (some (38, true)), [4, 2]⟩,
                ⟨(some 42), .mov (.t 3), (some (38, true)), [2]⟩,
                ⟨(some 43), .arith .sub (.t 42) (.c (.int .i64 1)), (some (38, true)), [6, 2]⟩,
                ⟨(some 44), .iaddrS [.int .u8 0] (.t 41) (.t 43), (some (38, true)), [5, 7, 2]⟩,
                ⟨(some 45), .load 1 false (.t 44), (some (38, true)), [8, 2]⟩,
                ⟨(some 46), .cmp .leq 0 (.t 39) (.t 45), (some (38, true)), [3, 9, 2]⟩,
                ⟨(some 47), .pick (.t 38) (.t 46) (.c (.bool false)), none, [2, 10]⟩] false)
              (.cond (.t 47)
               (.seq
                (.region [
                  ⟨(some 2), .mov (.c (.bool false)), none, []⟩] false)
                .ret)
               .skip))))
           (.region [
             ⟨(some 48), .arith .add (.t 31) (.c (.int .i64 1)), none, []⟩,
             ⟨(some 31), .mov (.t 48), none, [0]⟩] false)))))))
     (.seq
      (.region [
        ⟨(some 49), .faddr 4 (.t 1), none, []⟩,
        ⟨(some 50), .load 1 false (.t 49), none, [0]⟩,
        ⟨(some 51), .cmp .geq 0 (.t 50) (.c (.int .i64 0)), none, [1]⟩,
        ⟨(some 52), .mov (.t 51), none, [2]⟩,
        ⟨(some 53), .faddr 4 (.t 1), (some (52, true)), [3]⟩,
        ⟨(some 54), .load 1 false (.t 53), (some (52, true)), [4, 3]⟩,
        ⟨(some 55), .faddr 5 (.t 1), (some (52, true)), [3]⟩,
        ⟨(some 56), .load 1 false (.t 55), (some (52, true)), [6, 3]⟩,
        ⟨(some 57), .cmp .leq 0 (.t 54) (.t 56), (some (52, true)), [5, 7, 3]⟩,
        ⟨(some 58), .pick (.t 52) (.t 57) (.c (.bool false)), none, [3, 8]⟩,
        ⟨(some 59), .mov (.t 58), none, [9, 3]⟩,
        ⟨(some 60), .faddr 5 (.t 1), (some (59, true)), [10]⟩,
        ⟨(some 61), .load 1 false (.t 60), (some (59, true)), [11, 10]⟩,
        ⟨(some 62), .cmp .leq 0 (.t 61) (.c (.int .i64 1000)), (some (59, true)), [12, 10]⟩,
        ⟨(some 63), .pick (.t 59) (.t 62) (.c (.bool false)), none, [10, 13]⟩,
        ⟨(some 64), .mov (.t 63), none, [14, 10]⟩,
        ⟨(some 65), .faddr 6 (.t 1), (some (64, true)), [15]⟩,
        ⟨(some 66), .load 1 false (.t 65), (some (64, true)), [16, 15]⟩,
        ⟨(some 67), .call 31 [(.t 66), (.c (.int .i64 1)), (.c (.int .i64 1000))], (some (64, true)), [17, 15, 15]⟩,
        ⟨(some 68), .pick (.t 64) (.t 67) (.c (.bool false)), none, [15, 18]⟩,
        ⟨(some 2), .mov (.t 68), none, [19, 18, 0, 1, 2, 3, 4, 5, 6, 7, 8, 9, 10, 11, 12, 13, 14, 15, 16, 17, 18, 19]⟩] false)
      .ret))))
def rv17 : List RV := [.t 2]
theorem rc17_ok : comp Try.prog Try.f17.ntmps (Try.f17.body.getD .skip) = some (erase rc17) := by kernel_rfl
theorem rv17_ok : compRes Try.prog Try.f17.results.toList = some rv17 := by kernel_rfl

/-- baseboard/fan.Step [24, 26, 27, 28] -/
def rc18 : RC :=
  (.seq
   (.region [
     ⟨(some 4), .box 7 (.t 0), none, []⟩,
     ⟨(some 5), .box 2 (.t 1), none, []⟩,
     ⟨(some 8), .alloc [.int .i64 0, .int .i64 0], none, []⟩,
     ⟨(some 9), .mov (.c (.int .i64 0)), none, []⟩] false)
   (.seq
    (.seq
     (.region [
       ⟨(some 12), .load 7 true (.t 4), none, []⟩,
       ⟨(some 13), .load 2 true (.t 5), none, []⟩,
       ⟨(some 14), .call 19 [(.t 12), (.t 13)], none, [0, 1]⟩,
       ⟨(some 15), .not (.t 14), none, [2]⟩] false)
     (.cond (.t 15)
      (.seq
       (.region [
         ⟨(some 16), .build [.int .i64 0, .int .i64 0] [], none, []⟩,
         ⟨none, .store 2 (.t 8) (.t 16), none, [0, 0]⟩,
         ⟨(some 9), .mov (.c (.int .i64 1)), none, [1, 0, 1]⟩] false)
       .ret)
      .skip))
    (.seq
     (.seq
      (.region [
        ⟨(some 17), .mov (.t 2), none, []⟩,
        ⟨(some 18), .len 0 (.t 17), none, [0]⟩,
        ⟨(some 19), .faddr 0 (.t 4), none, []⟩,
        ⟨(some 20), .load 1 false (.t 19), none, [2]⟩,
        ⟨(some 21), .len 0 (.t 20), none, [3]⟩,
        ⟨(some 22), .cmp .neq 0 (.t 18) (.t 21), none, [1, 4]⟩,
        ⟨(some 23), .mov (.t 22), none, [5]⟩,
        ⟨(some 24), .mov (.t 3), (some (23, false)), [6]⟩,
        ⟨(some 25), .len 0 (.t 24), (some (23, false)), [7, 6]⟩,
        ⟨(some 26), .faddr 0 (.t 4), (some (23, false)), [6]⟩,
        ⟨(some 27), .load 1 false (.t 26), (some (23, false)), [9, 6]⟩,
        ⟨(some 28), .len 0 (.t 27), (some (23, false)), [10, 6]⟩,
        ⟨(some 29), .cmp .neq 0 (.t 25) (.t 28), (some (23, false)), [8, 11, 6]⟩,
        ⟨(some 30), .pick (.t 23) (.c (.bool true)) (.t 29), none, [6, 12]⟩] false)
      (.cond (.t 30)
       (.seq
        (.region [
          ⟨(some 31), .build [.int .i64 0, .int .i64 0] [], none, []⟩,
          ⟨none, .store 2 (.t 8) (.t 31), none, [0, 0]⟩,
          ⟨(some 9), .mov (.c (.int .i64 2)), none, [1, 0, 1]⟩] false)
        .ret)
       .skip))
     (.seq
      (.seq
       (.region [
         ⟨(some 33), .load 7 true (.t 4), none, []⟩,
         ⟨(some 34), .mov (.t 2), none, []⟩,
         ⟨(some 35), .mov (.t 3), none, []⟩,
         ⟨(some 36), .call 20 [(.t 33), (.t 34), (.t 35)], none, [0, 1, 2]⟩,
         ⟨(some 32), .mov (.t 36), none, [3]⟩,
         ⟨(some 37), .extract 0 (.t 32), none, [4]⟩,
         ⟨(some 38), .extract 1 (.t 32), none, [4]⟩,
         ⟨(some 10), .mov (.t 37), none, [5, 3, 0, 1, 2, 3, 4, 5]⟩,
         ⟨(some 11), .mov (.t 38), none, [6, 7, 0, 1, 2, 3, 4, 5, 6, 7]⟩] false)
       (.seq
        (.region [
          ⟨(some 39), .mov (.t 11), none, []⟩] false)
        (.cond (.t 39)
         (.seq
          (.region [
            ⟨(some 40), .load 7 true (.t 4), none, []⟩,
            ⟨(some 41), .load 2 true (.t 5), none, []⟩,
            ⟨(some 42), .mov (.t 10), none, []⟩,
            ⟨(some 43), .call 33 [(.t 40), (.t 41), (.t 42)], none, [0, 1, 2]⟩,
            ⟨none, .store 2 (.t 8) (.t 43), none, [3, 3, 0, 1, 2, 3]⟩,
            ⟨(some 9), .mov (.c (.int .i64 0)), none, [4, 0, 1, 2, 3, 4]⟩] false)
          .ret)
         .skip)))
      (.seq
       (.region [
         ⟨(some 44), .load 7 true (.t 4), none, []⟩,
         ⟨(some 45), .faddr 0 (.t 5), none, []⟩,
         ⟨(some 46), .load 1 false (.t 45), none, [1]⟩,
         ⟨(some 47), .faddr 5 (.t 4), none, []⟩,
         ⟨(some 48), .load 1 false (.t 47), none, [3]⟩,
         ⟨(some 49), .call 34 [(.t 44), (.t 46), (.t 48)], none, [0, 2, 4]⟩,
         ⟨(some 50), .faddr 0 (.t 5), none, [0, 1, 2, 3, 4, 5]⟩,
         ⟨none, .store 1 (.t 50) (.t 49), none, [6, 5, 5, 0, 1, 2, 3, 4, 5]⟩] false)
       (.seq
        (.region [
          ⟨(some 51), .load 2 true (.t 5), none, []⟩,
          ⟨none, .store 2 (.t 8) (.t 51), none, [0, 0]⟩,
          ⟨(some 9), .mov (.c (.int .i64 0)), none, [1, 0, 1]⟩] false)
        .ret))))))
def rv18 : List RV := [.c 8 2 true, .t 9]
theorem rc18_ok : comp Try.prog Try.f18.ntmps (Try.f18.body.getD .skip) = some (erase rc18) := by kernel_rfl
theorem rv18_ok : compRes Try.prog Try.f18.results.toList = some rv18 := by kernel_rfl

/-- baseboard/fan.Sound [24, 26] -/
def rc19 : RC :=
  (.seq
   (.region [
     ⟨(some 2), .box 7 (.t 0), none, []⟩,
     ⟨(some 3), .box 2 (.t 1), none, []⟩,
     ⟨(some 4), .mov (.c (.bool false)), none, []⟩] false)
   (.seq
    (.region [
      ⟨(some 5), .load 7 true (.t 2), none, []⟩,
      ⟨(some 6), .call 17 [(.t 5)], none, [0]⟩,
      ⟨(some 7), .mov (.t 6), none, [0, 1]⟩,
      ⟨(some 8), .faddr 0 (.t 3), (some (7, true)), [1, 0, 2]⟩,
      ⟨(some 9), .load 1 false (.t 8), (some (7, true)), [0, 1, 2, 3]⟩,
      ⟨(some 10), .faddr 4 (.t 2), (some (7, true)), [1, 0, 2]⟩,
      ⟨(some 11), .load 1 false (.t 10), (some (7, true)), [0, 1, 2, 5]⟩,
      ⟨(some 12), .faddr 5 (.t 2), (some (7, true)), [1, 0, 2]⟩,
      ⟨(some 13), .load 1 false (.t 12), (some (7, true)), [0, 1, 2, 7]⟩,
      ⟨(some 14), .call 31 [(.t 9), (.t 11), (.t 13)], (some (7, true)), [7, 5, 3, 1, 0, 2, 8, 6, 4]⟩,
      ⟨(some 15), .pick (.t 7) (.t 14) (.c (.bool false)), none, [4, 6, 8, 3, 5, 7, 1, 0, 9, 2]⟩,
      ⟨(some 16), .mov (.t 15), none, [2, 0, 1, 7, 5, 3, 8, 6, 4, 9, 10]⟩,
      ⟨(some 17), .faddr 1 (.t 3), (some (16, true)), [10, 9, 4, 6, 8, 3, 5, 7, 1, 0, 2, 11]⟩,
      ⟨(some 18), .load 1 false (.t 17), (some (16, true)), [2, 0, 1, 7, 5, 3, 8, 6, 4, 9, 10, 11, 12]⟩,
      ⟨(some 19), .load 7 true (.t 2), (some (16, true)), [10, 9, 4, 6, 8, 3, 5, 7, 1, 0, 2, 11]⟩,
      ⟨(some 20), .call 35 [(.t 19)], (some (16, true)), [2, 0, 1, 7, 5, 3, 8, 6, 4, 9, 10, 11, 14]⟩,
      ⟨(some 21), .call 32 [(.t 18), (.c (.int .i64 0)), (.t 20)], (some (16, true)), [14, 12, 10, 9, 4, 6, 8, 3, 5, 7, 1, 0, 2, 11, 15, 13]⟩,
      ⟨(some 22), .pick (.t 16) (.t 21) (.c (.bool false)), none, [13, 15, 12, 14, 10, 9, 4, 6, 8, 3, 5, 7, 1, 0, 2, 16, 11]⟩,
      ⟨(some 4), .mov (.t 22), none, [15, 14, 13, 12, 11, 10, 9, 8, 7, 6, 5, 4, 3, 2, 1, 0, 16, 17]⟩] true)
    .ret))
def rv19 : List RV := [.t 4]
theorem rc19_ok : comp Try.prog Try.f19.ntmps (Try.f19.body.getD .skip) = some (erase rc19) := by kernel_rfl
theorem rv19_ok : compRes Try.prog Try.f19.results.toList = some rv19 := by kernel_rfl

/-- baseboard/fan.Excess [24, 27, 28] -/
def rc20 : RC :=
  (.seq
   (.region [
     ⟨(some 3), .box 7 (.t 0), none, []⟩,
     ⟨(some 6), .mov (.c (.int .i64 0)), none, []⟩,
     ⟨(some 7), .mov (.c (.bool false)), none, [1]⟩] false)
   (.seq
    (.seq
     (.region [
       ⟨(some 12), .load 7 true (.t 3), none, []⟩,
       ⟨(some 13), .call 17 [(.t 12)], none, [0]⟩,
       ⟨(some 14), .not (.t 13), none, [1]⟩,
       ⟨(some 15), .mov (.t 14), none, [2, 1]⟩,
       ⟨(some 16), .mov (.t 1), (some (15, false)), [3]⟩,
       ⟨(some 17), .len 0 (.t 16), (some (15, false)), [4, 3]⟩,
       ⟨(some 18), .faddr 0 (.t 3), (some (15, false)), [3]⟩,
       ⟨(some 19), .load 1 false (.t 18), (some (15, false)), [6, 3]⟩,
       ⟨(some 20), .len 0 (.t 19), (some (15, false)), [7, 3]⟩,
       ⟨(some 21), .cmp .neq 0 (.t 17) (.t 20), (some (15, false)), [5, 8, 3]⟩,
       ⟨(some 22), .pick (.t 15) (.c (.bool true)) (.t 21), none, [3, 9]⟩,
       ⟨(some 23), .mov (.t 22), none, [10, 3]⟩,
       ⟨(some 24), .mov (.t 2), (some (23, false)), [11]⟩,
       ⟨(some 25), .len 0 (.t 24), (some (23, false)), [12, 11]⟩,
       ⟨(some 26), .faddr 0 (.t 3), (some (23, false)), [11]⟩,
       ⟨(some 27), .load 1 false (.t 26), (some (23, false)), [14, 11]⟩,
       ⟨(some 28), .len 0 (.t 27), (some (23, false)), [15, 11]⟩,
       ⟨(some 29), .cmp .neq 0 (.t 25) (.t 28), (some (23, false)), [13, 16, 11]⟩,
       ⟨(some 30), .pick (.t 23) (.c (.bool true)) (.t 29), none, [11, 17]⟩] false)
     (.cond (.t 30)
      (.seq
       (.region [
         ⟨(some 6), .mov (.c (.int .i64 0)), none, []⟩,
         ⟨(some 7), .mov (.c (.bool false)), none, [0, 0]⟩] false)
       .ret)
      .skip))
    (.seq
     (.region [
       ⟨(some 8), .mov (.c (.int .i64 (-100000))), none, []⟩] false)
     (.seq
      (.seq
       (.region [
         ⟨(some 31), .mov (.t 1), none, []⟩,
         ⟨(some 32), .len 0 (.t 31), none, [0]⟩,
         ⟨(some 33), .mov (.c (.int .i64 0)), none, []⟩] false)
       (.block 0
        (.loop 0
         (.seq
          (.region [
            ⟨(some 34), .cmp .lss 0 (.t 33) (.t 32), none, []⟩] false)
          (.seq
           (.cond (.t 34)
            .skip
            (.exit 0))
           (.seq
            (.block 1
             (.seq
              (.region [
                ⟨(some 35), .mov (.t 33), none, []⟩,
                ⟨(some 36), .iaddrS [.int .i64 0] (.t 31) (.t 33), none, []⟩,
                ⟨(some 37), .load 1 false (.t 36), none, [1]⟩,
                ⟨(some 9), .mov (.t 35), none, [0, 0, 1, 2]⟩,
                ⟨(some 10), .mov (.t 37), none, [2, 3, 0, 1, 2, 3]⟩] false)
              (.seq
               (.seq
                (.region [
                  ⟨(some 38), .mov (.t 2), none, []⟩,
                  ⟨(some 39), .mov (.t 9), none, []⟩,
                  ⟨(some 40), .iaddrS [.bool false] (.t 38) (.t 39), none, [0, 1]⟩,
                  ⟨(some 41), .load 1 false (.t 40), none, [2]⟩,
                  ⟨(some 42), .not (.t 41), none, [3]⟩] false)
                (.cond (.t 42)
                 (.seq
                  (.region [
                    ⟨(some 6), .mov (.c (.int .i64 0)), none, []⟩,
                    ⟨(some 7), .mov (.c (.bool false)), none, [0, 0]⟩] false)
                  .ret)
                 .skip))
               (.seq
                (.region [
                  ⟨(some 43), .mov (.t 10), none, []⟩,
                  ⟨(some 44), .call 37 [(.t 43), (.c (.int .i64 (-1000000000000))), (.c (.int .i64 1000000000000))], none, [0]⟩,
                  ⟨(some 45), .faddr 1 (.t 3), none, []⟩,
                  ⟨(some 46), .load 1 false (.t 45), none, [2]⟩,
                  ⟨(some 47), .arith .sub (.t 44) (.t 46), none, [2, 0, 3, 1]⟩,
                  ⟨(some 48), .call 36 [(.t 47)], none, [3, 0, 2, 1, 4]⟩,
                  ⟨(some 11), .mov (.t 48), none, [4, 3, 2, 1, 0, 5]⟩] true)
                (.region [
                  ⟨(some 49), .mov (.t 8), none, []⟩,
                  ⟨(some 50), .mov (.t 11), none, []⟩,
                  ⟨(some 51), .call 37 [(.t 50), (.c (.int .i64 (-100000))), (.c (.int .i64 100000))], none, [1]⟩,
                  ⟨(some 52), .minmax true [(.t 49), (.t 51)], none, [0, 2]⟩,
                  ⟨(some 8), .mov (.t 52), none, [3, 2, 0, 1, 2, 3]⟩] false)))))
            (.region [
              ⟨(some 53), .arith .add (.t 33) (.c (.int .i64 1)), none, []⟩,
              ⟨(some 33), .mov (.t 53), none, [0]⟩] false)))))))
      (.seq
       (.region [
         ⟨(some 54), .mov (.t 8), none, []⟩,
         ⟨(some 6), .mov (.t 54), none, [0, 0]⟩,
         ⟨(some 7), .mov (.c (.bool true)), none, [1, 0, 1]⟩] false)
       .ret)))))
def rv20 : List RV := [.t 6, .t 7]
theorem rc20_ok : comp Try.prog Try.f20.ntmps (Try.f20.body.getD .skip) = some (erase rc20) := by kernel_rfl
theorem rv20_ok : compRes Try.prog Try.f20.results.toList = some rv20 := by kernel_rfl

/-- baseboard/fan.Demand [24, 26, 3] -/
def rc21 : RC :=
  (.seq
   (.region [
     ⟨(some 3), .box 7 (.t 0), none, []⟩,
     ⟨(some 4), .box 2 (.t 1), none, []⟩,
     ⟨(some 6), .mov (.c (.int .i64 0)), none, []⟩] false)
   (.seq
    (.seq
     (.region [
       ⟨(some 7), .load 7 true (.t 3), none, []⟩,
       ⟨(some 8), .load 2 true (.t 4), none, []⟩,
       ⟨(some 9), .call 19 [(.t 7), (.t 8)], none, [0, 1]⟩,
       ⟨(some 10), .not (.t 9), none, [2]⟩] false)
     (.cond (.t 10)
      (.seq
       (.region [
         ⟨(some 6), .mov (.c (.int .i64 0)), none, []⟩] false)
       .ret)
      .skip))
    (.seq
     (.region [
       ⟨(some 11), .load 7 true (.t 3), none, []⟩,
       ⟨(some 12), .faddr 1 (.t 4), none, []⟩,
       ⟨(some 13), .load 1 false (.t 12), none, [1]⟩,
       ⟨(some 14), .mov (.t 2), none, []⟩,
       ⟨(some 15), .call 39 [(.t 14), (.c (.int .i64 (-100000))), (.c (.int .i64 100000))], none, [3]⟩,
       ⟨(some 16), .call 38 [(.t 11), (.t 13), (.t 15)], none, [3, 1, 4, 2, 0]⟩,
       ⟨(some 6), .mov (.t 16), none, [4, 3, 2, 1, 0, 5]⟩] true)
     .ret)))
def rv21 : List RV := [.t 6]
theorem rc21_ok : comp Try.prog Try.f21.ntmps (Try.f21.body.getD .skip) = some (erase rc21) := by kernel_rfl
theorem rv21_ok : compRes Try.prog Try.f21.results.toList = some rv21 := by kernel_rfl

/-- baseboard/fan.Settle [24, 26, 3] -/
def rc22 : RC :=
  (.seq
   (.region [
     ⟨(some 3), .box 7 (.t 0), none, []⟩,
     ⟨(some 4), .box 2 (.t 1), none, []⟩,
     ⟨(some 6), .alloc [.int .i64 0, .int .i64 0], none, []⟩,
     ⟨(some 7), .mov (.c (.int .i64 0)), none, []⟩,
     ⟨(some 8), .mov (.c (.int .i64 0)), none, [3]⟩] false)
   (.seq
    (.seq
     (.region [
       ⟨(some 11), .load 7 true (.t 3), none, []⟩,
       ⟨(some 12), .load 2 true (.t 4), none, []⟩,
       ⟨(some 13), .call 19 [(.t 11), (.t 12)], none, [0, 1]⟩,
       ⟨(some 14), .not (.t 13), none, [2]⟩] false)
     (.cond (.t 14)
      (.seq
       (.region [
         ⟨(some 15), .build [.int .i64 0, .int .i64 0] [], none, []⟩,
         ⟨none, .store 2 (.t 6) (.t 15), none, [0, 0]⟩,
         ⟨(some 7), .mov (.c (.int .i64 0)), none, [1, 0, 1]⟩,
         ⟨(some 8), .mov (.c (.int .i64 1)), none, [2, 0, 1, 2]⟩] false)
       .ret)
      .skip))
    (.seq
     (.seq
      (.region [
        ⟨(some 16), .mov (.t 2), none, []⟩,
        ⟨(some 17), .call 31 [(.t 16), (.c (.int .i64 (-100000))), (.c (.int .i64 100000))], none, [0]⟩,
        ⟨(some 18), .not (.t 17), none, [1]⟩] false)
      (.cond (.t 18)
       (.seq
        (.region [
          ⟨(some 19), .build [.int .i64 0, .int .i64 0] [], none, []⟩,
          ⟨none, .store 2 (.t 6) (.t 19), none, [0, 0]⟩,
          ⟨(some 7), .mov (.c (.int .i64 0)), none, [1, 0, 1]⟩,
          ⟨(some 8), .mov (.c (.int .i64 2)), none, [2, 0, 1, 2]⟩] false)
        .ret)
       .skip))
     (.seq
      (.region [
        ⟨(some 9), .mov (.c (.int .i64 0)), none, []⟩] false)
      (.block 0
       (.loop 0
        (.seq
         (.block 1
          (.seq
           (.region [
             ⟨(some 22), .load 7 true (.t 3), none, []⟩,
             ⟨(some 23), .load 2 true (.t 4), none, []⟩,
             ⟨(some 24), .mov (.t 2), none, []⟩,
             ⟨(some 25), .call 33 [(.t 22), (.t 23), (.t 24)], none, [0, 1, 2]⟩,
             ⟨(some 10), .alloc [.int .i64 0, .int .i64 0], none, []⟩,
             ⟨none, .store 2 (.t 10) (.t 25), none, [4, 3, 3, 0, 1, 2, 3, 4]⟩] false)
           (.seq
            (.seq
             (.region [
               ⟨(some 26), .load 2 true (.t 10), none, []⟩,
               ⟨(some 27), .load 2 true (.t 4), none, []⟩,
               ⟨(some 28), .eqa false [0, 0] (.t 26) (.t 27), none, [0, 1]⟩] false)
             (.cond (.t 28)
              (.seq
               (.region [
                 ⟨(some 29), .load 2 true (.t 4), none, []⟩,
                 ⟨(some 30), .mov (.t 9), none, []⟩,
                 ⟨none, .store 2 (.t 6) (.t 29), none, [0, 0]⟩,
                 ⟨(some 7), .mov (.t 30), none, [1, 2, 0, 1, 2]⟩,
                 ⟨(some 8), .mov (.c (.int .i64 0)), none, [3, 0, 1, 2, 3]⟩] false)
               .ret)
              .skip))
            (.region [
              ⟨(some 31), .load 2 true (.t 10), none, []⟩,
              ⟨none, .store 2 (.t 4) (.t 31), none, [0, 0]⟩] false))))
         (.region [
           ⟨(some 20), .mov (.t 9), none, []⟩,
           ⟨(some 21), .arith .add (.t 20) (.c (.int .i64 1)), none, [0]⟩,
           ⟨(some 9), .mov (.t 21), none, [1, 0, 1]⟩] false))))))))
def rv22 : List RV := [.c 6 2 true, .t 7, .t 8]
theorem rc22_ok : comp Try.prog Try.f22.ntmps (Try.f22.body.getD .skip) = some (erase rc22) := by kernel_rfl
theorem rv22_ok : compRes Try.prog Try.f22.results.toList = some rv22 := by kernel_rfl

/-- baseboard/baseboardref41.Settle [24, 26, 3] -/
def rc23 : RC :=
  (.seq
   (.region [
     ⟨(some 3), .box 7 (.t 0), none, []⟩,
     ⟨(some 4), .box 2 (.t 1), none, []⟩,
     ⟨(some 6), .alloc [.int .i64 0, .int .i64 0], none, []⟩,
     ⟨(some 7), .mov (.c (.int .i64 0)), none, []⟩,
     ⟨(some 8), .mov (.c (.int .i64 0)), none, [3]⟩] false)
   (.seq
    (.block 0
     (.seq
      (.region [
        ⟨(some 12), .load 7 true (.t 3), none, []⟩,
        ⟨(some 13), .load 2 true (.t 4), none, []⟩,
        ⟨(some 14), .call 29 [(.t 12), (.t 13)], none, [0, 1]⟩,
        ⟨(some 15), .not (.t 14), none, [2]⟩,
        ⟨(some 11), .mov (.t 15), none, [3, 2]⟩] false)
      (.cond (.t 11)
       (.seq
        (.region [
          ⟨(some 16), .build [.int .i64 0, .int .i64 0] [], none, []⟩,
          ⟨none, .store 2 (.t 6) (.t 16), none, [0, 0]⟩,
          ⟨(some 7), .mov (.c (.int .i64 0)), none, [1, 0, 1]⟩,
          ⟨(some 8), .mov (.c (.int .i64 1)), none, [2, 0, 1, 2]⟩] false)
        .ret)
       (.seq
        (.region [
          ⟨(some 18), .mov (.t 2), none, []⟩,
          ⟨(some 19), .cmp .lss 0 (.t 18) (.c (.int .i64 (-100000))), none, [0]⟩,
          ⟨(some 20), .mov (.t 19), none, [1]⟩,
          ⟨(some 21), .mov (.t 2), (some (20, false)), [2]⟩,
          ⟨(some 22), .cmp .gtr 0 (.t 21) (.c (.int .i64 100000)), (some (20, false)), [3, 2]⟩,
          ⟨(some 23), .pick (.t 20) (.c (.bool true)) (.t 22), none, [2, 4]⟩,
          ⟨(some 17), .mov (.t 23), none, [5, 2]⟩] false)
        (.cond (.t 17)
         (.seq
          (.region [
            ⟨(some 24), .build [.int .i64 0, .int .i64 0] [], none, []⟩,
            ⟨none, .store 2 (.t 6) (.t 24), none, [0, 0]⟩,
            ⟨(some 7), .mov (.c (.int .i64 0)), none, [1, 0, 1]⟩,
            ⟨(some 8), .mov (.c (.int .i64 2)), none, [2, 0, 1, 2]⟩] false)
          .ret)
         .skip)))))
    (.seq
     (.region [
       ⟨(some 9), .mov (.c (.int .i64 0)), none, []⟩] false)
     (.block 1
      (.loop 0
       (.seq
        (.block 2
         (.seq
          (.region [
            ⟨(some 27), .load 7 true (.t 3), none, []⟩,
            ⟨(some 28), .load 2 true (.t 4), none, []⟩,
            ⟨(some 29), .mov (.t 2), none, []⟩,
            ⟨(some 30), .call 40 [(.t 27), (.t 28), (.t 29)], none, [0, 1, 2]⟩,
            ⟨(some 10), .alloc [.int .i64 0, .int .i64 0], none, []⟩,
            ⟨none, .store 2 (.t 10) (.t 30), none, [4, 3, 3, 0, 1, 2, 3, 4]⟩] false)
          (.seq
           (.seq
            (.region [
              ⟨(some 31), .load 2 true (.t 10), none, []⟩,
              ⟨(some 32), .load 2 true (.t 4), none, []⟩,
              ⟨(some 33), .eqa false [0, 0] (.t 31) (.t 32), none, [0, 1]⟩] false)
            (.cond (.t 33)
             (.seq
              (.region [
                ⟨(some 34), .load 2 true (.t 4), none, []⟩,
                ⟨(some 35), .mov (.t 9), none, []⟩,
                ⟨none, .store 2 (.t 6) (.t 34), none, [0, 0]⟩,
                ⟨(some 7), .mov (.t 35), none, [1, 2, 0, 1, 2]⟩,
                ⟨(some 8), .mov (.c (.int .i64 0)), none, [3, 0, 1, 2, 3]⟩] false)
              .ret)
             .skip))
           (.region [
             ⟨(some 36), .load 2 true (.t 10), none, []⟩,
             ⟨none, .store 2 (.t 4) (.t 36), none, [0, 0]⟩] false))))
        (.region [
          ⟨(some 25), .mov (.t 9), none, []⟩,
          ⟨(some 26), .arith .add (.t 25) (.c (.int .i64 1)), none, [0]⟩,
          ⟨(some 9), .mov (.t 26), none, [1, 0, 1]⟩] false)))))))
def rv23 : List RV := [.c 6 2 true, .t 7, .t 8]
theorem rc23_ok : comp Try.prog Try.f23.ntmps (Try.f23.body.getD .skip) = some (erase rc23) := by kernel_rfl
theorem rv23_ok : compRes Try.prog Try.f23.results.toList = some rv23 := by kernel_rfl

/-- (*baseboard/baseboardfield.Codes).Left [30] -/
def rc24 : RC :=
  (.seq
   (.region [
     ⟨(some 2), .mov (.c (.bool false)), none, []⟩] false)
   (.seq
    (.region [
      ⟨(some 3), .mov (.t 0), none, []⟩,
      ⟨(some 4), .nilchk (.t 3), none, [0]⟩,
      ⟨(some 5), .faddr 1 (.t 4), none, [0, 1]⟩,
      ⟨(some 6), .load 1 false (.t 5), none, [1, 0, 2]⟩,
      ⟨(some 7), .mov (.t 0), none, []⟩,
      ⟨(some 8), .nilchk (.t 7), none, [4]⟩,
      ⟨(some 9), .faddr 0 (.t 8), none, [4, 5]⟩,
      ⟨(some 10), .load 1 false (.t 9), none, [5, 4, 6]⟩,
      ⟨(some 11), .len 0 (.t 10), none, [6, 4, 5, 7]⟩,
      ⟨(some 12), .cmp .lss 0 (.t 6) (.t 11), none, [7, 5, 4, 6, 2, 0, 1, 8, 3]⟩,
      ⟨(some 2), .mov (.t 12), none, [8, 7, 6, 5, 4, 3, 2, 1, 0, 9]⟩] true)
    .ret))
def rv24 : List RV := [.t 2]
theorem rc24_ok : comp Try.prog Try.f24.ntmps (Try.f24.body.getD .skip) = some (erase rc24) := by kernel_rfl
theorem rv24_ok : compRes Try.prog Try.f24.results.toList = some rv24 := by kernel_rfl

/-- baseboard/baseboardref41.Start [24] -/
def rc25 : RC :=
  (.seq
   (.region [
     ⟨(some 1), .box 7 (.t 0), none, []⟩,
     ⟨(some 2), .alloc [.int .i64 0, .int .i64 0], none, []⟩,
     ⟨(some 3), .mov (.c (.int .i64 0)), none, []⟩] false)
   (.seq
    (.seq
     (.region [
       ⟨(some 4), .load 7 true (.t 1), none, []⟩,
       ⟨(some 5), .call 28 [(.t 4)], none, [0]⟩,
       ⟨(some 6), .not (.t 5), none, [1]⟩] false)
     (.cond (.t 6)
      (.seq
       (.region [
         ⟨(some 7), .build [.int .i64 0, .int .i64 0] [], none, []⟩,
         ⟨none, .store 2 (.t 2) (.t 7), none, [0, 0]⟩,
         ⟨(some 3), .mov (.c (.int .i64 1)), none, [1, 0, 1]⟩] false)
       .ret)
      .skip))
    (.seq
     (.region [
       ⟨(some 8), .faddr 5 (.t 1), none, []⟩,
       ⟨(some 9), .load 1 false (.t 8), none, [0]⟩,
       ⟨(some 10), .build [.int .i64 0, .int .i64 0] [(0, 1, (.t 9))], none, [1]⟩,
       ⟨none, .store 2 (.t 2) (.t 10), none, [2, 0, 1, 2]⟩,
       ⟨(some 3), .mov (.c (.int .i64 0)), none, [3, 0, 1, 2, 3]⟩] false)
     .ret)))
def rv25 : List RV := [.c 2 2 true, .t 3]
theorem rc25_ok : comp Try.prog Try.f25.ntmps (Try.f25.body.getD .skip) = some (erase rc25) := by kernel_rfl
theorem rv25_ok : compRes Try.prog Try.f25.results.toList = some rv25 := by kernel_rfl

/-- baseboard/baseboardref41.Excess [24, 27, 28] -/
def rc26 : RC :=
  (.seq
   (.region [
     ⟨(some 3), .box 7 (.t 0), none, []⟩,
     ⟨(some 6), .mov (.c (.int .i64 0)), none, []⟩,
     ⟨(some 7), .mov (.c (.bool false)), none, [1]⟩] false)
   (.seq
    (.seq
     (.region [
       ⟨(some 10), .load 7 true (.t 3), none, []⟩,
       ⟨(some 11), .call 28 [(.t 10)], none, [0]⟩,
       ⟨(some 12), .not (.t 11), none, [1]⟩,
       ⟨(some 13), .mov (.t 12), none, [2, 1]⟩,
       ⟨(some 14), .mov (.t 1), (some (13, false)), [3]⟩,
       ⟨(some 15), .len 0 (.t 14), (some (13, false)), [4, 3]⟩,
       ⟨(some 16), .faddr 0 (.t 3), (some (13, false)), [3]⟩,
       ⟨(some 17), .load 1 false (.t 16), (some (13, false)), [6, 3]⟩,
       ⟨(some 18), .len 0 (.t 17), (some (13, false)), [7, 3]⟩,
       ⟨(some 19), .cmp .neq 0 (.t 15) (.t 18), (some (13, false)), [5, 8, 3]⟩,
       ⟨(some 20), .pick (.t 13) (.c (.bool true)) (.t 19), none, [3, 9]⟩,
       ⟨(some 21), .mov (.t 20), none, [10, 3]⟩,
       ⟨(some 22), .mov (.t 2), (some (21, false)), [11]⟩,
       ⟨(some 23), .len 0 (.t 22), (some (21, false)), [12, 11]⟩,
       ⟨(some 24), .faddr 0 (.t 3), (some (21, false)), [11]⟩,
       ⟨(some 25), .load 1 false (.t 24), (some (21, false)), [14, 11]⟩,
       ⟨(some 26), .len 0 (.t 25), (some (21, false)), [15, 11]⟩,
       ⟨(some 27), .cmp .neq 0 (.t 23) (.t 26), (some (21, false)), [13, 16, 11]⟩,
       ⟨(some 28), .pick (.t 21) (.c (.bool true)) (.t 27), none, [11, 17]⟩] false)
     (.cond (.t 28)
      (.seq
       (.region [
         ⟨(some 6), .mov (.c (.int .i64 0)), none, []⟩,
         ⟨(some 7), .mov (.c (.bool false)), none, [0, 0]⟩] false)
       .ret)
      .skip))
    (.seq
     (.region [
       ⟨(some 8), .mov (.c (.int .i64 (-100000))), none, []⟩] false)
     (.seq
      (.seq
       (.region [
         ⟨(some 9), .mov (.c (.int .i64 0)), none, []⟩] false)
       (.block 0
        (.loop 0
         (.seq
          (.seq
           (.region [
             ⟨(some 29), .mov (.t 9), none, []⟩,
             ⟨(some 30), .mov (.t 1), none, []⟩,
             ⟨(some 31), .len 0 (.t 30), none, [1]⟩,
             ⟨(some 32), .cmp .lss 0 (.t 29) (.t 31), none, [0, 2]⟩] false)
           (.cond (.t 32)
            .skip
            (.exit 0)))
          (.seq
           (.block 1
            (.seq
             (.seq
              (.region [
                ⟨(some 35), .mov (.t 2), none, []⟩,
                ⟨(some 36), .mov (.t 9), none, []⟩,
                ⟨(some 37), .iaddrS [.bool false] (.t 35) (.t 36), none, [0, 1]⟩,
                ⟨(some 38), .load 1 false (.t 37), none, [2]⟩,
                ⟨(some 39), .not (.t 38), none, [3]⟩] false)
              (.cond (.t 39)
               (.seq
                (.region [
                  ⟨(some 6), .mov (.c (.int .i64 0)), none, []⟩,
                  ⟨(some 7), .mov (.c (.bool false)), none, [0, 0]⟩] false)
                .ret)
               .skip))
             (.region [
               ⟨(some 40), .mov (.t 8), none, []⟩,
               ⟨(some 41), .mov (.t 1), none, []⟩,
               ⟨(some 42), .mov (.t 9), none, []⟩,
               ⟨(some 43), .iaddrS [.int .i64 0] (.t 41) (.t 42), none, [2, 1]⟩,
               ⟨(some 44), .load 1 false (.t 43), none, [1, 2, 3]⟩,
               ⟨(some 45), .call 41 [(.t 44), (.c (.int .i64 (-1000000000000))), (.c (.int .i64 1000000000000))], none, [3, 2, 1, 4]⟩,
               ⟨(some 46), .faddr 1 (.t 3), none, []⟩,
               ⟨(some 47), .load 1 false (.t 46), none, [6]⟩,
               ⟨(some 48), .arith .sub (.t 45) (.t 47), none, [6, 4, 1, 2, 3, 7, 5]⟩,
               ⟨(some 49), .call 42 [(.t 48), (.c (.int .i64 1000))], none, [7, 3, 2, 1, 4, 6, 5, 8]⟩,
               ⟨(some 50), .call 41 [(.t 49), (.c (.int .i64 (-100000))), (.c (.int .i64 100000))], none, [8, 5, 6, 4, 1, 2, 3, 7, 9]⟩,
               ⟨(some 51), .minmax true [(.t 40), (.t 50)], none, [9, 7, 3, 2, 1, 4, 6, 5, 8, 10, 0]⟩,
               ⟨(some 8), .mov (.t 51), none, [9, 8, 7, 6, 5, 4, 3, 2, 1, 0, 10, 11]⟩] true)))
           (.region [
             ⟨(some 33), .mov (.t 9), none, []⟩,
             ⟨(some 34), .arith .add (.t 33) (.c (.int .i64 1)), none, [0]⟩,
             ⟨(some 9), .mov (.t 34), none, [1, 0, 1]⟩] false))))))
      (.seq
       (.region [
         ⟨(some 52), .mov (.t 8), none, []⟩,
         ⟨(some 6), .mov (.t 52), none, [0, 0]⟩,
         ⟨(some 7), .mov (.c (.bool true)), none, [1, 0, 1]⟩] false)
       .ret)))))
def rv26 : List RV := [.t 6, .t 7]
theorem rc26_ok : comp Try.prog Try.f26.ntmps (Try.f26.body.getD .skip) = some (erase rc26) := by kernel_rfl
theorem rv26_ok : compRes Try.prog Try.f26.results.toList = some rv26 := by kernel_rfl

/-- baseboard/baseboardref41.Step [24, 26, 27, 28] -/
def rc27 : RC :=
  (.seq
   (.region [
     ⟨(some 4), .box 7 (.t 0), none, []⟩,
     ⟨(some 5), .box 2 (.t 1), none, []⟩,
     ⟨(some 8), .alloc [.int .i64 0, .int .i64 0], none, []⟩,
     ⟨(some 9), .mov (.c (.int .i64 0)), none, []⟩] false)
   (.seq
    (.block 0
     (.seq
      (.region [
        ⟨(some 13), .load 7 true (.t 4), none, []⟩,
        ⟨(some 14), .load 2 true (.t 5), none, []⟩,
        ⟨(some 15), .call 29 [(.t 13), (.t 14)], none, [0, 1]⟩,
        ⟨(some 16), .not (.t 15), none, [2]⟩,
        ⟨(some 12), .mov (.t 16), none, [3, 2]⟩] false)
      (.cond (.t 12)
       (.seq
        (.region [
          ⟨(some 17), .build [.int .i64 0, .int .i64 0] [], none, []⟩,
          ⟨none, .store 2 (.t 8) (.t 17), none, [0, 0]⟩,
          ⟨(some 9), .mov (.c (.int .i64 1)), none, [1, 0, 1]⟩] false)
        .ret)
       (.seq
        (.region [
          ⟨(some 19), .mov (.t 2), none, []⟩,
          ⟨(some 20), .len 0 (.t 19), none, [0]⟩,
          ⟨(some 21), .faddr 0 (.t 4), none, []⟩,
          ⟨(some 22), .load 1 false (.t 21), none, [2]⟩,
          ⟨(some 23), .len 0 (.t 22), none, [3]⟩,
          ⟨(some 24), .cmp .neq 0 (.t 20) (.t 23), none, [1, 4]⟩,
          ⟨(some 25), .mov (.t 24), none, [5]⟩,
          ⟨(some 26), .mov (.t 3), (some (25, false)), [6]⟩,
          ⟨(some 27), .len 0 (.t 26), (some (25, false)), [7, 6]⟩,
          ⟨(some 28), .faddr 0 (.t 4), (some (25, false)), [6]⟩,
          ⟨(some 29), .load 1 false (.t 28), (some (25, false)), [9, 6]⟩,
          ⟨(some 30), .len 0 (.t 29), (some (25, false)), [10, 6]⟩,
          ⟨(some 31), .cmp .neq 0 (.t 27) (.t 30), (some (25, false)), [8, 11, 6]⟩,
          ⟨(some 32), .pick (.t 25) (.c (.bool true)) (.t 31), none, [6, 12]⟩,
          ⟨(some 18), .mov (.t 32), none, [13, 6]⟩] false)
        (.cond (.t 18)
         (.seq
          (.region [
            ⟨(some 33), .build [.int .i64 0, .int .i64 0] [], none, []⟩,
            ⟨none, .store 2 (.t 8) (.t 33), none, [0, 0]⟩,
            ⟨(some 9), .mov (.c (.int .i64 2)), none, [1, 0, 1]⟩] false)
          .ret)
         .skip)))))
    (.seq
     (.seq
      (.region [
        ⟨(some 35), .load 7 true (.t 4), none, []⟩,
        ⟨(some 36), .mov (.t 2), none, []⟩,
        ⟨(some 37), .mov (.t 3), none, []⟩,
        ⟨(some 38), .call 26 [(.t 35), (.t 36), (.t 37)], none, [0, 1, 2]⟩,
        ⟨(some 34), .mov (.t 38), none, [3]⟩,
        ⟨(some 39), .extract 0 (.t 34), none, [4]⟩,
        ⟨(some 40), .extract 1 (.t 34), none, [4]⟩,
        ⟨(some 10), .mov (.t 39), none, [5, 3, 0, 1, 2, 3, 4, 5]⟩,
        ⟨(some 11), .mov (.t 40), none, [6, 7, 0, 1, 2, 3, 4, 5, 6, 7]⟩] false)
      (.seq
       (.region [
         ⟨(some 41), .mov (.t 11), none, []⟩] false)
       (.cond (.t 41)
        (.seq
         (.region [
           ⟨(some 42), .load 7 true (.t 4), none, []⟩,
           ⟨(some 43), .load 2 true (.t 5), none, []⟩,
           ⟨(some 44), .mov (.t 10), none, []⟩,
           ⟨(some 45), .call 40 [(.t 42), (.t 43), (.t 44)], none, [0, 1, 2]⟩,
           ⟨none, .store 2 (.t 8) (.t 45), none, [3, 3, 0, 1, 2, 3]⟩,
           ⟨(some 9), .mov (.c (.int .i64 0)), none, [4, 0, 1, 2, 3, 4]⟩] false)
         .ret)
        .skip)))
     (.seq
      (.region [
        ⟨(some 46), .faddr 0 (.t 5), none, []⟩,
        ⟨(some 47), .load 1 false (.t 46), none, [0]⟩,
        ⟨(some 48), .faddr 5 (.t 4), none, []⟩,
        ⟨(some 49), .load 1 false (.t 48), none, [2]⟩,
        ⟨(some 50), .faddr 6 (.t 4), none, []⟩,
        ⟨(some 51), .load 1 false (.t 50), none, [4]⟩,
        ⟨(some 52), .call 43 [(.t 47), (.t 49), (.t 51)], none, [1, 3, 5]⟩,
        ⟨(some 53), .faddr 0 (.t 5), none, [0, 1, 2, 3, 4, 5, 6]⟩,
        ⟨none, .store 1 (.t 53) (.t 52), none, [7, 6, 6, 0, 1, 2, 3, 4, 5, 6]⟩] false)
      (.seq
       (.region [
         ⟨(some 54), .load 2 true (.t 5), none, []⟩,
         ⟨none, .store 2 (.t 8) (.t 54), none, [0, 0]⟩,
         ⟨(some 9), .mov (.c (.int .i64 0)), none, [1, 0, 1]⟩] false)
       .ret)))))
def rv27 : List RV := [.c 8 2 true, .t 9]
theorem rc27_ok : comp Try.prog Try.f27.ntmps (Try.f27.body.getD .skip) = some (erase rc27) := by kernel_rfl
theorem rv27_ok : compRes Try.prog Try.f27.results.toList = some rv27 := by kernel_rfl

/-- baseboard/baseboardref41.Valid [24] -/
def rc28 : RC :=
  (.seq
   (.region [
     ⟨(some 1), .box 7 (.t 0), none, []⟩,
     ⟨(some 2), .mov (.c (.bool false)), none, []⟩] false)
   (.seq
    (.seq
     (.region [
       ⟨(some 4), .faddr 0 (.t 1), none, []⟩,
       ⟨(some 5), .load 1 false (.t 4), none, [0]⟩,
       ⟨(some 6), .len 0 (.t 5), none, [1]⟩,
       ⟨(some 7), .cmp .lss 0 (.t 6) (.c (.int .i64 1)), none, [2]⟩,
       ⟨(some 8), .mov (.t 7), none, [3]⟩,
       ⟨(some 9), .faddr 0 (.t 1), (some (8, false)), [4]⟩,
       ⟨(some 10), .load 1 false (.t 9), (some (8, false)), [5, 4]⟩,
       ⟨(some 11), .len 0 (.t 10), (some (8, false)), [6, 4]⟩,
       ⟨(some 12), .cmp .gtr 0 (.t 11) (.c (.int .i64 8)), (some (8, false)), [7, 4]⟩,
       ⟨(some 13), .pick (.t 8) (.c (.bool true)) (.t 12), none, [4, 8]⟩,
       ⟨(some 14), .mov (.t 13), none, [9, 4]⟩,
       ⟨(some 15), .faddr 1 (.t 1), (some (14, false)), [10]⟩,
       ⟨(some 16), .load 1 false (.t 15), (some (14, false)), [11, 10]⟩,
       ⟨(some 17), .cmp .lss 0 (.t 16) (.c (.int .i64 (-1000000000000))), (some (14, false)), [12, 10]⟩,
       ⟨(some 18), .pick (.t 14) (.c (.bool true)) (.t 17), none, [10, 13]⟩,
       ⟨(some 19), .mov (.t 18), none, [14, 10]⟩,
       ⟨(some 20), .faddr 1 (.t 1), (some (19, false)), [15]⟩,
       ⟨(some 21), .load 1 false (.t 20), (some (19, false)), [16, 15]⟩,
       ⟨(some 22), .cmp .gtr 0 (.t 21) (.c (.int .i64 1000000000000)), (some (19, false)), [17, 15]⟩,
       ⟨(some 23), .pick (.t 19) (.c (.bool true)) (.t 22), none, [15, 18]⟩] false)
     (.cond (.t 23)
      (.seq
       (.region [
         ⟨(some 2), .mov (.c (.bool false)), none, []⟩] false)
       .ret)
      .skip))
    (.seq
     (.seq
      (.region [
        ⟨(some 3), .mov (.c (.int .i64 1)), none, []⟩] false)
      (.block 0
       (.loop 0
        (.seq
         (.seq
          (.region [
            ⟨(some 24), .mov (.t 3), none, []⟩,
            ⟨(some 25), .faddr 0 (.t 1), none, []⟩,
            ⟨(some 26), .load 1 false (.t 25), none, [1]⟩,
            ⟨(some 27), .len 0 (.t 26), none, [2]⟩,
            ⟨(some 28), .cmp .lss 0 (.t 24) (.t 27), none, [0, 3]⟩] false)
          (.cond (.t 28)
           .skip
           (.exit 0)))
         (.seq
          (.block 1
           (.seq
            (.region [
              ⟨(some 31), .faddr 0 (.t 1), none, []⟩,
              ⟨(some 32), .load 1 false (.t 31), none, [0]⟩,
              ⟨(some 33), .mov (.t 3), none, []⟩,
              ⟨(some 34), .arith .sub (.t 33) (.c (.int .i64 1)), none, [2]⟩,
              ⟨(some 35), .iaddrS [.int .u8 0] (.t 32) (.t 34), none, [2, 0, 3, 1]⟩,
              ⟨(some 36), .load 1 false (.t 35), none, [1, 3, 0, 2, 4]⟩,
              ⟨(some 37), .faddr 0 (.t 1), none, []⟩,
              ⟨(some 38), .load 1 false (.t 37), none, [6]⟩,
              ⟨(some 39), .mov (.t 3), none, []⟩,
              ⟨(some 40), .iaddrS [.int .u8 0] (.t 38) (.t 39), none, [6, 8, 7]⟩,
              ⟨(some 41), .load 1 false (.t 40), none, [7, 8, 6, 9]⟩,
              ⟨(some 42), .cmp .geq 0 (.t 36) (.t 41), none, [9, 6, 8, 7, 4, 2, 0, 3, 1, 10, 5]⟩] true)
            (.cond (.t 42)
             (.seq
              (.region [
                ⟨(some 2), .mov (.c (.bool false)), none, []⟩] false)
              .ret)
             .skip)))
          (.region [
            ⟨(some 29), .mov (.t 3), none, []⟩,
            ⟨(some 30), .arith .add (.t 29) (.c (.int .i64 1)), none, [0]⟩,
            ⟨(some 3), .mov (.t 30), none, [1, 0, 1]⟩] false))))))
     (.seq
      (.region [
        ⟨(some 43), .faddr 2 (.t 1), none, []⟩,
        ⟨(some 44), .load 1 false (.t 43), none, [0]⟩,
        ⟨(some 45), .cmp .geq 0 (.t 44) (.c (.int .i64 0)), none, [1]⟩,
        ⟨(some 46), .mov (.t 45), none, [2]⟩,
        ⟨(some 47), .faddr 2 (.t 1), (some (46, true)), [3]⟩,
        ⟨(some 48), .load 1 false (.t 47), (some (46, true)), [4, 3]⟩,
        ⟨(some 49), .cmp .leq 0 (.t 48) (.c (.int .i64 10000)), (some (46, true)), [5, 3]⟩,
        ⟨(some 50), .pick (.t 46) (.t 49) (.c (.bool false)), none, [3, 6]⟩,
        ⟨(some 51), .mov (.t 50), none, [7, 3]⟩,
        ⟨(some 52), .faddr 3 (.t 1), (some (51, true)), [8]⟩,
        ⟨(some 53), .load 1 false (.t 52), (some (51, true)), [9, 8]⟩,
        ⟨(some 54), .cmp .geq 0 (.t 53) (.c (.int .i64 0)), (some (51, true)), [10, 8]⟩,
        ⟨(some 55), .pick (.t 51) (.t 54) (.c (.bool false)), none, [8, 11]⟩,
        ⟨(some 56), .mov (.t 55), none, [12, 8]⟩,
        ⟨(some 57), .faddr 3 (.t 1), (some (56, true)), [13]⟩,
        ⟨(some 58), .load 1 false (.t 57), (some (56, true)), [14, 13]⟩,
        ⟨(some 59), .cmp .leq 0 (.t 58) (.c (.int .i64 10000)), (some (56, true)), [15, 13]⟩,
        ⟨(some 60), .pick (.t 56) (.t 59) (.c (.bool false)), none, [13, 16]⟩,
        ⟨(some 61), .mov (.t 60), none, [17, 13]⟩,
        ⟨(some 62), .faddr 4 (.t 1), (some (61, true)), [18]⟩,
        ⟨(some 63), .load 1 false (.t 62), (some (61, true)), [19, 18]⟩,
        ⟨(some 64), .cmp .geq 0 (.t 63) (.c (.int .i64 0)), (some (61, true)), [20, 18]⟩,
        ⟨(some 65), .pick (.t 61) (.t 64) (.c (.bool false)), none, [18, 21]⟩,
        ⟨(some 66), .mov (.t 65), none, [22, 18]⟩,
        ⟨(some 67), .faddr 4 (.t 1), (some (66, true)), [23]⟩,
        ⟨(some 68), .load 1 false (.t 67), (some (66, true)), [24, 23]⟩,
        ⟨(some 69), .faddr 5 (.t 1), (some (66, true)), [23]⟩,
        ⟨(some 70), .load 1 false (.t 69), (some (66, true)), [26, 23]⟩,
        ⟨(some 71), .cmp .leq 0 (.t 68) (.t 70), (some (66, true)), [25, 27, 23]⟩,
        ⟨(some 72), .pick (.t 66) (.t 71) (.c (.bool false)), none, [23, 28]⟩,
        ⟨(some 73), .mov (.t 72), none, [29, 23]⟩,
        ⟨(some 74), .faddr 5 (.t 1), (some (73, true)), [30]⟩,
        ⟨(some 75), .load 1 false (.t 74), (some (73, true)), [31, 30]⟩,
        ⟨(some 76), .cmp .leq 0 (.t 75) (.c (.int .i64 1000)), (some (73, true)), [32, 30]⟩,
        ⟨(some 77), .pick (.t 73) (.t 76) (.c (.bool false)), none, [30, 33]⟩,
        ⟨(some 78), .mov (.t 77), none, [34, 30]⟩,
        ⟨(some 79), .faddr 6 (.t 1), (some (78, true)), [35]⟩,
        ⟨(some 80), .load 1 false (.t 79), (some (78, true)), [36, 35]⟩,
        ⟨(some 81), .cmp .geq 0 (.t 80) (.c (.int .i64 1)), (some (78, true)), [37, 35]⟩,
        ⟨(some 82), .pick (.t 78) (.t 81) (.c (.bool false)), none, [35, 38]⟩,
        ⟨(some 83), .mov (.t 82), none, [39, 35]⟩,
        ⟨(some 84), .faddr 6 (.t 1), (some (83, true)), [40]⟩,
        ⟨(some 85), .load 1 false (.t 84), (some (83, true)), [41, 40]⟩,
        ⟨(some 86), .cmp .leq 0 (.t 85) (.c (.int .i64 1000)), (some (83, true)), [42, 40]⟩,
        ⟨(some 87), .pick (.t 83) (.t 86) (.c (.bool false)), none, [40, 43]⟩,
        ⟨(some 2), .mov (.t 87), none, [44, 40, 0, 1, 2, 3, 4, 5, 6, 7, 8, 9, 10, 11, 12, 13, 14, 15, 16, 17, 18, 19, 20, 21, 22, 23, 24, 25, 26, 27, 28, 29, 30, 31, 32, 33, 34, 35, 36, 37, 38, 39, 40, 41, 42, 43, 44]⟩] false)
      .ret))))
def rv28 : List RV := [.t 2]
theorem rc28_ok : comp Try.prog Try.f28.ntmps (Try.f28.body.getD .skip) = some (erase rc28) := by kernel_rfl
theorem rv28_ok : compRes Try.prog Try.f28.results.toList = some rv28 := by kernel_rfl

/-- baseboard/baseboardref41.Sound [24, 26] -/
def rc29 : RC :=
  (.seq
   (.region [
     ⟨(some 2), .box 7 (.t 0), none, []⟩,
     ⟨(some 3), .box 2 (.t 1), none, []⟩,
     ⟨(some 4), .mov (.c (.bool false)), none, []⟩] false)
   (.seq
    (.region [
      ⟨(some 5), .load 7 true (.t 2), none, []⟩,
      ⟨(some 6), .call 28 [(.t 5)], none, [0]⟩,
      ⟨(some 7), .mov (.t 6), none, [0, 1]⟩,
      ⟨(some 8), .faddr 0 (.t 3), (some (7, true)), [1, 0, 2]⟩,
      ⟨(some 9), .load 1 false (.t 8), (some (7, true)), [0, 1, 2, 3]⟩,
      ⟨(some 10), .faddr 4 (.t 2), (some (7, true)), [1, 0, 2]⟩,
      ⟨(some 11), .load 1 false (.t 10), (some (7, true)), [0, 1, 2, 5]⟩,
      ⟨(some 12), .cmp .geq 0 (.t 9) (.t 11), (some (7, true)), [5, 3, 1, 0, 2, 6, 4]⟩,
      ⟨(some 13), .pick (.t 7) (.t 12) (.c (.bool false)), none, [4, 6, 3, 5, 1, 0, 7, 2]⟩,
      ⟨(some 14), .mov (.t 13), none, [7, 0, 1, 5, 3, 6, 4, 2, 8]⟩,
      ⟨(some 15), .faddr 0 (.t 3), (some (14, true)), [8, 2, 4, 6, 3, 5, 1, 0, 7, 9]⟩,
      ⟨(some 16), .load 1 false (.t 15), (some (14, true)), [7, 0, 1, 5, 3, 6, 4, 2, 8, 9, 10]⟩,
      ⟨(some 17), .faddr 5 (.t 2), (some (14, true)), [8, 2, 4, 6, 3, 5, 1, 0, 7, 9]⟩,
      ⟨(some 18), .load 1 false (.t 17), (some (14, true)), [7, 0, 1, 5, 3, 6, 4, 2, 8, 9, 12]⟩,
      ⟨(some 19), .cmp .leq 0 (.t 16) (.t 18), (some (14, true)), [12, 10, 8, 2, 4, 6, 3, 5, 1, 0, 7, 9, 13, 11]⟩,
      ⟨(some 20), .pick (.t 14) (.t 19) (.c (.bool false)), none, [11, 13, 10, 12, 8, 2, 4, 6, 3, 5, 1, 0, 7, 14, 9]⟩,
      ⟨(some 21), .mov (.t 20), none, [14, 7, 0, 1, 5, 3, 6, 4, 2, 8, 12, 10, 13, 11, 9, 15]⟩,
      ⟨(some 22), .faddr 1 (.t 3), (some (21, true)), [15, 9, 11, 13, 10, 12, 8, 2, 4, 6, 3, 5, 1, 0, 7, 14, 16]⟩,
      ⟨(some 23), .load 1 false (.t 22), (some (21, true)), [14, 7, 0, 1, 5, 3, 6, 4, 2, 8, 12, 10, 13, 11, 9, 15, 16, 17]⟩,
      ⟨(some 24), .cmp .geq 0 (.t 23) (.c (.int .i64 0)), (some (21, true)), [17, 15, 9, 11, 13, 10, 12, 8, 2, 4, 6, 3, 5, 1, 0, 7, 14, 16, 18]⟩,
      ⟨(some 25), .pick (.t 21) (.t 24) (.c (.bool false)), none, [18, 17, 15, 9, 11, 13, 10, 12, 8, 2, 4, 6, 3, 5, 1, 0, 7, 14, 19, 16]⟩,
      ⟨(some 26), .mov (.t 25), none, [19, 14, 7, 0, 1, 5, 3, 6, 4, 2, 8, 12, 10, 13, 11, 9, 15, 17, 18, 16, 20]⟩,
      ⟨(some 27), .faddr 1 (.t 3), (some (26, true)), [20, 16, 18, 17, 15, 9, 11, 13, 10, 12, 8, 2, 4, 6, 3, 5, 1, 0, 7, 14, 19, 21]⟩,
      ⟨(some 28), .load 1 false (.t 27), (some (26, true)), [19, 14, 7, 0, 1, 5, 3, 6, 4, 2, 8, 12, 10, 13, 11, 9, 15, 17, 18, 16, 20, 21, 22]⟩,
      ⟨(some 29), .load 7 true (.t 2), (some (26, true)), [20, 16, 18, 17, 15, 9, 11, 13, 10, 12, 8, 2, 4, 6, 3, 5, 1, 0, 7, 14, 19, 21]⟩,
      ⟨(some 30), .call 44 [(.t 29)], (some (26, true)), [19, 14, 7, 0, 1, 5, 3, 6, 4, 2, 8, 12, 10, 13, 11, 9, 15, 17, 18, 16, 20, 21, 24]⟩,
      ⟨(some 31), .cmp .leq 0 (.t 28) (.t 30), (some (26, true)), [24, 22, 20, 16, 18, 17, 15, 9, 11, 13, 10, 12, 8, 2, 4, 6, 3, 5, 1, 0, 7, 14, 19, 21, 25, 23]⟩,
      ⟨(some 32), .pick (.t 26) (.t 31) (.c (.bool false)), none, [23, 25, 22, 24, 20, 16, 18, 17, 15, 9, 11, 13, 10, 12, 8, 2, 4, 6, 3, 5, 1, 0, 7, 14, 19, 26, 21]⟩,
      ⟨(some 4), .mov (.t 32), none, [26, 24, 23, 22, 21, 20, 19, 18, 17, 16, 15, 14, 13, 12, 11, 10, 9, 8, 7, 6, 5, 4, 3, 2, 1, 0, 25, 27]⟩] true)
    .ret))
def rv29 : List RV := [.t 4]
theorem rc29_ok : comp Try.prog Try.f29.ntmps (Try.f29.body.getD .skip) = some (erase rc29) := by kernel_rfl
theorem rv29_ok : compRes Try.prog Try.f29.results.toList = some rv29 := by kernel_rfl

/-- baseboard/baseboardref41.Demand [24, 26, 3] -/
def rc30 : RC :=
  (.seq
   (.region [
     ⟨(some 3), .box 7 (.t 0), none, []⟩,
     ⟨(some 4), .box 2 (.t 1), none, []⟩,
     ⟨(some 6), .mov (.c (.int .i64 0)), none, []⟩] false)
   (.seq
    (.seq
     (.region [
       ⟨(some 8), .load 7 true (.t 3), none, []⟩,
       ⟨(some 9), .load 2 true (.t 4), none, []⟩,
       ⟨(some 10), .call 29 [(.t 8), (.t 9)], none, [0, 1]⟩,
       ⟨(some 11), .not (.t 10), none, [2]⟩] false)
     (.cond (.t 11)
      (.seq
       (.region [
         ⟨(some 6), .mov (.c (.int .i64 0)), none, []⟩] false)
       .ret)
      .skip))
    (.seq
     (.region [
       ⟨(some 12), .mov (.t 2), none, []⟩,
       ⟨(some 13), .call 41 [(.t 12), (.c (.int .i64 (-100000))), (.c (.int .i64 100000))], none, [0]⟩,
       ⟨(some 7), .mov (.t 13), none, [1, 1, 0, 1]⟩] false)
     (.seq
      (.region [
        ⟨(some 14), .faddr 4 (.t 3), none, []⟩,
        ⟨(some 15), .load 1 false (.t 14), none, [0]⟩,
        ⟨(some 16), .faddr 2 (.t 3), none, []⟩,
        ⟨(some 17), .load 1 false (.t 16), none, [2]⟩,
        ⟨(some 18), .mov (.t 7), none, []⟩,
        ⟨(some 19), .arith .mul (.t 17) (.t 18), none, [2, 4, 3]⟩,
        ⟨(some 20), .faddr 1 (.t 4), none, []⟩,
        ⟨(some 21), .load 1 false (.t 20), none, [6]⟩,
        ⟨(some 22), .arith .add (.t 19) (.t 21), none, [6, 3, 4, 2, 7, 5]⟩,
        ⟨(some 23), .call 42 [(.t 22), (.c (.int .i64 1000))], none, [5, 7, 2, 4, 3, 6, 8]⟩,
        ⟨(some 24), .arith .add (.t 15) (.t 23), none, [8, 6, 3, 4, 2, 7, 5, 0, 9, 1]⟩,
        ⟨(some 25), .faddr 4 (.t 3), none, []⟩,
        ⟨(some 26), .load 1 false (.t 25), none, [11]⟩,
        ⟨(some 27), .faddr 5 (.t 3), none, []⟩,
        ⟨(some 28), .load 1 false (.t 27), none, [13]⟩,
        ⟨(some 29), .call 41 [(.t 24), (.t 26), (.t 28)], none, [13, 11, 1, 0, 5, 7, 2, 4, 3, 6, 8, 9, 14, 12, 10]⟩,
        ⟨(some 6), .mov (.t 29), none, [14, 13, 12, 11, 10, 9, 8, 7, 6, 5, 4, 3, 2, 1, 0, 15]⟩] true)
      .ret))))
def rv30 : List RV := [.t 6]
theorem rc30_ok : comp Try.prog Try.f30.ntmps (Try.f30.body.getD .skip) = some (erase rc30) := by kernel_rfl
theorem rv30_ok : compRes Try.prog Try.f30.results.toList = some rv30 := by kernel_rfl

/-- baseboard/fan.within[int] [3, 3, 3] -/
def rc31 : RC :=
  (.seq
   (.region [
     ⟨(some 6), .mov (.c (.bool false)), none, []⟩] false)
   (.seq
    (.region [
      ⟨(some 7), .mov (.t 0), none, []⟩,
      ⟨(some 8), .mov (.t 1), none, []⟩,
      ⟨(some 9), .cmp .geq 0 (.t 7) (.t 8), none, [0, 1]⟩,
      ⟨(some 10), .mov (.t 9), none, [2]⟩,
      ⟨(some 11), .mov (.t 0), (some (10, true)), [3]⟩,
      ⟨(some 12), .mov (.t 2), (some (10, true)), [3]⟩,
      ⟨(some 13), .cmp .leq 0 (.t 11) (.t 12), (some (10, true)), [4, 5, 3]⟩,
      ⟨(some 14), .pick (.t 10) (.t 13) (.c (.bool false)), none, [3, 6]⟩,
      ⟨(some 6), .mov (.t 14), none, [7, 3, 0, 1, 2, 3, 4, 5, 6, 7]⟩] false)
    .ret))
def rv31 : List RV := [.t 6]
theorem rc31_ok : comp Try.prog Try.f31.ntmps (Try.f31.body.getD .skip) = some (erase rc31) := by kernel_rfl
theorem rv31_ok : compRes Try.prog Try.f31.results.toList = some rv31 := by kernel_rfl

/-- baseboard/fan.within[int64] [2, 2, 2] -/
def rc32 : RC :=
  (.seq
   (.region [
     ⟨(some 6), .mov (.c (.bool false)), none, []⟩] false)
   (.seq
    (.region [
      ⟨(some 7), .mov (.t 0), none, []⟩,
      ⟨(some 8), .mov (.t 1), none, []⟩,
      ⟨(some 9), .cmp .geq 0 (.t 7) (.t 8), none, [0, 1]⟩,
      ⟨(some 10), .mov (.t 9), none, [2]⟩,
      ⟨(some 11), .mov (.t 0), (some (10, true)), [3]⟩,
      ⟨(some 12), .mov (.t 2), (some (10, true)), [3]⟩,
      ⟨(some 13), .cmp .leq 0 (.t 11) (.t 12), (some (10, true)), [4, 5, 3]⟩,
      ⟨(some 14), .pick (.t 10) (.t 13) (.c (.bool false)), none, [3, 6]⟩,
      ⟨(some 6), .mov (.t 14), none, [7, 3, 0, 1, 2, 3, 4, 5, 6, 7]⟩] false)
    .ret))
def rv32 : List RV := [.t 6]
theorem rc32_ok : comp Try.prog Try.f32.ntmps (Try.f32.body.getD .skip) = some (erase rc32) := by kernel_rfl
theorem rv32_ok : compRes Try.prog Try.f32.results.toList = some rv32 := by kernel_rfl

/-- baseboard/fan.controlled [24, 26, 3] -/
def rc33 : RC :=
  (.seq
   (.region [
     ⟨(some 3), .box 7 (.t 0), none, []⟩,
     ⟨(some 4), .box 2 (.t 1), none, []⟩,
     ⟨(some 6), .alloc [.int .i64 0, .int .i64 0], none, []⟩] false)
   (.seq
    (.region [
      ⟨(some 7), .faddr 1 (.t 4), none, []⟩,
      ⟨(some 8), .load 1 false (.t 7), none, [0]⟩,
      ⟨(some 9), .faddr 3 (.t 3), none, []⟩,
      ⟨(some 10), .load 1 false (.t 9), none, [2]⟩,
      ⟨(some 11), .mov (.t 2), none, []⟩,
      ⟨(some 12), .arith .mul (.t 10) (.t 11), none, [2, 4, 3]⟩,
      ⟨(some 13), .arith .add (.t 8) (.t 12), none, [3, 4, 2, 0, 5, 1]⟩,
      ⟨(some 14), .load 7 true (.t 3), none, []⟩,
      ⟨(some 15), .call 35 [(.t 14)], none, [7]⟩,
      ⟨(some 16), .call 37 [(.t 13), (.c (.int .i64 0)), (.t 15)], none, [7, 1, 5, 0, 2, 4, 3, 8, 6]⟩,
      ⟨(some 17), .faddr 1 (.t 4), none, [9, 8, 7, 6, 5, 4, 3, 2, 1, 0]⟩,
      ⟨none, .store 1 (.t 17) (.t 16), none, [8, 7, 6, 5, 4, 3, 2, 1, 0, 9, 10]⟩] true)
    (.seq
     (.region [
       ⟨(some 18), .load 7 true (.t 3), none, []⟩,
       ⟨(some 19), .faddr 0 (.t 4), none, []⟩,
       ⟨(some 20), .load 1 false (.t 19), none, [1]⟩,
       ⟨(some 21), .load 7 true (.t 3), none, []⟩,
       ⟨(some 22), .faddr 1 (.t 4), none, []⟩,
       ⟨(some 23), .load 1 false (.t 22), none, [4]⟩,
       ⟨(some 24), .mov (.t 2), none, []⟩,
       ⟨(some 25), .call 38 [(.t 21), (.t 23), (.t 24)], none, [4, 6, 5, 3]⟩,
       ⟨(some 26), .call 34 [(.t 18), (.t 20), (.t 25)], none, [3, 5, 6, 4, 1, 7, 2, 0]⟩,
       ⟨(some 27), .faddr 0 (.t 4), none, [8, 7, 6, 5, 4, 3, 2, 1, 0]⟩,
       ⟨none, .store 1 (.t 27) (.t 26), none, [7, 6, 5, 4, 3, 2, 1, 0, 8, 9]⟩] true)
     (.seq
      (.region [
        ⟨(some 28), .load 2 true (.t 4), none, []⟩,
        ⟨none, .store 2 (.t 6) (.t 28), none, [0, 0]⟩] false)
      .ret))))
def rv33 : List RV := [.c 6 2 true]
theorem rc33_ok : comp Try.prog Try.f33.ntmps (Try.f33.body.getD .skip) = some (erase rc33) := by kernel_rfl
theorem rv33_ok : compRes Try.prog Try.f33.results.toList = some rv33 := by kernel_rfl

/-- baseboard/fan.moved [24, 3, 3] -/
def rc34 : RC :=
  (.seq
   (.region [
     ⟨(some 3), .box 7 (.t 0), none, []⟩,
     ⟨(some 6), .mov (.c (.int .i64 0)), none, []⟩] false)
   (.seq
    (.region [
      ⟨(some 7), .mov (.t 2), none, []⟩,
      ⟨(some 8), .mov (.t 1), none, []⟩,
      ⟨(some 9), .faddr 6 (.t 3), none, []⟩,
      ⟨(some 10), .load 1 false (.t 9), none, [2]⟩,
      ⟨(some 11), .arith .sub (.t 8) (.t 10), none, [1, 3]⟩,
      ⟨(some 12), .mov (.t 1), none, []⟩,
      ⟨(some 13), .faddr 6 (.t 3), none, []⟩,
      ⟨(some 14), .load 1 false (.t 13), none, [6]⟩,
      ⟨(some 15), .arith .add (.t 12) (.t 14), none, [5, 7]⟩,
      ⟨(some 16), .call 39 [(.t 7), (.t 11), (.t 15)], none, [0, 4, 8]⟩,
      ⟨(some 6), .mov (.t 16), none, [9, 9, 0, 1, 2, 3, 4, 5, 6, 7, 8, 9]⟩] false)
    .ret))
def rv34 : List RV := [.t 6]
theorem rc34_ok : comp Try.prog Try.f34.ntmps (Try.f34.body.getD .skip) = some (erase rc34) := by kernel_rfl
theorem rv34_ok : compRes Try.prog Try.f34.results.toList = some rv34 := by kernel_rfl

/-- baseboard/fan.top [24] -/
def rc35 : RC :=
  (.seq
   (.region [
     ⟨(some 1), .box 7 (.t 0), none, []⟩,
     ⟨(some 2), .mov (.c (.int .i64 0)), none, []⟩] false)
   (.seq
    (.region [
      ⟨(some 3), .faddr 5 (.t 1), none, []⟩,
      ⟨(some 4), .load 1 false (.t 3), none, [0]⟩,
      ⟨(some 5), .faddr 4 (.t 1), none, []⟩,
      ⟨(some 6), .load 1 false (.t 5), none, [2]⟩,
      ⟨(some 7), .arith .sub (.t 4) (.t 6), none, [1, 3]⟩,
      ⟨(some 8), .arith .mul (.c (.int .i64 1000)) (.t 7), none, [4]⟩,
      ⟨(some 2), .mov (.t 8), none, [5, 0, 1, 2, 3, 4, 5]⟩] false)
    .ret))
def rv35 : List RV := [.t 2]
theorem rc35_ok : comp Try.prog Try.f35.ntmps (Try.f35.body.getD .skip) = some (erase rc35) := by kernel_rfl
theorem rv35_ok : compRes Try.prog Try.f35.results.toList = some rv35 := by kernel_rfl

/-- baseboard/fan.floor [2] -/
def rc36 : RC :=
  (.seq
   (.region [
     ⟨(some 2), .mov (.c (.int .i64 0)), none, []⟩] false)
   (.seq
    (.region [
      ⟨(some 4), .mov (.t 0), none, []⟩,
      ⟨(some 5), .arith .quo (.t 4) (.c (.int .i64 1000)), none, [0]⟩,
      ⟨(some 3), .mov (.t 5), none, [1, 0, 1]⟩] false)
    (.seq
     (.seq
      (.region [
        ⟨(some 6), .mov (.t 0), none, []⟩,
        ⟨(some 7), .arith .rem (.t 6) (.c (.int .i64 1000)), none, [0]⟩,
        ⟨(some 8), .cmp .lss 0 (.t 7) (.c (.int .i64 0)), none, [1]⟩] false)
      (.cond (.t 8)
       (.region [
         ⟨(some 9), .mov (.t 3), none, []⟩,
         ⟨(some 10), .arith .sub (.t 9) (.c (.int .i64 1)), none, [0]⟩,
         ⟨(some 3), .mov (.t 10), none, [1, 0, 1]⟩] false)
       .skip))
     (.seq
      (.region [
        ⟨(some 11), .mov (.t 3), none, []⟩,
        ⟨(some 2), .mov (.t 11), none, [0, 0]⟩] false)
      .ret))))
def rv36 : List RV := [.t 2]
theorem rc36_ok : comp Try.prog Try.f36.ntmps (Try.f36.body.getD .skip) = some (erase rc36) := by kernel_rfl
theorem rv36_ok : compRes Try.prog Try.f36.results.toList = some rv36 := by kernel_rfl

/-- baseboard/fan.limited[int64] [2, 2, 2] -/
def rc37 : RC :=
  (.seq
   (.region [
     ⟨(some 6), .mov (.c (.int .i64 0)), none, []⟩] false)
   (.seq
    (.region [
      ⟨(some 7), .mov (.t 1), none, []⟩,
      ⟨(some 8), .mov (.t 0), none, []⟩,
      ⟨(some 9), .mov (.t 2), none, []⟩,
      ⟨(some 10), .minmax false [(.t 8), (.t 9)], none, [1, 2]⟩,
      ⟨(some 11), .minmax true [(.t 7), (.t 10)], none, [0, 3]⟩,
      ⟨(some 6), .mov (.t 11), none, [4, 0, 1, 2, 3, 4]⟩] false)
    .ret))
def rv37 : List RV := [.t 6]
theorem rc37_ok : comp Try.prog Try.f37.ntmps (Try.f37.body.getD .skip) = some (erase rc37) := by kernel_rfl
theorem rv37_ok : compRes Try.prog Try.f37.results.toList = some rv37 := by kernel_rfl

/-- baseboard/fan.wanted [24, 2, 3] -/
def rc38 : RC :=
  (.seq
   (.region [
     ⟨(some 3), .box 7 (.t 0), none, []⟩,
     ⟨(some 6), .mov (.c (.int .i64 0)), none, []⟩] false)
   (.seq
    (.region [
      ⟨(some 8), .faddr 4 (.t 3), none, []⟩,
      ⟨(some 9), .load 1 false (.t 8), none, [0]⟩,
      ⟨(some 10), .faddr 2 (.t 3), none, []⟩,
      ⟨(some 11), .load 1 false (.t 10), none, [2]⟩,
      ⟨(some 12), .mov (.t 2), none, []⟩,
      ⟨(some 13), .arith .mul (.t 11) (.t 12), none, [2, 4, 3]⟩,
      ⟨(some 14), .mov (.t 1), none, []⟩,
      ⟨(some 15), .arith .add (.t 13) (.t 14), none, [3, 4, 2, 6, 5]⟩,
      ⟨(some 16), .call 36 [(.t 15)], none, [5, 6, 2, 4, 3, 7]⟩,
      ⟨(some 17), .arith .add (.t 9) (.t 16), none, [7, 3, 4, 2, 6, 5, 0, 8, 1]⟩,
      ⟨(some 7), .mov (.t 17), none, [7, 6, 5, 4, 3, 2, 1, 0, 8, 9]⟩] true)
    (.seq
     (.region [
       ⟨(some 18), .mov (.t 7), none, []⟩,
       ⟨(some 19), .faddr 4 (.t 3), none, []⟩,
       ⟨(some 20), .load 1 false (.t 19), none, [1]⟩,
       ⟨(some 21), .faddr 5 (.t 3), none, []⟩,
       ⟨(some 22), .load 1 false (.t 21), none, [3]⟩,
       ⟨(some 23), .call 37 [(.t 18), (.t 20), (.t 22)], none, [0, 2, 4]⟩,
       ⟨(some 6), .mov (.t 23), none, [5, 5, 0, 1, 2, 3, 4, 5]⟩] false)
     .ret)))
def rv38 : List RV := [.t 6]
theorem rc38_ok : comp Try.prog Try.f38.ntmps (Try.f38.body.getD .skip) = some (erase rc38) := by kernel_rfl
theorem rv38_ok : compRes Try.prog Try.f38.results.toList = some rv38 := by kernel_rfl

/-- baseboard/fan.limited[int] [3, 3, 3] -/
def rc39 : RC :=
  (.seq
   (.region [
     ⟨(some 6), .mov (.c (.int .i64 0)), none, []⟩] false)
   (.seq
    (.region [
      ⟨(some 7), .mov (.t 1), none, []⟩,
      ⟨(some 8), .mov (.t 0), none, []⟩,
      ⟨(some 9), .mov (.t 2), none, []⟩,
      ⟨(some 10), .minmax false [(.t 8), (.t 9)], none, [1, 2]⟩,
      ⟨(some 11), .minmax true [(.t 7), (.t 10)], none, [0, 3]⟩,
      ⟨(some 6), .mov (.t 11), none, [4, 0, 1, 2, 3, 4]⟩] false)
    .ret))
def rv39 : List RV := [.t 6]
theorem rc39_ok : comp Try.prog Try.f39.ntmps (Try.f39.body.getD .skip) = some (erase rc39) := by kernel_rfl
theorem rv39_ok : compRes Try.prog Try.f39.results.toList = some rv39 := by kernel_rfl

/-- baseboard/baseboardref41.once [24, 26, 3] -/
def rc40 : RC :=
  (.seq
   (.region [
     ⟨(some 3), .box 7 (.t 0), none, []⟩,
     ⟨(some 4), .box 2 (.t 1), none, []⟩,
     ⟨(some 6), .alloc [.int .i64 0, .int .i64 0], none, []⟩] false)
   (.seq
    (.region [
      ⟨(some 7), .faddr 1 (.t 4), none, []⟩,
      ⟨(some 8), .load 1 false (.t 7), none, [0]⟩,
      ⟨(some 9), .faddr 3 (.t 3), none, []⟩,
      ⟨(some 10), .load 1 false (.t 9), none, [2]⟩,
      ⟨(some 11), .mov (.t 2), none, []⟩,
      ⟨(some 12), .arith .mul (.t 10) (.t 11), none, [2, 4, 3]⟩,
      ⟨(some 13), .arith .add (.t 8) (.t 12), none, [3, 4, 2, 0, 5, 1]⟩,
      ⟨(some 14), .load 7 true (.t 3), none, []⟩,
      ⟨(some 15), .call 44 [(.t 14)], none, [7]⟩,
      ⟨(some 16), .call 41 [(.t 13), (.c (.int .i64 0)), (.t 15)], none, [7, 1, 5, 0, 2, 4, 3, 8, 6]⟩,
      ⟨(some 17), .faddr 1 (.t 4), none, [9, 8, 7, 6, 5, 4, 3, 2, 1, 0]⟩,
      ⟨none, .store 1 (.t 17) (.t 16), none, [8, 7, 6, 5, 4, 3, 2, 1, 0, 9, 10]⟩] true)
    (.seq
     (.region [
       ⟨(some 18), .faddr 0 (.t 4), none, []⟩,
       ⟨(some 19), .load 1 false (.t 18), none, [0]⟩,
       ⟨(some 20), .load 7 true (.t 3), none, []⟩,
       ⟨(some 21), .load 2 true (.t 4), none, []⟩,
       ⟨(some 22), .mov (.t 2), none, []⟩,
       ⟨(some 23), .call 30 [(.t 20), (.t 21), (.t 22)], none, [4, 3, 2]⟩,
       ⟨(some 24), .faddr 6 (.t 3), none, []⟩,
       ⟨(some 25), .load 1 false (.t 24), none, [6]⟩,
       ⟨(some 26), .call 43 [(.t 19), (.t 23), (.t 25)], none, [6, 2, 3, 4, 0, 7, 5, 1]⟩,
       ⟨(some 27), .faddr 0 (.t 4), none, [8, 7, 6, 5, 4, 3, 2, 1, 0]⟩,
       ⟨none, .store 1 (.t 27) (.t 26), none, [7, 6, 5, 4, 3, 2, 1, 0, 8, 9]⟩] true)
     (.seq
      (.region [
        ⟨(some 28), .load 2 true (.t 4), none, []⟩,
        ⟨none, .store 2 (.t 6) (.t 28), none, [0, 0]⟩] false)
      .ret))))
def rv40 : List RV := [.c 6 2 true]
theorem rc40_ok : comp Try.prog Try.f40.ntmps (Try.f40.body.getD .skip) = some (erase rc40) := by kernel_rfl
theorem rv40_ok : compRes Try.prog Try.f40.results.toList = some rv40 := by kernel_rfl

/-- baseboard/baseboardref41.limit [2, 2, 2] -/
def rc41 : RC :=
  (.seq
   (.region [
     ⟨(some 6), .mov (.c (.int .i64 0)), none, []⟩] false)
   (.seq
    (.region [
      ⟨(some 7), .mov (.t 1), none, []⟩,
      ⟨(some 8), .mov (.t 0), none, []⟩,
      ⟨(some 9), .mov (.t 2), none, []⟩,
      ⟨(some 10), .minmax false [(.t 8), (.t 9)], none, [1, 2]⟩,
      ⟨(some 11), .minmax true [(.t 7), (.t 10)], none, [0, 3]⟩,
      ⟨(some 6), .mov (.t 11), none, [4, 0, 1, 2, 3, 4]⟩] false)
    .ret))
def rv41 : List RV := [.t 6]
theorem rc41_ok : comp Try.prog Try.f41.ntmps (Try.f41.body.getD .skip) = some (erase rc41) := by kernel_rfl
theorem rv41_ok : compRes Try.prog Try.f41.results.toList = some rv41 := by kernel_rfl

/-- baseboard/baseboardref41.down [2, 2] -/
def rc42 : RC :=
  (.seq
   (.region [
     ⟨(some 4), .mov (.c (.int .i64 0)), none, []⟩] false)
   (.seq
    (.region [
      ⟨(some 6), .mov (.t 0), none, []⟩,
      ⟨(some 7), .mov (.t 1), none, []⟩,
      ⟨(some 8), .arith .quo (.t 6) (.t 7), none, [0, 1]⟩,
      ⟨(some 5), .mov (.t 8), none, [2, 0, 1, 2]⟩] false)
    (.seq
     (.seq
      (.region [
        ⟨(some 9), .mov (.t 0), none, []⟩,
        ⟨(some 10), .mov (.t 1), none, []⟩,
        ⟨(some 11), .arith .rem (.t 9) (.t 10), none, [0, 1]⟩,
        ⟨(some 12), .cmp .lss 0 (.t 11) (.c (.int .i64 0)), none, [2]⟩] false)
      (.cond (.t 12)
       (.region [
         ⟨(some 13), .mov (.t 5), none, []⟩,
         ⟨(some 14), .arith .sub (.t 13) (.c (.int .i64 1)), none, [0]⟩,
         ⟨(some 5), .mov (.t 14), none, [1, 0, 1]⟩] false)
       .skip))
     (.seq
      (.region [
        ⟨(some 15), .mov (.t 5), none, []⟩,
        ⟨(some 4), .mov (.t 15), none, [0, 0]⟩] false)
      .ret))))
def rv42 : List RV := [.t 4]
theorem rc42_ok : comp Try.prog Try.f42.ntmps (Try.f42.body.getD .skip) = some (erase rc42) := by kernel_rfl
theorem rv42_ok : compRes Try.prog Try.f42.results.toList = some rv42 := by kernel_rfl

/-- baseboard/baseboardref41.toward [3, 3, 3] -/
def rc43 : RC :=
  (.seq
   (.region [
     ⟨(some 6), .mov (.c (.int .i64 0)), none, []⟩] false)
   (.seq
    (.region [
      ⟨(some 7), .mov (.t 0), none, []⟩,
      ⟨(some 8), .mov (.t 2), none, []⟩,
      ⟨(some 9), .arith .sub (.t 7) (.t 8), none, [0, 1]⟩,
      ⟨(some 10), .mov (.t 0), none, []⟩,
      ⟨(some 11), .mov (.t 2), none, []⟩,
      ⟨(some 12), .arith .add (.t 10) (.t 11), none, [3, 4]⟩,
      ⟨(some 13), .mov (.t 1), none, []⟩,
      ⟨(some 14), .minmax false [(.t 12), (.t 13)], none, [5, 6]⟩,
      ⟨(some 15), .minmax true [(.t 9), (.t 14)], none, [2, 7]⟩,
      ⟨(some 6), .mov (.t 15), none, [8, 0, 1, 2, 3, 4, 5, 6, 7, 8]⟩] false)
    .ret))
def rv43 : List RV := [.t 6]
theorem rc43_ok : comp Try.prog Try.f43.ntmps (Try.f43.body.getD .skip) = some (erase rc43) := by kernel_rfl
theorem rv43_ok : compRes Try.prog Try.f43.results.toList = some rv43 := by kernel_rfl

/-- baseboard/baseboardref41.top [24] -/
def rc44 : RC :=
  (.seq
   (.region [
     ⟨(some 1), .box 7 (.t 0), none, []⟩,
     ⟨(some 2), .mov (.c (.int .i64 0)), none, []⟩] false)
   (.seq
    (.region [
      ⟨(some 3), .faddr 5 (.t 1), none, []⟩,
      ⟨(some 4), .load 1 false (.t 3), none, [0]⟩,
      ⟨(some 5), .faddr 4 (.t 1), none, []⟩,
      ⟨(some 6), .load 1 false (.t 5), none, [2]⟩,
      ⟨(some 7), .arith .sub (.t 4) (.t 6), none, [1, 3]⟩,
      ⟨(some 8), .arith .mul (.c (.int .i64 1000)) (.t 7), none, [4]⟩,
      ⟨(some 2), .mov (.t 8), none, [5, 0, 1, 2, 3, 4, 5]⟩] false)
    .ret))
def rv44 : List RV := [.t 2]
theorem rc44_ok : comp Try.prog Try.f44.ntmps (Try.f44.body.getD .skip) = some (erase rc44) := by kernel_rfl
theorem rv44_ok : compRes Try.prog Try.f44.results.toList = some rv44 := by kernel_rfl

end Go.Proofs.Ytofldhooanikcaa

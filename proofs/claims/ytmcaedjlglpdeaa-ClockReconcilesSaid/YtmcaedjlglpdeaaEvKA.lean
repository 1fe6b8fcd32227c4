/- A part of the proof: symbolic evaluation of the program's functions, proved sound against the model; no condition. -/
import Derived.Test.YtmcaedjlglpdeaaEvU
import Derived.Test.YtmcaedjlglpdeaaChecked
namespace Go.Proofs.Ytmcaedjlglpdeaa
open Go Go.RowKit Go.Ev
set_option linter.unusedSimpArgs false
set_option linter.unusedVariables false
set_option maxRecDepth 20000
/-- baseboard/baseboardlaw08.ClockAdvances [23, 2, 2, 2, 4, 24] -/
def rc3 : RC :=
  (.seq
   (.region [
     ⟨(some 6), .box 3 (.t 0), none, []⟩,
     ⟨(some 12), .mov (.c (.bool false)), none, []⟩] false)
   (.seq
    (.seq
     (.region [
       ⟨(some 25), .load 3 true (.t 6), none, []⟩,
       ⟨(some 26), .mov (.t 2), none, []⟩,
       ⟨(some 27), .mov (.t 3), none, []⟩,
       ⟨(some 28), .mov (.t 4), none, []⟩,
       ⟨(some 29), .call 9 [(.t 26), (.t 27), (.t 28)], none, [3, 2, 1]⟩,
       ⟨(some 30), .bsliceO 23 2 [.int .i64 0, .int .i64 0, .bool false] [(0, (.t 25)), (1, (.t 29))], none, [1, 2, 3, 4, 0]⟩,
       ⟨(some 31), .len 0 (.t 30), none, [0, 4, 3, 2, 1, 5]⟩,
       ⟨(some 32), .mov (.c (.int .i64 0)), none, []⟩] true)
     (.block 0
      (.loop 0
       (.seq
        (.region [
          ⟨(some 33), .cmp .lss 0 (.t 32) (.t 31), none, []⟩] false)
        (.seq
         (.cond (.t 33)
          .skip
          (.exit 0))
         (.seq
          (.block 1
           (.seq
            (.region [
              ⟨(some 34), .iaddrS [.int .i64 0, .int .i64 0, .bool false] (.t 30) (.t 32), none, []⟩,
              ⟨(some 35), .load 3 true (.t 34), none, [0]⟩,
              ⟨(some 14), .alloc [.int .i64 0, .int .i64 0, .bool false], none, []⟩,
              ⟨none, .store 3 (.t 14) (.t 35), none, [2, 1, 0, 1, 2]⟩] false)
            (.seq
             (.seq
              (.region [
                ⟨(some 36), .mov (.t 1), none, []⟩,
                ⟨(some 37), .mov (.t 5), none, []⟩,
                ⟨(some 38), .conv .i64 (.t 37), none, [1]⟩,
                ⟨(some 39), .faddr 0 (.t 14), none, []⟩,
                ⟨(some 40), .load 1 false (.t 39), none, [3]⟩,
                ⟨(some 41), .arith .sub (.c (.int .i64 17179869184)) (.t 40), none, [4]⟩,
                ⟨(some 42), .bsliceO 2 3 [.int .i64 0] [(0, (.t 36)), (1, (.t 38)), (2, (.t 41))], none, [0, 2, 5]⟩,
                ⟨(some 43), .len 0 (.t 42), none, [6]⟩,
                ⟨(some 44), .mov (.c (.int .i64 0)), none, []⟩] false)
              (.block 2
               (.loop 1
                (.seq
                 (.region [
                   ⟨(some 45), .cmp .lss 0 (.t 44) (.t 43), none, []⟩] false)
                 (.seq
                  (.cond (.t 45)
                   .skip
                   (.exit 2))
                  (.seq
                   (.block 3
                    (.seq
                     (.region [
                       ⟨(some 46), .iaddrS [.int .i64 0] (.t 42) (.t 44), none, []⟩,
                       ⟨(some 47), .load 1 false (.t 46), none, [0]⟩,
                       ⟨(some 16), .mov (.t 47), none, [1, 0, 1]⟩] false)
                     (.seq
                      (.region [
                        ⟨(some 49), .load 3 true (.t 14), none, []⟩,
                        ⟨(some 50), .mov (.t 16), none, []⟩,
                        ⟨(some 51), .call 10 [(.t 49), (.t 50)], none, [0, 1]⟩,
                        ⟨(some 48), .mov (.t 51), none, [2]⟩,
                        ⟨(some 52), .extract 0 (.t 48), none, [3]⟩,
                        ⟨(some 53), .extract 1 (.t 48), none, [3]⟩,
                        ⟨(some 17), .alloc [.int .i64 0, .int .i64 0, .bool false], none, []⟩,
                        ⟨none, .store 3 (.t 17) (.t 52), none, [6, 4, 2, 0, 1, 2, 3, 4, 6]⟩,
                        ⟨(some 18), .mov (.t 53), none, [5, 7, 0, 1, 2, 3, 4, 5, 6, 7]⟩] false)
                      (.seq
                       (.region [
                         ⟨(some 55), .load 3 true (.t 14), none, []⟩,
                         ⟨(some 56), .mov (.t 16), none, []⟩,
                         ⟨(some 57), .call 11 [(.t 55), (.t 56)], none, [0, 1]⟩,
                         ⟨(some 54), .mov (.t 57), none, [2]⟩,
                         ⟨(some 58), .extract 0 (.t 54), none, [3]⟩,
                         ⟨(some 59), .extract 1 (.t 54), none, [3]⟩,
                         ⟨(some 19), .alloc [.int .i64 0, .int .i64 0, .bool false], none, []⟩,
                         ⟨none, .store 3 (.t 19) (.t 58), none, [6, 4, 2, 0, 1, 2, 3, 4, 6]⟩,
                         ⟨(some 20), .mov (.t 59), none, [5, 7, 0, 1, 2, 3, 4, 5, 6, 7]⟩] false)
                       (.seq
                        (.region [
                          ⟨(some 60), .load 3 true (.t 17), none, []⟩,
                          ⟨(some 61), .load 3 true (.t 19), none, []⟩,
                          ⟨(some 62), .eqa true [0, 0, 1] (.t 60) (.t 61), none, [0, 1]⟩,
                          ⟨(some 63), .mov (.t 62), none, [2]⟩,
                          ⟨(some 64), .mov (.t 18), (some (63, false)), [3]⟩,
                          ⟨(some 65), .mov (.t 20), (some (63, false)), [3]⟩,
                          ⟨(some 66), .cmp .neq 0 (.t 64) (.t 65), (some (63, false)), [4, 5, 3]⟩,
                          ⟨(some 67), .pick (.t 63) (.c (.bool true)) (.t 66), none, [3, 6]⟩] false)
                        (.cond (.t 67)
                         (.seq
                          (.region [
                            ⟨(some 12), .mov (.c (.bool false)), none, []⟩] false)
                          .ret)
                         .skip))))))
                   (.region [
                     ⟨(some 68), .arith .add (.t 44) (.c (.int .i64 1)), none, []⟩,
                     ⟨(some 44), .mov (.t 68), none, [0]⟩] false)))))))
             (.seq
              (.region [
                ⟨(some 70), .load 3 true (.t 14), none, []⟩,
                ⟨(some 71), .call 12 [(.t 70)], none, [0]⟩,
                ⟨(some 69), .mov (.t 71), none, [1]⟩,
                ⟨(some 72), .extract 0 (.t 69), none, [2]⟩,
                ⟨(some 73), .extract 1 (.t 69), none, [2]⟩,
                ⟨(some 21), .mov (.t 72), none, [3, 1, 0, 1, 2, 3]⟩,
                ⟨(some 22), .mov (.t 73), none, [4, 5, 0, 1, 2, 3, 4, 5]⟩] false)
              (.seq
               (.region [
                 ⟨(some 75), .load 3 true (.t 14), none, []⟩,
                 ⟨(some 76), .call 13 [(.t 75)], none, [0]⟩,
                 ⟨(some 74), .mov (.t 76), none, [1]⟩,
                 ⟨(some 77), .extract 0 (.t 74), none, [2]⟩,
                 ⟨(some 78), .extract 1 (.t 74), none, [2]⟩,
                 ⟨(some 23), .mov (.t 77), none, [3, 1, 0, 1, 2, 3]⟩,
                 ⟨(some 24), .mov (.t 78), none, [4, 5, 0, 1, 2, 3, 4, 5]⟩] false)
               (.seq
                (.region [
                  ⟨(some 79), .load 3 true (.t 14), none, []⟩,
                  ⟨(some 80), .call 14 [(.t 79)], none, [0]⟩,
                  ⟨(some 81), .load 3 true (.t 14), none, []⟩,
                  ⟨(some 82), .call 15 [(.t 81)], none, [0, 1, 2]⟩,
                  ⟨(some 83), .cmp .neq 1 (.t 80) (.t 82), none, [2, 0, 3, 1]⟩,
                  ⟨(some 84), .mov (.t 83), none, [1, 0, 2, 3, 4]⟩,
                  ⟨(some 85), .mov (.t 21), (some (84, false)), [4, 3, 2, 0, 1, 5]⟩,
                  ⟨(some 86), .mov (.t 23), (some (84, false)), [4, 3, 2, 0, 1, 5]⟩,
                  ⟨(some 87), .cmp .neq 0 (.t 85) (.t 86), (some (84, false)), [1, 0, 2, 3, 4, 5, 7, 6]⟩,
                  ⟨(some 88), .pick (.t 84) (.c (.bool true)) (.t 87), none, [6, 7, 4, 3, 2, 0, 1, 8, 5]⟩,
                  ⟨(some 89), .mov (.t 88), none, [8, 1, 0, 2, 3, 4, 7, 6, 5, 9]⟩,
                  ⟨(some 90), .mov (.t 22), (some (89, false)), [9, 5, 6, 7, 4, 3, 2, 0, 1, 8, 10]⟩,
                  ⟨(some 91), .mov (.t 24), (some (89, false)), [9, 5, 6, 7, 4, 3, 2, 0, 1, 8, 10]⟩,
                  ⟨(some 92), .cmp .neq 0 (.t 90) (.t 91), (some (89, false)), [8, 1, 0, 2, 3, 4, 7, 6, 5, 9, 10, 12, 11]⟩,
                  ⟨(some 93), .pick (.t 89) (.c (.bool true)) (.t 92), none, [11, 12, 9, 5, 6, 7, 4, 3, 2, 0, 1, 8, 13, 10]⟩] true)
                (.cond (.t 93)
                 (.seq
                  (.region [
                    ⟨(some 12), .mov (.c (.bool false)), none, []⟩] false)
                  .ret)
                 .skip)))))))
          (.region [
            ⟨(some 94), .arith .add (.t 32) (.c (.int .i64 1)), none, []⟩,
            ⟨(some 32), .mov (.t 94), none, [0]⟩] false)))))))
    (.seq
     (.region [
       ⟨(some 95), .call 16 [], none, []⟩,
       ⟨(some 12), .mov (.t 95), none, [0, 0, 0]⟩] false)
     .ret)))
def rv3 : List RV := [.t 12]
theorem rc3_ok : comp Try.prog Try.f3.ntmps (Try.f3.body.getD .skip) = some (erase rc3) := by kernel_rfl
theorem rv3_ok : compRes Try.prog Try.f3.results.toList = some rv3 := by kernel_rfl

/-- baseboard/baseboardlaw08.ClockAdjusts [23, 2, 2, 4, 31] -/
def rc4 : RC :=
  (.seq
   (.region [
     ⟨(some 5), .box 3 (.t 0), none, []⟩,
     ⟨(some 10), .mov (.c (.bool false)), none, []⟩] false)
   (.seq
    (.seq
     (.region [
       ⟨(some 19), .load 3 true (.t 5), none, []⟩,
       ⟨(some 20), .mov (.t 1), none, []⟩,
       ⟨(some 21), .mov (.t 2), none, []⟩,
       ⟨(some 22), .mov (.t 3), none, []⟩,
       ⟨(some 23), .call 9 [(.t 20), (.t 21), (.t 22)], none, [3, 2, 1]⟩,
       ⟨(some 24), .bsliceO 23 2 [.int .i64 0, .int .i64 0, .bool false] [(0, (.t 19)), (1, (.t 23))], none, [1, 2, 3, 4, 0]⟩,
       ⟨(some 25), .len 0 (.t 24), none, [0, 4, 3, 2, 1, 5]⟩,
       ⟨(some 26), .mov (.c (.int .i64 0)), none, []⟩] true)
     (.block 0
      (.loop 0
       (.seq
        (.region [
          ⟨(some 27), .cmp .lss 0 (.t 26) (.t 25), none, []⟩] false)
        (.seq
         (.cond (.t 27)
          .skip
          (.exit 0))
         (.seq
          (.block 1
           (.seq
            (.region [
              ⟨(some 28), .iaddrS [.int .i64 0, .int .i64 0, .bool false] (.t 24) (.t 26), none, []⟩,
              ⟨(some 29), .load 3 true (.t 28), none, [0]⟩,
              ⟨(some 12), .alloc [.int .i64 0, .int .i64 0, .bool false], none, []⟩,
              ⟨none, .store 3 (.t 12) (.t 29), none, [2, 1, 0, 1, 2]⟩] false)
            (.seq
             (.region [
               ⟨(some 31), .load 3 true (.t 12), none, []⟩,
               ⟨(some 32), .mov (.t 4), none, []⟩,
               ⟨(some 33), .call 17 [(.t 31), (.t 32)], none, [0, 1]⟩,
               ⟨(some 30), .mov (.t 33), none, [2]⟩,
               ⟨(some 34), .extract 0 (.t 30), none, [3]⟩,
               ⟨(some 35), .extract 1 (.t 30), none, [3]⟩,
               ⟨(some 36), .extract 2 (.t 30), none, [3]⟩,
               ⟨(some 13), .alloc [.int .i64 0, .int .i64 0, .bool false], none, []⟩,
               ⟨none, .store 3 (.t 13) (.t 34), none, [7, 4, 2, 0, 1, 2, 3, 4, 7]⟩,
               ⟨(some 14), .mov (.t 35), none, [5, 8, 0, 1, 2, 3, 4, 5, 7, 8]⟩,
               ⟨(some 15), .mov (.t 36), none, [6, 9, 0, 1, 2, 3, 4, 5, 6, 7, 8, 9]⟩] false)
             (.seq
              (.region [
                ⟨(some 38), .load 3 true (.t 12), none, []⟩,
                ⟨(some 39), .mov (.t 4), none, []⟩,
                ⟨(some 40), .call 18 [(.t 38), (.t 39)], none, [0, 1]⟩,
                ⟨(some 37), .mov (.t 40), none, [2]⟩,
                ⟨(some 41), .extract 0 (.t 37), none, [3]⟩,
                ⟨(some 42), .extract 1 (.t 37), none, [3]⟩,
                ⟨(some 43), .extract 2 (.t 37), none, [3]⟩,
                ⟨(some 16), .alloc [.int .i64 0, .int .i64 0, .bool false], none, []⟩,
                ⟨none, .store 3 (.t 16) (.t 41), none, [7, 4, 2, 0, 1, 2, 3, 4, 7]⟩,
                ⟨(some 17), .mov (.t 42), none, [5, 8, 0, 1, 2, 3, 4, 5, 7, 8]⟩,
                ⟨(some 18), .mov (.t 43), none, [6, 9, 0, 1, 2, 3, 4, 5, 6, 7, 8, 9]⟩] false)
              (.seq
               (.region [
                 ⟨(some 44), .load 3 true (.t 13), none, []⟩,
                 ⟨(some 45), .load 3 true (.t 16), none, []⟩,
                 ⟨(some 46), .eqa true [0, 0, 1] (.t 44) (.t 45), none, [0, 1]⟩,
                 ⟨(some 47), .mov (.t 46), none, [2]⟩,
                 ⟨(some 48), .mov (.t 15), (some (47, false)), [3]⟩,
                 ⟨(some 49), .mov (.t 18), (some (47, false)), [3]⟩,
                 ⟨(some 50), .cmp .neq 0 (.t 48) (.t 49), (some (47, false)), [4, 5, 3]⟩,
                 ⟨(some 51), .pick (.t 47) (.c (.bool true)) (.t 50), none, [3, 6]⟩,
                 ⟨(some 52), .mov (.t 51), none, [7, 3]⟩,
                 ⟨(some 53), .mov (.t 14), (some (52, false)), [8]⟩,
                 ⟨(some 54), .mov (.t 17), (some (52, false)), [8]⟩,
                 ⟨(some 55), .call 19 [(.t 53), (.t 54)], (some (52, false)), [9, 10, 8, 8]⟩,
                 ⟨(some 56), .not (.t 55), (some (52, false)), [11, 8]⟩,
                 ⟨(some 57), .pick (.t 52) (.c (.bool true)) (.t 56), none, [8, 12]⟩] false)
               (.cond (.t 57)
                (.seq
                 (.region [
                   ⟨(some 10), .mov (.c (.bool false)), none, []⟩] false)
                 .ret)
                .skip))))))
          (.region [
            ⟨(some 58), .arith .add (.t 26) (.c (.int .i64 1)), none, []⟩,
            ⟨(some 26), .mov (.t 58), none, [0]⟩] false)))))))
    (.seq
     (.region [
       ⟨(some 59), .call 16 [], none, []⟩,
       ⟨(some 10), .mov (.t 59), none, [0, 0, 0]⟩] false)
     .ret)))
def rv4 : List RV := [.t 10]
theorem rc4_ok : comp Try.prog Try.f4.ntmps (Try.f4.body.getD .skip) = some (erase rc4) := by kernel_rfl
theorem rv4_ok : compRes Try.prog Try.f4.results.toList = some rv4 := by kernel_rfl

/-- baseboard/baseboardlaw08.ClockParts [2, 2, 4, 24, 24, 31] -/
def rc5 : RC :=
  (.seq
   (.region [
     ⟨(some 12), .mov (.c (.bool false)), none, []⟩] false)
   (.seq
    (.region [
      ⟨(some 29), .mov (.t 0), none, []⟩,
      ⟨(some 30), .mov (.t 1), none, []⟩,
      ⟨(some 31), .mov (.t 2), none, []⟩,
      ⟨(some 32), .call 9 [(.t 29), (.t 30), (.t 31)], none, [0, 1, 2]⟩,
      ⟨(some 13), .alloc [.int .i64 0, .int .i64 0, .bool false], none, []⟩,
      ⟨none, .store 3 (.t 13) (.t 32), none, [4, 3, 3, 0, 1, 2, 3, 4]⟩] false)
    (.seq
     (.region [
       ⟨(some 34), .load 3 true (.t 13), none, []⟩,
       ⟨(some 35), .mov (.t 3), none, []⟩,
       ⟨(some 36), .conv .i64 (.t 35), none, [1]⟩,
       ⟨(some 37), .call 10 [(.t 34), (.t 36)], none, [0, 2]⟩,
       ⟨(some 33), .mov (.t 37), none, [3]⟩,
       ⟨(some 38), .extract 0 (.t 33), none, [4]⟩,
       ⟨(some 39), .extract 1 (.t 33), none, [4]⟩,
       ⟨(some 14), .alloc [.int .i64 0, .int .i64 0, .bool false], none, []⟩,
       ⟨none, .store 3 (.t 14) (.t 38), none, [7, 5, 3, 0, 1, 2, 3, 4, 5, 7]⟩,
       ⟨(some 15), .mov (.t 39), none, [6, 8, 0, 1, 2, 3, 4, 5, 6, 7, 8]⟩] false)
     (.seq
      (.region [
        ⟨(some 41), .load 3 true (.t 14), none, []⟩,
        ⟨(some 42), .mov (.t 4), none, []⟩,
        ⟨(some 43), .conv .i64 (.t 42), none, [1]⟩,
        ⟨(some 44), .call 10 [(.t 41), (.t 43)], none, [0, 2]⟩,
        ⟨(some 40), .mov (.t 44), none, [3]⟩,
        ⟨(some 45), .extract 0 (.t 40), none, [4]⟩,
        ⟨(some 46), .extract 1 (.t 40), none, [4]⟩,
        ⟨(some 16), .alloc [.int .i64 0, .int .i64 0, .bool false], none, []⟩,
        ⟨none, .store 3 (.t 16) (.t 45), none, [7, 5, 3, 0, 1, 2, 3, 4, 5, 7]⟩,
        ⟨(some 17), .mov (.t 46), none, [6, 8, 0, 1, 2, 3, 4, 5, 6, 7, 8]⟩] false)
      (.seq
       (.region [
         ⟨(some 48), .load 3 true (.t 13), none, []⟩,
         ⟨(some 49), .mov (.t 3), none, []⟩,
         ⟨(some 50), .conv .i64 (.t 49), none, [1]⟩,
         ⟨(some 51), .mov (.t 4), none, []⟩,
         ⟨(some 52), .conv .i64 (.t 51), none, [3]⟩,
         ⟨(some 53), .arith .add (.t 50) (.t 52), none, [2, 4]⟩,
         ⟨(some 54), .call 10 [(.t 48), (.t 53)], none, [0, 5]⟩,
         ⟨(some 47), .mov (.t 54), none, [6]⟩,
         ⟨(some 55), .extract 0 (.t 47), none, [7]⟩,
         ⟨(some 56), .extract 1 (.t 47), none, [7]⟩,
         ⟨(some 18), .alloc [.int .i64 0, .int .i64 0, .bool false], none, []⟩,
         ⟨none, .store 3 (.t 18) (.t 55), none, [10, 8, 6, 0, 1, 2, 3, 4, 5, 6, 7, 8, 10]⟩,
         ⟨(some 19), .mov (.t 56), none, [9, 11, 0, 1, 2, 3, 4, 5, 6, 7, 8, 9, 10, 11]⟩] false)
       (.seq
        (.seq
         (.region [
           ⟨(some 57), .mov (.t 15), none, []⟩,
           ⟨(some 58), .cmp .eql 0 (.t 57) (.c (.int .i64 0)), none, [0]⟩,
           ⟨(some 59), .mov (.t 58), none, [1]⟩,
           ⟨(some 60), .load 3 true (.t 16), (some (59, true)), [2]⟩,
           ⟨(some 61), .load 3 true (.t 18), (some (59, true)), [2]⟩,
           ⟨(some 62), .eqa true [0, 0, 1] (.t 60) (.t 61), (some (59, true)), [3, 4, 2]⟩,
           ⟨(some 63), .mov (.t 62), (some (59, true)), [5, 2, 2]⟩,
           ⟨(some 64), .mov (.t 17), (some (63, false)), [6]⟩,
           ⟨(some 65), .mov (.t 19), (some (63, false)), [6]⟩,
           ⟨(some 66), .cmp .neq 0 (.t 64) (.t 65), (some (63, false)), [7, 8, 6]⟩,
           ⟨(some 67), .pick (.t 63) (.c (.bool true)) (.t 66), (some (59, true)), [6, 9, 2]⟩,
           ⟨(some 68), .pick (.t 59) (.t 67) (.c (.bool false)), none, [2, 10]⟩,
           ⟨(some 69), .mov (.t 68), none, [11, 6]⟩,
           ⟨(some 70), .mov (.t 15), (some (69, false)), [12]⟩,
           ⟨(some 71), .cmp .neq 0 (.t 70) (.c (.int .i64 0)), (some (69, false)), [13, 12]⟩,
           ⟨(some 72), .mov (.t 71), (some (69, false)), [14, 12, 12]⟩,
           ⟨(some 73), .mov (.t 19), (some (72, true)), [15]⟩,
           ⟨(some 74), .cmp .eql 0 (.t 73) (.c (.int .i64 0)), (some (72, true)), [16, 15]⟩,
           ⟨(some 75), .pick (.t 72) (.t 74) (.c (.bool false)), (some (69, false)), [15, 17, 12]⟩,
           ⟨(some 76), .pick (.t 69) (.c (.bool true)) (.t 75), none, [12, 18]⟩] false)
         (.cond (.t 76)
          (.seq
           (.region [
             ⟨(some 12), .mov (.c (.bool false)), none, []⟩] false)
           .ret)
          .skip))
        (.seq
         (.region [
           ⟨(some 78), .load 3 true (.t 13), none, []⟩,
           ⟨(some 79), .mov (.t 5), none, []⟩,
           ⟨(some 80), .arith .rem (.t 79) (.c (.int .u32 4000000000)), none, [1]⟩,
           ⟨(some 81), .call 17 [(.t 78), (.t 80)], none, [0, 2]⟩,
           ⟨(some 77), .mov (.t 81), none, [3]⟩,
           ⟨(some 82), .extract 0 (.t 77), none, [4]⟩,
           ⟨(some 83), .extract 1 (.t 77), none, [4]⟩,
           ⟨(some 84), .extract 2 (.t 77), none, [4]⟩,
           ⟨(some 20), .alloc [.int .i64 0, .int .i64 0, .bool false], none, []⟩,
           ⟨none, .store 3 (.t 20) (.t 82), none, [8, 5, 3, 0, 1, 2, 3, 4, 5, 8]⟩,
           ⟨(some 21), .mov (.t 83), none, [6, 9, 0, 1, 2, 3, 4, 5, 6, 8, 9]⟩,
           ⟨(some 22), .mov (.t 84), none, [7, 10, 0, 1, 2, 3, 4, 5, 6, 7, 8, 9, 10]⟩] false)
         (.seq
          (.seq
           (.region [
             ⟨(some 85), .mov (.t 22), none, []⟩,
             ⟨(some 86), .cmp .neq 0 (.t 85) (.c (.int .i64 0)), none, [0]⟩] false)
           (.cond (.t 86)
            (.seq
             (.region [
               ⟨(some 87), .load 3 true (.t 13), none, []⟩,
               ⟨(some 88), .call 14 [(.t 87)], none, [0]⟩,
               ⟨(some 89), .not (.t 88), none, [1]⟩,
               ⟨(some 90), .mov (.t 89), none, [2, 1]⟩,
               ⟨(some 91), .call 16 [], (some (90, true)), [3, 3]⟩,
               ⟨(some 92), .pick (.t 90) (.t 91) (.c (.bool false)), none, [3, 4]⟩,
               ⟨(some 12), .mov (.t 92), none, [5, 4, 0, 1, 2, 3, 4, 5]⟩] false)
             .ret)
            .skip))
          (.seq
           (.region [
             ⟨(some 94), .load 3 true (.t 20), none, []⟩,
             ⟨(some 95), .call 12 [(.t 94)], none, [0]⟩,
             ⟨(some 93), .mov (.t 95), none, [1]⟩,
             ⟨(some 96), .extract 0 (.t 93), none, [2]⟩,
             ⟨(some 97), .extract 1 (.t 93), none, [2]⟩,
             ⟨(some 23), .mov (.t 96), none, [3, 1, 0, 1, 2, 3]⟩,
             ⟨(some 24), .mov (.t 97), none, [4, 5, 0, 1, 2, 3, 4, 5]⟩] false)
           (.seq
            (.region [
              ⟨(some 99), .load 3 true (.t 20), none, []⟩,
              ⟨(some 100), .mov (.t 3), none, []⟩,
              ⟨(some 101), .conv .i64 (.t 100), none, [1]⟩,
              ⟨(some 102), .call 10 [(.t 99), (.t 101)], none, [0, 2]⟩,
              ⟨(some 98), .mov (.t 102), none, [3]⟩,
              ⟨(some 103), .extract 0 (.t 98), none, [4]⟩,
              ⟨(some 104), .extract 1 (.t 98), none, [4]⟩,
              ⟨(some 25), .alloc [.int .i64 0, .int .i64 0, .bool false], none, []⟩,
              ⟨none, .store 3 (.t 25) (.t 103), none, [7, 5, 3, 0, 1, 2, 3, 4, 5, 7]⟩,
              ⟨(some 26), .mov (.t 104), none, [6, 8, 0, 1, 2, 3, 4, 5, 6, 7, 8]⟩] false)
            (.seq
             (.region [
               ⟨(some 106), .load 3 true (.t 25), none, []⟩,
               ⟨(some 107), .call 12 [(.t 106)], none, [0]⟩,
               ⟨(some 105), .mov (.t 107), none, [1]⟩,
               ⟨(some 108), .extract 0 (.t 105), none, [2]⟩,
               ⟨(some 109), .extract 1 (.t 105), none, [2]⟩,
               ⟨(some 27), .mov (.t 108), none, [3, 1, 0, 1, 2, 3]⟩,
               ⟨(some 28), .mov (.t 109), none, [4, 5, 0, 1, 2, 3, 4, 5]⟩] false)
             (.seq
              (.region [
                ⟨(some 110), .mov (.t 24), none, []⟩,
                ⟨(some 111), .cmp .eql 0 (.t 110) (.c (.int .i64 0)), none, [0]⟩,
                ⟨(some 112), .mov (.t 111), none, [1]⟩,
                ⟨(some 113), .mov (.t 23), (some (112, true)), [2]⟩,
                ⟨(some 114), .mov (.t 5), (some (112, true)), [2]⟩,
                ⟨(some 115), .arith .rem (.t 114) (.c (.int .u32 4000000000)), (some (112, true)), [4, 2]⟩,
                ⟨(some 116), .cmp .eql 0 (.t 113) (.t 115), (some (112, true)), [3, 5, 2]⟩,
                ⟨(some 117), .pick (.t 112) (.t 116) (.c (.bool false)), none, [2, 6]⟩,
                ⟨(some 118), .mov (.t 117), none, [7, 2]⟩,
                ⟨(some 119), .mov (.t 26), (some (118, true)), [8]⟩,
                ⟨(some 120), .cmp .neq 0 (.t 119) (.c (.int .i64 0)), (some (118, true)), [9, 8]⟩,
                ⟨(some 121), .mov (.t 120), (some (118, true)), [10, 8, 8]⟩,
                ⟨(some 122), .mov (.t 28), (some (121, false)), [11]⟩,
                ⟨(some 123), .cmp .eql 0 (.t 122) (.c (.int .i64 0)), (some (121, false)), [12, 11]⟩,
                ⟨(some 124), .mov (.t 123), (some (121, false)), [13, 11, 11]⟩,
                ⟨(some 125), .mov (.t 27), (some (124, true)), [14]⟩,
                ⟨(some 126), .mov (.t 23), (some (124, true)), [14]⟩,
                ⟨(some 127), .cmp .geq 0 (.t 125) (.t 126), (some (124, true)), [15, 16, 14]⟩,
                ⟨(some 128), .pick (.t 124) (.t 127) (.c (.bool false)), (some (121, false)), [14, 17, 11]⟩,
                ⟨(some 129), .mov (.t 128), (some (121, false)), [18, 14, 11]⟩,
                ⟨(some 130), .mov (.t 27), (some (129, true)), [19]⟩,
                ⟨(some 131), .conv .i64 (.t 130), (some (129, true)), [20, 19]⟩,
                ⟨(some 132), .mov (.t 23), (some (129, true)), [19]⟩,
                ⟨(some 133), .conv .i64 (.t 132), (some (129, true)), [22, 19]⟩,
                ⟨(some 134), .arith .sub (.t 131) (.t 133), (some (129, true)), [21, 23, 19]⟩,
                ⟨(some 135), .mov (.t 3), (some (129, true)), [19]⟩,
                ⟨(some 136), .conv .i64 (.t 135), (some (129, true)), [25, 19]⟩,
                ⟨(some 137), .arith .quo (.t 136) (.c (.int .i64 10)), (some (129, true)), [26, 19]⟩,
                ⟨(some 138), .arith .add (.t 137) (.c (.int .i64 1)), (some (129, true)), [27, 19]⟩,
                ⟨(some 139), .cmp .leq 0 (.t 134) (.t 138), (some (129, true)), [24, 28, 19]⟩,
                ⟨(some 140), .pick (.t 129) (.t 139) (.c (.bool false)), (some (121, false)), [19, 29, 11]⟩,
                ⟨(some 141), .pick (.t 121) (.c (.bool true)) (.t 140), (some (118, true)), [11, 30, 8]⟩,
                ⟨(some 142), .pick (.t 118) (.t 141) (.c (.bool false)), none, [8, 31]⟩,
                ⟨(some 143), .mov (.t 142), none, [32, 19]⟩,
                ⟨(some 144), .faddr 2 (.t 20), (some (143, true)), [33]⟩,
                ⟨(some 145), .load 1 false (.t 144), (some (143, true)), [34, 33]⟩,
                ⟨(some 146), .pick (.t 143) (.t 145) (.c (.bool false)), none, [33, 35]⟩,
                ⟨(some 147), .mov (.t 146), none, [36, 33]⟩,
                ⟨(some 148), .call 16 [], (some (147, true)), [37, 37]⟩,
                ⟨(some 149), .pick (.t 147) (.t 148) (.c (.bool false)), none, [37, 38]⟩,
                ⟨(some 12), .mov (.t 149), none, [39, 38, 0, 1, 2, 3, 4, 5, 6, 7, 8, 9, 10, 11, 12, 13, 14, 15, 16, 17, 18, 19, 20, 21, 22, 23, 24, 25, 26, 27, 28, 29, 30, 31, 32, 33, 34, 35, 36, 37, 38, 39]⟩] false)
              .ret))))))))))))
def rv5 : List RV := [.t 12]
theorem rc5_ok : comp Try.prog Try.f5.ntmps (Try.f5.body.getD .skip) = some (erase rc5) := by kernel_rfl
theorem rv5_ok : compRes Try.prog Try.f5.results.toList = some rv5 := by kernel_rfl

/-- baseboard/baseboardlaw08.ClockReconciles [37, 43] -/
def rc6 : RC :=
  (.seq
   (.region [
     ⟨(some 4), .mov (.c (.bool false)), none, []⟩] false)
   (.seq
    (.seq
     (.region [
       ⟨(some 19), .mov (.t 0), none, []⟩,
       ⟨(some 20), .len 0 (.t 19), none, [0]⟩,
       ⟨(some 21), .cmp .gtr 0 (.t 20) (.c (.int .i64 100)), none, [1]⟩,
       ⟨(some 22), .mov (.t 21), none, [2]⟩,
       ⟨(some 23), .mov (.t 1), (some (22, false)), [3]⟩,
       ⟨(some 24), .call 20 [(.t 23)], (some (22, false)), [4, 3, 3]⟩,
       ⟨(some 25), .not (.t 24), (some (22, false)), [5, 3]⟩,
       ⟨(some 26), .pick (.t 22) (.c (.bool true)) (.t 25), none, [3, 6]⟩] false)
     (.cond (.t 26)
      (.seq
       (.region [
         ⟨(some 27), .call 16 [], none, []⟩,
         ⟨(some 4), .mov (.t 27), none, [0, 0, 0]⟩] false)
       .ret)
      .skip))
    (.seq
     (.region [
       ⟨(some 28), .mov (.t 1), none, []⟩,
       ⟨(some 29), .call 21 [(.t 28)], none, [0]⟩,
       ⟨(some 5), .mov (.t 29), none, [1, 1, 0, 1]⟩] false)
     (.seq
      (.region [
        ⟨(some 6), .mov (.c (.nil)), none, []⟩] false)
      (.seq
       (.seq
        (.region [
          ⟨(some 30), .mov (.t 5), none, []⟩,
          ⟨(some 31), .call 22 [(.t 30), (.c (.int .i64 20))], none, [0]⟩,
          ⟨(some 7), .mov (.t 31), none, [1, 1, 0, 1]⟩] false)
        (.block 0
         (.loop 0
          (.seq
           (.seq
            (.region [
              ⟨(some 32), .mov (.t 7), none, []⟩,
              ⟨(some 33), .cmp .gtr 0 (.t 32) (.c (.int .i64 0)), none, [0]⟩] false)
            (.cond (.t 33)
             .skip
             (.exit 0)))
           (.seq
            (.block 1
             (.seq
              (.region [
                ⟨(some 36), .mov (.t 5), none, []⟩,
                ⟨(some 37), .call 23 [(.t 36)], none, [0]⟩,
                ⟨(some 8), .alloc [.int .u16 0, .int .u32 0, .int .u16 0, .int .u8 0, .int .u8 0, .int .u8 0, .bool false, .int .u8 0, .int .u8 0, .int .u8 0], none, []⟩,
                ⟨none, .store 10 (.t 8) (.t 37), none, [2, 1, 1, 0, 1, 2]⟩] false)
              (.seq
               (.seq
                (.region [
                  ⟨(some 38), .mov (.t 5), none, []⟩,
                  ⟨(some 39), .call 24 [(.t 38), (.c (.int .i64 2))], none, [0]⟩] false)
                (.cond (.t 39)
                 (.seq
                  (.region [
                    ⟨(some 41), .mov (.t 5), none, []⟩,
                    ⟨(some 42), .call 22 [(.t 41), (.c (.int .i64 100000))], none, [0]⟩,
                    ⟨(some 43), .build [.int .i64 0, .int .i64 0, .bool false] [(0, 1, (.t 42))], none, [1]⟩,
                    ⟨(some 44), .mov (.t 5), none, []⟩,
                    ⟨(some 45), .call 22 [(.t 44), (.c (.int .i64 100000))], none, [3, 1]⟩,
                    ⟨(some 46), .conv .u32 (.t 45), none, [4]⟩,
                    ⟨(some 47), .call 18 [(.t 43), (.t 46)], none, [2, 5, 4]⟩,
                    ⟨(some 40), .mov (.t 47), none, [6]⟩,
                    ⟨(some 48), .extract 0 (.t 40), none, [7]⟩,
                    ⟨(some 49), .extract 1 (.t 40), none, [7]⟩,
                    ⟨(some 50), .extract 2 (.t 40), none, [7]⟩,
                    ⟨(some 9), .alloc [.int .i64 0, .int .i64 0, .bool false], none, []⟩,
                    ⟨none, .store 3 (.t 9) (.t 48), none, [11, 8, 6, 0, 1, 2, 3, 4, 5, 6, 7, 8, 11]⟩,
                    ⟨(some 10), .mov (.t 49), none, [9, 12, 0, 1, 2, 3, 4, 5, 6, 7, 8, 9, 11, 12]⟩,
                    ⟨(some 11), .mov (.t 50), none, [10, 13, 0, 1, 2, 3, 4, 5, 6, 7, 8, 9, 10, 11, 12, 13]⟩] false)
                  (.seq
                   (.seq
                    (.region [
                      ⟨(some 51), .mov (.t 5), none, []⟩,
                      ⟨(some 52), .call 24 [(.t 51), (.c (.int .i64 12))], none, [0]⟩,
                      ⟨(some 53), .mov (.t 52), none, [1, 1]⟩,
                      ⟨(some 54), .mov (.t 10), (some (53, true)), [2]⟩,
                      ⟨(some 55), .len 0 (.t 54), (some (53, true)), [3, 2]⟩,
                      ⟨(some 56), .cmp .eql 0 (.t 55) (.c (.int .i64 2)), (some (53, true)), [4, 2]⟩,
                      ⟨(some 57), .pick (.t 53) (.t 56) (.c (.bool false)), none, [2, 5]⟩] false)
                    (.cond (.t 57)
                     (.region [
                       ⟨(some 58), .mov (.t 10), none, []⟩,
                       ⟨(some 59), .mov (.t 10), none, []⟩,
                       ⟨(some 60), .mov (.t 10), none, []⟩,
                       ⟨(some 61), .iaddrS [.int .u16 0, .int .u32 0, .int .u16 0, .int .u8 0, .int .u8 0, .int .u8 0, .bool false, .int .u8 0, .int .u8 0, .int .u8 0] (.t 60) (.c (.int .i64 1)), none, [2]⟩,
                       ⟨(some 62), .load 10 true (.t 61), none, [2, 3]⟩,
                       ⟨(some 63), .mov (.t 10), none, []⟩,
                       ⟨(some 64), .iaddrS [.int .u16 0, .int .u32 0, .int .u16 0, .int .u8 0, .int .u8 0, .int .u8 0, .bool false, .int .u8 0, .int .u8 0, .int .u8 0] (.t 63) (.c (.int .i64 0)), none, [5]⟩,
                       ⟨(some 65), .load 10 true (.t 64), none, [5, 6]⟩,
                       ⟨(some 66), .iaddrS [.int .u16 0, .int .u32 0, .int .u16 0, .int .u8 0, .int .u8 0, .int .u8 0, .bool false, .int .u8 0, .int .u8 0, .int .u8 0] (.t 58) (.c (.int .i64 0)), none, [6, 5, 7, 4, 3, 2, 0]⟩,
                       ⟨none, .store 10 (.t 66) (.t 62), none, [5, 6, 7, 3, 2, 0, 4, 8]⟩,
                       ⟨(some 67), .iaddrS [.int .u16 0, .int .u32 0, .int .u16 0, .int .u8 0, .int .u8 0, .int .u8 0, .bool false, .int .u8 0, .int .u8 0, .int .u8 0] (.t 59) (.c (.int .i64 1)), none, [9, 8, 7, 6, 5, 4, 3, 2, 0, 1]⟩,
                       ⟨none, .store 10 (.t 67) (.t 65), none, [8, 6, 5, 4, 3, 2, 1, 0, 9, 7, 10]⟩] true)
                     .skip))
                   (.region [
                     ⟨(some 68), .mov (.t 6), none, []⟩,
                     ⟨(some 69), .mov (.t 10), none, []⟩,
                     ⟨(some 70), .append 50 20 [.int .u16 0, .int .u32 0, .int .u16 0, .int .u8 0, .int .u8 0, .int .u8 0, .bool false, .int .u8 0, .int .u8 0, .int .u8 0] (.t 68) (.t 69), none, [0, 1]⟩,
                     ⟨(some 6), .mov (.t 70), none, [2, 2, 0, 1, 2]⟩] false)))
                 (.region [
                   ⟨(some 71), .mov (.t 6), none, []⟩,
                   ⟨(some 72), .load 10 true (.t 8), none, []⟩,
                   ⟨(some 73), .bsliceO 50 1 [.int .u16 0, .int .u32 0, .int .u16 0, .int .u8 0, .int .u8 0, .int .u8 0, .bool false, .int .u8 0, .int .u8 0, .int .u8 0] [(0, (.t 72))], none, [1]⟩,
                   ⟨(some 74), .append 50 20 [.int .u16 0, .int .u32 0, .int .u16 0, .int .u8 0, .int .u8 0, .int .u8 0, .bool false, .int .u8 0, .int .u8 0, .int .u8 0] (.t 71) (.t 73), none, [0, 2]⟩,
                   ⟨(some 6), .mov (.t 74), none, [3, 3, 0, 1, 2, 3]⟩] false)))
               (.seq
                (.region [
                  ⟨(some 75), .mov (.t 5), none, []⟩,
                  ⟨(some 76), .call 24 [(.t 75), (.c (.int .i64 20))], none, [0]⟩] false)
                (.cond (.t 76)
                 (.region [
                   ⟨(some 77), .mov (.t 6), none, []⟩,
                   ⟨(some 78), .mov (.t 6), none, []⟩,
                   ⟨(some 79), .len 0 (.t 78), none, [1]⟩,
                   ⟨(some 80), .arith .sub (.t 79) (.c (.int .i64 1)), none, [2]⟩,
                   ⟨(some 81), .mov (.t 6), none, []⟩,
                   ⟨(some 82), .mov (.t 6), none, []⟩,
                   ⟨(some 83), .len 0 (.t 82), none, [5]⟩,
                   ⟨(some 84), .arith .sub (.t 83) (.c (.int .i64 1)), none, [6]⟩,
                   ⟨(some 85), .iaddrS [.int .u16 0, .int .u32 0, .int .u16 0, .int .u8 0, .int .u8 0, .int .u8 0, .bool false, .int .u8 0, .int .u8 0, .int .u8 0] (.t 81) (.t 84), none, [4, 7]⟩,
                   ⟨(some 86), .faddr 6 (.t 85), none, [8]⟩,
                   ⟨(some 87), .load 1 false (.t 86), none, [9]⟩,
                   ⟨(some 88), .not (.t 87), none, [10]⟩,
                   ⟨(some 89), .iaddrS [.int .u16 0, .int .u32 0, .int .u16 0, .int .u8 0, .int .u8 0, .int .u8 0, .bool false, .int .u8 0, .int .u8 0, .int .u8 0] (.t 77) (.t 80), none, [0, 3, 0, 1, 2, 3, 4, 5, 6, 7, 8, 9, 10, 11]⟩,
                   ⟨(some 90), .faddr 6 (.t 89), none, [12, 0, 1, 2, 3, 4, 5, 6, 7, 8, 9, 10, 11]⟩,
                   ⟨none, .store 1 (.t 90) (.t 88), none, [13, 11, 0, 1, 2, 3, 4, 5, 6, 7, 8, 9, 10, 11]⟩] false)
                 .skip)))))
            (.region [
              ⟨(some 34), .mov (.t 7), none, []⟩,
              ⟨(some 35), .arith .sub (.t 34) (.c (.int .i64 1)), none, [0]⟩,
              ⟨(some 7), .mov (.t 35), none, [1, 0, 1]⟩] false))))))
       (.seq
        (.seq
         (.region [
           ⟨(some 91), .mov (.t 0), none, []⟩,
           ⟨(some 92), .mov (.t 6), none, []⟩,
           ⟨(some 93), .bsliceO 37 2 [.nil] [(0, (.t 91)), (1, (.t 92))], none, [0, 1]⟩,
           ⟨(some 94), .len 0 (.t 93), none, [2]⟩,
           ⟨(some 95), .mov (.c (.int .i64 0)), none, []⟩] false)
         (.block 2
          (.loop 1
           (.seq
            (.region [
              ⟨(some 96), .cmp .lss 0 (.t 95) (.t 94), none, []⟩] false)
            (.seq
             (.cond (.t 96)
              .skip
              (.exit 2))
             (.seq
              (.block 3
               (.seq
                (.region [
                  ⟨(some 97), .iaddrS [.nil] (.t 93) (.t 95), none, []⟩,
                  ⟨(some 98), .load 1 false (.t 97), none, [0]⟩,
                  ⟨(some 13), .mov (.t 98), none, [1, 0, 1]⟩] false)
                (.seq
                 (.region [
                   ⟨(some 100), .mov (.t 13), none, []⟩,
                   ⟨(some 101), .call 25 [(.t 100)], none, [0]⟩,
                   ⟨(some 99), .mov (.t 101), none, [1]⟩,
                   ⟨(some 102), .extract 0 (.t 99), none, [2]⟩,
                   ⟨(some 103), .extract 1 (.t 99), none, [2]⟩,
                   ⟨(some 14), .mov (.t 102), none, [3, 1, 0, 1, 2, 3]⟩,
                   ⟨(some 15), .mov (.t 103), none, [4, 5, 0, 1, 2, 3, 4, 5]⟩] false)
                 (.seq
                  (.region [
                    ⟨(some 105), .mov (.t 13), none, []⟩,
                    ⟨(some 106), .call 26 [(.t 105)], none, [0]⟩,
                    ⟨(some 104), .mov (.t 106), none, [1]⟩,
                    ⟨(some 107), .extract 0 (.t 104), none, [2]⟩,
                    ⟨(some 108), .extract 1 (.t 104), none, [2]⟩,
                    ⟨(some 16), .mov (.t 107), none, [3, 1, 0, 1, 2, 3]⟩,
                    ⟨(some 17), .mov (.t 108), none, [4, 5, 0, 1, 2, 3, 4, 5]⟩] false)
                  (.seq
                   (.seq
                    (.region [
                      ⟨(some 109), .mov (.t 15), none, []⟩,
                      ⟨(some 110), .mov (.t 17), none, []⟩,
                      ⟨(some 111), .cmp .neq 0 (.t 109) (.t 110), none, [0, 1]⟩,
                      ⟨(some 112), .mov (.t 111), none, [2]⟩,
                      ⟨(some 113), .mov (.t 14), (some (112, false)), [3]⟩,
                      ⟨(some 114), .len 0 (.t 113), (some (112, false)), [4, 3]⟩,
                      ⟨(some 115), .mov (.t 16), (some (112, false)), [3]⟩,
                      ⟨(some 116), .len 0 (.t 115), (some (112, false)), [6, 3]⟩,
                      ⟨(some 117), .cmp .neq 0 (.t 114) (.t 116), (some (112, false)), [5, 7, 3]⟩,
                      ⟨(some 118), .pick (.t 112) (.c (.bool true)) (.t 117), none, [3, 8]⟩] false)
                    (.cond (.t 118)
                     (.seq
                      (.region [
                        ⟨(some 4), .mov (.c (.bool false)), none, []⟩] false)
                      .ret)
                     .skip))
                   (.seq
                    (.region [
                      ⟨(some 18), .mov (.c (.int .i64 0)), none, []⟩] false)
                    (.block 4
                     (.loop 2
                      (.seq
                       (.seq
                        (.region [
                          ⟨(some 119), .mov (.t 18), none, []⟩,
                          ⟨(some 120), .mov (.t 14), none, []⟩,
                          ⟨(some 121), .len 0 (.t 120), none, [1]⟩,
                          ⟨(some 122), .cmp .lss 0 (.t 119) (.t 121), none, [0, 2]⟩] false)
                        (.cond (.t 122)
                         .skip
                         (.exit 4)))
                       (.seq
                        (.block 5
                         (.seq
                          (.region [
                            ⟨(some 125), .mov (.t 14), none, []⟩,
                            ⟨(some 126), .mov (.t 18), none, []⟩,
                            ⟨(some 127), .iaddrS [.int .i64 0] (.t 125) (.t 126), none, [1, 0]⟩,
                            ⟨(some 128), .load 1 false (.t 127), none, [0, 1, 2]⟩,
                            ⟨(some 129), .mov (.t 16), none, []⟩,
                            ⟨(some 130), .mov (.t 18), none, []⟩,
                            ⟨(some 131), .iaddrS [.int .i64 0] (.t 129) (.t 130), none, [5, 4]⟩,
                            ⟨(some 132), .load 1 false (.t 131), none, [4, 5, 6]⟩,
                            ⟨(some 133), .cmp .neq 0 (.t 128) (.t 132), none, [6, 5, 4, 2, 1, 0, 7, 3]⟩] true)
                          (.cond (.t 133)
                           (.seq
                            (.region [
                              ⟨(some 4), .mov (.c (.bool false)), none, []⟩] false)
                            .ret)
                           .skip)))
                        (.region [
                          ⟨(some 123), .mov (.t 18), none, []⟩,
                          ⟨(some 124), .arith .add (.t 123) (.c (.int .i64 1)), none, [0]⟩,
                          ⟨(some 18), .mov (.t 124), none, [1, 0, 1]⟩] false)))))))))))
              (.region [
                ⟨(some 134), .arith .add (.t 95) (.c (.int .i64 1)), none, []⟩,
                ⟨(some 95), .mov (.t 134), none, [0]⟩] false)))))))
        (.seq
         (.region [
           ⟨(some 135), .call 16 [], none, []⟩,
           ⟨(some 4), .mov (.t 135), none, [0, 0, 0]⟩] false)
         .ret)))))))
def rv6 : List RV := [.t 4]
theorem rc6_ok : comp Try.prog Try.f6.ntmps (Try.f6.body.getD .skip) = some (erase rc6) := by kernel_rfl
theorem rv6_ok : compRes Try.prog Try.f6.results.toList = some rv6 := by kernel_rfl

/-- baseboard/baseboardlaw08.ClockTruth [57] -/
def rc7 : RC :=
  (.seq
   (.region [
     ⟨(some 2), .mov (.c (.bool false)), none, []⟩] false)
   (.seq
    (.seq
     (.region [
       ⟨(some 17), .mov (.t 0), none, []⟩,
       ⟨(some 18), .len 0 (.t 17), none, [0]⟩,
       ⟨(some 19), .cmp .gtr 0 (.t 18) (.c (.int .i64 60)), none, [1]⟩] false)
     (.cond (.t 19)
      (.seq
       (.region [
         ⟨(some 20), .call 16 [], none, []⟩,
         ⟨(some 2), .mov (.t 20), none, [0, 0, 0]⟩] false)
       .ret)
      .skip))
    (.seq
     (.region [
       ⟨(some 21), .build [.int .i64 0, .int .i64 0, .bool false] [], none, []⟩,
       ⟨(some 3), .alloc [.int .i64 0, .int .i64 0, .bool false], none, []⟩,
       ⟨none, .store 3 (.t 3) (.t 21), none, [1, 0, 0, 1]⟩] false)
     (.seq
      (.region [
        ⟨(some 4), .mov (.c (.nil)), none, []⟩] false)
      (.seq
       (.region [
         ⟨(some 5), .mov (.c (.nil)), none, []⟩] false)
       (.seq
        (.seq
         (.region [
           ⟨(some 6), .mov (.c (.int .i64 0)), none, []⟩] false)
         (.block 0
          (.loop 0
           (.seq
            (.seq
             (.region [
               ⟨(some 22), .mov (.t 6), none, []⟩,
               ⟨(some 23), .mov (.t 0), none, []⟩,
               ⟨(some 24), .len 0 (.t 23), none, [1]⟩,
               ⟨(some 25), .cmp .lss 0 (.t 22) (.t 24), none, [0, 2]⟩] false)
             (.cond (.t 25)
              .skip
              (.exit 0)))
            (.seq
             (.block 1
              (.seq
               (.seq
                (.region [
                  ⟨(some 28), .mov (.t 0), none, []⟩,
                  ⟨(some 29), .mov (.t 6), none, []⟩,
                  ⟨(some 30), .iaddrS [.bool false, .int .i64 0, .int .u32 0] (.t 28) (.t 29), none, [0, 1]⟩,
                  ⟨(some 31), .faddr 0 (.t 30), none, [2]⟩,
                  ⟨(some 32), .load 1 false (.t 31), none, [3]⟩] false)
                (.cond (.t 32)
                 (.seq
                  (.region [
                    ⟨(some 34), .load 3 true (.t 3), none, []⟩,
                    ⟨(some 35), .mov (.t 0), none, []⟩,
                    ⟨(some 36), .mov (.t 6), none, []⟩,
                    ⟨(some 37), .iaddrS [.bool false, .int .i64 0, .int .u32 0] (.t 35) (.t 36), none, [2, 1]⟩,
                    ⟨(some 38), .faddr 2 (.t 37), none, [1, 2, 3]⟩,
                    ⟨(some 39), .load 1 false (.t 38), none, [3, 2, 1, 4]⟩,
                    ⟨(some 40), .arith .rem (.t 39) (.c (.int .u32 2000000000)), none, [4, 1, 2, 3, 5]⟩,
                    ⟨(some 41), .call 17 [(.t 34), (.t 40)], none, [5, 3, 2, 1, 4, 6, 0]⟩,
                    ⟨(some 33), .mov (.t 41), none, [0, 6, 4, 1, 2, 3, 5, 7]⟩,
                    ⟨(some 42), .extract 0 (.t 33), none, [7, 5, 3, 2, 1, 4, 6, 0, 8]⟩,
                    ⟨(some 43), .extract 1 (.t 33), none, [7, 5, 3, 2, 1, 4, 6, 0, 8]⟩,
                    ⟨(some 44), .extract 2 (.t 33), none, [7, 5, 3, 2, 1, 4, 6, 0, 8]⟩,
                    ⟨(some 7), .alloc [.int .i64 0, .int .i64 0, .bool false], none, []⟩,
                    ⟨none, .store 3 (.t 7) (.t 42), none, [8, 6, 5, 4, 3, 2, 1, 0, 7, 9, 12]⟩,
                    ⟨(some 8), .mov (.t 43), none, [12, 9, 8, 7, 6, 5, 4, 3, 2, 1, 0, 13, 10]⟩,
                    ⟨(some 9), .mov (.t 44), none, [13, 12, 10, 9, 8, 7, 6, 5, 4, 3, 2, 1, 0, 14, 11]⟩] true)
                  (.seq
                   (.seq
                    (.region [
                      ⟨(some 45), .mov (.t 9), none, []⟩,
                      ⟨(some 46), .cmp .neq 0 (.t 45) (.c (.int .i64 0)), none, [0]⟩,
                      ⟨(some 47), .mov (.t 46), none, [1]⟩,
                      ⟨(some 48), .mov (.t 8), (some (47, false)), [2]⟩,
                      ⟨(some 49), .len 0 (.t 48), (some (47, false)), [3, 2]⟩,
                      ⟨(some 50), .cmp .neq 0 (.t 49) (.c (.int .i64 2)), (some (47, false)), [4, 2]⟩,
                      ⟨(some 51), .pick (.t 47) (.c (.bool true)) (.t 50), none, [2, 5]⟩,
                      ⟨(some 52), .mov (.t 51), none, [6, 2]⟩,
                      ⟨(some 53), .faddr 0 (.t 7), (some (52, false)), [7]⟩,
                      ⟨(some 54), .load 1 false (.t 53), (some (52, false)), [8, 7]⟩,
                      ⟨(some 55), .faddr 0 (.t 3), (some (52, false)), [7]⟩,
                      ⟨(some 56), .load 1 false (.t 55), (some (52, false)), [10, 7]⟩,
                      ⟨(some 57), .cmp .neq 0 (.t 54) (.t 56), (some (52, false)), [9, 11, 7]⟩,
                      ⟨(some 58), .pick (.t 52) (.c (.bool true)) (.t 57), none, [7, 12]⟩] false)
                    (.cond (.t 58)
                     (.seq
                      (.region [
                        ⟨(some 2), .mov (.c (.bool false)), none, []⟩] false)
                      .ret)
                     .skip))
                   (.seq
                    (.region [
                      ⟨(some 59), .load 3 true (.t 7), none, []⟩,
                      ⟨none, .store 3 (.t 3) (.t 59), none, [0, 0]⟩] false)
                    (.seq
                     (.region [
                       ⟨(some 60), .mov (.t 4), none, []⟩,
                       ⟨(some 61), .mov (.t 8), none, []⟩,
                       ⟨(some 62), .append 50 20 [.int .u16 0, .int .u32 0, .int .u16 0, .int .u8 0, .int .u8 0, .int .u8 0, .bool false, .int .u8 0, .int .u8 0, .int .u8 0] (.t 60) (.t 61), none, [0, 1]⟩,
                       ⟨(some 4), .mov (.t 62), none, [2, 2, 0, 1, 2]⟩] false)
                     (.seq
                      (.region [
                        ⟨(some 63), .mov (.t 5), none, []⟩,
                        ⟨(some 64), .faddr 0 (.t 3), none, []⟩,
                        ⟨(some 65), .load 1 false (.t 64), none, [1]⟩,
                        ⟨(some 66), .faddr 0 (.t 3), none, []⟩,
                        ⟨(some 67), .load 1 false (.t 66), none, [3]⟩,
                        ⟨(some 68), .bsliceO 2 2 [.int .i64 0] [(0, (.t 65)), (1, (.t 67))], none, [2, 4]⟩,
                        ⟨(some 69), .append 2 8 [.int .i64 0] (.t 63) (.t 68), none, [0, 5]⟩,
                        ⟨(some 5), .mov (.t 69), none, [6, 6, 0, 1, 2, 3, 4, 5, 6]⟩] false)
                      (.exit 1))))))
                 .skip))
               (.seq
                (.region [
                  ⟨(some 71), .load 3 true (.t 3), none, []⟩,
                  ⟨(some 72), .mov (.t 0), none, []⟩,
                  ⟨(some 73), .mov (.t 6), none, []⟩,
                  ⟨(some 74), .iaddrS [.bool false, .int .i64 0, .int .u32 0] (.t 72) (.t 73), none, [2, 1]⟩,
                  ⟨(some 75), .faddr 1 (.t 74), none, [1, 2, 3]⟩,
                  ⟨(some 76), .load 1 false (.t 75), none, [3, 2, 1, 4]⟩,
                  ⟨(some 77), .call 27 [(.t 76), (.c (.int .i64 100000))], none, [4, 1, 2, 3, 5]⟩,
                  ⟨(some 78), .call 10 [(.t 71), (.t 77)], none, [5, 3, 2, 1, 4, 6, 0]⟩,
                  ⟨(some 70), .mov (.t 78), none, [0, 6, 4, 1, 2, 3, 5, 7]⟩,
                  ⟨(some 79), .extract 0 (.t 70), none, [7, 5, 3, 2, 1, 4, 6, 0, 8]⟩,
                  ⟨(some 80), .extract 1 (.t 70), none, [7, 5, 3, 2, 1, 4, 6, 0, 8]⟩,
                  ⟨(some 10), .alloc [.int .i64 0, .int .i64 0, .bool false], none, []⟩,
                  ⟨none, .store 3 (.t 10) (.t 79), none, [8, 6, 5, 4, 3, 2, 1, 0, 7, 9, 11]⟩,
                  ⟨(some 11), .mov (.t 80), none, [11, 9, 8, 7, 6, 5, 4, 3, 2, 1, 0, 12, 10]⟩] true)
                (.seq
                 (.seq
                  (.region [
                    ⟨(some 81), .mov (.t 11), none, []⟩,
                    ⟨(some 82), .cmp .neq 0 (.t 81) (.c (.int .i64 0)), none, [0]⟩] false)
                  (.cond (.t 82)
                   (.seq
                    (.region [
                      ⟨(some 2), .mov (.c (.bool false)), none, []⟩] false)
                    .ret)
                   .skip))
                 (.seq
                  (.region [
                    ⟨(some 83), .load 3 true (.t 10), none, []⟩,
                    ⟨none, .store 3 (.t 3) (.t 83), none, [0, 0]⟩] false)
                  (.seq
                   (.region [
                     ⟨(some 85), .load 3 true (.t 3), none, []⟩,
                     ⟨(some 86), .call 12 [(.t 85)], none, [0]⟩,
                     ⟨(some 84), .mov (.t 86), none, [1]⟩,
                     ⟨(some 87), .extract 0 (.t 84), none, [2]⟩,
                     ⟨(some 88), .extract 1 (.t 84), none, [2]⟩,
                     ⟨(some 12), .mov (.t 87), none, [3, 1, 0, 1, 2, 3]⟩,
                     ⟨(some 13), .mov (.t 88), none, [4, 5, 0, 1, 2, 3, 4, 5]⟩] false)
                   (.seq
                    (.seq
                     (.region [
                       ⟨(some 89), .mov (.t 13), none, []⟩,
                       ⟨(some 90), .cmp .neq 0 (.t 89) (.c (.int .i64 0)), none, [0]⟩] false)
                     (.cond (.t 90)
                      (.seq
                       (.region [
                         ⟨(some 2), .mov (.c (.bool false)), none, []⟩] false)
                       .ret)
                      .skip))
                    (.seq
                     (.region [
                       ⟨(some 91), .mov (.t 4), none, []⟩,
                       ⟨(some 92), .mov (.t 12), none, []⟩,
                       ⟨(some 93), .build [.int .u16 0, .int .u32 0, .int .u16 0, .int .u8 0, .int .u8 0, .int .u8 0, .bool false, .int .u8 0, .int .u8 0, .int .u8 0] [(1, 1, (.t 92)), (3, 1, (.c (.int .u8 1))), (5, 1, (.c (.int .u8 1)))], none, [1]⟩,
                       ⟨(some 94), .bsliceO 50 1 [.int .u16 0, .int .u32 0, .int .u16 0, .int .u8 0, .int .u8 0, .int .u8 0, .bool false, .int .u8 0, .int .u8 0, .int .u8 0] [(0, (.t 93))], none, [2]⟩,
                       ⟨(some 95), .append 50 20 [.int .u16 0, .int .u32 0, .int .u16 0, .int .u8 0, .int .u8 0, .int .u8 0, .bool false, .int .u8 0, .int .u8 0, .int .u8 0] (.t 91) (.t 94), none, [0, 3]⟩,
                       ⟨(some 4), .mov (.t 95), none, [4, 4, 0, 1, 2, 3, 4]⟩] false)
                     (.region [
                       ⟨(some 96), .mov (.t 5), none, []⟩,
                       ⟨(some 97), .faddr 0 (.t 3), none, []⟩,
                       ⟨(some 98), .load 1 false (.t 97), none, [1]⟩,
                       ⟨(some 99), .bsliceO 2 1 [.int .i64 0] [(0, (.t 98))], none, [2]⟩,
                       ⟨(some 100), .append 2 8 [.int .i64 0] (.t 96) (.t 99), none, [0, 3]⟩,
                       ⟨(some 5), .mov (.t 100), none, [4, 4, 0, 1, 2, 3, 4]⟩] false)))))))))
             (.region [
               ⟨(some 26), .mov (.t 6), none, []⟩,
               ⟨(some 27), .arith .add (.t 26) (.c (.int .i64 1)), none, [0]⟩,
               ⟨(some 6), .mov (.t 27), none, [1, 0, 1]⟩] false))))))
        (.seq
         (.region [
           ⟨(some 102), .mov (.t 4), none, []⟩,
           ⟨(some 103), .call 25 [(.t 102)], none, [0]⟩,
           ⟨(some 101), .mov (.t 103), none, [1]⟩,
           ⟨(some 104), .extract 0 (.t 101), none, [2]⟩,
           ⟨(some 105), .extract 1 (.t 101), none, [2]⟩,
           ⟨(some 14), .mov (.t 104), none, [3, 1, 0, 1, 2, 3]⟩,
           ⟨(some 15), .mov (.t 105), none, [4, 5, 0, 1, 2, 3, 4, 5]⟩] false)
         (.seq
          (.seq
           (.region [
             ⟨(some 106), .mov (.t 15), none, []⟩,
             ⟨(some 107), .cmp .neq 0 (.t 106) (.c (.int .i64 0)), none, [0]⟩,
             ⟨(some 108), .mov (.t 107), none, [1]⟩,
             ⟨(some 109), .mov (.t 14), (some (108, false)), [2]⟩,
             ⟨(some 110), .len 0 (.t 109), (some (108, false)), [3, 2]⟩,
             ⟨(some 111), .mov (.t 4), (some (108, false)), [2]⟩,
             ⟨(some 112), .len 0 (.t 111), (some (108, false)), [5, 2]⟩,
             ⟨(some 113), .cmp .neq 0 (.t 110) (.t 112), (some (108, false)), [4, 6, 2]⟩,
             ⟨(some 114), .pick (.t 108) (.c (.bool true)) (.t 113), none, [2, 7]⟩] false)
           (.cond (.t 114)
            (.seq
             (.region [
               ⟨(some 2), .mov (.c (.bool false)), none, []⟩] false)
             .ret)
            .skip))
          (.seq
           (.seq
            (.region [
              ⟨(some 16), .mov (.c (.int .i64 0)), none, []⟩] false)
            (.block 2
             (.loop 1
              (.seq
               (.seq
                (.region [
                  ⟨(some 115), .mov (.t 16), none, []⟩,
                  ⟨(some 116), .mov (.t 14), none, []⟩,
                  ⟨(some 117), .len 0 (.t 116), none, [1]⟩,
                  ⟨(some 118), .cmp .lss 0 (.t 115) (.t 117), none, [0, 2]⟩] false)
                (.cond (.t 118)
                 .skip
                 (.exit 2)))
               (.seq
                (.block 3
                 (.seq
                  (.region [
                    ⟨(some 121), .mov (.t 14), none, []⟩,
                    ⟨(some 122), .mov (.t 16), none, []⟩,
                    ⟨(some 123), .iaddrS [.int .i64 0] (.t 121) (.t 122), none, [1, 0]⟩,
                    ⟨(some 124), .load 1 false (.t 123), none, [0, 1, 2]⟩,
                    ⟨(some 125), .mov (.t 5), none, []⟩,
                    ⟨(some 126), .mov (.t 16), none, []⟩,
                    ⟨(some 127), .iaddrS [.int .i64 0] (.t 125) (.t 126), none, [5, 4]⟩,
                    ⟨(some 128), .load 1 false (.t 127), none, [4, 5, 6]⟩,
                    ⟨(some 129), .arith .quo (.t 128) (.c (.int .i64 10)), none, [6, 5, 4, 7]⟩,
                    ⟨(some 130), .faddr 1 (.t 3), none, []⟩,
                    ⟨(some 131), .load 1 false (.t 130), none, [9]⟩,
                    ⟨(some 132), .arith .add (.t 129) (.t 131), none, [9, 7, 4, 5, 6, 10, 8]⟩,
                    ⟨(some 133), .cmp .neq 0 (.t 124) (.t 132), none, [8, 10, 6, 5, 4, 7, 9, 2, 1, 0, 11, 3]⟩,
                    ⟨(some 134), .mov (.t 133), none, [3, 11, 0, 1, 2, 9, 7, 4, 5, 6, 10, 8, 12]⟩,
                    ⟨(some 135), .mov (.t 16), (some (134, false)), [12, 8, 10, 6, 5, 4, 7, 9, 2, 1, 0, 11, 3, 13]⟩,
                    ⟨(some 136), .cmp .gtr 0 (.t 135) (.c (.int .i64 0)), (some (134, false)), [3, 11, 0, 1, 2, 9, 7, 4, 5, 6, 10, 8, 12, 13, 14]⟩,
                    ⟨(some 137), .mov (.t 136), (some (134, false)), [14, 12, 8, 10, 6, 5, 4, 7, 9, 2, 1, 0, 11, 3, 13, 15]⟩,
                    ⟨(some 138), .mov (.t 14), (some (137, true)), [15, 13, 3, 11, 0, 1, 2, 9, 7, 4, 5, 6, 10, 8, 12, 14, 16]⟩,
                    ⟨(some 139), .mov (.t 16), (some (137, true)), [15, 13, 3, 11, 0, 1, 2, 9, 7, 4, 5, 6, 10, 8, 12, 14, 16]⟩,
                    ⟨(some 140), .iaddrS [.int .i64 0] (.t 138) (.t 139), (some (137, true)), [14, 12, 8, 10, 6, 5, 4, 7, 9, 2, 1, 0, 11, 3, 13, 15, 16, 18, 17]⟩,
                    ⟨(some 141), .load 1 false (.t 140), (some (137, true)), [17, 18, 15, 13, 3, 11, 0, 1, 2, 9, 7, 4, 5, 6, 10, 8, 12, 14, 16, 19]⟩,
                    ⟨(some 142), .mov (.t 14), (some (137, true)), [15, 13, 3, 11, 0, 1, 2, 9, 7, 4, 5, 6, 10, 8, 12, 14, 16]⟩,
                    ⟨(some 143), .mov (.t 16), (some (137, true)), [15, 13, 3, 11, 0, 1, 2, 9, 7, 4, 5, 6, 10, 8, 12, 14, 16]⟩,
                    ⟨(some 144), .arith .sub (.t 143) (.c (.int .i64 1)), (some (137, true)), [14, 12, 8, 10, 6, 5, 4, 7, 9, 2, 1, 0, 11, 3, 13, 15, 16, 22]⟩,
                    ⟨(some 145), .iaddrS [.int .i64 0] (.t 142) (.t 144), (some (137, true)), [22, 14, 12, 8, 10, 6, 5, 4, 7, 9, 2, 1, 0, 11, 3, 13, 15, 16, 23, 21]⟩,
                    ⟨(some 146), .load 1 false (.t 145), (some (137, true)), [21, 23, 15, 13, 3, 11, 0, 1, 2, 9, 7, 4, 5, 6, 10, 8, 12, 14, 22, 16, 24]⟩,
                    ⟨(some 147), .cmp .lss 0 (.t 141) (.t 146), (some (137, true)), [24, 22, 23, 21, 19, 14, 12, 8, 10, 6, 5, 4, 7, 9, 2, 1, 0, 11, 3, 13, 15, 18, 17, 16, 25, 20]⟩,
                    ⟨(some 148), .pick (.t 137) (.t 147) (.c (.bool false)), (some (134, false)), [20, 25, 17, 18, 19, 21, 23, 22, 24, 15, 3, 11, 0, 1, 2, 9, 7, 4, 5, 6, 10, 8, 12, 14, 13, 26, 16]⟩,
                    ⟨(some 149), .pick (.t 134) (.c (.bool true)) (.t 148), none, [16, 26, 14, 15, 24, 22, 23, 21, 19, 18, 17, 25, 20, 12, 8, 10, 6, 5, 4, 7, 9, 2, 1, 0, 11, 3, 27, 13]⟩] true)
                  (.cond (.t 149)
                   (.seq
                    (.region [
                      ⟨(some 2), .mov (.c (.bool false)), none, []⟩] false)
                    .ret)
                   .skip)))
                (.region [
                  ⟨(some 119), .mov (.t 16), none, []⟩,
                  ⟨(some 120), .arith .add (.t 119) (.c (.int .i64 1)), none, [0]⟩,
                  ⟨(some 16), .mov (.t 120), none, [1, 0, 1]⟩] false))))))
           (.seq
            (.region [
              ⟨(some 150), .call 16 [], none, []⟩,
              ⟨(some 2), .mov (.t 150), none, [0, 0, 0]⟩] false)
            .ret))))))))))
def rv7 : List RV := [.t 2]
theorem rc7_ok : comp Try.prog Try.f7.ntmps (Try.f7.body.getD .skip) = some (erase rc7) := by kernel_rfl
theorem rv7_ok : compRes Try.prog Try.f7.results.toList = some rv7 := by kernel_rfl

/-- baseboard/baseboardlaw08.ClockPairs [43, 3, 4] -/
def rc8 : RC :=
  (.seq
   (.region [
     ⟨(some 6), .mov (.c (.bool false)), none, []⟩] false)
   (.seq
    (.seq
     (.region [
       ⟨(some 22), .mov (.t 0), none, []⟩,
       ⟨(some 23), .call 20 [(.t 22)], none, [0]⟩,
       ⟨(some 24), .not (.t 23), none, [1]⟩] false)
     (.cond (.t 24)
      (.seq
       (.region [
         ⟨(some 25), .call 16 [], none, []⟩,
         ⟨(some 6), .mov (.t 25), none, [0, 0, 0]⟩] false)
       .ret)
      .skip))
    (.seq
     (.region [
       ⟨(some 26), .mov (.t 0), none, []⟩,
       ⟨(some 27), .call 21 [(.t 26)], none, [0]⟩,
       ⟨(some 7), .mov (.t 27), none, [1, 1, 0, 1]⟩] false)
     (.seq
      (.region [
        ⟨(some 8), .mov (.c (.nil)), none, []⟩] false)
      (.seq
       (.seq
        (.region [
          ⟨(some 28), .mov (.t 7), none, []⟩,
          ⟨(some 29), .call 22 [(.t 28), (.c (.int .i64 12))], none, [0]⟩,
          ⟨(some 9), .mov (.t 29), none, [1, 1, 0, 1]⟩] false)
        (.block 0
         (.loop 0
          (.seq
           (.seq
            (.region [
              ⟨(some 30), .mov (.t 9), none, []⟩,
              ⟨(some 31), .cmp .geq 0 (.t 30) (.c (.int .i64 0)), none, [0]⟩] false)
            (.cond (.t 31)
             .skip
             (.exit 0)))
           (.seq
            (.block 1
             (.seq
              (.region [
                ⟨(some 34), .mov (.t 7), none, []⟩,
                ⟨(some 35), .call 23 [(.t 34)], none, [0]⟩,
                ⟨(some 10), .alloc [.int .u16 0, .int .u32 0, .int .u16 0, .int .u8 0, .int .u8 0, .int .u8 0, .bool false, .int .u8 0, .int .u8 0, .int .u8 0], none, []⟩,
                ⟨none, .store 10 (.t 10) (.t 35), none, [2, 1, 1, 0, 1, 2]⟩] false)
              (.seq
               (.region [
                 ⟨(some 36), .faddr 3 (.t 10), none, []⟩,
                 ⟨none, .store 1 (.t 36) (.c (.int .u8 1)), none, [0]⟩] false)
               (.region [
                 ⟨(some 37), .mov (.t 8), none, []⟩,
                 ⟨(some 38), .load 10 true (.t 10), none, []⟩,
                 ⟨(some 39), .bsliceO 50 1 [.int .u16 0, .int .u32 0, .int .u16 0, .int .u8 0, .int .u8 0, .int .u8 0, .bool false, .int .u8 0, .int .u8 0, .int .u8 0] [(0, (.t 38))], none, [1]⟩,
                 ⟨(some 40), .append 50 20 [.int .u16 0, .int .u32 0, .int .u16 0, .int .u8 0, .int .u8 0, .int .u8 0, .bool false, .int .u8 0, .int .u8 0, .int .u8 0] (.t 37) (.t 39), none, [0, 2]⟩,
                 ⟨(some 8), .mov (.t 40), none, [3, 3, 0, 1, 2, 3]⟩] false))))
            (.region [
              ⟨(some 32), .mov (.t 9), none, []⟩,
              ⟨(some 33), .arith .sub (.t 32) (.c (.int .i64 1)), none, [0]⟩,
              ⟨(some 9), .mov (.t 33), none, [1, 0, 1]⟩] false))))))
       (.seq
        (.region [
          ⟨(some 42), .mov (.t 8), none, []⟩,
          ⟨(some 43), .call 25 [(.t 42)], none, [0]⟩,
          ⟨(some 41), .mov (.t 43), none, [1]⟩,
          ⟨(some 44), .extract 0 (.t 41), none, [2]⟩,
          ⟨(some 45), .extract 1 (.t 41), none, [2]⟩,
          ⟨(some 11), .mov (.t 44), none, [3, 1, 0, 1, 2, 3]⟩,
          ⟨(some 12), .mov (.t 45), none, [4, 5, 0, 1, 2, 3, 4, 5]⟩] false)
        (.seq
         (.seq
          (.region [
            ⟨(some 46), .mov (.t 12), none, []⟩,
            ⟨(some 47), .cmp .neq 0 (.t 46) (.c (.int .i64 0)), none, [0]⟩,
            ⟨(some 48), .mov (.t 47), none, [1]⟩,
            ⟨(some 49), .mov (.t 11), (some (48, false)), [2]⟩,
            ⟨(some 50), .len 0 (.t 49), (some (48, false)), [3, 2]⟩,
            ⟨(some 51), .mov (.t 8), (some (48, false)), [2]⟩,
            ⟨(some 52), .len 0 (.t 51), (some (48, false)), [5, 2]⟩,
            ⟨(some 53), .cmp .neq 0 (.t 50) (.t 52), (some (48, false)), [4, 6, 2]⟩,
            ⟨(some 54), .pick (.t 48) (.c (.bool true)) (.t 53), none, [2, 7]⟩] false)
          (.cond (.t 54)
           (.seq
            (.region [
              ⟨(some 6), .mov (.c (.bool false)), none, []⟩] false)
            .ret)
           .skip))
         (.seq
          (.seq
           (.region [
             ⟨(some 13), .mov (.c (.int .i64 0)), none, []⟩] false)
           (.block 2
            (.loop 1
             (.seq
              (.seq
               (.region [
                 ⟨(some 55), .mov (.t 13), none, []⟩,
                 ⟨(some 56), .mov (.t 11), none, []⟩,
                 ⟨(some 57), .len 0 (.t 56), none, [1]⟩,
                 ⟨(some 58), .cmp .lss 0 (.t 55) (.t 57), none, [0, 2]⟩] false)
               (.cond (.t 58)
                .skip
                (.exit 2)))
              (.seq
               (.block 3
                (.seq
                 (.region [
                   ⟨(some 61), .mov (.t 11), none, []⟩,
                   ⟨(some 62), .mov (.t 13), none, []⟩,
                   ⟨(some 63), .iaddrS [.int .i64 0] (.t 61) (.t 62), none, [1, 0]⟩,
                   ⟨(some 64), .load 1 false (.t 63), none, [0, 1, 2]⟩,
                   ⟨(some 65), .mov (.t 8), none, []⟩,
                   ⟨(some 66), .mov (.t 13), none, []⟩,
                   ⟨(some 67), .iaddrS [.int .u16 0, .int .u32 0, .int .u16 0, .int .u8 0, .int .u8 0, .int .u8 0, .bool false, .int .u8 0, .int .u8 0, .int .u8 0] (.t 65) (.t 66), none, [5, 4]⟩,
                   ⟨(some 68), .faddr 1 (.t 67), none, [4, 5, 6]⟩,
                   ⟨(some 69), .load 1 false (.t 68), none, [6, 5, 4, 7]⟩,
                   ⟨(some 70), .conv .i64 (.t 69), none, [7, 4, 5, 6, 8]⟩,
                   ⟨(some 71), .cmp .neq 0 (.t 64) (.t 70), none, [8, 6, 5, 4, 7, 2, 1, 0, 9, 3]⟩] true)
                 (.cond (.t 71)
                  (.seq
                   (.region [
                     ⟨(some 6), .mov (.c (.bool false)), none, []⟩] false)
                   .ret)
                  .skip)))
               (.region [
                 ⟨(some 59), .mov (.t 13), none, []⟩,
                 ⟨(some 60), .arith .add (.t 59) (.c (.int .i64 1)), none, [0]⟩,
                 ⟨(some 13), .mov (.t 60), none, [1, 0, 1]⟩] false))))))
          (.seq
           (.region [
             ⟨(some 73), .build [.int .i64 0, .int .i64 0, .bool false] [], none, []⟩,
             ⟨(some 74), .call 17 [(.t 73), (.c (.int .u32 77))], none, [0]⟩,
             ⟨(some 72), .mov (.t 74), none, [1]⟩,
             ⟨(some 75), .extract 0 (.t 72), none, [2]⟩,
             ⟨(some 76), .extract 1 (.t 72), none, [2]⟩,
             ⟨(some 77), .extract 2 (.t 72), none, [2]⟩,
             ⟨(some 14), .alloc [.int .i64 0, .int .i64 0, .bool false], none, []⟩,
             ⟨none, .store 3 (.t 14) (.t 75), none, [6, 3, 1, 0, 1, 2, 3, 6]⟩,
             ⟨(some 15), .mov (.t 76), none, [4, 7, 0, 1, 2, 3, 4, 6, 7]⟩,
             ⟨(some 16), .mov (.t 77), none, [5, 8, 0, 1, 2, 3, 4, 5, 6, 7, 8]⟩] false)
           (.seq
            (.seq
             (.region [
               ⟨(some 78), .mov (.t 16), none, []⟩,
               ⟨(some 79), .cmp .neq 0 (.t 78) (.c (.int .i64 0)), none, [0]⟩,
               ⟨(some 80), .mov (.t 79), none, [1]⟩,
               ⟨(some 81), .mov (.t 15), (some (80, false)), [2]⟩,
               ⟨(some 82), .len 0 (.t 81), (some (80, false)), [3, 2]⟩,
               ⟨(some 83), .cmp .neq 0 (.t 82) (.c (.int .i64 2)), (some (80, false)), [4, 2]⟩,
               ⟨(some 84), .pick (.t 80) (.c (.bool true)) (.t 83), none, [2, 5]⟩] false)
             (.cond (.t 84)
              (.seq
               (.region [
                 ⟨(some 6), .mov (.c (.bool false)), none, []⟩] false)
               .ret)
              .skip))
            (.seq
             (.region [
               ⟨(some 85), .mov (.t 15), none, []⟩,
               ⟨(some 86), .iaddrS [.int .u16 0, .int .u32 0, .int .u16 0, .int .u8 0, .int .u8 0, .int .u8 0, .bool false, .int .u8 0, .int .u8 0, .int .u8 0] (.t 85) (.c (.int .i64 0)), none, [0]⟩,
               ⟨(some 87), .load 10 true (.t 86), none, [1]⟩,
               ⟨(some 17), .alloc [.int .u16 0, .int .u32 0, .int .u16 0, .int .u8 0, .int .u8 0, .int .u8 0, .bool false, .int .u8 0, .int .u8 0, .int .u8 0], none, []⟩,
               ⟨none, .store 10 (.t 17) (.t 87), none, [3, 2, 0, 1, 2, 3]⟩] false)
             (.seq
              (.seq
               (.region [
                 ⟨(some 88), .mov (.t 2), none, []⟩] false)
               (.cond (.t 88)
                (.region [
                  ⟨(some 89), .mov (.t 15), none, []⟩,
                  ⟨(some 90), .iaddrS [.int .u16 0, .int .u32 0, .int .u16 0, .int .u8 0, .int .u8 0, .int .u8 0, .bool false, .int .u8 0, .int .u8 0, .int .u8 0] (.t 89) (.c (.int .i64 1)), none, [0]⟩,
                  ⟨(some 91), .load 10 true (.t 90), none, [1]⟩,
                  ⟨none, .store 10 (.t 17) (.t 91), none, [2, 0, 1, 2]⟩] false)
                .skip))
              (.seq
               (.region [
                 ⟨(some 92), .mov (.t 1), none, []⟩,
                 ⟨(some 93), .mov (.t 8), none, []⟩,
                 ⟨(some 94), .len 0 (.t 93), none, [1]⟩,
                 ⟨(some 95), .arith .add (.t 94) (.c (.int .i64 1)), none, [2]⟩,
                 ⟨(some 96), .call 27 [(.t 92), (.t 95)], none, [0, 3]⟩,
                 ⟨(some 18), .mov (.t 96), none, [4, 4, 0, 1, 2, 3, 4]⟩] false)
               (.seq
                (.region [
                  ⟨(some 97), .mov (.t 8), none, []⟩,
                  ⟨(some 98), .mov (.t 18), none, []⟩,
                  ⟨(some 99), .slice 10 (.t 97) none (some (.t 98)), none, [1, 0]⟩,
                  ⟨(some 100), .appD 50 20 [.int .u16 0, .int .u32 0, .int .u16 0, .int .u8 0, .int .u8 0, .int .u8 0, .bool false, .int .u8 0, .int .u8 0, .int .u8 0] (.c (.nil)) (.t 99), none, [0, 1, 2]⟩,
                  ⟨(some 101), .load 10 true (.t 17), none, []⟩,
                  ⟨(some 102), .bslice 1 [.int .u16 0, .int .u32 0, .int .u16 0, .int .u8 0, .int .u8 0, .int .u8 0, .bool false, .int .u8 0, .int .u8 0, .int .u8 0] [(0, (.t 101))], none, [4]⟩,
                  ⟨(some 103), .appD 50 20 [.int .u16 0, .int .u32 0, .int .u16 0, .int .u8 0, .int .u8 0, .int .u8 0, .bool false, .int .u8 0, .int .u8 0, .int .u8 0] (.t 100) (.t 102), none, [4, 2, 1, 0, 5, 3]⟩,
                  ⟨(some 104), .mov (.t 8), none, []⟩,
                  ⟨(some 105), .mov (.t 18), none, []⟩,
                  ⟨(some 106), .slice 10 (.t 104) (some (.t 105)) none, none, [8, 7]⟩,
                  ⟨(some 107), .appD 50 20 [.int .u16 0, .int .u32 0, .int .u16 0, .int .u8 0, .int .u8 0, .int .u8 0, .bool false, .int .u8 0, .int .u8 0, .int .u8 0] (.t 103) (.t 106), none, [7, 8, 3, 5, 0, 1, 2, 4, 9, 6]⟩,
                  ⟨(some 19), .mov (.t 107), none, [9, 8, 7, 6, 5, 4, 3, 2, 1, 0, 10]⟩] true)
                (.seq
                 (.region [
                   ⟨(some 109), .mov (.t 19), none, []⟩,
                   ⟨(some 110), .call 25 [(.t 109)], none, [0]⟩,
                   ⟨(some 108), .mov (.t 110), none, [1]⟩,
                   ⟨(some 111), .extract 0 (.t 108), none, [2]⟩,
                   ⟨(some 112), .extract 1 (.t 108), none, [2]⟩,
                   ⟨(some 20), .mov (.t 111), none, [3, 1, 0, 1, 2, 3]⟩,
                   ⟨(some 21), .mov (.t 112), none, [4, 5, 0, 1, 2, 3, 4, 5]⟩] false)
                 (.seq
                  (.region [
                    ⟨(some 113), .mov (.t 21), none, []⟩,
                    ⟨(some 114), .cmp .eql 0 (.t 113) (.c (.int .i64 6)), none, [0]⟩,
                    ⟨(some 115), .mov (.t 114), none, [1]⟩,
                    ⟨(some 116), .mov (.t 20), (some (115, true)), [2]⟩,
                    ⟨(some 117), .len 0 (.t 116), (some (115, true)), [3, 2]⟩,
                    ⟨(some 118), .cmp .eql 0 (.t 117) (.c (.int .i64 0)), (some (115, true)), [4, 2]⟩,
                    ⟨(some 119), .pick (.t 115) (.t 118) (.c (.bool false)), none, [2, 5]⟩,
                    ⟨(some 120), .mov (.t 119), none, [6, 2]⟩,
                    ⟨(some 121), .call 16 [], (some (120, true)), [7, 7]⟩,
                    ⟨(some 122), .pick (.t 120) (.t 121) (.c (.bool false)), none, [7, 8]⟩,
                    ⟨(some 6), .mov (.t 122), none, [9, 8, 0, 1, 2, 3, 4, 5, 6, 7, 8, 9]⟩] false)
                  .ret))))))))))))))))
def rv8 : List RV := [.t 6]
theorem rc8_ok : comp Try.prog Try.f8.ntmps (Try.f8.body.getD .skip) = some (erase rc8) := by kernel_rfl
theorem rv8_ok : compRes Try.prog Try.f8.results.toList = some rv8 := by kernel_rfl

/-- baseboard/baseboardlaw08.made [2, 2, 4] -/
def rc9 : RC :=
  (.seq
   (.region [
     ⟨(some 6), .alloc [.int .i64 0, .int .i64 0, .bool false], none, []⟩] false)
   (.seq
    (.region [
      ⟨(some 8), .mov (.t 0), none, []⟩,
      ⟨(some 9), .arith .rem (.t 8) (.c (.int .i64 17179869184)), none, [0]⟩,
      ⟨(some 10), .call 27 [(.t 9), (.c (.int .i64 17179869184))], none, [1]⟩,
      ⟨(some 11), .mov (.t 2), none, []⟩,
      ⟨(some 12), .build [.int .i64 0, .int .i64 0, .bool false] [(0, 1, (.t 10)), (2, 1, (.t 11))], none, [2, 3]⟩,
      ⟨(some 7), .alloc [.int .i64 0, .int .i64 0, .bool false], none, []⟩,
      ⟨none, .store 3 (.t 7) (.t 12), none, [5, 4, 2, 0, 1, 2, 3, 4, 5]⟩] false)
    (.seq
     (.seq
      (.region [
        ⟨(some 13), .mov (.t 2), none, []⟩] false)
      (.cond (.t 13)
       (.region [
         ⟨(some 14), .mov (.t 1), none, []⟩,
         ⟨(some 15), .arith .rem (.t 14) (.c (.int .i64 5000000000)), none, [0]⟩,
         ⟨(some 16), .arith .sub (.t 15) (.c (.int .i64 700000000)), none, [1]⟩,
         ⟨(some 17), .faddr 1 (.t 7), none, [0, 1, 2]⟩,
         ⟨none, .store 1 (.t 17) (.t 16), none, [3, 2, 0, 1, 2]⟩] false)
       .skip))
     (.seq
      (.region [
        ⟨(some 18), .load 3 true (.t 7), none, []⟩,
        ⟨none, .store 3 (.t 6) (.t 18), none, [0, 0]⟩] false)
      .ret))))
def rv9 : List RV := [.c 6 3 true]
theorem rc9_ok : comp Try.prog Try.f9.ntmps (Try.f9.body.getD .skip) = some (erase rc9) := by kernel_rfl
theorem rv9_ok : compRes Try.prog Try.f9.results.toList = some rv9 := by kernel_rfl

/-- baseboard/clock.Advance [23, 2] -/
def rc10 : RC :=
  (.seq
   (.region [
     ⟨(some 2), .box 3 (.t 0), none, []⟩,
     ⟨(some 4), .alloc [.int .i64 0, .int .i64 0, .bool false], none, []⟩,
     ⟨(some 5), .mov (.c (.int .i64 0)), none, []⟩] false)
   (.seq
    (.block 0
     (.seq
      (.region [
        ⟨(some 7), .load 3 true (.t 2), none, []⟩,
        ⟨(some 8), .call 14 [(.t 7)], none, [0]⟩,
        ⟨(some 9), .not (.t 8), none, [1]⟩,
        ⟨(some 6), .mov (.t 9), none, [2, 1]⟩] false)
      (.cond (.t 6)
       (.seq
        (.region [
          ⟨(some 10), .build [.int .i64 0, .int .i64 0, .bool false] [], none, []⟩,
          ⟨none, .store 3 (.t 4) (.t 10), none, [0, 0]⟩,
          ⟨(some 5), .mov (.c (.int .i64 1)), none, [1, 0, 1]⟩] false)
        .ret)
       (.seq
        (.region [
          ⟨(some 12), .mov (.t 1), none, []⟩,
          ⟨(some 13), .cmp .lss 0 (.t 12) (.c (.int .i64 0)), none, [0]⟩,
          ⟨(some 14), .mov (.t 13), none, [1]⟩,
          ⟨(some 15), .mov (.t 1), (some (14, false)), [2]⟩,
          ⟨(some 16), .faddr 0 (.t 2), (some (14, false)), [2]⟩,
          ⟨(some 17), .load 1 false (.t 16), (some (14, false)), [4, 2]⟩,
          ⟨(some 18), .arith .sub (.c (.int .i64 17179869184)) (.t 17), (some (14, false)), [5, 2]⟩,
          ⟨(some 19), .cmp .gtr 0 (.t 15) (.t 18), (some (14, false)), [3, 6, 2]⟩,
          ⟨(some 20), .pick (.t 14) (.c (.bool true)) (.t 19), none, [2, 7]⟩,
          ⟨(some 11), .mov (.t 20), none, [8, 2]⟩] false)
        (.cond (.t 11)
         (.seq
          (.region [
            ⟨(some 21), .build [.int .i64 0, .int .i64 0, .bool false] [], none, []⟩,
            ⟨none, .store 3 (.t 4) (.t 21), none, [0, 0]⟩,
            ⟨(some 5), .mov (.c (.int .i64 2)), none, [1, 0, 1]⟩] false)
          .ret)
         .skip)))))
    (.seq
     (.region [
       ⟨(some 22), .faddr 0 (.t 2), none, []⟩,
       ⟨(some 23), .load 1 false (.t 22), none, [0]⟩,
       ⟨(some 24), .mov (.t 1), none, []⟩,
       ⟨(some 25), .arith .add (.t 23) (.t 24), none, [1, 2]⟩,
       ⟨(some 26), .faddr 0 (.t 2), none, [0, 1, 2, 3]⟩,
       ⟨none, .store 1 (.t 26) (.t 25), none, [4, 3, 0, 1, 2, 3]⟩] false)
     (.seq
      (.seq
       (.region [
         ⟨(some 27), .load 3 true (.t 2), none, []⟩,
         ⟨(some 28), .call 14 [(.t 27)], none, [0]⟩,
         ⟨(some 29), .not (.t 28), none, [1]⟩] false)
       (.cond (.t 29)
        (.seq
         (.region [
           ⟨(some 30), .build [.int .i64 0, .int .i64 0, .bool false] [], none, []⟩,
           ⟨none, .store 3 (.t 4) (.t 30), none, [0, 0]⟩,
           ⟨(some 5), .mov (.c (.int .i64 2)), none, [1, 0, 1]⟩] false)
         .ret)
        .skip))
      (.seq
       (.region [
         ⟨(some 31), .load 3 true (.t 2), none, []⟩,
         ⟨none, .store 3 (.t 4) (.t 31), none, [0, 0]⟩,
         ⟨(some 5), .mov (.c (.int .i64 0)), none, [1, 0, 1]⟩] false)
       .ret)))))
def rv10 : List RV := [.c 4 3 true, .t 5]
theorem rc10_ok : comp Try.prog Try.f10.ntmps (Try.f10.body.getD .skip) = some (erase rc10) := by kernel_rfl
theorem rv10_ok : compRes Try.prog Try.f10.results.toList = some rv10 := by kernel_rfl

/-- baseboard/baseboardref08.Advance [23, 2] -/
def rc11 : RC :=
  (.seq
   (.region [
     ⟨(some 2), .box 3 (.t 0), none, []⟩,
     ⟨(some 4), .alloc [.int .i64 0, .int .i64 0, .bool false], none, []⟩,
     ⟨(some 5), .mov (.c (.int .i64 0)), none, []⟩] false)
   (.seq
    (.seq
     (.region [
       ⟨(some 7), .load 3 true (.t 2), none, []⟩,
       ⟨(some 8), .call 15 [(.t 7)], none, [0]⟩,
       ⟨(some 9), .not (.t 8), none, [1]⟩] false)
     (.cond (.t 9)
      (.seq
       (.region [
         ⟨(some 10), .build [.int .i64 0, .int .i64 0, .bool false] [], none, []⟩,
         ⟨none, .store 3 (.t 4) (.t 10), none, [0, 0]⟩,
         ⟨(some 5), .mov (.c (.int .i64 1)), none, [1, 0, 1]⟩] false)
       .ret)
      .skip))
    (.seq
     (.seq
      (.region [
        ⟨(some 11), .mov (.t 1), none, []⟩,
        ⟨(some 12), .cmp .lss 0 (.t 11) (.c (.int .i64 0)), none, [0]⟩,
        ⟨(some 13), .mov (.t 12), none, [1]⟩,
        ⟨(some 14), .mov (.t 1), (some (13, false)), [2]⟩,
        ⟨(some 15), .faddr 0 (.t 2), (some (13, false)), [2]⟩,
        ⟨(some 16), .load 1 false (.t 15), (some (13, false)), [4, 2]⟩,
        ⟨(some 17), .arith .sub (.c (.int .i64 17179869184)) (.t 16), (some (13, false)), [5, 2]⟩,
        ⟨(some 18), .cmp .gtr 0 (.t 14) (.t 17), (some (13, false)), [3, 6, 2]⟩,
        ⟨(some 19), .pick (.t 13) (.c (.bool true)) (.t 18), none, [2, 7]⟩] false)
      (.cond (.t 19)
       (.seq
        (.region [
          ⟨(some 20), .build [.int .i64 0, .int .i64 0, .bool false] [], none, []⟩,
          ⟨none, .store 3 (.t 4) (.t 20), none, [0, 0]⟩,
          ⟨(some 5), .mov (.c (.int .i64 2)), none, [1, 0, 1]⟩] false)
        .ret)
       .skip))
     (.seq
      (.region [
        ⟨(some 21), .load 3 true (.t 2), none, []⟩,
        ⟨(some 6), .alloc [.int .i64 0, .int .i64 0, .bool false], none, []⟩,
        ⟨none, .store 3 (.t 6) (.t 21), none, [1, 0, 0, 1]⟩] false)
      (.seq
       (.region [
         ⟨(some 22), .faddr 0 (.t 2), none, []⟩,
         ⟨(some 23), .load 1 false (.t 22), none, [0]⟩,
         ⟨(some 24), .mov (.t 1), none, []⟩,
         ⟨(some 25), .arith .add (.t 23) (.t 24), none, [1, 2]⟩,
         ⟨(some 26), .faddr 0 (.t 6), none, [0, 1, 2, 3]⟩,
         ⟨none, .store 1 (.t 26) (.t 25), none, [4, 3, 0, 1, 2, 3]⟩] false)
       (.seq
        (.seq
         (.region [
           ⟨(some 27), .load 3 true (.t 6), none, []⟩,
           ⟨(some 28), .call 28 [(.t 27)], none, [0]⟩,
           ⟨(some 29), .cmp .gtr 0 (.t 28) (.c (.int .i64 4294967294)), none, [1]⟩] false)
         (.cond (.t 29)
          (.seq
           (.region [
             ⟨(some 30), .build [.int .i64 0, .int .i64 0, .bool false] [], none, []⟩,
             ⟨none, .store 3 (.t 4) (.t 30), none, [0, 0]⟩,
             ⟨(some 5), .mov (.c (.int .i64 2)), none, [1, 0, 1]⟩] false)
           .ret)
          .skip))
        (.seq
         (.region [
           ⟨(some 31), .load 3 true (.t 6), none, []⟩,
           ⟨none, .store 3 (.t 4) (.t 31), none, [0, 0]⟩,
           ⟨(some 5), .mov (.c (.int .i64 0)), none, [1, 0, 1]⟩] false)
         .ret)))))))
def rv11 : List RV := [.c 4 3 true, .t 5]
theorem rc11_ok : comp Try.prog Try.f11.ntmps (Try.f11.body.getD .skip) = some (erase rc11) := by kernel_rfl
theorem rv11_ok : compRes Try.prog Try.f11.results.toList = some rv11 := by kernel_rfl

/-- baseboard/clock.Stamp [23] -/
def rc12 : RC :=
  (.seq
   (.region [
     ⟨(some 1), .box 3 (.t 0), none, []⟩,
     ⟨(some 2), .mov (.c (.int .u32 0)), none, []⟩,
     ⟨(some 3), .mov (.c (.int .i64 0)), none, [1]⟩] false)
   (.seq
    (.seq
     (.region [
       ⟨(some 4), .load 3 true (.t 1), none, []⟩,
       ⟨(some 5), .call 14 [(.t 4)], none, [0]⟩,
       ⟨(some 6), .not (.t 5), none, [1]⟩] false)
     (.cond (.t 6)
      (.seq
       (.region [
         ⟨(some 2), .mov (.c (.int .u32 0)), none, []⟩,
         ⟨(some 3), .mov (.c (.int .i64 1)), none, [0, 0]⟩] false)
       .ret)
      .skip))
    (.seq
     (.region [
       ⟨(some 7), .load 3 true (.t 1), none, []⟩,
       ⟨(some 8), .call 29 [(.t 7)], none, [0]⟩,
       ⟨(some 9), .conv .u32 (.t 8), none, [1]⟩,
       ⟨(some 2), .mov (.t 9), none, [2, 1, 0, 1, 2]⟩,
       ⟨(some 3), .mov (.c (.int .i64 0)), none, [3, 0, 1, 2, 3]⟩] false)
     .ret)))
def rv12 : List RV := [.t 2, .t 3]
theorem rc12_ok : comp Try.prog Try.f12.ntmps (Try.f12.body.getD .skip) = some (erase rc12) := by kernel_rfl
theorem rv12_ok : compRes Try.prog Try.f12.results.toList = some rv12 := by kernel_rfl

/-- baseboard/baseboardref08.Stamp [23] -/
def rc13 : RC :=
  (.seq
   (.region [
     ⟨(some 1), .box 3 (.t 0), none, []⟩,
     ⟨(some 2), .mov (.c (.int .u32 0)), none, []⟩,
     ⟨(some 3), .mov (.c (.int .i64 0)), none, [1]⟩] false)
   (.seq
    (.seq
     (.region [
       ⟨(some 4), .load 3 true (.t 1), none, []⟩,
       ⟨(some 5), .call 15 [(.t 4)], none, [0]⟩,
       ⟨(some 6), .not (.t 5), none, [1]⟩] false)
     (.cond (.t 6)
      (.seq
       (.region [
         ⟨(some 2), .mov (.c (.int .u32 0)), none, []⟩,
         ⟨(some 3), .mov (.c (.int .i64 1)), none, [0, 0]⟩] false)
       .ret)
      .skip))
    (.seq
     (.region [
       ⟨(some 7), .load 3 true (.t 1), none, []⟩,
       ⟨(some 8), .call 28 [(.t 7)], none, [0]⟩,
       ⟨(some 9), .conv .u32 (.t 8), none, [1]⟩,
       ⟨(some 2), .mov (.t 9), none, [2, 1, 0, 1, 2]⟩,
       ⟨(some 3), .mov (.c (.int .i64 0)), none, [3, 0, 1, 2, 3]⟩] false)
     .ret)))
def rv13 : List RV := [.t 2, .t 3]
theorem rc13_ok : comp Try.prog Try.f13.ntmps (Try.f13.body.getD .skip) = some (erase rc13) := by kernel_rfl
theorem rv13_ok : compRes Try.prog Try.f13.results.toList = some rv13 := by kernel_rfl

/-- baseboard/clock.Valid [23] -/
def rc14 : RC :=
  (.seq
   (.region [
     ⟨(some 1), .box 3 (.t 0), none, []⟩,
     ⟨(some 2), .mov (.c (.bool false)), none, []⟩] false)
   (.seq
    (.seq
     (.region [
       ⟨(some 3), .faddr 0 (.t 1), none, []⟩,
       ⟨(some 4), .load 1 false (.t 3), none, [0]⟩,
       ⟨(some 5), .cmp .lss 0 (.t 4) (.c (.int .i64 0)), none, [1]⟩,
       ⟨(some 6), .mov (.t 5), none, [2]⟩,
       ⟨(some 7), .faddr 0 (.t 1), (some (6, false)), [3]⟩,
       ⟨(some 8), .load 1 false (.t 7), (some (6, false)), [4, 3]⟩,
       ⟨(some 9), .cmp .gtr 0 (.t 8) (.c (.int .i64 17179869184)), (some (6, false)), [5, 3]⟩,
       ⟨(some 10), .pick (.t 6) (.c (.bool true)) (.t 9), none, [3, 6]⟩,
       ⟨(some 11), .mov (.t 10), none, [7, 3]⟩,
       ⟨(some 12), .faddr 2 (.t 1), (some (11, false)), [8]⟩,
       ⟨(some 13), .load 1 false (.t 12), (some (11, false)), [9, 8]⟩,
       ⟨(some 14), .not (.t 13), (some (11, false)), [10, 8]⟩,
       ⟨(some 15), .mov (.t 14), (some (11, false)), [11, 8, 8]⟩,
       ⟨(some 16), .faddr 1 (.t 1), (some (15, true)), [12]⟩,
       ⟨(some 17), .load 1 false (.t 16), (some (15, true)), [13, 12]⟩,
       ⟨(some 18), .cmp .neq 0 (.t 17) (.c (.int .i64 0)), (some (15, true)), [14, 12]⟩,
       ⟨(some 19), .pick (.t 15) (.t 18) (.c (.bool false)), (some (11, false)), [12, 15, 8]⟩,
       ⟨(some 20), .pick (.t 11) (.c (.bool true)) (.t 19), none, [8, 16]⟩,
       ⟨(some 21), .mov (.t 20), none, [17, 12]⟩,
       ⟨(some 22), .faddr 1 (.t 1), (some (21, false)), [18]⟩,
       ⟨(some 23), .load 1 false (.t 22), (some (21, false)), [19, 18]⟩,
       ⟨(some 24), .cmp .lss 0 (.t 23) (.c (.int .i64 (-17179869184))), (some (21, false)), [20, 18]⟩,
       ⟨(some 25), .pick (.t 21) (.c (.bool true)) (.t 24), none, [18, 21]⟩,
       ⟨(some 26), .mov (.t 25), none, [22, 18]⟩,
       ⟨(some 27), .faddr 1 (.t 1), (some (26, false)), [23]⟩,
       ⟨(some 28), .load 1 false (.t 27), (some (26, false)), [24, 23]⟩,
       ⟨(some 29), .cmp .gtr 0 (.t 28) (.c (.int .i64 4294967294)), (some (26, false)), [25, 23]⟩,
       ⟨(some 30), .pick (.t 26) (.c (.bool true)) (.t 29), none, [23, 26]⟩] false)
     (.cond (.t 30)
      (.seq
       (.region [
         ⟨(some 2), .mov (.c (.bool false)), none, []⟩] false)
       .ret)
      .skip))
    (.seq
     (.region [
       ⟨(some 31), .load 3 true (.t 1), none, []⟩,
       ⟨(some 32), .call 29 [(.t 31)], none, [0]⟩,
       ⟨(some 33), .cmp .geq 0 (.t 32) (.c (.int .i64 0)), none, [1]⟩,
       ⟨(some 34), .mov (.t 33), none, [2, 1]⟩,
       ⟨(some 35), .load 3 true (.t 1), (some (34, true)), [3]⟩,
       ⟨(some 36), .call 29 [(.t 35)], (some (34, true)), [4, 3, 3]⟩,
       ⟨(some 37), .cmp .leq 0 (.t 36) (.c (.int .i64 4294967294)), (some (34, true)), [5, 3]⟩,
       ⟨(some 38), .pick (.t 34) (.t 37) (.c (.bool false)), none, [3, 6]⟩,
       ⟨(some 2), .mov (.t 38), none, [7, 5, 0, 1, 2, 3, 4, 5, 6, 7]⟩] false)
     .ret)))
def rv14 : List RV := [.t 2]
theorem rc14_ok : comp Try.prog Try.f14.ntmps (Try.f14.body.getD .skip) = some (erase rc14) := by kernel_rfl
theorem rv14_ok : compRes Try.prog Try.f14.results.toList = some rv14 := by kernel_rfl

/-- baseboard/baseboardref08.Valid [23] -/
def rc15 : RC :=
  (.seq
   (.region [
     ⟨(some 1), .box 3 (.t 0), none, []⟩,
     ⟨(some 2), .mov (.c (.bool false)), none, []⟩] false)
   (.seq
    (.seq
     (.region [
       ⟨(some 3), .faddr 0 (.t 1), none, []⟩,
       ⟨(some 4), .load 1 false (.t 3), none, [0]⟩,
       ⟨(some 5), .cmp .lss 0 (.t 4) (.c (.int .i64 0)), none, [1]⟩,
       ⟨(some 6), .mov (.t 5), none, [2]⟩,
       ⟨(some 7), .faddr 0 (.t 1), (some (6, false)), [3]⟩,
       ⟨(some 8), .load 1 false (.t 7), (some (6, false)), [4, 3]⟩,
       ⟨(some 9), .cmp .gtr 0 (.t 8) (.c (.int .i64 17179869184)), (some (6, false)), [5, 3]⟩,
       ⟨(some 10), .pick (.t 6) (.c (.bool true)) (.t 9), none, [3, 6]⟩,
       ⟨(some 11), .mov (.t 10), none, [7, 3]⟩,
       ⟨(some 12), .faddr 1 (.t 1), (some (11, false)), [8]⟩,
       ⟨(some 13), .load 1 false (.t 12), (some (11, false)), [9, 8]⟩,
       ⟨(some 14), .cmp .lss 0 (.t 13) (.c (.int .i64 (-17179869184))), (some (11, false)), [10, 8]⟩,
       ⟨(some 15), .pick (.t 11) (.c (.bool true)) (.t 14), none, [8, 11]⟩,
       ⟨(some 16), .mov (.t 15), none, [12, 8]⟩,
       ⟨(some 17), .faddr 1 (.t 1), (some (16, false)), [13]⟩,
       ⟨(some 18), .load 1 false (.t 17), (some (16, false)), [14, 13]⟩,
       ⟨(some 19), .cmp .gtr 0 (.t 18) (.c (.int .i64 4294967294)), (some (16, false)), [15, 13]⟩,
       ⟨(some 20), .pick (.t 16) (.c (.bool true)) (.t 19), none, [13, 16]⟩,
       ⟨(some 21), .mov (.t 20), none, [17, 13]⟩,
       ⟨(some 22), .faddr 2 (.t 1), (some (21, false)), [18]⟩,
       ⟨(some 23), .load 1 false (.t 22), (some (21, false)), [19, 18]⟩,
       ⟨(some 24), .not (.t 23), (some (21, false)), [20, 18]⟩,
       ⟨(some 25), .mov (.t 24), (some (21, false)), [21, 18, 18]⟩,
       ⟨(some 26), .faddr 1 (.t 1), (some (25, true)), [22]⟩,
       ⟨(some 27), .load 1 false (.t 26), (some (25, true)), [23, 22]⟩,
       ⟨(some 28), .cmp .neq 0 (.t 27) (.c (.int .i64 0)), (some (25, true)), [24, 22]⟩,
       ⟨(some 29), .pick (.t 25) (.t 28) (.c (.bool false)), (some (21, false)), [22, 25, 18]⟩,
       ⟨(some 30), .pick (.t 21) (.c (.bool true)) (.t 29), none, [18, 26]⟩] false)
     (.cond (.t 30)
      (.seq
       (.region [
         ⟨(some 2), .mov (.c (.bool false)), none, []⟩] false)
       .ret)
      .skip))
    (.seq
     (.region [
       ⟨(some 31), .load 3 true (.t 1), none, []⟩,
       ⟨(some 32), .call 28 [(.t 31)], none, [0]⟩,
       ⟨(some 33), .cmp .geq 0 (.t 32) (.c (.int .i64 0)), none, [1]⟩,
       ⟨(some 34), .mov (.t 33), none, [2, 1]⟩,
       ⟨(some 35), .load 3 true (.t 1), (some (34, true)), [3]⟩,
       ⟨(some 36), .call 28 [(.t 35)], (some (34, true)), [4, 3, 3]⟩,
       ⟨(some 37), .cmp .leq 0 (.t 36) (.c (.int .i64 4294967294)), (some (34, true)), [5, 3]⟩,
       ⟨(some 38), .pick (.t 34) (.t 37) (.c (.bool false)), none, [3, 6]⟩,
       ⟨(some 2), .mov (.t 38), none, [7, 5, 0, 1, 2, 3, 4, 5, 6, 7]⟩] false)
     .ret)))
def rv15 : List RV := [.t 2]
theorem rc15_ok : comp Try.prog Try.f15.ntmps (Try.f15.body.getD .skip) = some (erase rc15) := by kernel_rfl
theorem rv15_ok : compRes Try.prog Try.f15.results.toList = some rv15 := by kernel_rfl

/-- baseboard/baseboardlaw08.awake [] -/
def rc16 : RC :=
  (.seq
   (.region [
     ⟨(some 0), .mov (.c (.bool false)), none, []⟩] false)
   (.seq
    (.region [
      ⟨(some 9), .build [.int .i64 0, .int .i64 0, .bool false] [], none, []⟩,
      ⟨(some 10), .call 10 [(.t 9), (.c (.int .i64 25))], none, [0]⟩,
      ⟨(some 8), .mov (.t 10), none, [1]⟩,
      ⟨(some 11), .extract 0 (.t 8), none, [2]⟩,
      ⟨(some 12), .extract 1 (.t 8), none, [2]⟩,
      ⟨(some 1), .alloc [.int .i64 0, .int .i64 0, .bool false], none, []⟩,
      ⟨none, .store 3 (.t 1) (.t 11), none, [5, 3, 1, 0, 1, 2, 3, 5]⟩,
      ⟨(some 2), .mov (.t 12), none, [4, 6, 0, 1, 2, 3, 4, 5, 6]⟩] false)
    (.seq
     (.region [
       ⟨(some 14), .load 3 true (.t 1), none, []⟩,
       ⟨(some 15), .call 12 [(.t 14)], none, [0]⟩,
       ⟨(some 13), .mov (.t 15), none, [1]⟩,
       ⟨(some 16), .extract 0 (.t 13), none, [2]⟩,
       ⟨(some 17), .extract 1 (.t 13), none, [2]⟩,
       ⟨(some 3), .mov (.t 16), none, [3, 1, 0, 1, 2, 3]⟩,
       ⟨(some 4), .mov (.t 17), none, [4, 5, 0, 1, 2, 3, 4, 5]⟩] false)
     (.seq
      (.region [
        ⟨(some 19), .load 3 true (.t 1), none, []⟩,
        ⟨(some 20), .call 17 [(.t 19), (.c (.int .u32 1000))], none, [0]⟩,
        ⟨(some 18), .mov (.t 20), none, [1]⟩,
        ⟨(some 21), .extract 0 (.t 18), none, [2]⟩,
        ⟨(some 22), .extract 1 (.t 18), none, [2]⟩,
        ⟨(some 23), .extract 2 (.t 18), none, [2]⟩,
        ⟨(some 5), .alloc [.int .i64 0, .int .i64 0, .bool false], none, []⟩,
        ⟨none, .store 3 (.t 5) (.t 21), none, [6, 3, 1, 0, 1, 2, 3, 6]⟩,
        ⟨(some 6), .mov (.t 22), none, [4, 7, 0, 1, 2, 3, 4, 6, 7]⟩,
        ⟨(some 7), .mov (.t 23), none, [5, 8, 0, 1, 2, 3, 4, 5, 6, 7, 8]⟩] false)
      (.seq
       (.region [
         ⟨(some 24), .mov (.t 2), none, []⟩,
         ⟨(some 25), .cmp .eql 0 (.t 24) (.c (.int .i64 0)), none, [0]⟩,
         ⟨(some 26), .mov (.t 25), none, [1]⟩,
         ⟨(some 27), .mov (.t 4), (some (26, true)), [2]⟩,
         ⟨(some 28), .cmp .eql 0 (.t 27) (.c (.int .i64 0)), (some (26, true)), [3, 2]⟩,
         ⟨(some 29), .pick (.t 26) (.t 28) (.c (.bool false)), none, [2, 4]⟩,
         ⟨(some 30), .mov (.t 29), none, [5, 2]⟩,
         ⟨(some 31), .mov (.t 7), (some (30, true)), [6]⟩,
         ⟨(some 32), .cmp .eql 0 (.t 31) (.c (.int .i64 0)), (some (30, true)), [7, 6]⟩,
         ⟨(some 33), .pick (.t 30) (.t 32) (.c (.bool false)), none, [6, 8]⟩,
         ⟨(some 34), .mov (.t 33), none, [9, 6]⟩,
         ⟨(some 35), .mov (.t 3), (some (34, true)), [10]⟩,
         ⟨(some 36), .cmp .eql 0 (.t 35) (.c (.int .u32 2)), (some (34, true)), [11, 10]⟩,
         ⟨(some 37), .pick (.t 34) (.t 36) (.c (.bool false)), none, [10, 12]⟩,
         ⟨(some 38), .mov (.t 37), none, [13, 10]⟩,
         ⟨(some 39), .faddr 1 (.t 5), (some (38, true)), [14]⟩,
         ⟨(some 40), .load 1 false (.t 39), (some (38, true)), [15, 14]⟩,
         ⟨(some 41), .cmp .eql 0 (.t 40) (.c (.int .i64 998)), (some (38, true)), [16, 14]⟩,
         ⟨(some 42), .pick (.t 38) (.t 41) (.c (.bool false)), none, [14, 17]⟩,
         ⟨(some 43), .mov (.t 42), none, [18, 14]⟩,
         ⟨(some 44), .mov (.t 6), (some (43, true)), [19]⟩,
         ⟨(some 45), .len 0 (.t 44), (some (43, true)), [20, 19]⟩,
         ⟨(some 46), .cmp .eql 0 (.t 45) (.c (.int .i64 2)), (some (43, true)), [21, 19]⟩,
         ⟨(some 47), .pick (.t 43) (.t 46) (.c (.bool false)), none, [19, 22]⟩,
         ⟨(some 48), .mov (.t 47), none, [23, 19]⟩,
         ⟨(some 49), .mov (.t 6), (some (48, true)), [24]⟩,
         ⟨(some 50), .iaddrS [.int .u16 0, .int .u32 0, .int .u16 0, .int .u8 0, .int .u8 0, .int .u8 0, .bool false, .int .u8 0, .int .u8 0, .int .u8 0] (.t 49) (.c (.int .i64 1)), (some (48, true)), [25, 24]⟩,
         ⟨(some 51), .faddr 1 (.t 50), (some (48, true)), [26, 24]⟩,
         ⟨(some 52), .load 1 false (.t 51), (some (48, true)), [27, 24]⟩,
         ⟨(some 53), .cmp .eql 0 (.t 52) (.c (.int .u32 1000)), (some (48, true)), [28, 24]⟩,
         ⟨(some 54), .pick (.t 48) (.t 53) (.c (.bool false)), none, [24, 29]⟩,
         ⟨(some 0), .mov (.t 54), none, [30, 24, 0, 1, 2, 3, 4, 5, 6, 7, 8, 9, 10, 11, 12, 13, 14, 15, 16, 17, 18, 19, 20, 21, 22, 23, 24, 25, 26, 27, 28, 29, 30]⟩] false)
       .ret)))))
def rv16 : List RV := [.t 0]
theorem rc16_ok : comp Try.prog Try.f16.ntmps (Try.f16.body.getD .skip) = some (erase rc16) := by kernel_rfl
theorem rv16_ok : compRes Try.prog Try.f16.results.toList = some rv16 := by kernel_rfl

/-- baseboard/clock.Adjust [23, 31] -/
def rc17 : RC :=
  (.seq
   (.region [
     ⟨(some 2), .box 3 (.t 0), none, []⟩,
     ⟨(some 4), .alloc [.int .i64 0, .int .i64 0, .bool false], none, []⟩,
     ⟨(some 5), .mov (.c (.nil)), none, []⟩,
     ⟨(some 6), .mov (.c (.int .i64 0)), none, [2]⟩] false)
   (.seq
    (.block 0
     (.seq
      (.region [
        ⟨(some 9), .load 3 true (.t 2), none, []⟩,
        ⟨(some 10), .call 14 [(.t 9)], none, [0]⟩,
        ⟨(some 11), .not (.t 10), none, [1]⟩,
        ⟨(some 8), .mov (.t 11), none, [2, 1]⟩] false)
      (.cond (.t 8)
       (.seq
        (.region [
          ⟨(some 12), .build [.int .i64 0, .int .i64 0, .bool false] [], none, []⟩,
          ⟨none, .store 3 (.t 4) (.t 12), none, [0, 0]⟩,
          ⟨(some 5), .mov (.c (.nil)), none, [1, 0, 1]⟩,
          ⟨(some 6), .mov (.c (.int .i64 1)), none, [2, 0, 1, 2]⟩] false)
        .ret)
       (.seq
        (.region [
          ⟨(some 14), .mov (.t 1), none, []⟩,
          ⟨(some 15), .cmp .gtr 0 (.t 14) (.c (.int .u32 4294967294)), none, [0]⟩,
          ⟨(some 13), .mov (.t 15), none, [1]⟩] false)
        (.cond (.t 13)
         (.seq
          (.region [
            ⟨(some 16), .build [.int .i64 0, .int .i64 0, .bool false] [], none, []⟩,
            ⟨none, .store 3 (.t 4) (.t 16), none, [0, 0]⟩,
            ⟨(some 5), .mov (.c (.nil)), none, [1, 0, 1]⟩,
            ⟨(some 6), .mov (.c (.int .i64 2)), none, [2, 0, 1, 2]⟩] false)
          .ret)
         .skip)))))
    (.seq
     (.region [
       ⟨(some 17), .load 3 true (.t 2), none, []⟩,
       ⟨(some 18), .call 29 [(.t 17)], none, [0]⟩,
       ⟨(some 19), .conv .u32 (.t 18), none, [1]⟩,
       ⟨(some 20), .call 30 [(.t 19), (.c (.int .u8 0))], none, [2, 1]⟩,
       ⟨(some 21), .mov (.t 1), none, []⟩,
       ⟨(some 22), .call 30 [(.t 21), (.c (.int .u8 128))], none, [4, 3]⟩,
       ⟨(some 23), .bsliceO 50 2 [.int .u16 0, .int .u32 0, .int .u16 0, .int .u8 0, .int .u8 0, .int .u8 0, .bool false, .int .u8 0, .int .u8 0, .int .u8 0] [(0, (.t 20)), (1, (.t 22))], none, [3, 5]⟩,
       ⟨(some 7), .mov (.t 23), none, [6, 5, 0, 1, 2, 3, 4, 5, 6]⟩] false)
     (.seq
      (.region [
        ⟨(some 24), .faddr 0 (.t 2), none, []⟩,
        ⟨(some 25), .load 1 false (.t 24), none, [0]⟩,
        ⟨(some 26), .mov (.t 1), none, []⟩,
        ⟨(some 27), .conv .i64 (.t 26), none, [2]⟩,
        ⟨(some 28), .faddr 0 (.t 2), none, []⟩,
        ⟨(some 29), .load 1 false (.t 28), none, [4]⟩,
        ⟨(some 30), .arith .quo (.t 29) (.c (.int .i64 10)), none, [5]⟩,
        ⟨(some 31), .arith .sub (.t 27) (.t 30), none, [3, 6]⟩,
        ⟨(some 32), .build [.int .i64 0, .int .i64 0, .bool false] [(0, 1, (.t 25)), (1, 1, (.t 31)), (2, 1, (.c (.bool true)))], none, [1, 7]⟩,
        ⟨(some 33), .mov (.t 7), none, []⟩,
        ⟨none, .store 3 (.t 4) (.t 32), none, [8, 0, 1, 2, 3, 4, 5, 6, 7, 8]⟩,
        ⟨(some 5), .mov (.t 33), none, [9, 10, 0, 1, 2, 3, 4, 5, 6, 7, 8, 9, 10]⟩,
        ⟨(some 6), .mov (.c (.int .i64 0)), none, [11, 0, 1, 2, 3, 4, 5, 6, 7, 8, 9, 10, 11]⟩] false)
      .ret))))
def rv17 : List RV := [.c 4 3 true, .t 5, .t 6]
theorem rc17_ok : comp Try.prog Try.f17.ntmps (Try.f17.body.getD .skip) = some (erase rc17) := by kernel_rfl
theorem rv17_ok : compRes Try.prog Try.f17.results.toList = some rv17 := by kernel_rfl

/-- baseboard/baseboardref08.Adjust [23, 31] -/
def rc18 : RC :=
  (.seq
   (.region [
     ⟨(some 2), .box 3 (.t 0), none, []⟩,
     ⟨(some 4), .alloc [.int .i64 0, .int .i64 0, .bool false], none, []⟩,
     ⟨(some 5), .mov (.c (.nil)), none, []⟩,
     ⟨(some 6), .mov (.c (.int .i64 0)), none, [2]⟩] false)
   (.seq
    (.seq
     (.region [
       ⟨(some 8), .load 3 true (.t 2), none, []⟩,
       ⟨(some 9), .call 15 [(.t 8)], none, [0]⟩,
       ⟨(some 10), .not (.t 9), none, [1]⟩] false)
     (.cond (.t 10)
      (.seq
       (.region [
         ⟨(some 11), .build [.int .i64 0, .int .i64 0, .bool false] [], none, []⟩,
         ⟨none, .store 3 (.t 4) (.t 11), none, [0, 0]⟩,
         ⟨(some 5), .mov (.c (.nil)), none, [1, 0, 1]⟩,
         ⟨(some 6), .mov (.c (.int .i64 1)), none, [2, 0, 1, 2]⟩] false)
       .ret)
      .skip))
    (.seq
     (.seq
      (.region [
        ⟨(some 12), .mov (.t 1), none, []⟩,
        ⟨(some 13), .cmp .gtr 0 (.t 12) (.c (.int .u32 4294967294)), none, [0]⟩] false)
      (.cond (.t 13)
       (.seq
        (.region [
          ⟨(some 14), .build [.int .i64 0, .int .i64 0, .bool false] [], none, []⟩,
          ⟨none, .store 3 (.t 4) (.t 14), none, [0, 0]⟩,
          ⟨(some 5), .mov (.c (.nil)), none, [1, 0, 1]⟩,
          ⟨(some 6), .mov (.c (.int .i64 2)), none, [2, 0, 1, 2]⟩] false)
        .ret)
       .skip))
     (.seq
      (.region [
        ⟨(some 15), .faddr 0 (.t 2), none, []⟩,
        ⟨(some 16), .load 1 false (.t 15), none, [0]⟩,
        ⟨(some 17), .mov (.t 1), none, []⟩,
        ⟨(some 18), .conv .i64 (.t 17), none, [2]⟩,
        ⟨(some 19), .faddr 0 (.t 2), none, []⟩,
        ⟨(some 20), .load 1 false (.t 19), none, [4]⟩,
        ⟨(some 21), .arith .quo (.t 20) (.c (.int .i64 10)), none, [5]⟩,
        ⟨(some 22), .arith .sub (.t 18) (.t 21), none, [3, 6]⟩,
        ⟨(some 23), .build [.int .i64 0, .int .i64 0, .bool false] [(0, 1, (.t 16)), (1, 1, (.t 22)), (2, 1, (.c (.bool true)))], none, [1, 7]⟩,
        ⟨(some 7), .alloc [.int .i64 0, .int .i64 0, .bool false], none, []⟩,
        ⟨none, .store 3 (.t 7) (.t 23), none, [9, 8, 0, 1, 2, 3, 4, 5, 6, 7, 8, 9]⟩] false)
      (.seq
       (.region [
         ⟨(some 24), .load 3 true (.t 7), none, []⟩,
         ⟨(some 25), .load 3 true (.t 2), none, []⟩,
         ⟨(some 26), .call 28 [(.t 25)], none, [1]⟩,
         ⟨(some 27), .call 31 [(.t 26), (.c (.int .u8 0))], none, [1, 2]⟩,
         ⟨(some 28), .mov (.t 1), none, []⟩,
         ⟨(some 29), .conv .i64 (.t 28), none, [4]⟩,
         ⟨(some 30), .call 31 [(.t 29), (.c (.int .u8 128))], none, [2, 1, 4, 3, 5]⟩,
         ⟨(some 31), .bsliceO 50 2 [.int .u16 0, .int .u32 0, .int .u16 0, .int .u8 0, .int .u8 0, .int .u8 0, .bool false, .int .u8 0, .int .u8 0, .int .u8 0] [(0, (.t 27)), (1, (.t 30))], none, [5, 4, 2, 1, 6, 3]⟩,
         ⟨none, .store 3 (.t 4) (.t 24), none, [5, 3, 4, 1, 2, 6, 0]⟩,
         ⟨(some 5), .mov (.t 31), none, [6, 5, 4, 3, 2, 1, 0, 8, 7]⟩,
         ⟨(some 6), .mov (.c (.int .i64 0)), none, [8, 7, 6, 5, 4, 3, 2, 1, 0, 9]⟩] true)
       .ret)))))
def rv18 : List RV := [.c 4 3 true, .t 5, .t 6]
theorem rc18_ok : comp Try.prog Try.f18.ntmps (Try.f18.body.getD .skip) = some (erase rc18) := by kernel_rfl
theorem rv18_ok : compRes Try.prog Try.f18.results.toList = some rv18 := by kernel_rfl

/-- baseboard/baseboardref07.SameList [37, 37] -/
def rc19 : RC :=
  (.seq
   (.region [
     ⟨(some 4), .mov (.c (.bool false)), none, []⟩] false)
   (.seq
    (.seq
     (.region [
       ⟨(some 6), .mov (.t 0), none, []⟩,
       ⟨(some 7), .len 0 (.t 6), none, [0]⟩,
       ⟨(some 8), .mov (.t 1), none, []⟩,
       ⟨(some 9), .len 0 (.t 8), none, [2]⟩,
       ⟨(some 10), .cmp .neq 0 (.t 7) (.t 9), none, [1, 3]⟩] false)
     (.cond (.t 10)
      (.seq
       (.region [
         ⟨(some 4), .mov (.c (.bool false)), none, []⟩] false)
       .ret)
      .skip))
    (.seq
     (.seq
      (.region [
        ⟨(some 5), .mov (.c (.int .i64 0)), none, []⟩] false)
      (.block 0
       (.loop 0
        (.seq
         (.seq
          (.region [
            ⟨(some 11), .mov (.t 5), none, []⟩,
            ⟨(some 12), .mov (.t 0), none, []⟩,
            ⟨(some 13), .len 0 (.t 12), none, [1]⟩,
            ⟨(some 14), .cmp .lss 0 (.t 11) (.t 13), none, [0, 2]⟩] false)
          (.cond (.t 14)
           .skip
           (.exit 0)))
         (.seq
          (.block 1
           (.seq
            (.region [
              ⟨(some 17), .mov (.t 0), none, []⟩,
              ⟨(some 18), .mov (.t 5), none, []⟩,
              ⟨(some 19), .iaddrS [.int .u16 0, .int .u32 0, .int .u16 0, .int .u8 0, .int .u8 0, .int .u8 0, .bool false, .int .u8 0, .int .u8 0, .int .u8 0] (.t 17) (.t 18), none, [1, 0]⟩,
              ⟨(some 20), .load 10 true (.t 19), none, [0, 1, 2]⟩,
              ⟨(some 21), .mov (.t 1), none, []⟩,
              ⟨(some 22), .mov (.t 5), none, []⟩,
              ⟨(some 23), .iaddrS [.int .u16 0, .int .u32 0, .int .u16 0, .int .u8 0, .int .u8 0, .int .u8 0, .bool false, .int .u8 0, .int .u8 0, .int .u8 0] (.t 21) (.t 22), none, [5, 4]⟩,
              ⟨(some 24), .load 10 true (.t 23), none, [4, 5, 6]⟩,
              ⟨(some 25), .eqa true [0, 0, 0, 0, 0, 0, 1, 0, 0, 0] (.t 20) (.t 24), none, [6, 5, 4, 2, 1, 0, 7, 3]⟩] true)
            (.cond (.t 25)
             (.seq
              (.region [
                ⟨(some 4), .mov (.c (.bool false)), none, []⟩] false)
              .ret)
             .skip)))
          (.region [
            ⟨(some 15), .mov (.t 5), none, []⟩,
            ⟨(some 16), .arith .add (.t 15) (.c (.int .i64 1)), none, [0]⟩,
            ⟨(some 5), .mov (.t 16), none, [1, 0, 1]⟩] false))))))
     (.seq
      (.region [
        ⟨(some 4), .mov (.c (.bool true)), none, []⟩] false)
      .ret))))
def rv19 : List RV := [.t 4]
theorem rc19_ok : comp Try.prog Try.f19.ntmps (Try.f19.body.getD .skip) = some (erase rc19) := by kernel_rfl
theorem rv19_ok : compRes Try.prog Try.f19.results.toList = some rv19 := by kernel_rfl

/-- baseboard/baseboardmade.Light [43] -/
def rc20 : RC :=
  (.seq
   (.region [
     ⟨(some 2), .mov (.c (.bool false)), none, []⟩] false)
   (.seq
    (.region [
      ⟨(some 3), .mov (.t 0), none, []⟩,
      ⟨(some 4), .len 0 (.t 3), none, [0]⟩,
      ⟨(some 5), .cmp .leq 0 (.t 4) (.c (.int .i64 600)), none, [1]⟩,
      ⟨(some 2), .mov (.t 5), none, [2, 0, 1, 2]⟩] false)
    .ret))
def rv20 : List RV := [.t 2]
theorem rc20_ok : comp Try.prog Try.f20.ntmps (Try.f20.body.getD .skip) = some (erase rc20) := by kernel_rfl
theorem rv20_ok : compRes Try.prog Try.f20.results.toList = some rv20 := by kernel_rfl

/-- baseboard/baseboardmade.Roll [43] -/
def rc21 : RC :=
  (.seq
   (.region [
     ⟨(some 2), .mov (.c (.junk)), none, []⟩] false)
   (.seq
    (.region [
      ⟨(some 3), .mov (.t 0), none, []⟩,
      ⟨(some 4), .build [.nil, .int .i64 0] [(0, 1, (.t 3))], none, [0]⟩,
      ⟨(some 5), .box 2 (.t 4), none, [1]⟩,
      ⟨(some 2), .mov (.t 5), none, [2, 0, 1, 2]⟩] false)
    .ret))
def rv21 : List RV := [.t 2]
theorem rc21_ok : comp Try.prog Try.f21.ntmps (Try.f21.body.getD .skip) = some (erase rc21) := by kernel_rfl
theorem rv21_ok : compRes Try.prog Try.f21.results.toList = some rv21 := by kernel_rfl

/-- (*baseboard/baseboardmade.Dice).Next [45, 3] -/
def rc22 : RC :=
  (.seq
   (.region [
     ⟨(some 4), .mov (.c (.int .i64 0)), none, []⟩] false)
   (.seq
    (.seq
     (.region [
       ⟨(some 5), .mov (.t 0), none, []⟩,
       ⟨(some 6), .nilchk (.t 5), none, [0]⟩,
       ⟨(some 7), .faddr 1 (.t 6), none, [0, 1]⟩,
       ⟨(some 8), .load 1 false (.t 7), none, [1, 0, 2]⟩,
       ⟨(some 9), .mov (.t 0), none, []⟩,
       ⟨(some 10), .nilchk (.t 9), none, [4]⟩,
       ⟨(some 11), .faddr 0 (.t 10), none, [4, 5]⟩,
       ⟨(some 12), .load 1 false (.t 11), none, [5, 4, 6]⟩,
       ⟨(some 13), .len 0 (.t 12), none, [6, 4, 5, 7]⟩,
       ⟨(some 14), .cmp .geq 0 (.t 8) (.t 13), none, [7, 5, 4, 6, 2, 0, 1, 8, 3]⟩] true)
     (.cond (.t 14)
      (.seq
       (.region [
         ⟨(some 4), .mov (.c (.int .i64 0)), none, []⟩] false)
       .ret)
      .skip))
    (.seq
     (.region [
       ⟨(some 15), .mov (.t 0), none, []⟩,
       ⟨(some 16), .nilchk (.t 15), none, [0]⟩,
       ⟨(some 17), .faddr 1 (.t 16), none, [1]⟩,
       ⟨(some 18), .load 1 false (.t 17), none, [2]⟩,
       ⟨(some 19), .arith .add (.t 18) (.c (.int .i64 1)), none, [3]⟩,
       ⟨(some 20), .nilchk (.t 15), none, [0, 0, 1, 2, 3, 4]⟩,
       ⟨(some 21), .faddr 1 (.t 20), none, [5, 0, 1, 2, 3, 4]⟩,
       ⟨none, .store 1 (.t 21) (.t 19), none, [6, 4, 0, 1, 2, 3, 4]⟩] false)
     (.seq
      (.region [
        ⟨(some 22), .mov (.t 0), none, []⟩,
        ⟨(some 23), .nilchk (.t 22), none, [0]⟩,
        ⟨(some 24), .faddr 0 (.t 23), none, [0, 1]⟩,
        ⟨(some 25), .load 1 false (.t 24), none, [1, 0, 2]⟩,
        ⟨(some 26), .mov (.t 0), none, []⟩,
        ⟨(some 27), .nilchk (.t 26), none, [4]⟩,
        ⟨(some 28), .faddr 1 (.t 27), none, [4, 5]⟩,
        ⟨(some 29), .load 1 false (.t 28), none, [5, 4, 6]⟩,
        ⟨(some 30), .arith .sub (.t 29) (.c (.int .i64 1)), none, [6, 4, 5, 7]⟩,
        ⟨(some 31), .iaddrS [.int .i64 0] (.t 25) (.t 30), none, [7, 5, 4, 6, 2, 0, 1, 8, 3]⟩,
        ⟨(some 32), .load 1 false (.t 31), none, [3, 8, 1, 0, 2, 6, 4, 5, 7, 9]⟩,
        ⟨(some 33), .mov (.t 1), none, []⟩,
        ⟨(some 34), .call 27 [(.t 32), (.t 33)], none, [9, 7, 5, 4, 6, 2, 0, 1, 8, 3, 11, 10]⟩,
        ⟨(some 4), .mov (.t 34), none, [11, 10, 9, 8, 7, 6, 5, 4, 3, 2, 1, 0, 12]⟩] true)
      .ret))))
def rv22 : List RV := [.t 4]
theorem rc22_ok : comp Try.prog Try.f22.ntmps (Try.f22.body.getD .skip) = some (erase rc22) := by kernel_rfl
theorem rv22_ok : compRes Try.prog Try.f22.results.toList = some rv22 := by kernel_rfl

/-- (*baseboard/baseboardmade.Dice).Event [45] -/
def rc23 : RC :=
  (.seq
   (.region [
     ⟨(some 2), .alloc [.int .u16 0, .int .u32 0, .int .u16 0, .int .u8 0, .int .u8 0, .int .u8 0, .bool false, .int .u8 0, .int .u8 0, .int .u8 0], none, []⟩] false)
   (.seq
    (.region [
      ⟨(some 5), .build [.int .u8 0, .int .u8 0, .int .u8 0, .int .u8 0] [(0, 1, (.c (.int .u8 1))), (1, 1, (.c (.int .u8 111))), (2, 1, (.c (.int .u8 127))), (3, 1, (.c (.int .u8 3)))], none, []⟩,
      ⟨(some 3), .alloc [.int .u8 0, .int .u8 0, .int .u8 0, .int .u8 0], none, []⟩,
      ⟨none, .store 4 (.t 3) (.t 5), none, [1, 0, 0, 1]⟩] false)
    (.seq
     (.region [
       ⟨(some 6), .mov (.t 0), none, []⟩,
       ⟨(some 7), .call 22 [(.t 6), (.c (.int .i64 2000000))], none, [0]⟩,
       ⟨(some 8), .conv .u32 (.t 7), none, [0, 1]⟩,
       ⟨(some 9), .mov (.t 0), none, []⟩,
       ⟨(some 10), .call 22 [(.t 9), (.c (.int .i64 65536))], none, [0, 1, 3]⟩,
       ⟨(some 11), .conv .u16 (.t 10), none, [3, 1, 0, 4]⟩,
       ⟨(some 12), .mov (.t 0), none, []⟩,
       ⟨(some 13), .call 32 [(.t 12)], none, [3, 1, 0, 4, 6]⟩,
       ⟨(some 14), .mov (.t 0), none, []⟩,
       ⟨(some 15), .call 32 [(.t 14)], none, [6, 4, 0, 1, 3, 7, 8]⟩,
       ⟨(some 16), .mov (.t 0), none, []⟩,
       ⟨(some 17), .call 22 [(.t 16), (.c (.int .i64 4))], none, [8, 7, 3, 1, 0, 4, 6, 9, 10]⟩,
       ⟨(some 18), .iaddrA 4 1 (.t 3) (.t 17), none, [10, 9, 6, 4, 0, 1, 3, 7, 8, 11]⟩,
       ⟨(some 19), .load 1 false (.t 18), none, [11, 8, 7, 3, 1, 0, 4, 6, 9, 10, 12]⟩,
       ⟨(some 20), .mov (.t 0), none, []⟩,
       ⟨(some 21), .call 24 [(.t 20), (.c (.int .i64 2))], none, [10, 9, 6, 4, 0, 1, 3, 7, 8, 11, 14]⟩,
       ⟨(some 22), .mov (.t 0), none, []⟩,
       ⟨(some 23), .call 32 [(.t 22)], none, [14, 11, 8, 7, 3, 1, 0, 4, 6, 9, 10, 15, 16]⟩,
       ⟨(some 24), .mov (.t 0), none, []⟩,
       ⟨(some 25), .call 32 [(.t 24)], none, [16, 15, 10, 9, 6, 4, 0, 1, 3, 7, 8, 11, 14, 17, 18]⟩,
       ⟨(some 26), .mov (.t 0), none, []⟩,
       ⟨(some 27), .call 32 [(.t 26)], none, [18, 17, 14, 11, 8, 7, 3, 1, 0, 4, 6, 9, 10, 15, 16, 19, 20]⟩,
       ⟨(some 28), .build [.int .u8 0, .int .u8 0, .int .u8 0] [(0, 1, (.t 23)), (1, 1, (.t 25)), (2, 1, (.t 27))], none, [20, 18, 16, 15, 10, 9, 6, 4, 0, 1, 3, 7, 8, 11, 14, 21, 19, 17]⟩,
       ⟨(some 29), .build [.int .u16 0, .int .u32 0, .int .u16 0, .int .u8 0, .int .u8 0, .int .u8 0, .bool false, .int .u8 0, .int .u8 0, .int .u8 0] [(1, 1, (.t 8)), (2, 1, (.t 11)), (3, 1, (.t 13)), (4, 1, (.t 15)), (5, 1, (.t 19)), (6, 1, (.t 21)), (7, 3, (.t 28))], none, [17, 19, 21, 16, 18, 20, 14, 12, 10, 11, 8, 6, 4, 3, 1, 0, 22, 15, 13, 9, 7, 5, 2]⟩,
       ⟨(some 4), .alloc [.int .u16 0, .int .u32 0, .int .u16 0, .int .u8 0, .int .u8 0, .int .u8 0, .bool false, .int .u8 0, .int .u8 0, .int .u8 0], none, []⟩,
       ⟨none, .store 10 (.t 4) (.t 29), none, [22, 20, 19, 18, 17, 16, 15, 14, 13, 12, 11, 10, 9, 8, 7, 6, 5, 4, 3, 2, 1, 0, 21, 23, 24]⟩] true)
     (.seq
      (.seq
       (.region [
         ⟨(some 30), .mov (.t 0), none, []⟩,
         ⟨(some 31), .call 24 [(.t 30), (.c (.int .i64 8))], none, [0]⟩] false)
       (.cond (.t 31)
        (.region [
          ⟨(some 32), .faddr 1 (.t 4), none, []⟩,
          ⟨none, .store 1 (.t 32) (.c (.int .u32 4294967294)), none, [0]⟩] false)
        .skip))
      (.seq
       (.region [
         ⟨(some 33), .load 10 true (.t 4), none, []⟩,
         ⟨none, .store 10 (.t 2) (.t 33), none, [0, 0]⟩] false)
       .ret)))))
def rv23 : List RV := [.c 2 10 true]
theorem rc23_ok : comp Try.prog Try.f23.ntmps (Try.f23.body.getD .skip) = some (erase rc23) := by kernel_rfl
theorem rv23_ok : compRes Try.prog Try.f23.results.toList = some rv23 := by kernel_rfl

/-- (*baseboard/baseboardmade.Dice).Bool [45, 3] -/
def rc24 : RC :=
  (.seq
   (.region [
     ⟨(some 4), .mov (.c (.bool false)), none, []⟩] false)
   (.seq
    (.region [
      ⟨(some 5), .mov (.t 0), none, []⟩,
      ⟨(some 6), .mov (.t 1), none, []⟩,
      ⟨(some 7), .call 22 [(.t 5), (.t 6)], none, [0, 1]⟩,
      ⟨(some 8), .mov (.t 1), none, []⟩,
      ⟨(some 9), .arith .sub (.t 8) (.c (.int .i64 1)), none, [3]⟩,
      ⟨(some 10), .cmp .eql 0 (.t 7) (.t 9), none, [2, 4]⟩,
      ⟨(some 4), .mov (.t 10), none, [5, 2, 0, 1, 2, 3, 4, 5]⟩] false)
    .ret))
def rv24 : List RV := [.t 4]
theorem rc24_ok : comp Try.prog Try.f24.ntmps (Try.f24.body.getD .skip) = some (erase rc24) := by kernel_rfl
theorem rv24_ok : compRes Try.prog Try.f24.results.toList = some rv24 := by kernel_rfl

/-- baseboard/clock.Reconcile [37] -/
def rc25 : RC :=
  (.seq
   (.region [
     ⟨(some 2), .mov (.c (.nil)), none, []⟩,
     ⟨(some 3), .mov (.c (.int .i64 0)), none, [0]⟩] false)
   (.seq
    (.seq
     (.region [
       ⟨(some 9), .mov (.t 0), none, []⟩,
       ⟨(some 10), .len 0 (.t 9), none, [0]⟩,
       ⟨(some 11), .mov (.c (.int .i64 0)), none, []⟩] false)
     (.block 0
      (.loop 0
       (.seq
        (.region [
          ⟨(some 12), .cmp .lss 0 (.t 11) (.t 10), none, []⟩] false)
        (.seq
         (.cond (.t 12)
          .skip
          (.exit 0))
         (.seq
          (.block 1
           (.seq
            (.region [
              ⟨(some 13), .mov (.t 11), none, []⟩,
              ⟨(some 14), .iaddrS [.int .u16 0, .int .u32 0, .int .u16 0, .int .u8 0, .int .u8 0, .int .u8 0, .bool false, .int .u8 0, .int .u8 0, .int .u8 0] (.t 9) (.t 11), none, []⟩,
              ⟨(some 15), .load 10 true (.t 14), none, [1]⟩,
              ⟨(some 5), .alloc [.int .u16 0, .int .u32 0, .int .u16 0, .int .u8 0, .int .u8 0, .int .u8 0, .bool false, .int .u8 0, .int .u8 0, .int .u8 0], none, []⟩,
              ⟨(some 4), .mov (.t 13), none, [0, 0, 1, 2, 3]⟩,
              ⟨none, .store 10 (.t 5) (.t 15), none, [3, 2, 4, 0, 1, 2, 3, 4]⟩] false)
            (.seq
             (.region [
               ⟨(some 16), .load 10 true (.t 5), none, []⟩,
               ⟨(some 17), .call 33 [(.t 16), (.c (.int .u8 0))], none, [0]⟩,
               ⟨(some 18), .mov (.t 17), none, [1, 1]⟩,
               ⟨(some 19), .mov (.t 4), (some (18, true)), [2]⟩,
               ⟨(some 20), .arith .add (.t 19) (.c (.int .i64 1)), (some (18, true)), [3, 2]⟩,
               ⟨(some 21), .mov (.t 0), (some (18, true)), [2]⟩,
               ⟨(some 22), .len 0 (.t 21), (some (18, true)), [5, 2]⟩,
               ⟨(some 23), .cmp .eql 0 (.t 20) (.t 22), (some (18, true)), [4, 6, 2]⟩,
               ⟨(some 24), .mov (.t 23), (some (18, true)), [7, 2, 2]⟩,
               ⟨(some 25), .mov (.t 0), (some (24, false)), [8]⟩,
               ⟨(some 26), .mov (.t 4), (some (24, false)), [8]⟩,
               ⟨(some 27), .arith .add (.t 26) (.c (.int .i64 1)), (some (24, false)), [10, 8]⟩,
               ⟨(some 28), .iaddrS [.int .u16 0, .int .u32 0, .int .u16 0, .int .u8 0, .int .u8 0, .int .u8 0, .bool false, .int .u8 0, .int .u8 0, .int .u8 0] (.t 25) (.t 27), (some (24, false)), [9, 11, 8]⟩,
               ⟨(some 29), .load 10 true (.t 28), (some (24, false)), [12, 8]⟩,
               ⟨(some 30), .call 33 [(.t 29), (.c (.int .u8 128))], (some (24, false)), [13, 8, 8]⟩,
               ⟨(some 31), .not (.t 30), (some (24, false)), [14, 8]⟩,
               ⟨(some 32), .pick (.t 24) (.c (.bool true)) (.t 31), (some (18, true)), [8, 15, 2]⟩,
               ⟨(some 33), .pick (.t 18) (.t 32) (.c (.bool false)), none, [2, 16]⟩,
               ⟨(some 34), .mov (.t 33), none, [17, 14]⟩,
               ⟨(some 35), .load 10 true (.t 5), (some (34, false)), [18]⟩,
               ⟨(some 36), .call 33 [(.t 35), (.c (.int .u8 128))], (some (34, false)), [19, 18, 18]⟩,
               ⟨(some 37), .mov (.t 36), (some (34, false)), [20, 20, 18]⟩,
               ⟨(some 38), .mov (.t 4), (some (37, true)), [21]⟩,
               ⟨(some 39), .cmp .eql 0 (.t 38) (.c (.int .i64 0)), (some (37, true)), [22, 21]⟩,
               ⟨(some 40), .mov (.t 39), (some (37, true)), [23, 21, 21]⟩,
               ⟨(some 41), .mov (.t 0), (some (40, false)), [24]⟩,
               ⟨(some 42), .mov (.t 4), (some (40, false)), [24]⟩,
               ⟨(some 43), .arith .sub (.t 42) (.c (.int .i64 1)), (some (40, false)), [26, 24]⟩,
               ⟨(some 44), .iaddrS [.int .u16 0, .int .u32 0, .int .u16 0, .int .u8 0, .int .u8 0, .int .u8 0, .bool false, .int .u8 0, .int .u8 0, .int .u8 0] (.t 41) (.t 43), (some (40, false)), [25, 27, 24]⟩,
               ⟨(some 45), .load 10 true (.t 44), (some (40, false)), [28, 24]⟩,
               ⟨(some 46), .call 33 [(.t 45), (.c (.int .u8 0))], (some (40, false)), [29, 24, 24]⟩,
               ⟨(some 47), .not (.t 46), (some (40, false)), [30, 24]⟩,
               ⟨(some 48), .pick (.t 40) (.c (.bool true)) (.t 47), (some (37, true)), [24, 31, 21]⟩,
               ⟨(some 49), .pick (.t 37) (.t 48) (.c (.bool false)), (some (34, false)), [21, 32, 18]⟩,
               ⟨(some 50), .pick (.t 34) (.c (.bool true)) (.t 49), none, [18, 33]⟩] false)
             (.cond (.t 50)
              (.seq
               (.region [
                 ⟨(some 2), .mov (.c (.nil)), none, []⟩,
                 ⟨(some 3), .mov (.c (.int .i64 6)), none, [0, 0]⟩] false)
               .ret)
              .skip))))
          (.region [
            ⟨(some 51), .arith .add (.t 11) (.c (.int .i64 1)), none, []⟩,
            ⟨(some 11), .mov (.t 51), none, [0]⟩] false)))))))
    (.seq
     (.region [
       ⟨(some 52), .mov (.t 0), none, []⟩,
       ⟨(some 53), .len 0 (.t 52), none, [0]⟩,
       ⟨(some 54), .mkslice 2 8 [.int .i64 0] (.t 53) (.t 53), none, [1, 1]⟩,
       ⟨(some 6), .mov (.t 54), none, [2, 0, 1, 2]⟩] false)
     (.seq
      (.region [
        ⟨(some 7), .mov (.c (.int .i64 0)), none, []⟩] false)
      (.seq
       (.seq
        (.region [
          ⟨(some 55), .mov (.t 0), none, []⟩,
          ⟨(some 56), .len 0 (.t 55), none, [0]⟩,
          ⟨(some 57), .arith .sub (.t 56) (.c (.int .i64 1)), none, [1]⟩,
          ⟨(some 8), .mov (.t 57), none, [2, 0, 1, 2]⟩] false)
        (.block 2
         (.loop 1
          (.seq
           (.seq
            (.region [
              ⟨(some 58), .mov (.t 8), none, []⟩,
              ⟨(some 59), .cmp .geq 0 (.t 58) (.c (.int .i64 0)), none, [0]⟩] false)
            (.cond (.t 59)
             .skip
             (.exit 2)))
           (.seq
            (.block 3
             (.seq
              (.region [
                ⟨(some 62), .mov (.t 6), none, []⟩,
                ⟨(some 63), .mov (.t 8), none, []⟩,
                ⟨(some 64), .mov (.t 0), none, []⟩,
                ⟨(some 65), .mov (.t 8), none, []⟩,
                ⟨(some 66), .iaddrS [.int .u16 0, .int .u32 0, .int .u16 0, .int .u8 0, .int .u8 0, .int .u8 0, .bool false, .int .u8 0, .int .u8 0, .int .u8 0] (.t 64) (.t 65), none, [2, 3]⟩,
                ⟨(some 67), .faddr 1 (.t 66), none, [4]⟩,
                ⟨(some 68), .load 1 false (.t 67), none, [5]⟩,
                ⟨(some 69), .conv .i64 (.t 68), none, [6]⟩,
                ⟨(some 70), .mov (.t 7), none, []⟩,
                ⟨(some 71), .arith .add (.t 69) (.t 70), none, [7, 8]⟩,
                ⟨(some 72), .iaddrS [.int .i64 0] (.t 62) (.t 63), none, [0, 1, 0, 1, 2, 3, 4, 5, 6, 7, 8, 9]⟩,
                ⟨none, .store 1 (.t 72) (.t 71), none, [10, 9, 0, 1, 2, 3, 4, 5, 6, 7, 8, 9]⟩] false)
              (.seq
               (.region [
                 ⟨(some 73), .mov (.t 0), none, []⟩,
                 ⟨(some 74), .mov (.t 8), none, []⟩,
                 ⟨(some 75), .iaddrS [.int .u16 0, .int .u32 0, .int .u16 0, .int .u8 0, .int .u8 0, .int .u8 0, .bool false, .int .u8 0, .int .u8 0, .int .u8 0] (.t 73) (.t 74), none, [0, 1]⟩,
                 ⟨(some 76), .load 10 true (.t 75), none, [2]⟩,
                 ⟨(some 77), .call 33 [(.t 76), (.c (.int .u8 128))], none, [3]⟩] false)
               (.cond (.t 77)
                (.region [
                  ⟨(some 78), .mov (.t 7), none, []⟩,
                  ⟨(some 79), .mov (.t 0), none, []⟩,
                  ⟨(some 80), .mov (.t 8), none, []⟩,
                  ⟨(some 81), .iaddrS [.int .u16 0, .int .u32 0, .int .u16 0, .int .u8 0, .int .u8 0, .int .u8 0, .bool false, .int .u8 0, .int .u8 0, .int .u8 0] (.t 79) (.t 80), none, [2, 1]⟩,
                  ⟨(some 82), .faddr 1 (.t 81), none, [1, 2, 3]⟩,
                  ⟨(some 83), .load 1 false (.t 82), none, [3, 2, 1, 4]⟩,
                  ⟨(some 84), .conv .i64 (.t 83), none, [4, 1, 2, 3, 5]⟩,
                  ⟨(some 85), .mov (.t 0), none, []⟩,
                  ⟨(some 86), .mov (.t 8), none, []⟩,
                  ⟨(some 87), .arith .sub (.t 86) (.c (.int .i64 1)), none, [8]⟩,
                  ⟨(some 88), .iaddrS [.int .u16 0, .int .u32 0, .int .u16 0, .int .u8 0, .int .u8 0, .int .u8 0, .bool false, .int .u8 0, .int .u8 0, .int .u8 0] (.t 85) (.t 87), none, [8, 9, 7]⟩,
                  ⟨(some 89), .faddr 1 (.t 88), none, [7, 9, 8, 10]⟩,
                  ⟨(some 90), .load 1 false (.t 89), none, [10, 8, 9, 7, 11]⟩,
                  ⟨(some 91), .conv .i64 (.t 90), none, [11, 7, 9, 8, 10, 12]⟩,
                  ⟨(some 92), .arith .sub (.t 84) (.t 91), none, [12, 10, 8, 9, 7, 11, 5, 3, 2, 1, 4, 13, 6]⟩,
                  ⟨(some 93), .arith .add (.t 78) (.t 92), none, [6, 13, 4, 1, 2, 3, 5, 11, 7, 9, 8, 10, 12, 14, 0]⟩,
                  ⟨(some 7), .mov (.t 93), none, [14, 13, 12, 11, 10, 9, 8, 7, 6, 5, 4, 3, 2, 1, 0, 15]⟩] true)
                .skip))))
            (.region [
              ⟨(some 60), .mov (.t 8), none, []⟩,
              ⟨(some 61), .arith .sub (.t 60) (.c (.int .i64 1)), none, [0]⟩,
              ⟨(some 8), .mov (.t 61), none, [1, 0, 1]⟩] false))))))
       (.seq
        (.region [
          ⟨(some 94), .mov (.t 6), none, []⟩,
          ⟨(some 2), .mov (.t 94), none, [0, 0]⟩,
          ⟨(some 3), .mov (.c (.int .i64 0)), none, [1, 0, 1]⟩] false)
        .ret))))))
def rv25 : List RV := [.t 2, .t 3]
theorem rc25_ok : comp Try.prog Try.f25.ntmps (Try.f25.body.getD .skip) = some (erase rc25) := by kernel_rfl
theorem rv25_ok : compRes Try.prog Try.f25.results.toList = some rv25 := by kernel_rfl

/-- baseboard/baseboardref08.Reconcile [37] -/
def rc26 : RC :=
  (.seq
   (.region [
     ⟨(some 2), .mov (.c (.nil)), none, []⟩,
     ⟨(some 3), .mov (.c (.int .i64 0)), none, [0]⟩] false)
   (.seq
    (.region [
      ⟨(some 10), .mov (.t 0), none, []⟩,
      ⟨(some 11), .len 0 (.t 10), none, [0]⟩,
      ⟨(some 4), .mov (.t 11), none, [1, 0, 1]⟩] false)
    (.seq
     (.seq
      (.region [
        ⟨(some 5), .mov (.c (.int .i64 0)), none, []⟩] false)
      (.block 0
       (.loop 0
        (.seq
         (.seq
          (.region [
            ⟨(some 12), .mov (.t 5), none, []⟩,
            ⟨(some 13), .mov (.t 4), none, []⟩,
            ⟨(some 14), .cmp .lss 0 (.t 12) (.t 13), none, [0, 1]⟩] false)
          (.cond (.t 14)
           .skip
           (.exit 0)))
         (.seq
          (.block 1
           (.seq
            (.region [
              ⟨(some 17), .mov (.t 0), none, []⟩,
              ⟨(some 18), .mov (.t 5), none, []⟩,
              ⟨(some 19), .iaddrS [.int .u16 0, .int .u32 0, .int .u16 0, .int .u8 0, .int .u8 0, .int .u8 0, .bool false, .int .u8 0, .int .u8 0, .int .u8 0] (.t 17) (.t 18), none, [0, 1]⟩,
              ⟨(some 20), .load 10 true (.t 19), none, [2]⟩,
              ⟨(some 21), .call 34 [(.t 20)], none, [3]⟩,
              ⟨(some 6), .mov (.t 21), none, [4, 4, 0, 1, 2, 3, 4]⟩] false)
            (.seq
             (.region [
               ⟨(some 22), .mov (.t 6), none, []⟩,
               ⟨(some 23), .cmp .eql 0 (.t 22) (.c (.int .i64 1)), none, [0]⟩,
               ⟨(some 24), .mov (.t 23), none, [1]⟩,
               ⟨(some 25), .mov (.t 5), (some (24, true)), [2]⟩,
               ⟨(some 26), .arith .add (.t 25) (.c (.int .i64 1)), (some (24, true)), [3, 2]⟩,
               ⟨(some 27), .mov (.t 4), (some (24, true)), [2]⟩,
               ⟨(some 28), .cmp .eql 0 (.t 26) (.t 27), (some (24, true)), [4, 5, 2]⟩,
               ⟨(some 29), .mov (.t 28), (some (24, true)), [6, 2, 2]⟩,
               ⟨(some 30), .mov (.t 0), (some (29, false)), [7]⟩,
               ⟨(some 31), .mov (.t 5), (some (29, false)), [7]⟩,
               ⟨(some 32), .arith .add (.t 31) (.c (.int .i64 1)), (some (29, false)), [9, 7]⟩,
               ⟨(some 33), .iaddrS [.int .u16 0, .int .u32 0, .int .u16 0, .int .u8 0, .int .u8 0, .int .u8 0, .bool false, .int .u8 0, .int .u8 0, .int .u8 0] (.t 30) (.t 32), (some (29, false)), [8, 10, 7]⟩,
               ⟨(some 34), .load 10 true (.t 33), (some (29, false)), [11, 7]⟩,
               ⟨(some 35), .call 34 [(.t 34)], (some (29, false)), [12, 7, 7]⟩,
               ⟨(some 36), .cmp .neq 0 (.t 35) (.c (.int .i64 2)), (some (29, false)), [13, 7]⟩,
               ⟨(some 37), .pick (.t 29) (.c (.bool true)) (.t 36), (some (24, true)), [7, 14, 2]⟩,
               ⟨(some 38), .pick (.t 24) (.t 37) (.c (.bool false)), none, [2, 15]⟩,
               ⟨(some 39), .mov (.t 38), none, [16, 13]⟩,
               ⟨(some 40), .mov (.t 6), (some (39, false)), [17]⟩,
               ⟨(some 41), .cmp .eql 0 (.t 40) (.c (.int .i64 2)), (some (39, false)), [18, 17]⟩,
               ⟨(some 42), .mov (.t 41), (some (39, false)), [19, 17, 17]⟩,
               ⟨(some 43), .mov (.t 5), (some (42, true)), [20]⟩,
               ⟨(some 44), .cmp .eql 0 (.t 43) (.c (.int .i64 0)), (some (42, true)), [21, 20]⟩,
               ⟨(some 45), .mov (.t 44), (some (42, true)), [22, 20, 20]⟩,
               ⟨(some 46), .mov (.t 0), (some (45, false)), [23]⟩,
               ⟨(some 47), .mov (.t 5), (some (45, false)), [23]⟩,
               ⟨(some 48), .arith .sub (.t 47) (.c (.int .i64 1)), (some (45, false)), [25, 23]⟩,
               ⟨(some 49), .iaddrS [.int .u16 0, .int .u32 0, .int .u16 0, .int .u8 0, .int .u8 0, .int .u8 0, .bool false, .int .u8 0, .int .u8 0, .int .u8 0] (.t 46) (.t 48), (some (45, false)), [24, 26, 23]⟩,
               ⟨(some 50), .load 10 true (.t 49), (some (45, false)), [27, 23]⟩,
               ⟨(some 51), .call 34 [(.t 50)], (some (45, false)), [28, 23, 23]⟩,
               ⟨(some 52), .cmp .neq 0 (.t 51) (.c (.int .i64 1)), (some (45, false)), [29, 23]⟩,
               ⟨(some 53), .pick (.t 45) (.c (.bool true)) (.t 52), (some (42, true)), [23, 30, 20]⟩,
               ⟨(some 54), .pick (.t 42) (.t 53) (.c (.bool false)), (some (39, false)), [20, 31, 17]⟩,
               ⟨(some 55), .pick (.t 39) (.c (.bool true)) (.t 54), none, [17, 32]⟩] false)
             (.cond (.t 55)
              (.seq
               (.region [
                 ⟨(some 2), .mov (.c (.nil)), none, []⟩,
                 ⟨(some 3), .mov (.c (.int .i64 6)), none, [0, 0]⟩] false)
               .ret)
              .skip))))
          (.region [
            ⟨(some 15), .mov (.t 5), none, []⟩,
            ⟨(some 16), .arith .add (.t 15) (.c (.int .i64 1)), none, [0]⟩,
            ⟨(some 5), .mov (.t 16), none, [1, 0, 1]⟩] false))))))
     (.seq
      (.region [
        ⟨(some 56), .mov (.t 4), none, []⟩,
        ⟨(some 57), .mkslice 2 8 [.int .i64 0] (.t 56) (.t 56), none, [0, 0]⟩,
        ⟨(some 7), .mov (.t 57), none, [1, 0, 1]⟩] false)
      (.seq
       (.region [
         ⟨(some 8), .mov (.c (.int .i64 0)), none, []⟩] false)
       (.seq
        (.seq
         (.region [
           ⟨(some 58), .mov (.t 4), none, []⟩,
           ⟨(some 59), .arith .sub (.t 58) (.c (.int .i64 1)), none, [0]⟩,
           ⟨(some 9), .mov (.t 59), none, [1, 0, 1]⟩] false)
         (.block 2
          (.loop 1
           (.seq
            (.seq
             (.region [
               ⟨(some 60), .mov (.t 9), none, []⟩,
               ⟨(some 61), .cmp .geq 0 (.t 60) (.c (.int .i64 0)), none, [0]⟩] false)
             (.cond (.t 61)
              .skip
              (.exit 2)))
            (.seq
             (.block 3
              (.seq
               (.region [
                 ⟨(some 64), .mov (.t 7), none, []⟩,
                 ⟨(some 65), .mov (.t 9), none, []⟩,
                 ⟨(some 66), .mov (.t 0), none, []⟩,
                 ⟨(some 67), .mov (.t 9), none, []⟩,
                 ⟨(some 68), .iaddrS [.int .u16 0, .int .u32 0, .int .u16 0, .int .u8 0, .int .u8 0, .int .u8 0, .bool false, .int .u8 0, .int .u8 0, .int .u8 0] (.t 66) (.t 67), none, [2, 3]⟩,
                 ⟨(some 69), .faddr 1 (.t 68), none, [4]⟩,
                 ⟨(some 70), .load 1 false (.t 69), none, [5]⟩,
                 ⟨(some 71), .conv .i64 (.t 70), none, [6]⟩,
                 ⟨(some 72), .mov (.t 8), none, []⟩,
                 ⟨(some 73), .arith .add (.t 71) (.t 72), none, [7, 8]⟩,
                 ⟨(some 74), .iaddrS [.int .i64 0] (.t 64) (.t 65), none, [0, 1, 0, 1, 2, 3, 4, 5, 6, 7, 8, 9]⟩,
                 ⟨none, .store 1 (.t 74) (.t 73), none, [10, 9, 0, 1, 2, 3, 4, 5, 6, 7, 8, 9]⟩] false)
               (.seq
                (.region [
                  ⟨(some 75), .mov (.t 0), none, []⟩,
                  ⟨(some 76), .mov (.t 9), none, []⟩,
                  ⟨(some 77), .iaddrS [.int .u16 0, .int .u32 0, .int .u16 0, .int .u8 0, .int .u8 0, .int .u8 0, .bool false, .int .u8 0, .int .u8 0, .int .u8 0] (.t 75) (.t 76), none, [0, 1]⟩,
                  ⟨(some 78), .load 10 true (.t 77), none, [2]⟩,
                  ⟨(some 79), .call 34 [(.t 78)], none, [3]⟩,
                  ⟨(some 80), .cmp .eql 0 (.t 79) (.c (.int .i64 2)), none, [4]⟩] false)
                (.cond (.t 80)
                 (.region [
                   ⟨(some 81), .mov (.t 8), none, []⟩,
                   ⟨(some 82), .mov (.t 0), none, []⟩,
                   ⟨(some 83), .mov (.t 9), none, []⟩,
                   ⟨(some 84), .iaddrS [.int .u16 0, .int .u32 0, .int .u16 0, .int .u8 0, .int .u8 0, .int .u8 0, .bool false, .int .u8 0, .int .u8 0, .int .u8 0] (.t 82) (.t 83), none, [2, 1]⟩,
                   ⟨(some 85), .faddr 1 (.t 84), none, [1, 2, 3]⟩,
                   ⟨(some 86), .load 1 false (.t 85), none, [3, 2, 1, 4]⟩,
                   ⟨(some 87), .conv .i64 (.t 86), none, [4, 1, 2, 3, 5]⟩,
                   ⟨(some 88), .mov (.t 0), none, []⟩,
                   ⟨(some 89), .mov (.t 9), none, []⟩,
                   ⟨(some 90), .arith .sub (.t 89) (.c (.int .i64 1)), none, [8]⟩,
                   ⟨(some 91), .iaddrS [.int .u16 0, .int .u32 0, .int .u16 0, .int .u8 0, .int .u8 0, .int .u8 0, .bool false, .int .u8 0, .int .u8 0, .int .u8 0] (.t 88) (.t 90), none, [8, 9, 7]⟩,
                   ⟨(some 92), .faddr 1 (.t 91), none, [7, 9, 8, 10]⟩,
                   ⟨(some 93), .load 1 false (.t 92), none, [10, 8, 9, 7, 11]⟩,
                   ⟨(some 94), .conv .i64 (.t 93), none, [11, 7, 9, 8, 10, 12]⟩,
                   ⟨(some 95), .arith .sub (.t 87) (.t 94), none, [12, 10, 8, 9, 7, 11, 5, 3, 2, 1, 4, 13, 6]⟩,
                   ⟨(some 96), .arith .add (.t 81) (.t 95), none, [6, 13, 4, 1, 2, 3, 5, 11, 7, 9, 8, 10, 12, 14, 0]⟩,
                   ⟨(some 8), .mov (.t 96), none, [14, 13, 12, 11, 10, 9, 8, 7, 6, 5, 4, 3, 2, 1, 0, 15]⟩] true)
                 .skip))))
             (.region [
               ⟨(some 62), .mov (.t 9), none, []⟩,
               ⟨(some 63), .arith .sub (.t 62) (.c (.int .i64 1)), none, [0]⟩,
               ⟨(some 9), .mov (.t 63), none, [1, 0, 1]⟩] false))))))
        (.seq
         (.region [
           ⟨(some 97), .mov (.t 7), none, []⟩,
           ⟨(some 2), .mov (.t 97), none, [0, 0]⟩,
           ⟨(some 3), .mov (.c (.int .i64 0)), none, [1, 0, 1]⟩] false)
         .ret)))))))
def rv26 : List RV := [.t 2, .t 3]
theorem rc26_ok : comp Try.prog Try.f26.ntmps (Try.f26.body.getD .skip) = some (erase rc26) := by kernel_rfl
theorem rv26_ok : compRes Try.prog Try.f26.results.toList = some rv26 := by kernel_rfl

/-- baseboard/baseboardmade.Mod [3, 3] -/
def rc27 : RC :=
  (.seq
   (.region [
     ⟨(some 4), .mov (.c (.int .i64 0)), none, []⟩] false)
   (.seq
    (.region [
      ⟨(some 5), .mov (.t 0), none, []⟩,
      ⟨(some 6), .mov (.t 1), none, []⟩,
      ⟨(some 7), .arith .rem (.t 5) (.t 6), none, [0, 1]⟩,
      ⟨(some 0), .mov (.t 7), none, [2, 0, 1, 2]⟩] false)
    (.seq
     (.seq
      (.region [
        ⟨(some 8), .mov (.t 0), none, []⟩,
        ⟨(some 9), .cmp .lss 0 (.t 8) (.c (.int .i64 0)), none, [0]⟩] false)
      (.cond (.t 9)
       (.region [
         ⟨(some 10), .mov (.t 0), none, []⟩,
         ⟨(some 11), .mov (.t 1), none, []⟩,
         ⟨(some 12), .arith .add (.t 10) (.t 11), none, [0, 1]⟩,
         ⟨(some 0), .mov (.t 12), none, [2, 0, 1, 2]⟩] false)
       .skip))
     (.seq
      (.region [
        ⟨(some 13), .mov (.t 0), none, []⟩,
        ⟨(some 4), .mov (.t 13), none, [0, 0]⟩] false)
      .ret))))
def rv27 : List RV := [.t 4]
theorem rc27_ok : comp Try.prog Try.f27.ntmps (Try.f27.body.getD .skip) = some (erase rc27) := by kernel_rfl
theorem rv27_ok : compRes Try.prog Try.f27.results.toList = some rv27 := by kernel_rfl

/-- baseboard/baseboardref08.Time [23] -/
def rc28 : RC :=
  (.seq
   (.region [
     ⟨(some 1), .box 3 (.t 0), none, []⟩,
     ⟨(some 2), .mov (.c (.int .i64 0)), none, []⟩] false)
   (.seq
    (.region [
      ⟨(some 3), .faddr 0 (.t 1), none, []⟩,
      ⟨(some 4), .load 1 false (.t 3), none, [0]⟩,
      ⟨(some 5), .arith .quo (.t 4) (.c (.int .i64 10)), none, [1]⟩,
      ⟨(some 6), .faddr 1 (.t 1), none, []⟩,
      ⟨(some 7), .load 1 false (.t 6), none, [3]⟩,
      ⟨(some 8), .arith .add (.t 5) (.t 7), none, [2, 4]⟩,
      ⟨(some 2), .mov (.t 8), none, [5, 0, 1, 2, 3, 4, 5]⟩] false)
    .ret))
def rv28 : List RV := [.t 2]
theorem rc28_ok : comp Try.prog Try.f28.ntmps (Try.f28.body.getD .skip) = some (erase rc28) := by kernel_rfl
theorem rv28_ok : compRes Try.prog Try.f28.results.toList = some rv28 := by kernel_rfl

/-- baseboard/clock.seconds [23] -/
def rc29 : RC :=
  (.seq
   (.region [
     ⟨(some 1), .box 3 (.t 0), none, []⟩,
     ⟨(some 2), .mov (.c (.int .i64 0)), none, []⟩] false)
   (.seq
    (.region [
      ⟨(some 3), .faddr 0 (.t 1), none, []⟩,
      ⟨(some 4), .load 1 false (.t 3), none, [0]⟩,
      ⟨(some 5), .arith .quo (.t 4) (.c (.int .i64 10)), none, [1]⟩,
      ⟨(some 6), .faddr 1 (.t 1), none, []⟩,
      ⟨(some 7), .load 1 false (.t 6), none, [3]⟩,
      ⟨(some 8), .arith .add (.t 5) (.t 7), none, [2, 4]⟩,
      ⟨(some 2), .mov (.t 8), none, [5, 0, 1, 2, 3, 4, 5]⟩] false)
    .ret))
def rv29 : List RV := [.t 2]
theorem rc29_ok : comp Try.prog Try.f29.ntmps (Try.f29.body.getD .skip) = some (erase rc29) := by kernel_rfl
theorem rv29_ok : compRes Try.prog Try.f29.results.toList = some rv29 := by kernel_rfl

/-- baseboard/clock.change [31, 5] -/
def rc30 : RC :=
  (.seq
   (.region [
     ⟨(some 4), .alloc [.int .u16 0, .int .u32 0, .int .u16 0, .int .u8 0, .int .u8 0, .int .u8 0, .bool false, .int .u8 0, .int .u8 0, .int .u8 0], none, []⟩] false)
   (.seq
    (.region [
      ⟨(some 5), .mov (.t 0), none, []⟩,
      ⟨(some 6), .mov (.t 1), none, []⟩,
      ⟨(some 7), .build [.int .u8 0, .int .u8 0, .int .u8 0] [(0, 1, (.c (.int .u8 5))), (1, 1, (.t 6)), (2, 1, (.c (.int .u8 255)))], none, [1]⟩,
      ⟨(some 8), .build [.int .u16 0, .int .u32 0, .int .u16 0, .int .u8 0, .int .u8 0, .int .u8 0, .bool false, .int .u8 0, .int .u8 0, .int .u8 0] [(1, 1, (.t 5)), (2, 1, (.c (.int .u16 32))), (3, 1, (.c (.int .u8 18))), (5, 1, (.c (.int .u8 111))), (7, 3, (.t 7))], none, [0, 2]⟩,
      ⟨none, .store 10 (.t 4) (.t 8), none, [3, 0, 1, 2, 3]⟩] false)
    .ret))
def rv30 : List RV := [.c 4 10 true]
theorem rc30_ok : comp Try.prog Try.f30.ntmps (Try.f30.body.getD .skip) = some (erase rc30) := by kernel_rfl
theorem rv30_ok : compRes Try.prog Try.f30.results.toList = some rv30 := by kernel_rfl

/-- baseboard/baseboardref08.change [2, 5] -/
def rc31 : RC :=
  (.seq
   (.region [
     ⟨(some 4), .alloc [.int .u16 0, .int .u32 0, .int .u16 0, .int .u8 0, .int .u8 0, .int .u8 0, .bool false, .int .u8 0, .int .u8 0, .int .u8 0], none, []⟩] false)
   (.seq
    (.region [
      ⟨(some 5), .mov (.t 0), none, []⟩,
      ⟨(some 6), .conv .u32 (.t 5), none, [0]⟩,
      ⟨(some 7), .mov (.t 1), none, []⟩,
      ⟨(some 8), .build [.int .u8 0, .int .u8 0, .int .u8 0] [(0, 1, (.c (.int .u8 5))), (1, 1, (.t 7)), (2, 1, (.c (.int .u8 255)))], none, [2]⟩,
      ⟨(some 9), .build [.int .u16 0, .int .u32 0, .int .u16 0, .int .u8 0, .int .u8 0, .int .u8 0, .bool false, .int .u8 0, .int .u8 0, .int .u8 0] [(1, 1, (.t 6)), (2, 1, (.c (.int .u16 32))), (3, 1, (.c (.int .u8 18))), (5, 1, (.c (.int .u8 111))), (7, 3, (.t 8))], none, [1, 3]⟩,
      ⟨none, .store 10 (.t 4) (.t 9), none, [4, 0, 1, 2, 3, 4]⟩] false)
    .ret))
def rv31 : List RV := [.c 4 10 true]
theorem rc31_ok : comp Try.prog Try.f31.ntmps (Try.f31.body.getD .skip) = some (erase rc31) := by kernel_rfl
theorem rv31_ok : compRes Try.prog Try.f31.results.toList = some rv31 := by kernel_rfl

/-- (*baseboard/baseboardmade.Dice).Byte [45] -/
def rc32 : RC :=
  (.seq
   (.region [
     ⟨(some 2), .mov (.c (.int .u8 0)), none, []⟩] false)
   (.seq
    (.region [
      ⟨(some 4), .build [.int .u8 0, .int .u8 0, .int .u8 0, .int .u8 0, .int .u8 0, .int .u8 0, .int .u8 0, .int .u8 0] [(0, 1, (.c (.int .u8 0))), (1, 1, (.c (.int .u8 1))), (2, 1, (.c (.int .u8 127))), (3, 1, (.c (.int .u8 128))), (4, 1, (.c (.int .u8 254))), (5, 1, (.c (.int .u8 255))), (6, 1, (.c (.int .u8 15))), (7, 1, (.c (.int .u8 240)))], none, []⟩,
      ⟨(some 3), .alloc [.int .u8 0, .int .u8 0, .int .u8 0, .int .u8 0, .int .u8 0, .int .u8 0, .int .u8 0, .int .u8 0], none, []⟩,
      ⟨none, .store 8 (.t 3) (.t 4), none, [1, 0, 0, 1]⟩] false)
    (.seq
     (.seq
      (.region [
        ⟨(some 5), .mov (.t 0), none, []⟩,
        ⟨(some 6), .call 24 [(.t 5), (.c (.int .i64 3))], none, [0]⟩] false)
      (.cond (.t 6)
       (.seq
        (.region [
          ⟨(some 7), .mov (.t 0), none, []⟩,
          ⟨(some 8), .call 22 [(.t 7), (.c (.int .i64 8))], none, [0]⟩,
          ⟨(some 9), .iaddrA 8 1 (.t 3) (.t 8), none, [1]⟩,
          ⟨(some 10), .load 1 false (.t 9), none, [2]⟩,
          ⟨(some 2), .mov (.t 10), none, [3, 1, 0, 1, 2, 3]⟩] false)
        .ret)
       .skip))
     (.seq
      (.region [
        ⟨(some 11), .mov (.t 0), none, []⟩,
        ⟨(some 12), .call 22 [(.t 11), (.c (.int .i64 256))], none, [0]⟩,
        ⟨(some 13), .conv .u8 (.t 12), none, [1]⟩,
        ⟨(some 2), .mov (.t 13), none, [2, 1, 0, 1, 2]⟩] false)
      .ret))))
def rv32 : List RV := [.t 2]
theorem rc32_ok : comp Try.prog Try.f32.ntmps (Try.f32.body.getD .skip) = some (erase rc32) := by kernel_rfl
theorem rv32_ok : compRes Try.prog Try.f32.results.toList = some rv32 := by kernel_rfl

/-- baseboard/clock.is [50, 5] -/
def rc33 : RC :=
  (.seq
   (.region [
     ⟨(some 2), .box 10 (.t 0), none, []⟩,
     ⟨(some 4), .mov (.c (.bool false)), none, []⟩] false)
   (.seq
    (.region [
      ⟨(some 6), .faddr 1 (.t 2), none, []⟩,
      ⟨(some 7), .load 1 false (.t 6), none, [0]⟩,
      ⟨(some 8), .mov (.t 1), none, []⟩,
      ⟨(some 9), .call 30 [(.t 7), (.t 8)], none, [1, 2]⟩,
      ⟨(some 5), .alloc [.int .u16 0, .int .u32 0, .int .u16 0, .int .u8 0, .int .u8 0, .int .u8 0, .bool false, .int .u8 0, .int .u8 0, .int .u8 0], none, []⟩,
      ⟨none, .store 10 (.t 5) (.t 9), none, [4, 3, 3, 0, 1, 2, 3, 4]⟩] false)
    (.seq
     (.region [
       ⟨(some 10), .faddr 0 (.t 2), none, []⟩,
       ⟨(some 11), .load 1 false (.t 10), none, [0]⟩,
       ⟨(some 12), .faddr 2 (.t 2), none, []⟩,
       ⟨(some 13), .load 1 false (.t 12), none, [2]⟩,
       ⟨(some 14), .faddr 4 (.t 2), none, []⟩,
       ⟨(some 15), .load 1 false (.t 14), none, [4]⟩,
       ⟨(some 16), .faddr 0 (.t 5), none, [1, 0]⟩,
       ⟨none, .store 1 (.t 16) (.t 11), none, [0, 1, 6]⟩,
       ⟨(some 17), .faddr 2 (.t 5), none, [7, 6, 3, 2, 1, 0]⟩,
       ⟨none, .store 1 (.t 17) (.t 13), none, [6, 2, 1, 0, 7, 3, 8]⟩,
       ⟨(some 18), .faddr 4 (.t 5), none, [9, 8, 7, 6, 5, 4, 3, 2, 1, 0]⟩,
       ⟨none, .store 1 (.t 18) (.t 15), none, [8, 7, 6, 4, 3, 2, 1, 0, 9, 5, 10]⟩] true)
     (.seq
      (.region [
        ⟨(some 19), .load 10 true (.t 2), none, []⟩,
        ⟨(some 20), .load 10 true (.t 5), none, []⟩,
        ⟨(some 21), .eqa false [0, 0, 0, 0, 0, 0, 1, 0, 0, 0] (.t 19) (.t 20), none, [0, 1]⟩,
        ⟨(some 4), .mov (.t 21), none, [2, 0, 1, 2]⟩] false)
      .ret))))
def rv33 : List RV := [.t 4]
theorem rc33_ok : comp Try.prog Try.f33.ntmps (Try.f33.body.getD .skip) = some (erase rc33) := by kernel_rfl
theorem rv33_ok : compRes Try.prog Try.f33.results.toList = some rv33 := by kernel_rfl

/-- baseboard/baseboardref08.Mark [50] -/
def rc34 : RC :=
  (.seq
   (.region [
     ⟨(some 1), .box 10 (.t 0), none, []⟩,
     ⟨(some 2), .mov (.c (.int .i64 0)), none, []⟩] false)
   (.seq
    (.seq
     (.region [
       ⟨(some 3), .faddr 3 (.t 1), none, []⟩,
       ⟨(some 4), .load 1 false (.t 3), none, [0]⟩,
       ⟨(some 5), .cmp .neq 0 (.t 4) (.c (.int .u8 18)), none, [1]⟩,
       ⟨(some 6), .mov (.t 5), none, [2]⟩,
       ⟨(some 7), .faddr 5 (.t 1), (some (6, false)), [3]⟩,
       ⟨(some 8), .load 1 false (.t 7), (some (6, false)), [4, 3]⟩,
       ⟨(some 9), .cmp .neq 0 (.t 8) (.c (.int .u8 111)), (some (6, false)), [5, 3]⟩,
       ⟨(some 10), .pick (.t 6) (.c (.bool true)) (.t 9), none, [3, 6]⟩,
       ⟨(some 11), .mov (.t 10), none, [7, 3]⟩,
       ⟨(some 12), .faddr 6 (.t 1), (some (11, false)), [8]⟩,
       ⟨(some 13), .load 1 false (.t 12), (some (11, false)), [9, 8]⟩,
       ⟨(some 14), .pick (.t 11) (.c (.bool true)) (.t 13), none, [8, 10]⟩,
       ⟨(some 15), .mov (.t 14), none, [11, 8]⟩,
       ⟨(some 16), .faddr 7 (.t 1), (some (15, false)), [12]⟩,
       ⟨(some 17), .iaddrA 3 1 (.t 16) (.c (.int .i64 0)), (some (15, false)), [13, 12]⟩,
       ⟨(some 18), .load 1 false (.t 17), (some (15, false)), [14, 12]⟩,
       ⟨(some 19), .cmp .neq 0 (.t 18) (.c (.int .u8 5)), (some (15, false)), [15, 12]⟩,
       ⟨(some 20), .pick (.t 15) (.c (.bool true)) (.t 19), none, [12, 16]⟩,
       ⟨(some 21), .mov (.t 20), none, [17, 12]⟩,
       ⟨(some 22), .faddr 7 (.t 1), (some (21, false)), [18]⟩,
       ⟨(some 23), .iaddrA 3 1 (.t 22) (.c (.int .i64 2)), (some (21, false)), [19, 18]⟩,
       ⟨(some 24), .load 1 false (.t 23), (some (21, false)), [20, 18]⟩,
       ⟨(some 25), .cmp .neq 0 (.t 24) (.c (.int .u8 255)), (some (21, false)), [21, 18]⟩,
       ⟨(some 26), .pick (.t 21) (.c (.bool true)) (.t 25), none, [18, 22]⟩] false)
     (.cond (.t 26)
      (.seq
       (.region [
         ⟨(some 2), .mov (.c (.int .i64 0)), none, []⟩] false)
       .ret)
      .skip))
    (.seq
     (.seq
      (.region [
        ⟨(some 27), .faddr 7 (.t 1), none, []⟩,
        ⟨(some 28), .iaddrA 3 1 (.t 27) (.c (.int .i64 1)), none, [0]⟩,
        ⟨(some 29), .load 1 false (.t 28), none, [1]⟩] false)
      (.block 0
       (.seq
        (.region [
          ⟨(some 31), .cmp .eql 0 (.t 29) (.c (.int .u8 0)), none, []⟩,
          ⟨(some 30), .mov (.t 31), none, [0]⟩] false)
        (.cond (.t 30)
         (.seq
          (.region [
            ⟨(some 2), .mov (.c (.int .i64 1)), none, []⟩] false)
          .ret)
         (.seq
          (.region [
            ⟨(some 33), .cmp .eql 0 (.t 29) (.c (.int .u8 128)), none, []⟩,
            ⟨(some 32), .mov (.t 33), none, [0]⟩] false)
          (.cond (.t 32)
           (.seq
            (.region [
              ⟨(some 2), .mov (.c (.int .i64 2)), none, []⟩] false)
            .ret)
           .skip))))))
     (.seq
      (.region [
        ⟨(some 2), .mov (.c (.int .i64 0)), none, []⟩] false)
      .ret))))
def rv34 : List RV := [.t 2]
theorem rc34_ok : comp Try.prog Try.f34.ntmps (Try.f34.body.getD .skip) = some (erase rc34) := by kernel_rfl
theorem rv34_ok : compRes Try.prog Try.f34.results.toList = some rv34 := by kernel_rfl

end Go.Proofs.Ytmcaedjlglpdeaa

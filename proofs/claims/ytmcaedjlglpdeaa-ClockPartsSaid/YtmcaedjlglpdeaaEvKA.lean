/- A part of the proof: symbolic evaluation of the program's functions, proved sound against the model; no condition. -/
import Derived.Test.YtmcaedjlglpdeaaEvU
import Derived.Test.YtmcaedjlglpdeaaChecked
namespace Go.Proofs.Ytmcaedjlglpdeaa
open Go Go.RowKit Go.Ev
set_option linter.unusedSimpArgs false
set_option linter.unusedVariables false
set_option maxRecDepth 20000
/-- baseboard/baseboardlaw08.ClockAdvances [23, 2, 2, 2, 4, 24] -/
def rc3 : RC :=
  (.seq
   (.region [
     ⟨(some 6), .box 3 (.t 0), none, []⟩,
     ⟨(some 12), .mov (.c (.bool false)), none, []⟩] false)
   (.seq
    (.seq
     (.region [
       ⟨(some 25), .load 3 true (.t 6), none, []⟩,
       ⟨(some 26), .mov (.t 2), none, []⟩,
       ⟨(some 27), .mov (.t 3), none, []⟩,
       ⟨(some 28), .mov (.t 4), none, []⟩,
       ⟨(some 29), .call 9 [(.t 26), (.t 27), (.t 28)], none, [3, 2, 1]⟩,
       ⟨(some 30), .bslice 2 [.int .i64 0, .int .i64 0, .bool false] [(0, (.t 25)), (1, (.t 29))], none, [1, 2, 3, 4, 0]⟩,
       ⟨(some 31), .len 0 (.t 30), none, [0, 4, 3, 2, 1, 5]⟩,
       ⟨(some 32), .mov (.c (.int .i64 0)), none, []⟩] true)
     (.block 0
      (.loop 0
       (.seq
        (.region [
          ⟨(some 33), .cmp .lss 0 (.t 32) (.t 31), none, []⟩] false)
        (.seq
         (.cond (.t 33)
          .skip
          (.exit 0))
         (.seq
          (.block 1
           (.seq
            (.region [
              ⟨(some 34), .iaddrS [.int .i64 0, .int .i64 0, .bool false] (.t 30) (.t 32), none, []⟩,
              ⟨(some 35), .load 3 true (.t 34), none, [0]⟩,
              ⟨(some 14), .alloc [.int .i64 0, .int .i64 0, .bool false], none, []⟩,
              ⟨none, .store 3 (.t 14) (.t 35), none, [2, 1, 0, 1, 2]⟩] false)
            (.seq
             (.seq
              (.region [
                ⟨(some 36), .mov (.t 1), none, []⟩,
                ⟨(some 37), .mov (.t 5), none, []⟩,
                ⟨(some 38), .conv .i64 (.t 37), none, [1]⟩,
                ⟨(some 39), .faddr 0 (.t 14), none, []⟩,
                ⟨(some 40), .load 1 false (.t 39), none, [3]⟩,
                ⟨(some 41), .arith .sub (.c (.int .i64 17179869184)) (.t 40), none, [4]⟩,
                ⟨(some 42), .bslice 3 [.int .i64 0] [(0, (.t 36)), (1, (.t 38)), (2, (.t 41))], none, [0, 2, 5]⟩,
                ⟨(some 43), .len 0 (.t 42), none, [6]⟩,
                ⟨(some 44), .mov (.c (.int .i64 0)), none, []⟩] false)
              (.block 2
               (.loop 1
                (.seq
                 (.region [
                   ⟨(some 45), .cmp .lss 0 (.t 44) (.t 43), none, []⟩] false)
                 (.seq
                  (.cond (.t 45)
                   .skip
                   (.exit 2))
                  (.seq
                   (.block 3
                    (.seq
                     (.region [
                       ⟨(some 46), .iaddrS [.int .i64 0] (.t 42) (.t 44), none, []⟩,
                       ⟨(some 47), .load 1 false (.t 46), none, [0]⟩,
                       ⟨(some 16), .mov (.t 47), none, [1, 0, 1]⟩] false)
                     (.seq
                      (.region [
                        ⟨(some 49), .load 3 true (.t 14), none, []⟩,
                        ⟨(some 50), .mov (.t 16), none, []⟩,
                        ⟨(some 51), .call 10 [(.t 49), (.t 50)], none, [0, 1]⟩,
                        ⟨(some 48), .mov (.t 51), none, [2]⟩,
                        ⟨(some 52), .extract 0 (.t 48), none, [3]⟩,
                        ⟨(some 53), .extract 1 (.t 48), none, [3]⟩,
                        ⟨(some 17), .alloc [.int .i64 0, .int .i64 0, .bool false], none, []⟩,
                        ⟨none, .store 3 (.t 17) (.t 52), none, [6, 4, 2, 0, 1, 2, 3, 4, 6]⟩,
                        ⟨(some 18), .mov (.t 53), none, [5, 7, 0, 1, 2, 3, 4, 5, 6, 7]⟩] false)
                      (.seq
                       (.region [
                         ⟨(some 55), .load 3 true (.t 14), none, []⟩,
                         ⟨(some 56), .mov (.t 16), none, []⟩,
                         ⟨(some 57), .call 11 [(.t 55), (.t 56)], none, [0, 1]⟩,
                         ⟨(some 54), .mov (.t 57), none, [2]⟩,
                         ⟨(some 58), .extract 0 (.t 54), none, [3]⟩,
                         ⟨(some 59), .extract 1 (.t 54), none, [3]⟩,
                         ⟨(some 19), .alloc [.int .i64 0, .int .i64 0, .bool false], none, []⟩,
                         ⟨none, .store 3 (.t 19) (.t 58), none, [6, 4, 2, 0, 1, 2, 3, 4, 6]⟩,
                         ⟨(some 20), .mov (.t 59), none, [5, 7, 0, 1, 2, 3, 4, 5, 6, 7]⟩] false)
                       (.seq
                        (.region [
                          ⟨(some 60), .load 3 true (.t 17), none, []⟩,
                          ⟨(some 61), .load 3 true (.t 19), none, []⟩,
                          ⟨(some 62), .eqa true [0, 0, 1] (.t 60) (.t 61), none, [0, 1]⟩,
                          ⟨(some 63), .mov (.t 62), none, [2]⟩,
                          ⟨(some 64), .mov (.t 18), (some (63, false)), [3]⟩,
                          ⟨(some 65), .mov (.t 20), (some (63, false)), [3]⟩,
                          ⟨(some 66), .cmp .neq 0 (.t 64) (.t 65), (some (63, false)), [4, 5, 3]⟩,
                          ⟨(some 67), .pick (.t 63) (.c (.bool true)) (.t 66), none, [3, 6]⟩] false)
                        (.cond (.t 67)
                         (.seq
                          (.region [
                            ⟨(some 12), .mov (.c (.bool false)), none, []⟩] false)
                          .ret)
                         .skip))))))
                   (.region [
                     ⟨(some 68), .arith .add (.t 44) (.c (.int .i64 1)), none, []⟩,
                     ⟨(some 44), .mov (.t 68), none, [0]⟩] false)))))))
             (.seq
              (.region [
                ⟨(some 70), .load 3 true (.t 14), none, []⟩,
                ⟨(some 71), .call 12 [(.t 70)], none, [0]⟩,
                ⟨(some 69), .mov (.t 71), none, [1]⟩,
                ⟨(some 72), .extract 0 (.t 69), none, [2]⟩,
                ⟨(some 73), .extract 1 (.t 69), none, [2]⟩,
                ⟨(some 21), .mov (.t 72), none, [3, 1, 0, 1, 2, 3]⟩,
                ⟨(some 22), .mov (.t 73), none, [4, 5, 0, 1, 2, 3, 4, 5]⟩] false)
              (.seq
               (.region [
                 ⟨(some 75), .load 3 true (.t 14), none, []⟩,
                 ⟨(some 76), .call 13 [(.t 75)], none, [0]⟩,
                 ⟨(some 74), .mov (.t 76), none, [1]⟩,
                 ⟨(some 77), .extract 0 (.t 74), none, [2]⟩,
                 ⟨(some 78), .extract 1 (.t 74), none, [2]⟩,
                 ⟨(some 23), .mov (.t 77), none, [3, 1, 0, 1, 2, 3]⟩,
                 ⟨(some 24), .mov (.t 78), none, [4, 5, 0, 1, 2, 3, 4, 5]⟩] false)
               (.seq
                (.region [
                  ⟨(some 79), .load 3 true (.t 14), none, []⟩,
                  ⟨(some 80), .call 14 [(.t 79)], none, [0]⟩,
                  ⟨(some 81), .load 3 true (.t 14), none, []⟩,
                  ⟨(some 82), .call 15 [(.t 81)], none, [0, 1, 2]⟩,
                  ⟨(some 83), .cmp .neq 1 (.t 80) (.t 82), none, [2, 0, 3, 1]⟩,
                  ⟨(some 84), .mov (.t 83), none, [1, 0, 2, 3, 4]⟩,
                  ⟨(some 85), .mov (.t 21), (some (84, false)), [4, 3, 2, 0, 1, 5]⟩,
                  ⟨(some 86), .mov (.t 23), (some (84, false)), [4, 3, 2, 0, 1, 5]⟩,
                  ⟨(some 87), .cmp .neq 0 (.t 85) (.t 86), (some (84, false)), [1, 0, 2, 3, 4, 5, 7, 6]⟩,
                  ⟨(some 88), .pick (.t 84) (.c (.bool true)) (.t 87), none, [6, 7, 4, 3, 2, 0, 1, 8, 5]⟩,
                  ⟨(some 89), .mov (.t 88), none, [8, 1, 0, 2, 3, 4, 7, 6, 5, 9]⟩,
                  ⟨(some 90), .mov (.t 22), (some (89, false)), [9, 5, 6, 7, 4, 3, 2, 0, 1, 8, 10]⟩,
                  ⟨(some 91), .mov (.t 24), (some (89, false)), [9, 5, 6, 7, 4, 3, 2, 0, 1, 8, 10]⟩,
                  ⟨(some 92), .cmp .neq 0 (.t 90) (.t 91), (some (89, false)), [8, 1, 0, 2, 3, 4, 7, 6, 5, 9, 10, 12, 11]⟩,
                  ⟨(some 93), .pick (.t 89) (.c (.bool true)) (.t 92), none, [11, 12, 9, 5, 6, 7, 4, 3, 2, 0, 1, 8, 13, 10]⟩] true)
                (.cond (.t 93)
                 (.seq
                  (.region [
                    ⟨(some 12), .mov (.c (.bool false)), none, []⟩] false)
                  .ret)
                 .skip)))))))
          (.region [
            ⟨(some 94), .arith .add (.t 32) (.c (.int .i64 1)), none, []⟩,
            ⟨(some 32), .mov (.t 94), none, [0]⟩] false)))))))
    (.seq
     (.region [
       ⟨(some 95), .call 16 [], none, []⟩,
       ⟨(some 12), .mov (.t 95), none, [0, 0, 0]⟩] false)
     .ret)))
def rv3 : List RV := [.t 12]
theorem rc3_ok : comp Try.prog Try.f3.ntmps (Try.f3.body.getD .skip) = some (erase rc3) := by kernel_rfl
theorem rv3_ok : compRes Try.prog Try.f3.results.toList = some rv3 := by kernel_rfl

/-- baseboard/baseboardlaw08.ClockAdjusts [23, 2, 2, 4, 31] -/
def rc4 : RC :=
  (.seq
   (.region [
     ⟨(some 5), .box 3 (.t 0), none, []⟩,
     ⟨(some 10), .mov (.c (.bool false)), none, []⟩] false)
   (.seq
    (.seq
     (.region [
       ⟨(some 19), .load 3 true (.t 5), none, []⟩,
       ⟨(some 20), .mov (.t 1), none, []⟩,
       ⟨(some 21), .mov (.t 2), none, []⟩,
       ⟨(some 22), .mov (.t 3), none, []⟩,
       ⟨(some 23), .call 9 [(.t 20), (.t 21), (.t 22)], none, [3, 2, 1]⟩,
       ⟨(some 24), .bslice 2 [.int .i64 0, .int .i64 0, .bool false] [(0, (.t 19)), (1, (.t 23))], none, [1, 2, 3, 4, 0]⟩,
       ⟨(some 25), .len 0 (.t 24), none, [0, 4, 3, 2, 1, 5]⟩,
       ⟨(some 26), .mov (.c (.int .i64 0)), none, []⟩] true)
     (.block 0
      (.loop 0
       (.seq
        (.region [
          ⟨(some 27), .cmp .lss 0 (.t 26) (.t 25), none, []⟩] false)
        (.seq
         (.cond (.t 27)
          .skip
          (.exit 0))
         (.seq
          (.block 1
           (.seq
            (.region [
              ⟨(some 28), .iaddrS [.int .i64 0, .int .i64 0, .bool false] (.t 24) (.t 26), none, []⟩,
              ⟨(some 29), .load 3 true (.t 28), none, [0]⟩,
              ⟨(some 12), .alloc [.int .i64 0, .int .i64 0, .bool false], none, []⟩,
              ⟨none, .store 3 (.t 12) (.t 29), none, [2, 1, 0, 1, 2]⟩] false)
            (.seq
             (.region [
               ⟨(some 31), .load 3 true (.t 12), none, []⟩,
               ⟨(some 32), .mov (.t 4), none, []⟩,
               ⟨(some 33), .call 17 [(.t 31), (.t 32)], none, [0, 1]⟩,
               ⟨(some 30), .mov (.t 33), none, [2]⟩,
               ⟨(some 34), .extract 0 (.t 30), none, [3]⟩,
               ⟨(some 35), .extract 1 (.t 30), none, [3]⟩,
               ⟨(some 36), .extract 2 (.t 30), none, [3]⟩,
               ⟨(some 13), .alloc [.int .i64 0, .int .i64 0, .bool false], none, []⟩,
               ⟨none, .store 3 (.t 13) (.t 34), none, [7, 4, 2, 0, 1, 2, 3, 4, 7]⟩,
               ⟨(some 14), .mov (.t 35), none, [5, 8, 0, 1, 2, 3, 4, 5, 7, 8]⟩,
               ⟨(some 15), .mov (.t 36), none, [6, 9, 0, 1, 2, 3, 4, 5, 6, 7, 8, 9]⟩] false)
             (.seq
              (.region [
                ⟨(some 38), .load 3 true (.t 12), none, []⟩,
                ⟨(some 39), .mov (.t 4), none, []⟩,
                ⟨(some 40), .call 18 [(.t 38), (.t 39)], none, [0, 1]⟩,
                ⟨(some 37), .mov (.t 40), none, [2]⟩,
                ⟨(some 41), .extract 0 (.t 37), none, [3]⟩,
                ⟨(some 42), .extract 1 (.t 37), none, [3]⟩,
                ⟨(some 43), .extract 2 (.t 37), none, [3]⟩,
                ⟨(some 16), .alloc [.int .i64 0, .int .i64 0, .bool false], none, []⟩,
                ⟨none, .store 3 (.t 16) (.t 41), none, [7, 4, 2, 0, 1, 2, 3, 4, 7]⟩,
                ⟨(some 17), .mov (.t 42), none, [5, 8, 0, 1, 2, 3, 4, 5, 7, 8]⟩,
                ⟨(some 18), .mov (.t 43), none, [6, 9, 0, 1, 2, 3, 4, 5, 6, 7, 8, 9]⟩] false)
              (.seq
               (.region [
                 ⟨(some 44), .load 3 true (.t 13), none, []⟩,
                 ⟨(some 45), .load 3 true (.t 16), none, []⟩,
                 ⟨(some 46), .eqa true [0, 0, 1] (.t 44) (.t 45), none, [0, 1]⟩,
                 ⟨(some 47), .mov (.t 46), none, [2]⟩,
                 ⟨(some 48), .mov (.t 15), (some (47, false)), [3]⟩,
                 ⟨(some 49), .mov (.t 18), (some (47, false)), [3]⟩,
                 ⟨(some 50), .cmp .neq 0 (.t 48) (.t 49), (some (47, false)), [4, 5, 3]⟩,
                 ⟨(some 51), .pick (.t 47) (.c (.bool true)) (.t 50), none, [3, 6]⟩,
                 ⟨(some 52), .mov (.t 51), none, [7, 3]⟩,
                 ⟨(some 53), .mov (.t 14), (some (52, false)), [8]⟩,
                 ⟨(some 54), .mov (.t 17), (some (52, false)), [8]⟩,
                 ⟨(some 55), .call 19 [(.t 53), (.t 54)], (some (52, false)), [9, 10, 8, 8]⟩,
                 ⟨(some 56), .not (.t 55), (some (52, false)), [11, 8]⟩,
                 ⟨(some 57), .pick (.t 52) (.c (.bool true)) (.t 56), none, [8, 12]⟩] false)
               (.cond (.t 57)
                (.seq
                 (.region [
                   ⟨(some 10), .mov (.c (.bool false)), none, []⟩] false)
                 .ret)
                .skip))))))
          (.region [
            ⟨(some 58), .arith .add (.t 26) (.c (.int .i64 1)), none, []⟩,
            ⟨(some 26), .mov (.t 58), none, [0]⟩] false)))))))
    (.seq
     (.region [
       ⟨(some 59), .call 16 [], none, []⟩,
       ⟨(some 10), .mov (.t 59), none, [0, 0, 0]⟩] false)
     .ret)))
def rv4 : List RV := [.t 10]
theorem rc4_ok : comp Try.prog Try.f4.ntmps (Try.f4.body.getD .skip) = some (erase rc4) := by kernel_rfl
theorem rv4_ok : compRes Try.prog Try.f4.results.toList = some rv4 := by kernel_rfl

/-- baseboard/baseboardlaw08.ClockParts [2, 2, 4, 24, 24, 31] -/
def rc5 : RC :=
  (.seq
   (.region [
     ⟨(some 12), .mov (.c (.bool false)), none, []⟩] false)
   (.seq
    (.region [
      ⟨(some 29), .mov (.t 0), none, []⟩,
      ⟨(some 30), .mov (.t 1), none, []⟩,
      ⟨(some 31), .mov (.t 2), none, []⟩,
      ⟨(some 32), .call 9 [(.t 29), (.t 30), (.t 31)], none, [0, 1, 2]⟩,
      ⟨(some 13), .alloc [.int .i64 0, .int .i64 0, .bool false], none, []⟩,
      ⟨none, .store 3 (.t 13) (.t 32), none, [4, 3, 3, 0, 1, 2, 3, 4]⟩] false)
    (.seq
     (.region [
       ⟨(some 34), .load 3 true (.t 13), none, []⟩,
       ⟨(some 35), .mov (.t 3), none, []⟩,
       ⟨(some 36), .conv .i64 (.t 35), none, [1]⟩,
       ⟨(some 37), .call 10 [(.t 34), (.t 36)], none, [0, 2]⟩,
       ⟨(some 33), .mov (.t 37), none, [3]⟩,
       ⟨(some 38), .extract 0 (.t 33), none, [4]⟩,
       ⟨(some 39), .extract 1 (.t 33), none, [4]⟩,
       ⟨(some 14), .alloc [.int .i64 0, .int .i64 0, .bool false], none, []⟩,
       ⟨none, .store 3 (.t 14) (.t 38), none, [7, 5, 3, 0, 1, 2, 3, 4, 5, 7]⟩,
       ⟨(some 15), .mov (.t 39), none, [6, 8, 0, 1, 2, 3, 4, 5, 6, 7, 8]⟩] false)
     (.seq
      (.region [
        ⟨(some 41), .load 3 true (.t 14), none, []⟩,
        ⟨(some 42), .mov (.t 4), none, []⟩,
        ⟨(some 43), .conv .i64 (.t 42), none, [1]⟩,
        ⟨(some 44), .call 10 [(.t 41), (.t 43)], none, [0, 2]⟩,
        ⟨(some 40), .mov (.t 44), none, [3]⟩,
        ⟨(some 45), .extract 0 (.t 40), none, [4]⟩,
        ⟨(some 46), .extract 1 (.t 40), none, [4]⟩,
        ⟨(some 16), .alloc [.int .i64 0, .int .i64 0, .bool false], none, []⟩,
        ⟨none, .store 3 (.t 16) (.t 45), none, [7, 5, 3, 0, 1, 2, 3, 4, 5, 7]⟩,
        ⟨(some 17), .mov (.t 46), none, [6, 8, 0, 1, 2, 3, 4, 5, 6, 7, 8]⟩] false)
      (.seq
       (.region [
         ⟨(some 48), .load 3 true (.t 13), none, []⟩,
         ⟨(some 49), .mov (.t 3), none, []⟩,
         ⟨(some 50), .conv .i64 (.t 49), none, [1]⟩,
         ⟨(some 51), .mov (.t 4), none, []⟩,
         ⟨(some 52), .conv .i64 (.t 51), none, [3]⟩,
         ⟨(some 53), .arith .add (.t 50) (.t 52), none, [2, 4]⟩,
         ⟨(some 54), .call 10 [(.t 48), (.t 53)], none, [0, 5]⟩,
         ⟨(some 47), .mov (.t 54), none, [6]⟩,
         ⟨(some 55), .extract 0 (.t 47), none, [7]⟩,
         ⟨(some 56), .extract 1 (.t 47), none, [7]⟩,
         ⟨(some 18), .alloc [.int .i64 0, .int .i64 0, .bool false], none, []⟩,
         ⟨none, .store 3 (.t 18) (.t 55), none, [10, 8, 6, 0, 1, 2, 3, 4, 5, 6, 7, 8, 10]⟩,
         ⟨(some 19), .mov (.t 56), none, [9, 11, 0, 1, 2, 3, 4, 5, 6, 7, 8, 9, 10, 11]⟩] false)
       (.seq
        (.seq
         (.region [
           ⟨(some 57), .mov (.t 15), none, []⟩,
           ⟨(some 58), .cmp .eql 0 (.t 57) (.c (.int .i64 0)), none, [0]⟩,
           ⟨(some 59), .mov (.t 58), none, [1]⟩,
           ⟨(some 60), .load 3 true (.t 16), (some (59, true)), [2]⟩,
           ⟨(some 61), .load 3 true (.t 18), (some (59, true)), [2]⟩,
           ⟨(some 62), .eqa true [0, 0, 1] (.t 60) (.t 61), (some (59, true)), [3, 4, 2]⟩,
           ⟨(some 63), .mov (.t 62), (some (59, true)), [5, 2, 2]⟩,
           ⟨(some 64), .mov (.t 17), (some (63, false)), [6]⟩,
           ⟨(some 65), .mov (.t 19), (some (63, false)), [6]⟩,
           ⟨(some 66), .cmp .neq 0 (.t 64) (.t 65), (some (63, false)), [7, 8, 6]⟩,
           ⟨(some 67), .pick (.t 63) (.c (.bool true)) (.t 66), (some (59, true)), [6, 9, 2]⟩,
           ⟨(some 68), .pick (.t 59) (.t 67) (.c (.bool false)), none, [2, 10]⟩,
           ⟨(some 69), .mov (.t 68), none, [11, 6]⟩,
           ⟨(some 70), .mov (.t 15), (some (69, false)), [12]⟩,
           ⟨(some 71), .cmp .neq 0 (.t 70) (.c (.int .i64 0)), (some (69, false)), [13, 12]⟩,
           ⟨(some 72), .mov (.t 71), (some (69, false)), [14, 12, 12]⟩,
           ⟨(some 73), .mov (.t 19), (some (72, true)), [15]⟩,
           ⟨(some 74), .cmp .eql 0 (.t 73) (.c (.int .i64 0)), (some (72, true)), [16, 15]⟩,
           ⟨(some 75), .pick (.t 72) (.t 74) (.c (.bool false)), (some (69, false)), [15, 17, 12]⟩,
           ⟨(some 76), .pick (.t 69) (.c (.bool true)) (.t 75), none, [12, 18]⟩] false)
         (.cond (.t 76)
          (.seq
           (.region [
             ⟨(some 12), .mov (.c (.bool false)), none, []⟩] false)
           .ret)
          .skip))
        (.seq
         (.region [
           ⟨(some 78), .load 3 true (.t 13), none, []⟩,
           ⟨(some 79), .mov (.t 5), none, []⟩,
           ⟨(some 80), .arith .rem (.t 79) (.c (.int .u32 4000000000)), none, [1]⟩,
           ⟨(some 81), .call 17 [(.t 78), (.t 80)], none, [0, 2]⟩,
           ⟨(some 77), .mov (.t 81), none, [3]⟩,
           ⟨(some 82), .extract 0 (.t 77), none, [4]⟩,
           ⟨(some 83), .extract 1 (.t 77), none, [4]⟩,
           ⟨(some 84), .extract 2 (.t 77), none, [4]⟩,
           ⟨(some 20), .alloc [.int .i64 0, .int .i64 0, .bool false], none, []⟩,
           ⟨none, .store 3 (.t 20) (.t 82), none, [8, 5, 3, 0, 1, 2, 3, 4, 5, 8]⟩,
           ⟨(some 21), .mov (.t 83), none, [6, 9, 0, 1, 2, 3, 4, 5, 6, 8, 9]⟩,
           ⟨(some 22), .mov (.t 84), none, [7, 10, 0, 1, 2, 3, 4, 5, 6, 7, 8, 9, 10]⟩] false)
         (.seq
          (.seq
           (.region [
             ⟨(some 85), .mov (.t 22), none, []⟩,
             ⟨(some 86), .cmp .neq 0 (.t 85) (.c (.int .i64 0)), none, [0]⟩] false)
           (.cond (.t 86)
            (.seq
             (.region [
               ⟨(some 87), .load 3 true (.t 13), none, []⟩,
               ⟨(some 88), .call 14 [(.t 87)], none, [0]⟩,
               ⟨(some 89), .not (.t 88), none, [1]⟩,
               ⟨(some 90), .mov (.t 89), none, [2, 1]⟩,
               ⟨(some 91), .call 16 [], (some (90, true)), [3, 3]⟩,
               ⟨(some 92), .pick (.t 90) (.t 91) (.c (.bool false)), none, [3, 4]⟩,
               ⟨(some 12), .mov (.t 92), none, [5, 4, 0, 1, 2, 3, 4, 5]⟩] false)
             .ret)
            .skip))
          (.seq
           (.region [
             ⟨(some 94), .load 3 true (.t 20), none, []⟩,
             ⟨(some 95), .call 12 [(.t 94)], none, [0]⟩,
             ⟨(some 93), .mov (.t 95), none, [1]⟩,
             ⟨(some 96), .extract 0 (.t 93), none, [2]⟩,
             ⟨(some 97), .extract 1 (.t 93), none, [2]⟩,
             ⟨(some 23), .mov (.t 96), none, [3, 1, 0, 1, 2, 3]⟩,
             ⟨(some 24), .mov (.t 97), none, [4, 5, 0, 1, 2, 3, 4, 5]⟩] false)
           (.seq
            (.region [
              ⟨(some 99), .load 3 true (.t 20), none, []⟩,
              ⟨(some 100), .mov (.t 3), none, []⟩,
              ⟨(some 101), .conv .i64 (.t 100), none, [1]⟩,
              ⟨(some 102), .call 10 [(.t 99), (.t 101)], none, [0, 2]⟩,
              ⟨(some 98), .mov (.t 102), none, [3]⟩,
              ⟨(some 103), .extract 0 (.t 98), none, [4]⟩,
              ⟨(some 104), .extract 1 (.t 98), none, [4]⟩,
              ⟨(some 25), .alloc [.int .i64 0, .int .i64 0, .bool false], none, []⟩,
              ⟨none, .store 3 (.t 25) (.t 103), none, [7, 5, 3, 0, 1, 2, 3, 4, 5, 7]⟩,
              ⟨(some 26), .mov (.t 104), none, [6, 8, 0, 1, 2, 3, 4, 5, 6, 7, 8]⟩] false)
            (.seq
             (.region [
               ⟨(some 106), .load 3 true (.t 25), none, []⟩,
               ⟨(some 107), .call 12 [(.t 106)], none, [0]⟩,
               ⟨(some 105), .mov (.t 107), none, [1]⟩,
               ⟨(some 108), .extract 0 (.t 105), none, [2]⟩,
               ⟨(some 109), .extract 1 (.t 105), none, [2]⟩,
               ⟨(some 27), .mov (.t 108), none, [3, 1, 0, 1, 2, 3]⟩,
               ⟨(some 28), .mov (.t 109), none, [4, 5, 0, 1, 2, 3, 4, 5]⟩] false)
             (.seq
              (.region [
                ⟨(some 110), .mov (.t 24), none, []⟩,
                ⟨(some 111), .cmp .eql 0 (.t 110) (.c (.int .i64 0)), none, [0]⟩,
                ⟨(some 112), .mov (.t 111), none, [1]⟩,
                ⟨(some 113), .mov (.t 23), (some (112, true)), [2]⟩,
                ⟨(some 114), .mov (.t 5), (some (112, true)), [2]⟩,
                ⟨(some 115), .arith .rem (.t 114) (.c (.int .u32 4000000000)), (some (112, true)), [4, 2]⟩,
                ⟨(some 116), .cmp .eql 0 (.t 113) (.t 115), (some (112, true)), [3, 5, 2]⟩,
                ⟨(some 117), .pick (.t 112) (.t 116) (.c (.bool false)), none, [2, 6]⟩,
                ⟨(some 118), .mov (.t 117), none, [7, 2]⟩,
                ⟨(some 119), .mov (.t 26), (some (118, true)), [8]⟩,
                ⟨(some 120), .cmp .neq 0 (.t 119) (.c (.int .i64 0)), (some (118, true)), [9, 8]⟩,
                ⟨(some 121), .mov (.t 120), (some (118, true)), [10, 8, 8]⟩,
                ⟨(some 122), .mov (.t 28), (some (121, false)), [11]⟩,
                ⟨(some 123), .cmp .eql 0 (.t 122) (.c (.int .i64 0)), (some (121, false)), [12, 11]⟩,
                ⟨(some 124), .mov (.t 123), (some (121, false)), [13, 11, 11]⟩,
                ⟨(some 125), .mov (.t 27), (some (124, true)), [14]⟩,
                ⟨(some 126), .mov (.t 23), (some (124, true)), [14]⟩,
                ⟨(some 127), .cmp .geq 0 (.t 125) (.t 126), (some (124, true)), [15, 16, 14]⟩,
                ⟨(some 128), .pick (.t 124) (.t 127) (.c (.bool false)), (some (121, false)), [14, 17, 11]⟩,
                ⟨(some 129), .mov (.t 128), (some (121, false)), [18, 14, 11]⟩,
                ⟨(some 130), .mov (.t 27), (some (129, true)), [19]⟩,
                ⟨(some 131), .conv .i64 (.t 130), (some (129, true)), [20, 19]⟩,
                ⟨(some 132), .mov (.t 23), (some (129, true)), [19]⟩,
                ⟨(some 133), .conv .i64 (.t 132), (some (129, true)), [22, 19]⟩,
                ⟨(some 134), .arith .sub (.t 131) (.t 133), (some (129, true)), [21, 23, 19]⟩,
                ⟨(some 135), .mov (.t 3), (some (129, true)), [19]⟩,
                ⟨(some 136), .conv .i64 (.t 135), (some (129, true)), [25, 19]⟩,
                ⟨(some 137), .arith .quo (.t 136) (.c (.int .i64 10)), (some (129, true)), [26, 19]⟩,
                ⟨(some 138), .arith .add (.t 137) (.c (.int .i64 1)), (some (129, true)), [27, 19]⟩,
                ⟨(some 139), .cmp .leq 0 (.t 134) (.t 138), (some (129, true)), [24, 28, 19]⟩,
                ⟨(some 140), .pick (.t 129) (.t 139) (.c (.bool false)), (some (121, false)), [19, 29, 11]⟩,
                ⟨(some 141), .pick (.t 121) (.c (.bool true)) (.t 140), (some (118, true)), [11, 30, 8]⟩,
                ⟨(some 142), .pick (.t 118) (.t 141) (.c (.bool false)), none, [8, 31]⟩,
                ⟨(some 143), .mov (.t 142), none, [32, 19]⟩,
                ⟨(some 144), .faddr 2 (.t 20), (some (143, true)), [33]⟩,
                ⟨(some 145), .load 1 false (.t 144), (some (143, true)), [34, 33]⟩,
                ⟨(some 146), .pick (.t 143) (.t 145) (.c (.bool false)), none, [33, 35]⟩,
                ⟨(some 147), .mov (.t 146), none, [36, 33]⟩,
                ⟨(some 148), .call 16 [], (some (147, true)), [37, 37]⟩,
                ⟨(some 149), .pick (.t 147) (.t 148) (.c (.bool false)), none, [37, 38]⟩,
                ⟨(some 12), .mov (.t 149), none, [39, 38, 0, 1, 2, 3, 4, 5, 6, 7, 8, 9, 10, 11, 12, 13, 14, 15, 16, 17, 18, 19, 20, 21, 22, 23, 24, 25, 26, 27, 28, 29, 30, 31, 32, 33, 34, 35, 36, 37, 38, 39]⟩] false)
              .ret))))))))))))
def rv5 : List RV := [.t 12]
theorem rc5_ok : comp Try.prog Try.f5.ntmps (Try.f5.body.getD .skip) = some (erase rc5) := by kernel_rfl
theorem rv5_ok : compRes Try.prog Try.f5.results.toList = some rv5 := by kernel_rfl

/-- baseboard/baseboardlaw08.made [2, 2, 4] -/
def rc9 : RC :=
  (.seq
   (.region [
     ⟨(some 6), .alloc [.int .i64 0, .int .i64 0, .bool false], none, []⟩] false)
   (.seq
    (.region [
      ⟨(some 8), .mov (.t 0), none, []⟩,
      ⟨(some 9), .arith .rem (.t 8) (.c (.int .i64 17179869184)), none, [0]⟩,
      ⟨(some 10), .call 27 [(.t 9), (.c (.int .i64 17179869184))], none, [1]⟩,
      ⟨(some 11), .mov (.t 2), none, []⟩,
      ⟨(some 12), .build [.int .i64 0, .int .i64 0, .bool false] [(0, 1, (.t 10)), (2, 1, (.t 11))], none, [2, 3]⟩,
      ⟨(some 7), .alloc [.int .i64 0, .int .i64 0, .bool false], none, []⟩,
      ⟨none, .store 3 (.t 7) (.t 12), none, [5, 4, 2, 0, 1, 2, 3, 4, 5]⟩] false)
    (.seq
     (.seq
      (.region [
        ⟨(some 13), .mov (.t 2), none, []⟩] false)
      (.cond (.t 13)
       (.region [
         ⟨(some 14), .mov (.t 1), none, []⟩,
         ⟨(some 15), .arith .rem (.t 14) (.c (.int .i64 5000000000)), none, [0]⟩,
         ⟨(some 16), .arith .sub (.t 15) (.c (.int .i64 700000000)), none, [1]⟩,
         ⟨(some 17), .faddr 1 (.t 7), none, [0, 1, 2]⟩,
         ⟨none, .store 1 (.t 17) (.t 16), none, [3, 2, 0, 1, 2]⟩] false)
       .skip))
     (.seq
      (.region [
        ⟨(some 18), .load 3 true (.t 7), none, []⟩,
        ⟨none, .store 3 (.t 6) (.t 18), none, [0, 0]⟩] false)
      .ret))))
def rv9 : List RV := [.c 6 3 true]
theorem rc9_ok : comp Try.prog Try.f9.ntmps (Try.f9.body.getD .skip) = some (erase rc9) := by kernel_rfl
theorem rv9_ok : compRes Try.prog Try.f9.results.toList = some rv9 := by kernel_rfl

/-- baseboard/clock.Advance [23, 2] -/
def rc10 : RC :=
  (.seq
   (.region [
     ⟨(some 2), .box 3 (.t 0), none, []⟩,
     ⟨(some 4), .alloc [.int .i64 0, .int .i64 0, .bool false], none, []⟩,
     ⟨(some 5), .mov (.c (.int .i64 0)), none, []⟩] false)
   (.seq
    (.block 0
     (.seq
      (.region [
        ⟨(some 7), .load 3 true (.t 2), none, []⟩,
        ⟨(some 8), .call 14 [(.t 7)], none, [0]⟩,
        ⟨(some 9), .not (.t 8), none, [1]⟩,
        ⟨(some 6), .mov (.t 9), none, [2, 1]⟩] false)
      (.cond (.t 6)
       (.seq
        (.region [
          ⟨(some 10), .build [.int .i64 0, .int .i64 0, .bool false] [], none, []⟩,
          ⟨none, .store 3 (.t 4) (.t 10), none, [0, 0]⟩,
          ⟨(some 5), .mov (.c (.int .i64 1)), none, [1, 0, 1]⟩] false)
        .ret)
       (.seq
        (.region [
          ⟨(some 12), .mov (.t 1), none, []⟩,
          ⟨(some 13), .cmp .lss 0 (.t 12) (.c (.int .i64 0)), none, [0]⟩,
          ⟨(some 14), .mov (.t 13), none, [1]⟩,
          ⟨(some 15), .mov (.t 1), (some (14, false)), [2]⟩,
          ⟨(some 16), .faddr 0 (.t 2), (some (14, false)), [2]⟩,
          ⟨(some 17), .load 1 false (.t 16), (some (14, false)), [4, 2]⟩,
          ⟨(some 18), .arith .sub (.c (.int .i64 17179869184)) (.t 17), (some (14, false)), [5, 2]⟩,
          ⟨(some 19), .cmp .gtr 0 (.t 15) (.t 18), (some (14, false)), [3, 6, 2]⟩,
          ⟨(some 20), .pick (.t 14) (.c (.bool true)) (.t 19), none, [2, 7]⟩,
          ⟨(some 11), .mov (.t 20), none, [8, 2]⟩] false)
        (.cond (.t 11)
         (.seq
          (.region [
            ⟨(some 21), .build [.int .i64 0, .int .i64 0, .bool false] [], none, []⟩,
            ⟨none, .store 3 (.t 4) (.t 21), none, [0, 0]⟩,
            ⟨(some 5), .mov (.c (.int .i64 2)), none, [1, 0, 1]⟩] false)
          .ret)
         .skip)))))
    (.seq
     (.region [
       ⟨(some 22), .faddr 0 (.t 2), none, []⟩,
       ⟨(some 23), .load 1 false (.t 22), none, [0]⟩,
       ⟨(some 24), .mov (.t 1), none, []⟩,
       ⟨(some 25), .arith .add (.t 23) (.t 24), none, [1, 2]⟩,
       ⟨(some 26), .faddr 0 (.t 2), none, [0, 1, 2, 3]⟩,
       ⟨none, .store 1 (.t 26) (.t 25), none, [4, 3, 0, 1, 2, 3]⟩] false)
     (.seq
      (.seq
       (.region [
         ⟨(some 27), .load 3 true (.t 2), none, []⟩,
         ⟨(some 28), .call 14 [(.t 27)], none, [0]⟩,
         ⟨(some 29), .not (.t 28), none, [1]⟩] false)
       (.cond (.t 29)
        (.seq
         (.region [
           ⟨(some 30), .build [.int .i64 0, .int .i64 0, .bool false] [], none, []⟩,
           ⟨none, .store 3 (.t 4) (.t 30), none, [0, 0]⟩,
           ⟨(some 5), .mov (.c (.int .i64 2)), none, [1, 0, 1]⟩] false)
         .ret)
        .skip))
      (.seq
       (.region [
         ⟨(some 31), .load 3 true (.t 2), none, []⟩,
         ⟨none, .store 3 (.t 4) (.t 31), none, [0, 0]⟩,
         ⟨(some 5), .mov (.c (.int .i64 0)), none, [1, 0, 1]⟩] false)
       .ret)))))
def rv10 : List RV := [.c 4 3 true, .t 5]
theorem rc10_ok : comp Try.prog Try.f10.ntmps (Try.f10.body.getD .skip) = some (erase rc10) := by kernel_rfl
theorem rv10_ok : compRes Try.prog Try.f10.results.toList = some rv10 := by kernel_rfl

/-- baseboard/baseboardref08.Advance [23, 2] -/
def rc11 : RC :=
  (.seq
   (.region [
     ⟨(some 2), .box 3 (.t 0), none, []⟩,
     ⟨(some 4), .alloc [.int .i64 0, .int .i64 0, .bool false], none, []⟩,
     ⟨(some 5), .mov (.c (.int .i64 0)), none, []⟩] false)
   (.seq
    (.seq
     (.region [
       ⟨(some 7), .load 3 true (.t 2), none, []⟩,
       ⟨(some 8), .call 15 [(.t 7)], none, [0]⟩,
       ⟨(some 9), .not (.t 8), none, [1]⟩] false)
     (.cond (.t 9)
      (.seq
       (.region [
         ⟨(some 10), .build [.int .i64 0, .int .i64 0, .bool false] [], none, []⟩,
         ⟨none, .store 3 (.t 4) (.t 10), none, [0, 0]⟩,
         ⟨(some 5), .mov (.c (.int .i64 1)), none, [1, 0, 1]⟩] false)
       .ret)
      .skip))
    (.seq
     (.seq
      (.region [
        ⟨(some 11), .mov (.t 1), none, []⟩,
        ⟨(some 12), .cmp .lss 0 (.t 11) (.c (.int .i64 0)), none, [0]⟩,
        ⟨(some 13), .mov (.t 12), none, [1]⟩,
        ⟨(some 14), .mov (.t 1), (some (13, false)), [2]⟩,
        ⟨(some 15), .faddr 0 (.t 2), (some (13, false)), [2]⟩,
        ⟨(some 16), .load 1 false (.t 15), (some (13, false)), [4, 2]⟩,
        ⟨(some 17), .arith .sub (.c (.int .i64 17179869184)) (.t 16), (some (13, false)), [5, 2]⟩,
        ⟨(some 18), .cmp .gtr 0 (.t 14) (.t 17), (some (13, false)), [3, 6, 2]⟩,
        ⟨(some 19), .pick (.t 13) (.c (.bool true)) (.t 18), none, [2, 7]⟩] false)
      (.cond (.t 19)
       (.seq
        (.region [
          ⟨(some 20), .build [.int .i64 0, .int .i64 0, .bool false] [], none, []⟩,
          ⟨none, .store 3 (.t 4) (.t 20), none, [0, 0]⟩,
          ⟨(some 5), .mov (.c (.int .i64 2)), none, [1, 0, 1]⟩] false)
        .ret)
       .skip))
     (.seq
      (.region [
        ⟨(some 21), .load 3 true (.t 2), none, []⟩,
        ⟨(some 6), .alloc [.int .i64 0, .int .i64 0, .bool false], none, []⟩,
        ⟨none, .store 3 (.t 6) (.t 21), none, [1, 0, 0, 1]⟩] false)
      (.seq
       (.region [
         ⟨(some 22), .faddr 0 (.t 2), none, []⟩,
         ⟨(some 23), .load 1 false (.t 22), none, [0]⟩,
         ⟨(some 24), .mov (.t 1), none, []⟩,
         ⟨(some 25), .arith .add (.t 23) (.t 24), none, [1, 2]⟩,
         ⟨(some 26), .faddr 0 (.t 6), none, [0, 1, 2, 3]⟩,
         ⟨none, .store 1 (.t 26) (.t 25), none, [4, 3, 0, 1, 2, 3]⟩] false)
       (.seq
        (.seq
         (.region [
           ⟨(some 27), .load 3 true (.t 6), none, []⟩,
           ⟨(some 28), .call 28 [(.t 27)], none, [0]⟩,
           ⟨(some 29), .cmp .gtr 0 (.t 28) (.c (.int .i64 4294967294)), none, [1]⟩] false)
         (.cond (.t 29)
          (.seq
           (.region [
             ⟨(some 30), .build [.int .i64 0, .int .i64 0, .bool false] [], none, []⟩,
             ⟨none, .store 3 (.t 4) (.t 30), none, [0, 0]⟩,
             ⟨(some 5), .mov (.c (.int .i64 2)), none, [1, 0, 1]⟩] false)
           .ret)
          .skip))
        (.seq
         (.region [
           ⟨(some 31), .load 3 true (.t 6), none, []⟩,
           ⟨none, .store 3 (.t 4) (.t 31), none, [0, 0]⟩,
           ⟨(some 5), .mov (.c (.int .i64 0)), none, [1, 0, 1]⟩] false)
         .ret)))))))
def rv11 : List RV := [.c 4 3 true, .t 5]
theorem rc11_ok : comp Try.prog Try.f11.ntmps (Try.f11.body.getD .skip) = some (erase rc11) := by kernel_rfl
theorem rv11_ok : compRes Try.prog Try.f11.results.toList = some rv11 := by kernel_rfl

/-- baseboard/clock.Stamp [23] -/
def rc12 : RC :=
  (.seq
   (.region [
     ⟨(some 1), .box 3 (.t 0), none, []⟩,
     ⟨(some 2), .mov (.c (.int .u32 0)), none, []⟩,
     ⟨(some 3), .mov (.c (.int .i64 0)), none, [1]⟩] false)
   (.seq
    (.seq
     (.region [
       ⟨(some 4), .load 3 true (.t 1), none, []⟩,
       ⟨(some 5), .call 14 [(.t 4)], none, [0]⟩,
       ⟨(some 6), .not (.t 5), none, [1]⟩] false)
     (.cond (.t 6)
      (.seq
       (.region [
         ⟨(some 2), .mov (.c (.int .u32 0)), none, []⟩,
         ⟨(some 3), .mov (.c (.int .i64 1)), none, [0, 0]⟩] false)
       .ret)
      .skip))
    (.seq
     (.region [
       ⟨(some 7), .load 3 true (.t 1), none, []⟩,
       ⟨(some 8), .call 29 [(.t 7)], none, [0]⟩,
       ⟨(some 9), .conv .u32 (.t 8), none, [1]⟩,
       ⟨(some 2), .mov (.t 9), none, [2, 1, 0, 1, 2]⟩,
       ⟨(some 3), .mov (.c (.int .i64 0)), none, [3, 0, 1, 2, 3]⟩] false)
     .ret)))
def rv12 : List RV := [.t 2, .t 3]
theorem rc12_ok : comp Try.prog Try.f12.ntmps (Try.f12.body.getD .skip) = some (erase rc12) := by kernel_rfl
theorem rv12_ok : compRes Try.prog Try.f12.results.toList = some rv12 := by kernel_rfl

/-- baseboard/baseboardref08.Stamp [23] -/
def rc13 : RC :=
  (.seq
   (.region [
     ⟨(some 1), .box 3 (.t 0), none, []⟩,
     ⟨(some 2), .mov (.c (.int .u32 0)), none, []⟩,
     ⟨(some 3), .mov (.c (.int .i64 0)), none, [1]⟩] false)
   (.seq
    (.seq
     (.region [
       ⟨(some 4), .load 3 true (.t 1), none, []⟩,
       ⟨(some 5), .call 15 [(.t 4)], none, [0]⟩,
       ⟨(some 6), .not (.t 5), none, [1]⟩] false)
     (.cond (.t 6)
      (.seq
       (.region [
         ⟨(some 2), .mov (.c (.int .u32 0)), none, []⟩,
         ⟨(some 3), .mov (.c (.int .i64 1)), none, [0, 0]⟩] false)
       .ret)
      .skip))
    (.seq
     (.region [
       ⟨(some 7), .load 3 true (.t 1), none, []⟩,
       ⟨(some 8), .call 28 [(.t 7)], none, [0]⟩,
       ⟨(some 9), .conv .u32 (.t 8), none, [1]⟩,
       ⟨(some 2), .mov (.t 9), none, [2, 1, 0, 1, 2]⟩,
       ⟨(some 3), .mov (.c (.int .i64 0)), none, [3, 0, 1, 2, 3]⟩] false)
     .ret)))
def rv13 : List RV := [.t 2, .t 3]
theorem rc13_ok : comp Try.prog Try.f13.ntmps (Try.f13.body.getD .skip) = some (erase rc13) := by kernel_rfl
theorem rv13_ok : compRes Try.prog Try.f13.results.toList = some rv13 := by kernel_rfl

/-- baseboard/clock.Valid [23] -/
def rc14 : RC :=
  (.seq
   (.region [
     ⟨(some 1), .box 3 (.t 0), none, []⟩,
     ⟨(some 2), .mov (.c (.bool false)), none, []⟩] false)
   (.seq
    (.seq
     (.region [
       ⟨(some 3), .faddr 0 (.t 1), none, []⟩,
       ⟨(some 4), .load 1 false (.t 3), none, [0]⟩,
       ⟨(some 5), .cmp .lss 0 (.t 4) (.c (.int .i64 0)), none, [1]⟩,
       ⟨(some 6), .mov (.t 5), none, [2]⟩,
       ⟨(some 7), .faddr 0 (.t 1), (some (6, false)), [3]⟩,
       ⟨(some 8), .load 1 false (.t 7), (some (6, false)), [4, 3]⟩,
       ⟨(some 9), .cmp .gtr 0 (.t 8) (.c (.int .i64 17179869184)), (some (6, false)), [5, 3]⟩,
       ⟨(some 10), .pick (.t 6) (.c (.bool true)) (.t 9), none, [3, 6]⟩,
       ⟨(some 11), .mov (.t 10), none, [7, 3]⟩,
       ⟨(some 12), .faddr 2 (.t 1), (some (11, false)), [8]⟩,
       ⟨(some 13), .load 1 false (.t 12), (some (11, false)), [9, 8]⟩,
       ⟨(some 14), .not (.t 13), (some (11, false)), [10, 8]⟩,
       ⟨(some 15), .mov (.t 14), (some (11, false)), [11, 8, 8]⟩,
       ⟨(some 16), .faddr 1 (.t 1), (some (15, true)), [12]⟩,
       ⟨(some 17), .load 1 false (.t 16), (some (15, true)), [13, 12]⟩,
       ⟨(some 18), .cmp .neq 0 (.t 17) (.c (.int .i64 0)), (some (15, true)), [14, 12]⟩,
       ⟨(some 19), .pick (.t 15) (.t 18) (.c (.bool false)), (some (11, false)), [12, 15, 8]⟩,
       ⟨(some 20), .pick (.t 11) (.c (.bool true)) (.t 19), none, [8, 16]⟩,
       ⟨(some 21), .mov (.t 20), none, [17, 12]⟩,
       ⟨(some 22), .faddr 1 (.t 1), (some (21, false)), [18]⟩,
       ⟨(some 23), .load 1 false (.t 22), (some (21, false)), [19, 18]⟩,
       ⟨(some 24), .cmp .lss 0 (.t 23) (.c (.int .i64 (-17179869184))), (some (21, false)), [20, 18]⟩,
       ⟨(some 25), .pick (.t 21) (.c (.bool true)) (.t 24), none, [18, 21]⟩,
       ⟨(some 26), .mov (.t 25), none, [22, 18]⟩,
       ⟨(some 27), .faddr 1 (.t 1), (some (26, false)), [23]⟩,
       ⟨(some 28), .load 1 false (.t 27), (some (26, false)), [24, 23]⟩,
       ⟨(some 29), .cmp .gtr 0 (.t 28) (.c (.int .i64 4294967294)), (some (26, false)), [25, 23]⟩,
       ⟨(some 30), .pick (.t 26) (.c (.bool true)) (.t 29), none, [23, 26]⟩] false)
     (.cond (.t 30)
      (.seq
       (.region [
         ⟨(some 2), .mov (.c (.bool false)), none, []⟩] false)
       .ret)
      .skip))
    (.seq
     (.region [
       ⟨(some 31), .load 3 true (.t 1), none, []⟩,
       ⟨(some 32), .call 29 [(.t 31)], none, [0]⟩,
       ⟨(some 33), .cmp .geq 0 (.t 32) (.c (.int .i64 0)), none, [1]⟩,
       ⟨(some 34), .mov (.t 33), none, [2, 1]⟩,
       ⟨(some 35), .load 3 true (.t 1), (some (34, true)), [3]⟩,
       ⟨(some 36), .call 29 [(.t 35)], (some (34, true)), [4, 3, 3]⟩,
       ⟨(some 37), .cmp .leq 0 (.t 36) (.c (.int .i64 4294967294)), (some (34, true)), [5, 3]⟩,
       ⟨(some 38), .pick (.t 34) (.t 37) (.c (.bool false)), none, [3, 6]⟩,
       ⟨(some 2), .mov (.t 38), none, [7, 5, 0, 1, 2, 3, 4, 5, 6, 7]⟩] false)
     .ret)))
def rv14 : List RV := [.t 2]
theorem rc14_ok : comp Try.prog Try.f14.ntmps (Try.f14.body.getD .skip) = some (erase rc14) := by kernel_rfl
theorem rv14_ok : compRes Try.prog Try.f14.results.toList = some rv14 := by kernel_rfl

/-- baseboard/baseboardref08.Valid [23] -/
def rc15 : RC :=
  (.seq
   (.region [
     ⟨(some 1), .box 3 (.t 0), none, []⟩,
     ⟨(some 2), .mov (.c (.bool false)), none, []⟩] false)
   (.seq
    (.seq
     (.region [
       ⟨(some 3), .faddr 0 (.t 1), none, []⟩,
       ⟨(some 4), .load 1 false (.t 3), none, [0]⟩,
       ⟨(some 5), .cmp .lss 0 (.t 4) (.c (.int .i64 0)), none, [1]⟩,
       ⟨(some 6), .mov (.t 5), none, [2]⟩,
       ⟨(some 7), .faddr 0 (.t 1), (some (6, false)), [3]⟩,
       ⟨(some 8), .load 1 false (.t 7), (some (6, false)), [4, 3]⟩,
       ⟨(some 9), .cmp .gtr 0 (.t 8) (.c (.int .i64 17179869184)), (some (6, false)), [5, 3]⟩,
       ⟨(some 10), .pick (.t 6) (.c (.bool true)) (.t 9), none, [3, 6]⟩,
       ⟨(some 11), .mov (.t 10), none, [7, 3]⟩,
       ⟨(some 12), .faddr 1 (.t 1), (some (11, false)), [8]⟩,
       ⟨(some 13), .load 1 false (.t 12), (some (11, false)), [9, 8]⟩,
       ⟨(some 14), .cmp .lss 0 (.t 13) (.c (.int .i64 (-17179869184))), (some (11, false)), [10, 8]⟩,
       ⟨(some 15), .pick (.t 11) (.c (.bool true)) (.t 14), none, [8, 11]⟩,
       ⟨(some 16), .mov (.t 15), none, [12, 8]⟩,
       ⟨(some 17), .faddr 1 (.t 1), (some (16, false)), [13]⟩,
       ⟨(some 18), .load 1 false (.t 17), (some (16, false)), [14, 13]⟩,
       ⟨(some 19), .cmp .gtr 0 (.t 18) (.c (.int .i64 4294967294)), (some (16, false)), [15, 13]⟩,
       ⟨(some 20), .pick (.t 16) (.c (.bool true)) (.t 19), none, [13, 16]⟩,
       ⟨(some 21), .mov (.t 20), none, [17, 13]⟩,
       ⟨(some 22), .faddr 2 (.t 1), (some (21, false)), [18]⟩,
       ⟨(some 23), .load 1 false (.t 22), (some (21, false)), [19, 18]⟩,
       ⟨(some 24), .not (.t 23), (some (21, false)), [20, 18]⟩,
       ⟨(some 25), .mov (.t 24), (some (21, false)), [21, 18, 18]⟩,
       ⟨(some 26), .faddr 1 (.t 1), (some (25, true)), [22]⟩,
       ⟨(some 27), .load 1 false (.t 26), (some (25, true)), [23, 22]⟩,
       ⟨(some 28), .cmp .neq 0 (.t 27) (.c (.int .i64 0)), (some (25, true)), [24, 22]⟩,
       ⟨(some 29), .pick (.t 25) (.t 28) (.c (.bool false)), (some (21, false)), [22, 25, 18]⟩,
       ⟨(some 30), .pick (.t 21) (.c (.bool true)) (.t 29), none, [18, 26]⟩] false)
     (.cond (.t 30)
      (.seq
       (.region [
         ⟨(some 2), .mov (.c (.bool false)), none, []⟩] false)
       .ret)
      .skip))
    (.seq
     (.region [
       ⟨(some 31), .load 3 true (.t 1), none, []⟩,
       ⟨(some 32), .call 28 [(.t 31)], none, [0]⟩,
       ⟨(some 33), .cmp .geq 0 (.t 32) (.c (.int .i64 0)), none, [1]⟩,
       ⟨(some 34), .mov (.t 33), none, [2, 1]⟩,
       ⟨(some 35), .load 3 true (.t 1), (some (34, true)), [3]⟩,
       ⟨(some 36), .call 28 [(.t 35)], (some (34, true)), [4, 3, 3]⟩,
       ⟨(some 37), .cmp .leq 0 (.t 36) (.c (.int .i64 4294967294)), (some (34, true)), [5, 3]⟩,
       ⟨(some 38), .pick (.t 34) (.t 37) (.c (.bool false)), none, [3, 6]⟩,
       ⟨(some 2), .mov (.t 38), none, [7, 5, 0, 1, 2, 3, 4, 5, 6, 7]⟩] false)
     .ret)))
def rv15 : List RV := [.t 2]
theorem rc15_ok : comp Try.prog Try.f15.ntmps (Try.f15.body.getD .skip) = some (erase rc15) := by kernel_rfl
theorem rv15_ok : compRes Try.prog Try.f15.results.toList = some rv15 := by kernel_rfl

/-- baseboard/baseboardlaw08.awake [] -/
def rc16 : RC :=
  (.seq
   (.region [
     ⟨(some 0), .mov (.c (.bool false)), none, []⟩] false)
   (.seq
    (.region [
      ⟨(some 9), .build [.int .i64 0, .int .i64 0, .bool false] [], none, []⟩,
      ⟨(some 10), .call 10 [(.t 9), (.c (.int .i64 25))], none, [0]⟩,
      ⟨(some 8), .mov (.t 10), none, [1]⟩,
      ⟨(some 11), .extract 0 (.t 8), none, [2]⟩,
      ⟨(some 12), .extract 1 (.t 8), none, [2]⟩,
      ⟨(some 1), .alloc [.int .i64 0, .int .i64 0, .bool false], none, []⟩,
      ⟨none, .store 3 (.t 1) (.t 11), none, [5, 3, 1, 0, 1, 2, 3, 5]⟩,
      ⟨(some 2), .mov (.t 12), none, [4, 6, 0, 1, 2, 3, 4, 5, 6]⟩] false)
    (.seq
     (.region [
       ⟨(some 14), .load 3 true (.t 1), none, []⟩,
       ⟨(some 15), .call 12 [(.t 14)], none, [0]⟩,
       ⟨(some 13), .mov (.t 15), none, [1]⟩,
       ⟨(some 16), .extract 0 (.t 13), none, [2]⟩,
       ⟨(some 17), .extract 1 (.t 13), none, [2]⟩,
       ⟨(some 3), .mov (.t 16), none, [3, 1, 0, 1, 2, 3]⟩,
       ⟨(some 4), .mov (.t 17), none, [4, 5, 0, 1, 2, 3, 4, 5]⟩] false)
     (.seq
      (.region [
        ⟨(some 19), .load 3 true (.t 1), none, []⟩,
        ⟨(some 20), .call 17 [(.t 19), (.c (.int .u32 1000))], none, [0]⟩,
        ⟨(some 18), .mov (.t 20), none, [1]⟩,
        ⟨(some 21), .extract 0 (.t 18), none, [2]⟩,
        ⟨(some 22), .extract 1 (.t 18), none, [2]⟩,
        ⟨(some 23), .extract 2 (.t 18), none, [2]⟩,
        ⟨(some 5), .alloc [.int .i64 0, .int .i64 0, .bool false], none, []⟩,
        ⟨none, .store 3 (.t 5) (.t 21), none, [6, 3, 1, 0, 1, 2, 3, 6]⟩,
        ⟨(some 6), .mov (.t 22), none, [4, 7, 0, 1, 2, 3, 4, 6, 7]⟩,
        ⟨(some 7), .mov (.t 23), none, [5, 8, 0, 1, 2, 3, 4, 5, 6, 7, 8]⟩] false)
      (.seq
       (.region [
         ⟨(some 24), .mov (.t 2), none, []⟩,
         ⟨(some 25), .cmp .eql 0 (.t 24) (.c (.int .i64 0)), none, [0]⟩,
         ⟨(some 26), .mov (.t 25), none, [1]⟩,
         ⟨(some 27), .mov (.t 4), (some (26, true)), [2]⟩,
         ⟨(some 28), .cmp .eql 0 (.t 27) (.c (.int .i64 0)), (some (26, true)), [3, 2]⟩,
         ⟨(some 29), .pick (.t 26) (.t 28) (.c (.bool false)), none, [2, 4]⟩,
         ⟨(some 30), .mov (.t 29), none, [5, 2]⟩,
         ⟨(some 31), .mov (.t 7), (some (30, true)), [6]⟩,
         ⟨(some 32), .cmp .eql 0 (.t 31) (.c (.int .i64 0)), (some (30, true)), [7, 6]⟩,
         ⟨(some 33), .pick (.t 30) (.t 32) (.c (.bool false)), none, [6, 8]⟩,
         ⟨(some 34), .mov (.t 33), none, [9, 6]⟩,
         ⟨(some 35), .mov (.t 3), (some (34, true)), [10]⟩,
         ⟨(some 36), .cmp .eql 0 (.t 35) (.c (.int .u32 2)), (some (34, true)), [11, 10]⟩,
         ⟨(some 37), .pick (.t 34) (.t 36) (.c (.bool false)), none, [10, 12]⟩,
         ⟨(some 38), .mov (.t 37), none, [13, 10]⟩,
         ⟨(some 39), .faddr 1 (.t 5), (some (38, true)), [14]⟩,
         ⟨(some 40), .load 1 false (.t 39), (some (38, true)), [15, 14]⟩,
         ⟨(some 41), .cmp .eql 0 (.t 40) (.c (.int .i64 998)), (some (38, true)), [16, 14]⟩,
         ⟨(some 42), .pick (.t 38) (.t 41) (.c (.bool false)), none, [14, 17]⟩,
         ⟨(some 43), .mov (.t 42), none, [18, 14]⟩,
         ⟨(some 44), .mov (.t 6), (some (43, true)), [19]⟩,
         ⟨(some 45), .len 0 (.t 44), (some (43, true)), [20, 19]⟩,
         ⟨(some 46), .cmp .eql 0 (.t 45) (.c (.int .i64 2)), (some (43, true)), [21, 19]⟩,
         ⟨(some 47), .pick (.t 43) (.t 46) (.c (.bool false)), none, [19, 22]⟩,
         ⟨(some 48), .mov (.t 47), none, [23, 19]⟩,
         ⟨(some 49), .mov (.t 6), (some (48, true)), [24]⟩,
         ⟨(some 50), .iaddrS [.int .u16 0, .int .u32 0, .int .u16 0, .int .u8 0, .int .u8 0, .int .u8 0, .bool false, .int .u8 0, .int .u8 0, .int .u8 0] (.t 49) (.c (.int .i64 1)), (some (48, true)), [25, 24]⟩,
         ⟨(some 51), .faddr 1 (.t 50), (some (48, true)), [26, 24]⟩,
         ⟨(some 52), .load 1 false (.t 51), (some (48, true)), [27, 24]⟩,
         ⟨(some 53), .cmp .eql 0 (.t 52) (.c (.int .u32 1000)), (some (48, true)), [28, 24]⟩,
         ⟨(some 54), .pick (.t 48) (.t 53) (.c (.bool false)), none, [24, 29]⟩,
         ⟨(some 0), .mov (.t 54), none, [30, 24, 0, 1, 2, 3, 4, 5, 6, 7, 8, 9, 10, 11, 12, 13, 14, 15, 16, 17, 18, 19, 20, 21, 22, 23, 24, 25, 26, 27, 28, 29, 30]⟩] false)
       .ret)))))
def rv16 : List RV := [.t 0]
theorem rc16_ok : comp Try.prog Try.f16.ntmps (Try.f16.body.getD .skip) = some (erase rc16) := by kernel_rfl
theorem rv16_ok : compRes Try.prog Try.f16.results.toList = some rv16 := by kernel_rfl

/-- baseboard/clock.Adjust [23, 31] -/
def rc17 : RC :=
  (.seq
   (.region [
     ⟨(some 2), .box 3 (.t 0), none, []⟩,
     ⟨(some 4), .alloc [.int .i64 0, .int .i64 0, .bool false], none, []⟩,
     ⟨(some 5), .mov (.c (.nil)), none, []⟩,
     ⟨(some 6), .mov (.c (.int .i64 0)), none, [2]⟩] false)
   (.seq
    (.block 0
     (.seq
      (.region [
        ⟨(some 9), .load 3 true (.t 2), none, []⟩,
        ⟨(some 10), .call 14 [(.t 9)], none, [0]⟩,
        ⟨(some 11), .not (.t 10), none, [1]⟩,
        ⟨(some 8), .mov (.t 11), none, [2, 1]⟩] false)
      (.cond (.t 8)
       (.seq
        (.region [
          ⟨(some 12), .build [.int .i64 0, .int .i64 0, .bool false] [], none, []⟩,
          ⟨none, .store 3 (.t 4) (.t 12), none, [0, 0]⟩,
          ⟨(some 5), .mov (.c (.nil)), none, [1, 0, 1]⟩,
          ⟨(some 6), .mov (.c (.int .i64 1)), none, [2, 0, 1, 2]⟩] false)
        .ret)
       (.seq
        (.region [
          ⟨(some 14), .mov (.t 1), none, []⟩,
          ⟨(some 15), .cmp .gtr 0 (.t 14) (.c (.int .u32 4294967294)), none, [0]⟩,
          ⟨(some 13), .mov (.t 15), none, [1]⟩] false)
        (.cond (.t 13)
         (.seq
          (.region [
            ⟨(some 16), .build [.int .i64 0, .int .i64 0, .bool false] [], none, []⟩,
            ⟨none, .store 3 (.t 4) (.t 16), none, [0, 0]⟩,
            ⟨(some 5), .mov (.c (.nil)), none, [1, 0, 1]⟩,
            ⟨(some 6), .mov (.c (.int .i64 2)), none, [2, 0, 1, 2]⟩] false)
          .ret)
         .skip)))))
    (.seq
     (.region [
       ⟨(some 17), .load 3 true (.t 2), none, []⟩,
       ⟨(some 18), .call 29 [(.t 17)], none, [0]⟩,
       ⟨(some 19), .conv .u32 (.t 18), none, [1]⟩,
       ⟨(some 20), .call 30 [(.t 19), (.c (.int .u8 0))], none, [2, 1]⟩,
       ⟨(some 21), .mov (.t 1), none, []⟩,
       ⟨(some 22), .call 30 [(.t 21), (.c (.int .u8 128))], none, [4, 3]⟩,
       ⟨(some 23), .bslice 2 [.int .u16 0, .int .u32 0, .int .u16 0, .int .u8 0, .int .u8 0, .int .u8 0, .bool false, .int .u8 0, .int .u8 0, .int .u8 0] [(0, (.t 20)), (1, (.t 22))], none, [3, 5]⟩,
       ⟨(some 7), .mov (.t 23), none, [6, 5, 0, 1, 2, 3, 4, 5, 6]⟩] false)
     (.seq
      (.region [
        ⟨(some 24), .faddr 0 (.t 2), none, []⟩,
        ⟨(some 25), .load 1 false (.t 24), none, [0]⟩,
        ⟨(some 26), .mov (.t 1), none, []⟩,
        ⟨(some 27), .conv .i64 (.t 26), none, [2]⟩,
        ⟨(some 28), .faddr 0 (.t 2), none, []⟩,
        ⟨(some 29), .load 1 false (.t 28), none, [4]⟩,
        ⟨(some 30), .arith .quo (.t 29) (.c (.int .i64 10)), none, [5]⟩,
        ⟨(some 31), .arith .sub (.t 27) (.t 30), none, [3, 6]⟩,
        ⟨(some 32), .build [.int .i64 0, .int .i64 0, .bool false] [(0, 1, (.t 25)), (1, 1, (.t 31)), (2, 1, (.c (.bool true)))], none, [1, 7]⟩,
        ⟨(some 33), .mov (.t 7), none, []⟩,
        ⟨none, .store 3 (.t 4) (.t 32), none, [8, 0, 1, 2, 3, 4, 5, 6, 7, 8]⟩,
        ⟨(some 5), .mov (.t 33), none, [9, 10, 0, 1, 2, 3, 4, 5, 6, 7, 8, 9, 10]⟩,
        ⟨(some 6), .mov (.c (.int .i64 0)), none, [11, 0, 1, 2, 3, 4, 5, 6, 7, 8, 9, 10, 11]⟩] false)
      .ret))))
def rv17 : List RV := [.c 4 3 true, .t 5, .t 6]
theorem rc17_ok : comp Try.prog Try.f17.ntmps (Try.f17.body.getD .skip) = some (erase rc17) := by kernel_rfl
theorem rv17_ok : compRes Try.prog Try.f17.results.toList = some rv17 := by kernel_rfl

/-- baseboard/baseboardref08.Adjust [23, 31] -/
def rc18 : RC :=
  (.seq
   (.region [
     ⟨(some 2), .box 3 (.t 0), none, []⟩,
     ⟨(some 4), .alloc [.int .i64 0, .int .i64 0, .bool false], none, []⟩,
     ⟨(some 5), .mov (.c (.nil)), none, []⟩,
     ⟨(some 6), .mov (.c (.int .i64 0)), none, [2]⟩] false)
   (.seq
    (.seq
     (.region [
       ⟨(some 8), .load 3 true (.t 2), none, []⟩,
       ⟨(some 9), .call 15 [(.t 8)], none, [0]⟩,
       ⟨(some 10), .not (.t 9), none, [1]⟩] false)
     (.cond (.t 10)
      (.seq
       (.region [
         ⟨(some 11), .build [.int .i64 0, .int .i64 0, .bool false] [], none, []⟩,
         ⟨none, .store 3 (.t 4) (.t 11), none, [0, 0]⟩,
         ⟨(some 5), .mov (.c (.nil)), none, [1, 0, 1]⟩,
         ⟨(some 6), .mov (.c (.int .i64 1)), none, [2, 0, 1, 2]⟩] false)
       .ret)
      .skip))
    (.seq
     (.seq
      (.region [
        ⟨(some 12), .mov (.t 1), none, []⟩,
        ⟨(some 13), .cmp .gtr 0 (.t 12) (.c (.int .u32 4294967294)), none, [0]⟩] false)
      (.cond (.t 13)
       (.seq
        (.region [
          ⟨(some 14), .build [.int .i64 0, .int .i64 0, .bool false] [], none, []⟩,
          ⟨none, .store 3 (.t 4) (.t 14), none, [0, 0]⟩,
          ⟨(some 5), .mov (.c (.nil)), none, [1, 0, 1]⟩,
          ⟨(some 6), .mov (.c (.int .i64 2)), none, [2, 0, 1, 2]⟩] false)
        .ret)
       .skip))
     (.seq
      (.region [
        ⟨(some 15), .faddr 0 (.t 2), none, []⟩,
        ⟨(some 16), .load 1 false (.t 15), none, [0]⟩,
        ⟨(some 17), .mov (.t 1), none, []⟩,
        ⟨(some 18), .conv .i64 (.t 17), none, [2]⟩,
        ⟨(some 19), .faddr 0 (.t 2), none, []⟩,
        ⟨(some 20), .load 1 false (.t 19), none, [4]⟩,
        ⟨(some 21), .arith .quo (.t 20) (.c (.int .i64 10)), none, [5]⟩,
        ⟨(some 22), .arith .sub (.t 18) (.t 21), none, [3, 6]⟩,
        ⟨(some 23), .build [.int .i64 0, .int .i64 0, .bool false] [(0, 1, (.t 16)), (1, 1, (.t 22)), (2, 1, (.c (.bool true)))], none, [1, 7]⟩,
        ⟨(some 7), .alloc [.int .i64 0, .int .i64 0, .bool false], none, []⟩,
        ⟨none, .store 3 (.t 7) (.t 23), none, [9, 8, 0, 1, 2, 3, 4, 5, 6, 7, 8, 9]⟩] false)
      (.seq
       (.region [
         ⟨(some 24), .load 3 true (.t 7), none, []⟩,
         ⟨(some 25), .load 3 true (.t 2), none, []⟩,
         ⟨(some 26), .call 28 [(.t 25)], none, [1]⟩,
         ⟨(some 27), .call 31 [(.t 26), (.c (.int .u8 0))], none, [1, 2]⟩,
         ⟨(some 28), .mov (.t 1), none, []⟩,
         ⟨(some 29), .conv .i64 (.t 28), none, [4]⟩,
         ⟨(some 30), .call 31 [(.t 29), (.c (.int .u8 128))], none, [2, 1, 4, 3, 5]⟩,
         ⟨(some 31), .bslice 2 [.int .u16 0, .int .u32 0, .int .u16 0, .int .u8 0, .int .u8 0, .int .u8 0, .bool false, .int .u8 0, .int .u8 0, .int .u8 0] [(0, (.t 27)), (1, (.t 30))], none, [5, 4, 2, 1, 6, 3]⟩,
         ⟨none, .store 3 (.t 4) (.t 24), none, [5, 3, 4, 1, 2, 6, 0]⟩,
         ⟨(some 5), .mov (.t 31), none, [6, 5, 4, 3, 2, 1, 0, 8, 7]⟩,
         ⟨(some 6), .mov (.c (.int .i64 0)), none, [8, 7, 6, 5, 4, 3, 2, 1, 0, 9]⟩] true)
       .ret)))))
def rv18 : List RV := [.c 4 3 true, .t 5, .t 6]
theorem rc18_ok : comp Try.prog Try.f18.ntmps (Try.f18.body.getD .skip) = some (erase rc18) := by kernel_rfl
theorem rv18_ok : compRes Try.prog Try.f18.results.toList = some rv18 := by kernel_rfl

/-- baseboard/baseboardref07.SameList [37, 37] -/
def rc19 : RC :=
  (.seq
   (.region [
     ⟨(some 4), .mov (.c (.bool false)), none, []⟩] false)
   (.seq
    (.seq
     (.region [
       ⟨(some 6), .mov (.t 0), none, []⟩,
       ⟨(some 7), .len 0 (.t 6), none, [0]⟩,
       ⟨(some 8), .mov (.t 1), none, []⟩,
       ⟨(some 9), .len 0 (.t 8), none, [2]⟩,
       ⟨(some 10), .cmp .neq 0 (.t 7) (.t 9), none, [1, 3]⟩] false)
     (.cond (.t 10)
      (.seq
       (.region [
         ⟨(some 4), .mov (.c (.bool false)), none, []⟩] false)
       .ret)
      .skip))
    (.seq
     (.seq
      (.region [
        ⟨(some 5), .mov (.c (.int .i64 0)), none, []⟩] false)
      (.block 0
       (.loop 0
        (.seq
         (.seq
          (.region [
            ⟨(some 11), .mov (.t 5), none, []⟩,
            ⟨(some 12), .mov (.t 0), none, []⟩,
            ⟨(some 13), .len 0 (.t 12), none, [1]⟩,
            ⟨(some 14), .cmp .lss 0 (.t 11) (.t 13), none, [0, 2]⟩] false)
          (.cond (.t 14)
           .skip
           (.exit 0)))
         (.seq
          (.block 1
           (.seq
            (.region [
              ⟨(some 17), .mov (.t 0), none, []⟩,
              ⟨(some 18), .mov (.t 5), none, []⟩,
              ⟨(some 19), .iaddrS [.int .u16 0, .int .u32 0, .int .u16 0, .int .u8 0, .int .u8 0, .int .u8 0, .bool false, .int .u8 0, .int .u8 0, .int .u8 0] (.t 17) (.t 18), none, [1, 0]⟩,
              ⟨(some 20), .load 10 true (.t 19), none, [0, 1, 2]⟩,
              ⟨(some 21), .mov (.t 1), none, []⟩,
              ⟨(some 22), .mov (.t 5), none, []⟩,
              ⟨(some 23), .iaddrS [.int .u16 0, .int .u32 0, .int .u16 0, .int .u8 0, .int .u8 0, .int .u8 0, .bool false, .int .u8 0, .int .u8 0, .int .u8 0] (.t 21) (.t 22), none, [5, 4]⟩,
              ⟨(some 24), .load 10 true (.t 23), none, [4, 5, 6]⟩,
              ⟨(some 25), .eqa true [0, 0, 0, 0, 0, 0, 1, 0, 0, 0] (.t 20) (.t 24), none, [6, 5, 4, 2, 1, 0, 7, 3]⟩] true)
            (.cond (.t 25)
             (.seq
              (.region [
                ⟨(some 4), .mov (.c (.bool false)), none, []⟩] false)
              .ret)
             .skip)))
          (.region [
            ⟨(some 15), .mov (.t 5), none, []⟩,
            ⟨(some 16), .arith .add (.t 15) (.c (.int .i64 1)), none, [0]⟩,
            ⟨(some 5), .mov (.t 16), none, [1, 0, 1]⟩] false))))))
     (.seq
      (.region [
        ⟨(some 4), .mov (.c (.bool true)), none, []⟩] false)
      .ret))))
def rv19 : List RV := [.t 4]
theorem rc19_ok : comp Try.prog Try.f19.ntmps (Try.f19.body.getD .skip) = some (erase rc19) := by kernel_rfl
theorem rv19_ok : compRes Try.prog Try.f19.results.toList = some rv19 := by kernel_rfl

/-- baseboard/baseboardmade.Mod [3, 3] -/
def rc27 : RC :=
  (.seq
   (.region [
     ⟨(some 4), .mov (.c (.int .i64 0)), none, []⟩] false)
   (.seq
    (.region [
      ⟨(some 5), .mov (.t 0), none, []⟩,
      ⟨(some 6), .mov (.t 1), none, []⟩,
      ⟨(some 7), .arith .rem (.t 5) (.t 6), none, [0, 1]⟩,
      ⟨(some 0), .mov (.t 7), none, [2, 0, 1, 2]⟩] false)
    (.seq
     (.seq
      (.region [
        ⟨(some 8), .mov (.t 0), none, []⟩,
        ⟨(some 9), .cmp .lss 0 (.t 8) (.c (.int .i64 0)), none, [0]⟩] false)
      (.cond (.t 9)
       (.region [
         ⟨(some 10), .mov (.t 0), none, []⟩,
         ⟨(some 11), .mov (.t 1), none, []⟩,
         ⟨(some 12), .arith .add (.t 10) (.t 11), none, [0, 1]⟩,
         ⟨(some 0), .mov (.t 12), none, [2, 0, 1, 2]⟩] false)
       .skip))
     (.seq
      (.region [
        ⟨(some 13), .mov (.t 0), none, []⟩,
        ⟨(some 4), .mov (.t 13), none, [0, 0]⟩] false)
      .ret))))
def rv27 : List RV := [.t 4]
theorem rc27_ok : comp Try.prog Try.f27.ntmps (Try.f27.body.getD .skip) = some (erase rc27) := by kernel_rfl
theorem rv27_ok : compRes Try.prog Try.f27.results.toList = some rv27 := by kernel_rfl

/-- baseboard/baseboardref08.Time [23] -/
def rc28 : RC :=
  (.seq
   (.region [
     ⟨(some 1), .box 3 (.t 0), none, []⟩,
     ⟨(some 2), .mov (.c (.int .i64 0)), none, []⟩] false)
   (.seq
    (.region [
      ⟨(some 3), .faddr 0 (.t 1), none, []⟩,
      ⟨(some 4), .load 1 false (.t 3), none, [0]⟩,
      ⟨(some 5), .arith .quo (.t 4) (.c (.int .i64 10)), none, [1]⟩,
      ⟨(some 6), .faddr 1 (.t 1), none, []⟩,
      ⟨(some 7), .load 1 false (.t 6), none, [3]⟩,
      ⟨(some 8), .arith .add (.t 5) (.t 7), none, [2, 4]⟩,
      ⟨(some 2), .mov (.t 8), none, [5, 0, 1, 2, 3, 4, 5]⟩] false)
    .ret))
def rv28 : List RV := [.t 2]
theorem rc28_ok : comp Try.prog Try.f28.ntmps (Try.f28.body.getD .skip) = some (erase rc28) := by kernel_rfl
theorem rv28_ok : compRes Try.prog Try.f28.results.toList = some rv28 := by kernel_rfl

/-- baseboard/clock.seconds [23] -/
def rc29 : RC :=
  (.seq
   (.region [
     ⟨(some 1), .box 3 (.t 0), none, []⟩,
     ⟨(some 2), .mov (.c (.int .i64 0)), none, []⟩] false)
   (.seq
    (.region [
      ⟨(some 3), .faddr 0 (.t 1), none, []⟩,
      ⟨(some 4), .load 1 false (.t 3), none, [0]⟩,
      ⟨(some 5), .arith .quo (.t 4) (.c (.int .i64 10)), none, [1]⟩,
      ⟨(some 6), .faddr 1 (.t 1), none, []⟩,
      ⟨(some 7), .load 1 false (.t 6), none, [3]⟩,
      ⟨(some 8), .arith .add (.t 5) (.t 7), none, [2, 4]⟩,
      ⟨(some 2), .mov (.t 8), none, [5, 0, 1, 2, 3, 4, 5]⟩] false)
    .ret))
def rv29 : List RV := [.t 2]
theorem rc29_ok : comp Try.prog Try.f29.ntmps (Try.f29.body.getD .skip) = some (erase rc29) := by kernel_rfl
theorem rv29_ok : compRes Try.prog Try.f29.results.toList = some rv29 := by kernel_rfl

/-- baseboard/clock.change [31, 5] -/
def rc30 : RC :=
  (.seq
   (.region [
     ⟨(some 4), .alloc [.int .u16 0, .int .u32 0, .int .u16 0, .int .u8 0, .int .u8 0, .int .u8 0, .bool false, .int .u8 0, .int .u8 0, .int .u8 0], none, []⟩] false)
   (.seq
    (.region [
      ⟨(some 5), .mov (.t 0), none, []⟩,
      ⟨(some 6), .mov (.t 1), none, []⟩,
      ⟨(some 7), .build [.int .u8 0, .int .u8 0, .int .u8 0] [(0, 1, (.c (.int .u8 5))), (1, 1, (.t 6)), (2, 1, (.c (.int .u8 255)))], none, [1]⟩,
      ⟨(some 8), .build [.int .u16 0, .int .u32 0, .int .u16 0, .int .u8 0, .int .u8 0, .int .u8 0, .bool false, .int .u8 0, .int .u8 0, .int .u8 0] [(1, 1, (.t 5)), (2, 1, (.c (.int .u16 32))), (3, 1, (.c (.int .u8 18))), (5, 1, (.c (.int .u8 111))), (7, 3, (.t 7))], none, [0, 2]⟩,
      ⟨none, .store 10 (.t 4) (.t 8), none, [3, 0, 1, 2, 3]⟩] false)
    .ret))
def rv30 : List RV := [.c 4 10 true]
theorem rc30_ok : comp Try.prog Try.f30.ntmps (Try.f30.body.getD .skip) = some (erase rc30) := by kernel_rfl
theorem rv30_ok : compRes Try.prog Try.f30.results.toList = some rv30 := by kernel_rfl

/-- baseboard/baseboardref08.change [2, 5] -/
def rc31 : RC :=
  (.seq
   (.region [
     ⟨(some 4), .alloc [.int .u16 0, .int .u32 0, .int .u16 0, .int .u8 0, .int .u8 0, .int .u8 0, .bool false, .int .u8 0, .int .u8 0, .int .u8 0], none, []⟩] false)
   (.seq
    (.region [
      ⟨(some 5), .mov (.t 0), none, []⟩,
      ⟨(some 6), .conv .u32 (.t 5), none, [0]⟩,
      ⟨(some 7), .mov (.t 1), none, []⟩,
      ⟨(some 8), .build [.int .u8 0, .int .u8 0, .int .u8 0] [(0, 1, (.c (.int .u8 5))), (1, 1, (.t 7)), (2, 1, (.c (.int .u8 255)))], none, [2]⟩,
      ⟨(some 9), .build [.int .u16 0, .int .u32 0, .int .u16 0, .int .u8 0, .int .u8 0, .int .u8 0, .bool false, .int .u8 0, .int .u8 0, .int .u8 0] [(1, 1, (.t 6)), (2, 1, (.c (.int .u16 32))), (3, 1, (.c (.int .u8 18))), (5, 1, (.c (.int .u8 111))), (7, 3, (.t 8))], none, [1, 3]⟩,
      ⟨none, .store 10 (.t 4) (.t 9), none, [4, 0, 1, 2, 3, 4]⟩] false)
    .ret))
def rv31 : List RV := [.c 4 10 true]
theorem rc31_ok : comp Try.prog Try.f31.ntmps (Try.f31.body.getD .skip) = some (erase rc31) := by kernel_rfl
theorem rv31_ok : compRes Try.prog Try.f31.results.toList = some rv31 := by kernel_rfl
end Go.Proofs.Ytmcaedjlglpdeaa

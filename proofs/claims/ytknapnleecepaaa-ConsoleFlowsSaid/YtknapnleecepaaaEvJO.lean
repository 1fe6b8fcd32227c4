/- A part of the proof: symbolic evaluation of the program's functions, proved sound against the model; no condition. -/
import Derived.Test.YtknapnleecepaaaEvJL
namespace Go.Proofs.Ytknapnleecepaaa
open Go Go.RowKit Go.Ev
set_option linter.unusedSimpArgs false
set_option linter.unusedVariables false
set_option maxRecDepth 20000
/-- baseboard/baseboardfield.New [22, 3] -/
def rc14 : RC :=
  (.seq
   (.region [
     ⟨(some 4), .mov (.c (.junk)), none, []⟩] false)
   (.seq
    (.region [
      ⟨(some 5), .mov (.t 0), none, []⟩,
      ⟨(some 6), .mov (.t 0), none, []⟩,
      ⟨(some 7), .len 0 (.t 6), none, [1]⟩,
      ⟨(some 8), .mov (.t 1), none, []⟩,
      ⟨(some 9), .minmax false [(.t 7), (.t 8)], none, [2, 3]⟩,
      ⟨(some 10), .slice 1 (.t 5) none (some (.t 9)), none, [0, 4]⟩,
      ⟨(some 11), .build [.nil, .int .i64 0] [(0, 1, (.t 10))], none, [5]⟩,
      ⟨(some 12), .box 2 (.t 11), none, [6]⟩,
      ⟨(some 4), .mov (.t 12), none, [7, 0, 1, 2, 3, 4, 5, 6, 7]⟩] false)
    .ret))
def rv14 : List RV := [.t 4]
theorem rc14_ok : comp Try.prog Try.f14.ntmps (Try.f14.body.getD .skip) = some (erase rc14) := by kernel_rfl
theorem rv14_ok : compRes Try.prog Try.f14.results.toList = some rv14 := by kernel_rfl

/-- baseboard/baseboardlaw36.play [35, 3] -/
def rc15 : RC :=
  (.seq
   (.region [
     ⟨(some 4), .alloc [.nil, .bool false, .nil, .bool false, .bool false, .int .i64 0, .int .i64 0, .int .i64 0, .int .i64 0, .int .i64 0], none, []⟩,
     ⟨(some 5), .alloc [.nil, .bool false, .nil, .bool false, .bool false, .int .i64 0, .int .i64 0, .int .i64 0, .int .i64 0, .int .i64 0], none, []⟩,
     ⟨(some 6), .mov (.c (.nil)), none, []⟩] false)
   (.seq
    (.region [
      ⟨(some 17), .call 37 [], none, []⟩,
      ⟨(some 18), .call 37 [], none, [0]⟩,
      ⟨(some 7), .alloc [.nil, .bool false, .nil, .bool false, .bool false, .int .i64 0, .int .i64 0, .int .i64 0, .int .i64 0, .int .i64 0], none, []⟩,
      ⟨(some 8), .alloc [.nil, .bool false, .nil, .bool false, .bool false, .int .i64 0, .int .i64 0, .int .i64 0, .int .i64 0, .int .i64 0], none, []⟩,
      ⟨none, .store 10 (.t 7) (.t 17), none, [2, 0, 1, 0, 2, 3]⟩,
      ⟨none, .store 10 (.t 8) (.t 18), none, [3, 1, 4, 0, 1, 2, 3, 4]⟩] false)
    (.seq
     (.region [
       ⟨(some 19), .mov (.t 0), none, []⟩,
       ⟨(some 20), .call 20 [(.t 19), (.c (.int .i64 80))], none, [0]⟩,
       ⟨(some 21), .faddr 7 (.t 8), none, [0, 1]⟩,
       ⟨none, .store 1 (.t 21) (.t 20), none, [2, 1, 1, 0, 1]⟩] false)
     (.seq
      (.region [
        ⟨(some 9), .mov (.c (.nil)), none, []⟩] false)
      (.seq
       (.seq
        (.region [
          ⟨(some 22), .mov (.t 0), none, []⟩,
          ⟨(some 23), .mov (.t 1), none, []⟩,
          ⟨(some 24), .arith .add (.t 23) (.c (.int .i64 1)), none, [1]⟩,
          ⟨(some 25), .call 20 [(.t 22), (.t 24)], none, [0, 2]⟩,
          ⟨(some 10), .mov (.t 25), none, [3, 3, 0, 1, 2, 3]⟩] false)
        (.block 0
         (.loop 0
          (.seq
           (.seq
            (.region [
              ⟨(some 26), .mov (.t 10), none, []⟩,
              ⟨(some 27), .cmp .gtr 0 (.t 26) (.c (.int .i64 0)), none, [0]⟩] false)
            (.cond (.t 27)
             .skip
             (.exit 0)))
           (.seq
            (.block 1
             (.seq
              (.region [
                ⟨(some 30), .mov (.t 0), none, []⟩,
                ⟨(some 31), .call 20 [(.t 30), (.c (.int .i64 6))], none, [0]⟩] false)
              (.block 2
               (.seq
                (.region [
                  ⟨(some 33), .cmp .eql 0 (.t 31) (.c (.int .i64 0)), none, []⟩,
                  ⟨(some 32), .mov (.t 33), none, [0]⟩] false)
                (.cond (.t 32)
                 (.region [
                   ⟨(some 35), .load 10 true (.t 7), none, []⟩,
                   ⟨(some 36), .mov (.t 0), none, []⟩,
                   ⟨(some 37), .call 17 [(.t 36), (.c (.int .i64 90))], none, [1]⟩,
                   ⟨(some 38), .call 22 [(.t 35), (.t 37)], none, [1, 2, 0]⟩,
                   ⟨(some 34), .mov (.t 38), none, [0, 2, 1, 3]⟩,
                   ⟨(some 39), .extract 0 (.t 34), none, [3, 1, 2, 0, 4]⟩,
                   ⟨(some 40), .extract 1 (.t 34), none, [3, 1, 2, 0, 4]⟩,
                   ⟨none, .store 10 (.t 7) (.t 39), none, [4, 2, 1, 0, 3, 5]⟩] true)
                 (.seq
                  (.region [
                    ⟨(some 42), .cmp .eql 0 (.t 31) (.c (.int .i64 1)), none, []⟩,
                    ⟨(some 41), .mov (.t 42), none, [0]⟩] false)
                  (.cond (.t 41)
                   (.region [
                     ⟨(some 43), .load 10 true (.t 7), none, []⟩,
                     ⟨(some 44), .call 30 [(.t 43)], none, [0]⟩,
                     ⟨none, .store 10 (.t 7) (.t 44), none, [1, 1, 0, 1]⟩] false)
                   (.seq
                    (.seq
                     (.region [
                       ⟨(some 46), .cmp .eql 0 (.t 31) (.c (.int .i64 2)), none, []⟩,
                       ⟨(some 45), .mov (.t 46), none, [0]⟩] false)
                     (.cond (.t 45)
                      .skip
                      (.region [
                        ⟨(some 47), .cmp .eql 0 (.t 31) (.c (.int .i64 3)), none, []⟩,
                        ⟨(some 45), .mov (.t 47), none, [0]⟩] false)))
                    (.cond (.t 45)
                     (.seq
                      (.region [
                        ⟨(some 49), .load 10 true (.t 7), none, []⟩,
                        ⟨(some 50), .call 24 [(.t 49)], none, [0]⟩,
                        ⟨(some 48), .mov (.t 50), none, [1]⟩,
                        ⟨(some 51), .extract 0 (.t 48), none, [2]⟩,
                        ⟨(some 52), .extract 1 (.t 48), none, [2]⟩,
                        ⟨(some 53), .extract 2 (.t 48), none, [2]⟩,
                        ⟨(some 11), .alloc [.nil, .bool false, .nil, .bool false, .bool false, .int .i64 0, .int .i64 0, .int .i64 0, .int .i64 0, .int .i64 0], none, []⟩,
                        ⟨none, .store 10 (.t 11) (.t 51), none, [6, 3, 1, 0, 1, 2, 3, 6]⟩,
                        ⟨(some 12), .mov (.t 52), none, [4, 7, 0, 1, 2, 3, 4, 6, 7]⟩,
                        ⟨(some 13), .mov (.t 53), none, [5, 8, 0, 1, 2, 3, 4, 5, 6, 7, 8]⟩] false)
                      (.seq
                       (.region [
                         ⟨(some 54), .load 10 true (.t 11), none, []⟩,
                         ⟨none, .store 10 (.t 7) (.t 54), none, [0, 0]⟩] false)
                       (.seq
                        (.region [
                          ⟨(some 55), .mov (.t 13), none, []⟩] false)
                        (.cond (.t 55)
                         (.seq
                          (.region [
                            ⟨(some 56), .mov (.t 9), none, []⟩,
                            ⟨(some 57), .mov (.t 12), none, []⟩,
                            ⟨(some 58), .bsliceO 22 1 [.nil] [(0, (.t 57))], none, [1]⟩,
                            ⟨(some 59), .append 22 24 [.nil] (.t 56) (.t 58), none, [0, 2]⟩,
                            ⟨(some 9), .mov (.t 59), none, [3, 3, 0, 1, 2, 3]⟩] false)
                          (.region [
                            ⟨(some 61), .load 10 true (.t 8), none, []⟩,
                            ⟨(some 62), .mov (.t 12), none, []⟩,
                            ⟨(some 63), .call 28 [(.t 61), (.t 62)], none, [0, 1]⟩,
                            ⟨(some 60), .mov (.t 63), none, [2]⟩,
                            ⟨(some 64), .extract 0 (.t 60), none, [3]⟩,
                            ⟨(some 65), .extract 1 (.t 60), none, [3]⟩,
                            ⟨(some 66), .extract 2 (.t 60), none, [3]⟩,
                            ⟨(some 67), .extract 3 (.t 60), none, [3]⟩,
                            ⟨none, .store 10 (.t 8) (.t 64), none, [4, 2, 0, 1, 2, 3, 4]⟩] false))
                         .skip))))
                     (.seq
                      (.region [
                        ⟨(some 69), .cmp .eql 0 (.t 31) (.c (.int .i64 4)), none, []⟩,
                        ⟨(some 68), .mov (.t 69), none, [0]⟩] false)
                      (.cond (.t 68)
                       (.seq
                        (.region [
                          ⟨(some 71), .load 10 true (.t 8), none, []⟩,
                          ⟨(some 72), .call 24 [(.t 71)], none, [0]⟩,
                          ⟨(some 70), .mov (.t 72), none, [1]⟩,
                          ⟨(some 73), .extract 0 (.t 70), none, [2]⟩,
                          ⟨(some 74), .extract 1 (.t 70), none, [2]⟩,
                          ⟨(some 75), .extract 2 (.t 70), none, [2]⟩,
                          ⟨(some 14), .alloc [.nil, .bool false, .nil, .bool false, .bool false, .int .i64 0, .int .i64 0, .int .i64 0, .int .i64 0, .int .i64 0], none, []⟩,
                          ⟨none, .store 10 (.t 14) (.t 73), none, [6, 3, 1, 0, 1, 2, 3, 6]⟩,
                          ⟨(some 15), .mov (.t 74), none, [4, 7, 0, 1, 2, 3, 4, 6, 7]⟩,
                          ⟨(some 16), .mov (.t 75), none, [5, 8, 0, 1, 2, 3, 4, 5, 6, 7, 8]⟩] false)
                        (.seq
                         (.region [
                           ⟨(some 76), .load 10 true (.t 14), none, []⟩,
                           ⟨none, .store 10 (.t 8) (.t 76), none, [0, 0]⟩] false)
                         (.seq
                          (.region [
                            ⟨(some 77), .mov (.t 16), none, []⟩] false)
                          (.cond (.t 77)
                           (.seq
                            (.region [
                              ⟨(some 78), .mov (.t 9), none, []⟩,
                              ⟨(some 79), .mov (.t 15), none, []⟩,
                              ⟨(some 80), .bsliceO 22 1 [.nil] [(0, (.t 79))], none, [1]⟩,
                              ⟨(some 81), .append 22 24 [.nil] (.t 78) (.t 80), none, [0, 2]⟩,
                              ⟨(some 9), .mov (.t 81), none, [3, 3, 0, 1, 2, 3]⟩] false)
                            (.region [
                              ⟨(some 83), .load 10 true (.t 7), none, []⟩,
                              ⟨(some 84), .mov (.t 15), none, []⟩,
                              ⟨(some 85), .call 28 [(.t 83), (.t 84)], none, [0, 1]⟩,
                              ⟨(some 82), .mov (.t 85), none, [2]⟩,
                              ⟨(some 86), .extract 0 (.t 82), none, [3]⟩,
                              ⟨(some 87), .extract 1 (.t 82), none, [3]⟩,
                              ⟨(some 88), .extract 2 (.t 82), none, [3]⟩,
                              ⟨(some 89), .extract 3 (.t 82), none, [3]⟩,
                              ⟨none, .store 10 (.t 7) (.t 86), none, [4, 2, 0, 1, 2, 3, 4]⟩] false))
                           .skip))))
                       (.seq
                        (.region [
                          ⟨(some 91), .cmp .eql 0 (.t 31) (.c (.int .i64 5)), none, []⟩,
                          ⟨(some 90), .mov (.t 91), none, [0]⟩] false)
                        (.cond (.t 90)
                         (.region [
                           ⟨(some 92), .load 10 true (.t 8), none, []⟩,
                           ⟨(some 93), .mov (.t 0), none, []⟩,
                           ⟨(some 94), .call 20 [(.t 93), (.c (.int .i64 60))], none, [1]⟩,
                           ⟨(some 95), .call 31 [(.t 92), (.t 94)], none, [1, 2, 0]⟩,
                           ⟨none, .store 10 (.t 8) (.t 95), none, [2, 1, 0, 3]⟩] true)
                         .skip)))))))))))))
            (.region [
              ⟨(some 28), .mov (.t 10), none, []⟩,
              ⟨(some 29), .arith .sub (.t 28) (.c (.int .i64 1)), none, [0]⟩,
              ⟨(some 10), .mov (.t 29), none, [1, 0, 1]⟩] false))))))
       (.seq
        (.region [
          ⟨(some 96), .load 10 true (.t 7), none, []⟩,
          ⟨(some 97), .load 10 true (.t 8), none, []⟩,
          ⟨(some 98), .mov (.t 9), none, []⟩,
          ⟨none, .store 10 (.t 4) (.t 96), none, [0]⟩,
          ⟨none, .store 10 (.t 5) (.t 97), none, [0, 3, 1]⟩,
          ⟨(some 6), .mov (.t 98), none, [3, 1, 0, 4, 2]⟩] true)
        .ret))))))
def rv15 : List RV := [.c 4 10 true, .c 5 10 true, .t 6]
theorem rc15_ok : comp Try.prog Try.f15.ntmps (Try.f15.body.getD .skip) = some (erase rc15) := by kernel_rfl
theorem rv15_ok : compRes Try.prog Try.f15.results.toList = some rv15 := by kernel_rfl

/-- baseboard/baseboardlaw36.odd [35, 38] -/
def rc19 : RC :=
  (.seq
   (.region [
     ⟨(some 3), .box 10 (.t 1), none, []⟩,
     ⟨(some 4), .alloc [.nil, .bool false, .nil, .bool false, .bool false, .int .i64 0, .int .i64 0, .int .i64 0, .int .i64 0, .int .i64 0], none, []⟩] false)
   (.seq
    (.region [
      ⟨(some 5), .load 10 true (.t 3), none, []⟩,
      ⟨(some 6), .call 40 [(.t 5)], none, [0]⟩,
      ⟨none, .store 10 (.t 3) (.t 6), none, [1, 1, 0, 1]⟩] false)
    (.seq
     (.seq
      (.region [
        ⟨(some 7), .mov (.t 0), none, []⟩,
        ⟨(some 8), .call 20 [(.t 7), (.c (.int .i64 8))], none, [0]⟩] false)
      (.block 0
       (.seq
        (.region [
          ⟨(some 10), .cmp .eql 0 (.t 8) (.c (.int .i64 0)), none, []⟩,
          ⟨(some 9), .mov (.t 10), none, [0]⟩] false)
        (.cond (.t 9)
         (.region [
           ⟨(some 11), .bsliceO 3 3 [.int .i64 0] [(0, (.c (.int .i64 (-1)))), (1, (.c (.int .i64 0))), (2, (.c (.int .i64 16)))], none, []⟩,
           ⟨(some 12), .mov (.t 0), none, []⟩,
           ⟨(some 13), .call 20 [(.t 12), (.c (.int .i64 3))], none, [1]⟩,
           ⟨(some 14), .iaddrS [.int .i64 0] (.t 11) (.t 13), none, [0, 2]⟩,
           ⟨(some 15), .load 1 false (.t 14), none, [3]⟩,
           ⟨(some 16), .faddr 5 (.t 3), none, [0, 1, 2, 3, 4]⟩,
           ⟨none, .store 1 (.t 16) (.t 15), none, [5, 4, 2, 0, 1, 2, 3, 4]⟩] false)
         (.seq
          (.region [
            ⟨(some 18), .cmp .eql 0 (.t 8) (.c (.int .i64 1)), none, []⟩,
            ⟨(some 17), .mov (.t 18), none, [0]⟩] false)
          (.cond (.t 17)
           (.region [
             ⟨(some 19), .bsliceO 3 3 [.int .i64 0] [(0, (.c (.int .i64 (-1)))), (1, (.c (.int .i64 15))), (2, (.c (.int .i64 16)))], none, []⟩,
             ⟨(some 20), .mov (.t 0), none, []⟩,
             ⟨(some 21), .call 20 [(.t 20), (.c (.int .i64 3))], none, [1]⟩,
             ⟨(some 22), .iaddrS [.int .i64 0] (.t 19) (.t 21), none, [0, 2]⟩,
             ⟨(some 23), .load 1 false (.t 22), none, [3]⟩,
             ⟨(some 24), .faddr 6 (.t 3), none, [0, 1, 2, 3, 4]⟩,
             ⟨none, .store 1 (.t 24) (.t 23), none, [5, 4, 2, 0, 1, 2, 3, 4]⟩] false)
           (.seq
            (.region [
              ⟨(some 26), .cmp .eql 0 (.t 8) (.c (.int .i64 2)), none, []⟩,
              ⟨(some 25), .mov (.t 26), none, [0]⟩] false)
            (.cond (.t 25)
             (.region [
               ⟨(some 27), .bsliceO 3 4 [.int .i64 0] [(0, (.c (.int .i64 (-1)))), (1, (.c (.int .i64 0))), (2, (.c (.int .i64 1024))), (3, (.c (.int .i64 1025)))], none, []⟩,
               ⟨(some 28), .mov (.t 0), none, []⟩,
               ⟨(some 29), .call 20 [(.t 28), (.c (.int .i64 4))], none, [1]⟩,
               ⟨(some 30), .iaddrS [.int .i64 0] (.t 27) (.t 29), none, [0, 2]⟩,
               ⟨(some 31), .load 1 false (.t 30), none, [3]⟩,
               ⟨(some 32), .faddr 7 (.t 3), none, [0, 1, 2, 3, 4]⟩,
               ⟨none, .store 1 (.t 32) (.t 31), none, [5, 4, 2, 0, 1, 2, 3, 4]⟩] false)
             (.seq
              (.region [
                ⟨(some 34), .cmp .eql 0 (.t 8) (.c (.int .i64 3)), none, []⟩,
                ⟨(some 33), .mov (.t 34), none, [0]⟩] false)
              (.cond (.t 33)
               (.region [
                 ⟨(some 35), .faddr 6 (.t 3), none, []⟩,
                 ⟨(some 36), .load 1 false (.t 35), none, [0]⟩,
                 ⟨(some 37), .bsliceO 3 3 [.int .i64 0] [(0, (.c (.int .i64 1))), (1, (.c (.int .i64 16))), (2, (.t 36))], none, [0, 1]⟩,
                 ⟨(some 38), .mov (.t 0), none, []⟩,
                 ⟨(some 39), .call 20 [(.t 38), (.c (.int .i64 3))], none, [3]⟩,
                 ⟨(some 40), .iaddrS [.int .i64 0] (.t 37) (.t 39), none, [3, 1, 0, 4, 2]⟩,
                 ⟨(some 41), .load 1 false (.t 40), none, [2, 4, 0, 1, 3, 5]⟩,
                 ⟨(some 42), .faddr 8 (.t 3), none, [6, 5, 4, 3, 2, 1, 0]⟩,
                 ⟨none, .store 1 (.t 42) (.t 41), none, [5, 3, 2, 1, 0, 4, 6, 7]⟩] true)
               (.seq
                (.region [
                  ⟨(some 44), .cmp .eql 0 (.t 8) (.c (.int .i64 4)), none, []⟩,
                  ⟨(some 43), .mov (.t 44), none, [0]⟩] false)
                (.cond (.t 43)
                 (.region [
                   ⟨(some 45), .bsliceO 3 3 [.int .i64 0] [(0, (.c (.int .i64 (-1)))), (1, (.c (.int .i64 64))), (2, (.c (.int .i64 65)))], none, []⟩,
                   ⟨(some 46), .mov (.t 0), none, []⟩,
                   ⟨(some 47), .call 20 [(.t 46), (.c (.int .i64 3))], none, [1]⟩,
                   ⟨(some 48), .iaddrS [.int .i64 0] (.t 45) (.t 47), none, [0, 2]⟩,
                   ⟨(some 49), .load 1 false (.t 48), none, [3]⟩,
                   ⟨(some 50), .faddr 9 (.t 3), none, [0, 1, 2, 3, 4]⟩,
                   ⟨none, .store 1 (.t 50) (.t 49), none, [5, 4, 2, 0, 1, 2, 3, 4]⟩] false)
                 (.seq
                  (.region [
                    ⟨(some 52), .cmp .eql 0 (.t 8) (.c (.int .i64 5)), none, []⟩,
                    ⟨(some 51), .mov (.t 52), none, [0]⟩] false)
                  (.cond (.t 51)
                   (.region [
                     ⟨(some 53), .faddr 4 (.t 3), none, []⟩,
                     ⟨(some 54), .load 1 false (.t 53), none, [0]⟩,
                     ⟨(some 55), .not (.t 54), none, [1]⟩,
                     ⟨(some 56), .faddr 4 (.t 3), none, [0, 1, 2]⟩,
                     ⟨none, .store 1 (.t 56) (.t 55), none, [3, 2, 0, 1, 2]⟩] false)
                   (.seq
                    (.region [
                      ⟨(some 58), .cmp .eql 0 (.t 8) (.c (.int .i64 6)), none, []⟩,
                      ⟨(some 57), .mov (.t 58), none, [0]⟩] false)
                    (.cond (.t 57)
                     (.region [
                       ⟨(some 59), .faddr 2 (.t 3), none, []⟩,
                       ⟨(some 60), .load 1 false (.t 59), none, [0]⟩,
                       ⟨(some 61), .len 0 (.t 60), none, [0, 1]⟩,
                       ⟨(some 62), .arith .sub (.c (.int .i64 1024)) (.t 61), none, [1, 0, 2]⟩,
                       ⟨(some 63), .mov (.t 0), none, []⟩,
                       ⟨(some 64), .call 20 [(.t 63), (.c (.int .i64 2))], none, [4]⟩,
                       ⟨(some 65), .arith .add (.t 62) (.t 64), none, [4, 2, 0, 1, 5, 3]⟩,
                       ⟨(some 66), .mkslice 5 1 [.int .u8 0] (.t 65) (.t 65), none, [3, 5, 1, 0, 2, 4, 6]⟩,
                       ⟨(some 67), .faddr 0 (.t 3), none, [7, 6, 5, 4, 3, 2, 1, 0]⟩,
                       ⟨none, .store 1 (.t 67) (.t 66), none, [6, 4, 3, 2, 1, 0, 5, 7, 8]⟩] true)
                     (.seq
                      (.region [
                        ⟨(some 69), .cmp .eql 0 (.t 8) (.c (.int .i64 7)), none, []⟩,
                        ⟨(some 68), .mov (.t 69), none, [0]⟩] false)
                      (.cond (.t 68)
                       (.region [
                         ⟨(some 70), .mov (.t 0), none, []⟩,
                         ⟨(some 71), .call 20 [(.t 70), (.c (.int .i64 2))], none, [0]⟩,
                         ⟨(some 72), .arith .add (.c (.int .i64 64)) (.t 71), none, [1]⟩,
                         ⟨(some 73), .mkslice 5 1 [.int .u8 0] (.t 72) (.t 72), none, [2, 2]⟩,
                         ⟨(some 74), .faddr 2 (.t 3), none, [0, 1, 2, 3]⟩,
                         ⟨none, .store 1 (.t 74) (.t 73), none, [4, 3, 1, 0, 1, 2, 3]⟩] false)
                       .skip))))))))))))))))))
     (.seq
      (.region [
        ⟨(some 75), .load 10 true (.t 3), none, []⟩,
        ⟨none, .store 10 (.t 4) (.t 75), none, [0, 0]⟩] false)
      .ret))))
def rv19 : List RV := [.c 4 10 true]
theorem rc19_ok : comp Try.prog Try.f19.ntmps (Try.f19.body.getD .skip) = some (erase rc19) := by kernel_rfl
theorem rv19_ok : compRes Try.prog Try.f19.results.toList = some rv19 := by kernel_rfl
/-! Codes -/
def cnK (L : List Int) (a n : Int) : Prop := a < L.length ∧ 1 ≤ n
instance (L : List Int) (a n : Int) : Decidable (cnK L a n) := by unfold cnK; infer_instance
def cnV (L : List Int) (a n : Int) : Int := if cnK L a n then (L.getD a.toNat 0).tmod n else 0
def cnA (L : List Int) (a n : Int) : Int := if cnK L a n then a + 1 else a
def cbF (L : List Int) : Nat → Int → List Int
  | 0, _ => []
  | k + 1, a => cnV L a 256 :: cbF L k (cnA L a 256)
def cbA (L : List Int) : Nat → Int → Int
  | 0, a => a
  | k + 1, a => cbA L k (cnA L a 256)
def byV (L : List Int) (a n : Int) : List Int := cbF L (cnV L a (n + 1)).toNat (cnA L a (n + 1))
def byA (L : List Int) (a n : Int) : Int := cbA L (cnV L a (n + 1)).toNat (cnA L a (n + 1))
def DLf : Ctr := .mk true fun cs xs => match cs, xs with
  | [.lst zz es, .int .i64 a], [] => some (zz = [.int .u8 0] ∧ es = u8s (decU es), .bool (decide (a < ((decU es).length : Int))), [.lst zz es, .int .i64 a])
  | _, _ => none
def DNe : Ctr := .mk true fun cs xs => match cs, xs with
  | [.lst zz es, .int .i64 a], [.int .i64 n] => some (((zz = [.int .u8 0] ∧ es = u8s (decU es)) ∧ es.length ≤ 100000) ∧ (0 ≤ a ∧ n ≤ 256) ∧ Okb (decU es), .int .i64 (cnV (decU es) a n), [.lst [.int .u8 0] (u8s (decU es)), .int .i64 (cnA (decU es) a n)])
  | _, _ => none
def DBy : Ctr := .mk true fun cs xs => match cs, xs with
  | [.lst zz es, .int .i64 a], [.int .i64 n] => some (((zz = [.int .u8 0] ∧ es = u8s (decU es)) ∧ es.length ≤ 100000) ∧ (0 ≤ a ∧ 0 ≤ n ∧ n ≤ 255) ∧ Okb (decU es), .lst [.int .u8 0] (u8s (byV (decU es) a n)), [.lst [.int .u8 0] (u8s (decU es)), .int .i64 (byA (decU es) a n)])
  | _, _ => none
def DCo : Ctr := .ext false Unit fun _ xs => match xs with
  | [.lst zz es, .int .i64 n] => some ((zz = [.int .u8 0] ∧ es = u8s (decU es)) ∧ 0 ≤ n, fun _ => (True, .fp 0 [.lst [.int .u8 0] (u8s ((decU es).take n.toNat)), .int .i64 0], []))
  | _ => none
theorem cn_bd {L : List Int} (h : Okb L) {a n : Int} (h1 : 1 ≤ n) : 0 ≤ cnV L a n ∧ cnV L a n < n := by
  unfold cnV
  split
  · have := h.getD a.toNat
    rw [tmod_nn _ n this.1]
    exact ⟨Int.emod_nonneg _ (by omega), Int.emod_lt_of_pos _ (by omega)⟩
  · omega
theorem cnA_nn {L : List Int} {a : Int} (h : 0 ≤ a) (n : Int) : 0 ≤ cnA L a n := by unfold cnA; split <;> omega
theorem cbA_nn {L : List Int} : ∀ (k : Nat) {a : Int}, 0 ≤ a → 0 ≤ cbA L k a
  | 0, _, h => h
  | k + 1, _, h => cbA_nn k (cnA_nn h 256)
theorem byA_nn {L : List Int} {a n : Int} (h : 0 ≤ a) : 0 ≤ byA L a n := cbA_nn _ (cnA_nn h _)
theorem cbF_ok {L : List Int} (h : Okb L) : ∀ (k : Nat) (a : Int), Okb (cbF L k a)
  | 0, _ => .nil
  | k + 1, a => by
    have := cn_bd h (a := a) (n := 256) (by omega)
    exact .cons (by omega) (cbF_ok h k _)
theorem cbF_len (L : List Int) : ∀ (k : Nat) (a : Int), (cbF L k a).length = k
  | 0, _ => rfl
  | k + 1, a => by rw [cbF, List.length_cons, cbF_len]
theorem byV_ok {L : List Int} (h : Okb L) (a n : Int) : Okb (byV L a n) := cbF_ok h _ _
theorem byV_len {L : List Int} (h : Okb L) {a n : Int} (h1 : 0 ≤ n) : (byV L a n).length ≤ n := by
  have := cn_bd h (a := a) (n := n + 1) (by omega)
  rw [byV, cbF_len]; omega
set_option maxHeartbeats 4000000 in
theorem walk33 {Phi : Nat → Option Ctr} (L : List Int) (a : Int) : evC Phi (noI) rc33 ⟨initS (.ptr 0 0 :: []), initM true [.lst [.int .u8 0] (u8s L), .int .i64 a]⟩ (kRet rv33 (.bool (decide (a < (L.length : Int)))) true [.lst [.int .u8 0] (u8s L), .int .i64 a]) := by
  simp (config := {maxSteps := 2000000}) only [rc33, initM_t, rv33, evC_seq, evC_region, eo_mov, evG_no, Option.getD_some, ev_mov, av_c, gv_bool, bind1_some', un1_mov, goOp_some, put_q, evOps_nil, kEnd_at, hasG_no, hasG_nil, kEndB_f, kSeq_n, evC_draw, preK_some, needD_mov, preB_f, needD_nilchk, needD_faddr, needD_load, needD_len, needD_cmp, preK_nil, evD_cons, av_t, upd_at, Nat.reduceEqDiff, ↓reduceIte, initS_at, List.getD_cons_zero, gv_ptr, evDk_some, newOK_none, Nat.zero_add, ev_nilchk, un1_nilchk, Nat.reduceAdd, ev_faddr, faddr_ptr, ev_load, load_ptr, updM_at, ldB_cells, valOf_one, List.getElem?_cons_succ, List.getElem?_cons_zero, ldV_some, Nat.add_zero, ev_len, gv_lst, len_lst, u8s_len, ev_cmp, gv_int, cmp2_some, cmp_lss, toR_some', evD_nil, evC_ret, kRet_r, retOK_eq, retL_cons, retV_t, retL_nil, consO_some, lkR_one, lk1_bool, lkT_t, lkB_cells, lkC_cons, lkC0_lst, lkC0_int, lkC_nil, List.nil_append, applyL_nil, retOK_t, rtO_some, resV_one, leV1_bool, rtM_cells, leAs_cons, leA_lst, leA_int, leAs_nil, and_self, knowD_cons, knowD_nil, knowL_nil, knowL_cons, implies_true, pairD_cons, pairOK_eq, newMen_none, List.contains_cons, Nat.reduceBEq, beq_self_eq_true, List.contains_nil, Bool.or_false, Bool.or_true, pairB_t, pairD_nil, askL_nil, pairB_f, chkR_eq, pslots_int, optN_some, disjN_nil, Bool.and_self, List.map_nil, newI_none, pslots_ptr, pslots_lst, List.cons_append]
set_option maxHeartbeats 4000000 in
theorem walk20 {Phi : Nat → Option Ctr} (P33 : Phi 33 = some DLf) (L : List Int) (a n : Int) (hl : L.length ≤ 100000) (ha : 0 ≤ a) (hn : n ≤ 256) (hL : Okb L) : evC Phi (noI) rc20 ⟨initS (.ptr 0 0 :: [.int .i64 n]), initM true [.lst [.int .u8 0] (u8s L), .int .i64 a]⟩ (kRet rv20 (.int .i64 (cnV L a n)) true [.lst [.int .u8 0] (u8s L), .int .i64 (cnA L a n)]) := by
  simp (config := {maxSteps := 2000000}) only [rc20, initM_t, rv20, evC_seq, evC_region, eo_mov, evG_no, Option.getD_some, ev_mov, av_c, gv_int, bind1_some', un1_mov, goOp_some, put_q, evOps_nil, kEnd_at, hasG_no, hasG_nil, kEndB_f, kSeq_n, av_t, upd_at, Nat.reduceEqDiff, ↓reduceIte, initS_at, List.getD_cons_zero, gv_ptr, eo_call, P33, DLf, evCl_mk, ev_call, avs_cons, avs_nil, consO_some, clE_some, callE_state, updM_at, callC_cells, lends_nil, callB_some, List.all_cons, c0_lst, c0_int, List.all_nil, Bool.and_self, decU_u8s, and_self, callD_t, callS_some, c2_bool, flat2_bool, flat0_lst, flat0_int, Bool.and_true, Bool.true_and, backOK_nil, clU_t, put_u, liveB_cells, eo_not, ev_not, gv_bool, un1_not, evG_yes, pathG_bool, gG_some, List.getD_cons_succ, guardR_q, guardL_nil, eo_cmp, ev_cmp, gv_gd, List.contains_cons, List.contains_nil, Bool.or_false, beq_self_eq_true, gvB_true, cmp2_some, cmp_lss, toR_some', eo_pick, ev_pick, List.nil_append, pick3_some, pickV_bool, Bool.cond_true_left, hasG_yes, kEndB_t, evC_cond, evC_ret, kSeq_r, kRet_r, retOK_eq, retL_cons, retV_t, retL_nil, lkR_one, lk1_int, lkT_t, lkB_cells, lkC_cons, lkC0_lst, Nat.zero_add, lkC0_int, Nat.reduceAdd, lkC_nil, applyL_nil, retOK_t, rtO_some, resV_one, leV1_int, rtM_cells, leAs_cons, leA_lst, leA_int, leAs_nil, and_true, true_and, knowL_nil, askL_nil, evC_skip, evC_draw, preK_some, needD_mov, preB_f, needD_nilchk, needD_faddr, needD_load, needD_iaddrS, needD_conv, preK_nil, evD_cons, ungdS_at, ungd_ptr, evDk_some, newOK_none, ev_nilchk, un1_nilchk, ev_faddr, faddr_ptr, Nat.add_zero, ev_load, load_ptr, ldB_cells, valOf_one, List.getElem?_cons_zero, ldV_some, List.getElem?_cons_succ, ev_iaddrS, gv_lst, bind2_some', iaddrS_lst, List.length_cons, List.length_nil, iasB_true, u8s_len, gv_ep, load_ep, getE_u8, ev_conv, un1_conv, evD_nil, eo_nilchk, eo_faddr, eo_load, eo_arith, ev_arith, arith_add, eo_store, ar_t, vwsT_ptr, frzL_nil, goF_eq, Option.getD_none, ev_store, store_ptr, cells_int, stB_cells, Nat.reduceLeDiff, decide_true, stC_true, setC_cons, List.set_cons_succ, List.set_cons_zero, setC_nil, put_s, ungd_int, cmp_gtr, eo_call_g, guardR_u, pathB_cons, boolOf_bool, beqO_some, pathB_nil, mergeU_eq1, mgC_cells, mergeL_cons, mergeA_lst, Bool.cond_self, mergeA_int, mergeL_nil, mgU_some, guardU_some, guardL_cons, pathP_cons, pathP_nil, implies_true, Bool.cond_false_right, needD_shl, needD_arith, ev_shl, shl_int, bits_i64, shQ_t, arith_or, arith_rem, askL_cons, knowD_cons, knowD_nil, knowL_cons, pairD_cons, pairOK_eq, newMen_none, Nat.reduceBEq, Bool.or_true, pairB_t, pairD_nil, pairB_f, chkR_eq, pslots_int, optN_some, disjN_nil, List.map_nil, newI_none, pslots_ep, pslots_lst, List.cons_append, pslots_ptr, ungd_bool, condK_bool]
  refine ⟨fun h => ?_, fun h => ⟨?_, fun _ => ⟨fun h2 => ?_, fun _ => ?_⟩⟩⟩
  · have hk : ¬ cnK L a n := by
      rintro ⟨h1, h2⟩
      rw [decide_eq_true h1, decide_eq_false (by omega)] at h; cases h
    rw [cnV, cnA, if_neg hk, if_neg hk]; exact ⟨rfl, rfl⟩
  all_goals have hk : cnK L a n := by
              simp only [Bool.or_eq_false_iff, Bool.not_eq_false', decide_eq_true_eq, decide_eq_false_iff_not] at h
              exact ⟨h.1, by omega⟩
  · exact ⟨ha, hk.1⟩
  · rw [decide_eq_false (by omega)] at h2; cases h2
  · have hb := hL.getD a.toNat
    have h1 := hk.1
    have h2 := hk.2
    rw [cnV, cnA, if_pos hk, if_pos hk, wr_in (L.getD a.toNat 0) (by omega) (by omega), wr_in (a + 1) (by omega) (by omega)]
    exact ⟨by omega, rfl, rfl⟩
structure K17a (L : List Int) (R : List Int) (A : Int) where
  a : Int
  k : Nat
  o : List Int
  ha : 0 ≤ a
  hk : k ≤ 256
  ho : o ++ cbF L k a = R
  hA : cbA L k a = A
def S17a (L : List Int) (R : List Int) (A : Int) (p : K17a L R A) : SL := ⟨[(0, .ptr 0 0), (5, .vw 3200 0 0 0), (6, .int .i64 p.k)], [(0, .cells [.lst [.int .u8 0] (u8s L), .int .i64 p.a]), (3200, .buf 5 [.int .u8 0] (u8s p.o))]⟩
abbrev L17a (L : List Int) (R : List Int) (A : Int) : LI := ⟨K17a L R A, S17a L R A, fun p => p.k, fun p q => True⟩
theorem L17aS (L : List Int) (R : List Int) (A : Int) : (L17a L R A).S = S17a L R A := rfl
theorem L17aM (L : List Int) (R : List Int) (A : Int) (p : K17a L R A) : (L17a L R A).μ p = p.k := rfl
theorem L17aR (L : List Int) (R : List Int) (A : Int) (p q : K17a L R A) : (L17a L R A).R p q = (True) := rfl
def I17 (L : List Int) (R : List Int) (A : Int) : Nat → LI := fun n => L17a L R A
theorem I17_0 (L : List Int) (R : List Int) (A : Int) : I17 L R A 0 = L17a L R A := rfl
set_option maxHeartbeats 4000000 in
theorem walk17 {Phi : Nat → Option Ctr} (P20 : Phi 20 = some DNe) (L : List Int) (a n : Int) (hl : L.length ≤ 100000) (ha : 0 ≤ a) (hn : 0 ≤ n ∧ n ≤ 255) (hL : Okb L) : evC Phi (I17 L (byV L a n) (byA L a n)) rc17 ⟨initS (.ptr 0 0 :: [.int .i64 n]), initM true [.lst [.int .u8 0] (u8s L), .int .i64 a]⟩ (kRet rv17 (.lst [.int .u8 0] (u8s (byV L a n))) true [.lst [.int .u8 0] (u8s L), .int .i64 (byA L a n)]) := by
  simp (config := {maxSteps := 2000000}) only [rc17, initM_t, rv17, evC_seq, evC_region, eo_mov, evG_no, Option.getD_some, ev_mov, av_c, gv_nil, bind1_some', un1_mov, goOp_some, put_q, evOps_nil, kEnd_at, hasG_no, hasG_nil, kEndB_f, kSeq_n, av_t, upd_at, Nat.reduceEqDiff, ↓reduceIte, initS_at, List.getD_cons_zero, gv_ptr, List.getD_cons_succ, gv_int, eo_arith, ev_arith, bind2_some', arith_add, eo_call, P20, DNe, evCl_mk, ev_call, avs_cons, avs_nil, consO_some, clE_some, callE_state, updM_at, callC_cells, lends_cons, lend1_int, lends_nil, consL_some', List.nil_append, callB_some, List.all_cons, c0_lst, c0_int, List.all_nil, Bool.and_self, decU_u8s, and_self, u8s_len, true_and, callD_t, callS_some, c2_int, flat2_int, flat0_lst, flat0_int, Bool.and_true, Bool.true_and, backOK_nil, clU_t, put_u, liveB_cells, evC_block, evC_loop, I17_0, L17aS, S17a, SL_ge, lkL_cons, lkS_ptr, lkS_nil_vw, lookM_cons, nlK_buf, lkS_int, lkL_nil, List.cons_append, lkM_cons, lkB_cells, lkC_cons, lkC0_lst, Nat.zero_add, lkC0_int, Nat.reduceAdd, lkC_nil, lkB_buf, lkM_nil, applyL_nls, nlV_nil, Nat.reduceLeDiff, decide_true, List.length_cons, List.length_nil, Nat.reduceLT, nlP_t, applyL_nil, SL_ge0, leL_cons, killS_at, kill3_ptr, leV1_ptr, leV1_vw, kill3_int, leV1_int, leL_nil, and_true, leM_cons, killM_at, killO_some, killB_cells, List.map_cons, kill0_lst, kill0_int, List.map_nil, leB_cells, leAs_cons, leA_lst, leA_int, leAs_nil, leB_buf, leM_nil, L17aR, SL_st, lookL_cons, eo_cmp, ev_cmp, cmp2_some, cmp_gtr, toR_some', evC_cond, evC_skip, gv_vw, Int.reduceLE, eo_conv, ev_conv, un1_conv, eo_bsliceO, vwsG_cons, ar_t, vws1_int, vwsG_nil, frzL_nil, goF_eq, ev_bsliceO, List.replicate_succ, List.replicate_zero, fillS_cons, fsK_some, cells_int, fsC_some, List.set_cons_zero, fillS_nil, blO2_some, Nat.reduceMul, put_n, killB_buf, eo_append, ev_append, kill3_vw, appR_vw, ysOf_vw, ysV_buf, appV_buf, appK_some, Nat.mul_one, u8s_snoc, kBlk_n, arith_sub, kLoop_n, lkS_vw_vw, beq_self_eq_true, renK_t, knowL_nil, askL_nil, askL_cons, evC_exit, kSeq_e, kLoop_e, kBlk_e, kBlkB_t, evC_ret, kRet_r, retOK_eq, retL_cons, retV_t, retL_nil, lkR_one, lk1_vw_lst, lkT_t, applyL_frz, frzQ_buf, frzP_t, retOK_t, frzSl_at, frz3_vw, rtO_some, resV_one, leV1_lst, frzM_at, frzO_some, frzB_cells, frz0_lst, frz0_int, rtM_cells, condK_bool, true_imp_iff]
  rw [wr_in (n + 1) (by omega) (by omega)]
  have hv := cn_bd hL (a := a) (n := n + 1) (by omega)
  have hby := byV_len hL (a := a) hn.1
  refine ⟨⟨hl, ⟨ha, by omega⟩, hL⟩, ⟨cnA L a (n + 1), (cnV L a (n + 1)).toNat, [], cnA_nn ha _, by omega, rfl, rfl⟩, ⟨AV.int_inj' (by dsimp only; omega), rfl, rfl⟩, ?_⟩
  rintro ⟨a2, k, o, h1, h2, h3, h4⟩
  dsimp only
  refine ⟨fun hc => ?_, fun hc => ?_⟩
  · have hc := of_decide_eq_true hc
    obtain ⟨m, rfl⟩ : ∃ m, k = m + 1 := ⟨k - 1, by omega⟩
    have hv2 := cn_bd hL (a := a2) (n := 256) (by omega)
    have ho := congrArg List.length h3
    rw [List.length_append, cbF_len] at ho
    refine ⟨⟨hl, h1, hL⟩, by omega, by omega, ⟨cnA L a2 256, m, o ++ [cnV L a2 256], cnA_nn h1 _, by omega, ?_, h4⟩, ⟨AV.int_inj' (by rw [wr_in _ (by omega) (by omega)]; dsimp only; omega), rfl, by rw [wr_u8 _ (by omega) (by omega)]⟩, by dsimp only; omega⟩
    rw [← h3, cbF, List.append_assoc]; rfl
  · have hc := of_decide_eq_false hc
    obtain rfl : k = 0 := by omega
    exact ⟨by rw [← h3, cbF, List.append_nil], by rw [← h4]; rfl⟩
set_option maxHeartbeats 4000000 in
theorem walk14 {Phi : Nat → Option Ctr} (L : List Int) (n : Int) (hn : 0 ≤ n) : evC Phi (noI) rc14 ⟨initS [.lst [.int .u8 0] (u8s L), .int .i64 n], initM false []⟩ (kRetX rv14 false (fun _ : Unit => (True, .fp 0 [.lst [.int .u8 0] (u8s (L.take n.toNat)), .int .i64 0], []))) := by
  simp (config := {maxSteps := 2000000}) only [rc14, initM_f, rv14, evC_seq, evC_region, eo_mov, evG_no, Option.getD_some, ev_mov, av_c, gv_junk, bind1_some', un1_mov, goOp_some, put_q, evOps_nil, kEnd_at, hasG_no, hasG_nil, kEndB_f, kSeq_n, av_t, upd_at, Nat.reduceEqDiff, ↓reduceIte, initS_at, List.getD_cons_zero, gv_lst, eo_len, ev_len, len_lst, u8s_len, List.getD_cons_succ, gv_int, eo_minmax, ev_minmax, avs_cons, avs_nil, consO_some, mmO_some, mm_min, mm_nil, toR_some', eo_slice, ev_slice, boundA_none, boundA_some, optS_some, sliceO_some, slice_lst, loOf_none, hiOf_int, List.length_cons, List.length_nil, Nat.zero_add, beq_self_eq_true, slL_some, Int.reduceLE, true_and, Int.reduceToNat, List.drop_zero, u8s_take, eo_build, ev_build, fillA_cons, faK_some, cells_lst, faC_some, Nat.reduceAdd, Nat.reduceLeDiff, setC_cons, List.set_cons_zero, setC_nil, fillA_nil, blO_some, eo_box, ev_box, gv_agg, boxR_eq, cells_agg, bxO_some, Nat.reduceMul, put_n, killB_cells, List.map_cons, kill0_lst, kill0_int, List.map_nil, gv_ptr, evC_ret, kRetX_r, retXG_eq, retX_eq, retL_cons, retV_t, retL_nil, lkR_one, lk1_ptr, lkT_f, List.nil_append, applyL_nil, retX0_eq, resXO_some, resX_one, leX1_fp, updM_at, leFC_cells, leAs_cons, leA_lst, leA_int, leAs_nil, and_self, and_true, pqR_one, pq1_fp, pqK_some, pqK_nil, nodupN_cons, List.contains_nil, Bool.not_false, nodupN_nil, Bool.and_self, List.all_cons, decide_true, List.all_nil, frs2_fp, idsOK_eq, Nat.reduceLT, wfRes_one, wfX1_fp, c0_lst, c0_int, killM_at, killO_none, resXT_f, knowL_nil, askL_nil, askL_cons, knowL_cons]
  intro _
  have e : (min (L.length : Int) n).toNat - 0 = min L.length n.toNat := by omega
  exact ⟨⟨by omega, by omega⟩, (), by rw [e, tk_min]⟩
end Go.Proofs.Ytknapnleecepaaa

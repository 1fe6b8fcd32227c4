/- A part of the proof: symbolic evaluation of the program's functions, proved sound against the model; no condition. -/
import Derived.Test.YtklbnccpeeehkaaEvZ
import Derived.Test.YtklbnccpeeehkaaChecked
namespace Go.Proofs.Ytklbnccpeeehkaa
open Go Go.RowKit Go.Ev
set_option linter.unusedSimpArgs false
set_option linter.unusedVariables false
set_option maxRecDepth 20000
/-- baseboard/baseboardlaw18.MultirecordFinds [22, 23, 5, 3, 3] -/
def rc3 : RC :=
  (.seq
   (.region [
     ⟨(some 10), .mov (.c (.bool false)), none, []⟩] false)
   (.seq
    (.seq
     (.region [
       ⟨(some 21), .mov (.t 0), none, []⟩,
       ⟨(some 22), .call 8 [(.t 21)], none, [0]⟩,
       ⟨(some 23), .not (.t 22), none, [1]⟩,
       ⟨(some 24), .mov (.t 23), none, [2, 1]⟩,
       ⟨(some 25), .mov (.t 1), (some (24, false)), [3]⟩,
       ⟨(some 26), .call 9 [(.t 25)], (some (24, false)), [4, 3, 3]⟩,
       ⟨(some 27), .not (.t 26), (some (24, false)), [5, 3]⟩,
       ⟨(some 28), .pick (.t 24) (.c (.bool true)) (.t 27), none, [3, 6]⟩] false)
     (.cond (.t 28)
      (.seq
       (.region [
         ⟨(some 29), .call 10 [], none, []⟩,
         ⟨(some 10), .mov (.t 29), none, [0, 0, 0]⟩] false)
       .ret)
      .skip))
    (.seq
     (.region [
       ⟨(some 30), .mov (.t 1), none, []⟩,
       ⟨(some 31), .call 11 [(.t 30)], none, [0]⟩,
       ⟨(some 11), .mov (.t 31), none, [1, 1, 0, 1]⟩] false)
     (.seq
      (.region [
        ⟨(some 32), .mov (.t 2), none, []⟩,
        ⟨(some 33), .mov (.t 11), none, []⟩,
        ⟨(some 34), .call 12 [(.t 33), (.c (.int .i64 20))], none, [1]⟩,
        ⟨(some 35), .build [.int .u8 0, .nil] [(0, 1, (.t 32)), (1, 1, (.t 34))], none, [0, 2]⟩,
        ⟨(some 12), .alloc [.int .u8 0, .nil], none, []⟩,
        ⟨none, .store 2 (.t 12) (.t 35), none, [4, 3, 2, 0, 1, 2, 3, 4]⟩] false)
      (.seq
       (.seq
        (.region [
          ⟨(some 36), .mov (.t 11), none, []⟩,
          ⟨(some 37), .call 13 [(.t 36), (.c (.int .i64 20))], none, [0]⟩] false)
        (.cond (.t 37)
         (.region [
           ⟨(some 38), .mov (.t 11), none, []⟩,
           ⟨(some 39), .call 14 [(.t 38), (.c (.int .i64 2))], none, [0]⟩,
           ⟨(some 40), .arith .add (.c (.int .i64 255)) (.t 39), none, [1]⟩,
           ⟨(some 41), .mkslice 5 1 [.int .u8 0] (.t 40) (.t 40), none, [2, 2]⟩,
           ⟨(some 42), .faddr 1 (.t 12), none, [0, 1, 2, 3]⟩,
           ⟨none, .store 1 (.t 42) (.t 41), none, [4, 3, 1, 0, 1, 2, 3]⟩] false)
         .skip))
       (.seq
        (.seq
         (.region [
           ⟨(some 43), .mov (.t 0), none, []⟩,
           ⟨(some 44), .mov (.t 11), none, []⟩,
           ⟨(some 45), .call 15 [(.t 44), (.c (.int .i64 16))], none, [1]⟩,
           ⟨(some 46), .bsliceO 22 2 [.nil] [(0, (.t 43)), (1, (.t 45))], none, [0, 2]⟩,
           ⟨(some 47), .len 0 (.t 46), none, [3]⟩,
           ⟨(some 48), .mov (.c (.int .i64 0)), none, []⟩] false)
         (.block 0
          (.loop 0
           (.seq
            (.region [
              ⟨(some 49), .cmp .lss 0 (.t 48) (.t 47), none, []⟩] false)
            (.seq
             (.cond (.t 49)
              .skip
              (.exit 0))
             (.seq
              (.block 1
               (.seq
                (.region [
                  ⟨(some 50), .iaddrS [.nil] (.t 46) (.t 48), none, []⟩,
                  ⟨(some 51), .load 1 false (.t 50), none, [0]⟩,
                  ⟨(some 14), .mov (.t 51), none, [1, 0, 1]⟩] false)
                (.seq
                 (.region [
                   ⟨(some 52), .mov (.t 4), none, []⟩,
                   ⟨(some 53), .mov (.t 4), none, []⟩,
                   ⟨(some 54), .mov (.t 14), none, []⟩,
                   ⟨(some 55), .len 0 (.t 54), none, [2]⟩,
                   ⟨(some 56), .arith .add (.t 55) (.c (.int .i64 2)), none, [3]⟩,
                   ⟨(some 57), .call 16 [(.t 53), (.t 56)], none, [1, 4]⟩,
                   ⟨(some 58), .arith .sub (.t 57) (.c (.int .i64 1)), none, [5]⟩,
                   ⟨(some 59), .bsliceO 3 2 [.int .i64 0] [(0, (.t 52)), (1, (.t 58))], none, [0, 6]⟩,
                   ⟨(some 60), .len 0 (.t 59), none, [7]⟩,
                   ⟨(some 61), .mov (.c (.int .i64 0)), none, []⟩] false)
                 (.block 2
                  (.loop 1
                   (.seq
                    (.region [
                      ⟨(some 62), .cmp .lss 0 (.t 61) (.t 60), none, []⟩] false)
                    (.seq
                     (.cond (.t 62)
                      .skip
                      (.exit 2))
                     (.seq
                      (.block 3
                       (.seq
                        (.region [
                          ⟨(some 63), .iaddrS [.int .i64 0] (.t 59) (.t 61), none, []⟩,
                          ⟨(some 64), .load 1 false (.t 63), none, [0]⟩,
                          ⟨(some 16), .mov (.t 64), none, [1, 0, 1]⟩] false)
                        (.seq
                         (.region [
                           ⟨(some 66), .mov (.t 14), none, []⟩,
                           ⟨(some 67), .mov (.t 16), none, []⟩,
                           ⟨(some 68), .load 2 true (.t 12), none, []⟩,
                           ⟨(some 69), .call 17 [(.t 66), (.t 67), (.t 68)], none, [0, 1, 2]⟩,
                           ⟨(some 65), .mov (.t 69), none, [3]⟩,
                           ⟨(some 70), .extract 0 (.t 65), none, [4]⟩,
                           ⟨(some 71), .extract 1 (.t 65), none, [4]⟩,
                           ⟨(some 17), .mov (.t 70), none, [5, 3, 0, 1, 2, 3, 4, 5]⟩,
                           ⟨(some 18), .mov (.t 71), none, [6, 7, 0, 1, 2, 3, 4, 5, 6, 7]⟩] false)
                         (.seq
                          (.region [
                            ⟨(some 73), .mov (.t 14), none, []⟩,
                            ⟨(some 74), .mov (.t 16), none, []⟩,
                            ⟨(some 75), .load 2 true (.t 12), none, []⟩,
                            ⟨(some 76), .call 18 [(.t 73), (.t 74), (.t 75)], none, [0, 1, 2]⟩,
                            ⟨(some 72), .mov (.t 76), none, [3]⟩,
                            ⟨(some 77), .extract 0 (.t 72), none, [4]⟩,
                            ⟨(some 78), .extract 1 (.t 72), none, [4]⟩,
                            ⟨(some 19), .mov (.t 77), none, [5, 3, 0, 1, 2, 3, 4, 5]⟩,
                            ⟨(some 20), .mov (.t 78), none, [6, 7, 0, 1, 2, 3, 4, 5, 6, 7]⟩] false)
                          (.seq
                           (.region [
                             ⟨(some 79), .mov (.t 18), none, []⟩,
                             ⟨(some 80), .mov (.t 20), none, []⟩,
                             ⟨(some 81), .cmp .neq 0 (.t 79) (.t 80), none, [0, 1]⟩,
                             ⟨(some 82), .mov (.t 81), none, [2]⟩,
                             ⟨(some 83), .mov (.t 17), (some (82, false)), [3]⟩,
                             ⟨(some 84), .mov (.t 19), (some (82, false)), [3]⟩,
                             ⟨(some 85), .call 19 [(.t 83), (.t 84)], (some (82, false)), [4, 5, 3, 3]⟩,
                             ⟨(some 86), .not (.t 85), (some (82, false)), [6, 3]⟩,
                             ⟨(some 87), .pick (.t 82) (.c (.bool true)) (.t 86), none, [3, 7]⟩,
                             ⟨(some 88), .mov (.t 87), none, [8, 6]⟩,
                             ⟨(some 89), .mov (.t 14), (some (88, false)), [9]⟩,
                             ⟨(some 90), .mov (.t 2), (some (88, false)), [9]⟩,
                             ⟨(some 91), .arith .rem (.t 90) (.c (.int .u8 4)), (some (88, false)), [11, 9]⟩,
                             ⟨(some 92), .mov (.t 16), (some (88, false)), [9]⟩,
                             ⟨(some 93), .call 20 [(.t 89), (.t 91), (.t 92)], (some (88, false)), [10, 12, 13, 9, 9]⟩,
                             ⟨(some 94), .mov (.t 14), (some (88, false)), [9]⟩,
                             ⟨(some 95), .mov (.t 2), (some (88, false)), [9]⟩,
                             ⟨(some 96), .arith .rem (.t 95) (.c (.int .u8 4)), (some (88, false)), [16, 9]⟩,
                             ⟨(some 97), .mov (.t 16), (some (88, false)), [9]⟩,
                             ⟨(some 98), .call 21 [(.t 94), (.t 96), (.t 97)], (some (88, false)), [15, 17, 18, 14, 9]⟩,
                             ⟨(some 99), .cmp .neq 0 (.t 93) (.t 98), (some (88, false)), [14, 19, 9]⟩,
                             ⟨(some 100), .pick (.t 88) (.c (.bool true)) (.t 99), none, [9, 20]⟩,
                             ⟨(some 101), .mov (.t 100), none, [21, 19]⟩,
                             ⟨(some 102), .mov (.t 14), (some (101, false)), [22]⟩,
                             ⟨(some 103), .mov (.t 2), (some (101, false)), [22]⟩,
                             ⟨(some 104), .mov (.t 3), (some (101, false)), [22]⟩,
                             ⟨(some 105), .call 20 [(.t 102), (.t 103), (.t 104)], (some (101, false)), [23, 24, 25, 22, 22]⟩,
                             ⟨(some 106), .mov (.t 14), (some (101, false)), [22]⟩,
                             ⟨(some 107), .mov (.t 2), (some (101, false)), [22]⟩,
                             ⟨(some 108), .mov (.t 3), (some (101, false)), [22]⟩,
                             ⟨(some 109), .call 21 [(.t 106), (.t 107), (.t 108)], (some (101, false)), [27, 28, 29, 26, 22]⟩,
                             ⟨(some 110), .cmp .neq 0 (.t 105) (.t 109), (some (101, false)), [26, 30, 22]⟩,
                             ⟨(some 111), .pick (.t 101) (.c (.bool true)) (.t 110), none, [22, 31]⟩] false)
                           (.cond (.t 111)
                            (.seq
                             (.region [
                               ⟨(some 10), .mov (.c (.bool false)), none, []⟩] false)
                             .ret)
                            .skip))))))
                      (.region [
                        ⟨(some 112), .arith .add (.t 61) (.c (.int .i64 1)), none, []⟩,
                        ⟨(some 61), .mov (.t 112), none, [0]⟩] false)))))))))
              (.region [
                ⟨(some 113), .arith .add (.t 48) (.c (.int .i64 1)), none, []⟩,
                ⟨(some 48), .mov (.t 113), none, [0]⟩] false)))))))
        (.seq
         (.region [
           ⟨(some 114), .call 10 [], none, []⟩,
           ⟨(some 10), .mov (.t 114), none, [0, 0, 0]⟩] false)
         .ret)))))))
def rv3 : List RV := [.t 10]
theorem rc3_ok : comp Try.prog Try.f3.ntmps (Try.f3.body.getD .skip) = some (erase rc3) := by kernel_rfl
theorem rv3_ok : compRes Try.prog Try.f3.results.toList = some rv3 := by kernel_rfl

/-- baseboard/baseboardlaw18.MultirecordPuts [23, 3, 5, 29] -/
def rc4 : RC :=
  (.seq
   (.region [
     ⟨(some 8), .mov (.c (.bool false)), none, []⟩] false)
   (.seq
    (.seq
     (.region [
       ⟨(some 16), .mov (.t 0), none, []⟩,
       ⟨(some 17), .call 9 [(.t 16)], none, [0]⟩,
       ⟨(some 18), .not (.t 17), none, [1]⟩,
       ⟨(some 19), .mov (.t 18), none, [2, 1]⟩,
       ⟨(some 20), .mov (.t 3), (some (19, false)), [3]⟩,
       ⟨(some 21), .len 0 (.t 20), (some (19, false)), [4, 3]⟩,
       ⟨(some 22), .cmp .gtr 0 (.t 21) (.c (.int .i64 200)), (some (19, false)), [5, 3]⟩,
       ⟨(some 23), .pick (.t 19) (.c (.bool true)) (.t 22), none, [3, 6]⟩] false)
     (.cond (.t 23)
      (.seq
       (.region [
         ⟨(some 24), .call 10 [], none, []⟩,
         ⟨(some 8), .mov (.t 24), none, [0, 0, 0]⟩] false)
       .ret)
      .skip))
    (.seq
     (.region [
       ⟨(some 25), .mov (.t 0), none, []⟩,
       ⟨(some 26), .call 11 [(.t 25)], none, [0]⟩,
       ⟨(some 27), .call 15 [(.t 26), (.c (.int .i64 7))], none, [1, 1]⟩,
       ⟨(some 9), .mov (.t 27), none, [2, 2, 0, 1, 2]⟩] false)
     (.seq
      (.region [
        ⟨(some 28), .mov (.t 9), none, []⟩,
        ⟨(some 29), .call 22 [(.t 28)], none, [0]⟩,
        ⟨(some 10), .mov (.t 29), none, [1, 1, 0, 1]⟩] false)
      (.seq
       (.region [
         ⟨(some 30), .mov (.t 1), none, []⟩,
         ⟨(some 31), .mov (.t 9), none, []⟩,
         ⟨(some 32), .len 0 (.t 31), none, [1]⟩,
         ⟨(some 33), .arith .add (.t 32) (.c (.int .i64 1)), none, [2]⟩,
         ⟨(some 34), .call 16 [(.t 30), (.t 33)], none, [0, 3]⟩,
         ⟨(some 11), .mov (.t 34), none, [4, 4, 0, 1, 2, 3, 4]⟩] false)
       (.seq
        (.region [
          ⟨(some 36), .mov (.t 9), none, []⟩,
          ⟨(some 37), .mov (.t 11), none, []⟩,
          ⟨(some 38), .mov (.t 2), none, []⟩,
          ⟨(some 39), .mov (.t 3), none, []⟩,
          ⟨(some 40), .build [.int .u8 0, .nil] [(0, 1, (.t 38)), (1, 1, (.t 39))], none, [2, 3]⟩,
          ⟨(some 41), .call 17 [(.t 36), (.t 37), (.t 40)], none, [0, 1, 4]⟩,
          ⟨(some 35), .mov (.t 41), none, [5]⟩,
          ⟨(some 42), .extract 0 (.t 35), none, [6]⟩,
          ⟨(some 43), .extract 1 (.t 35), none, [6]⟩,
          ⟨(some 12), .mov (.t 42), none, [7, 5, 0, 1, 2, 3, 4, 5, 6, 7]⟩,
          ⟨(some 13), .mov (.t 43), none, [8, 9, 0, 1, 2, 3, 4, 5, 6, 7, 8, 9]⟩] false)
        (.seq
         (.seq
          (.region [
            ⟨(some 44), .mov (.t 9), none, []⟩,
            ⟨(some 45), .mov (.t 10), none, []⟩,
            ⟨(some 46), .call 19 [(.t 44), (.t 45)], none, [0, 1]⟩,
            ⟨(some 47), .not (.t 46), none, [2]⟩] false)
          (.cond (.t 47)
           (.seq
            (.region [
              ⟨(some 8), .mov (.c (.bool false)), none, []⟩] false)
            .ret)
           .skip))
         (.seq
          (.seq
           (.region [
             ⟨(some 48), .mov (.t 13), none, []⟩,
             ⟨(some 49), .cmp .neq 0 (.t 48) (.c (.int .i64 0)), none, [0]⟩] false)
           (.cond (.t 49)
            (.seq
             (.region [
               ⟨(some 50), .mov (.t 13), none, []⟩,
               ⟨(some 51), .cmp .eql 0 (.t 50) (.c (.int .i64 1)), none, [0]⟩,
               ⟨(some 52), .mov (.t 51), none, [1]⟩,
               ⟨(some 53), .mov (.t 12), (some (52, true)), [2]⟩,
               ⟨(some 54), .len 0 (.t 53), (some (52, true)), [3, 2]⟩,
               ⟨(some 55), .cmp .eql 0 (.t 54) (.c (.int .i64 0)), (some (52, true)), [4, 2]⟩,
               ⟨(some 56), .pick (.t 52) (.t 55) (.c (.bool false)), none, [2, 5]⟩,
               ⟨(some 57), .mov (.t 56), none, [6, 2]⟩,
               ⟨(some 58), .call 10 [], (some (57, true)), [7, 7]⟩,
               ⟨(some 59), .pick (.t 57) (.t 58) (.c (.bool false)), none, [7, 8]⟩,
               ⟨(some 8), .mov (.t 59), none, [9, 8, 0, 1, 2, 3, 4, 5, 6, 7, 8, 9]⟩] false)
             .ret)
            .skip))
          (.seq
           (.seq
            (.region [
              ⟨(some 60), .mov (.t 12), none, []⟩,
              ⟨(some 61), .len 0 (.t 60), none, [0]⟩,
              ⟨(some 62), .mov (.t 9), none, []⟩,
              ⟨(some 63), .len 0 (.t 62), none, [2]⟩,
              ⟨(some 64), .mov (.t 11), none, []⟩,
              ⟨(some 65), .arith .add (.t 64) (.c (.int .i64 1)), none, [4]⟩,
              ⟨(some 66), .minmax true [(.t 63), (.t 65)], none, [3, 5]⟩,
              ⟨(some 67), .cmp .neq 0 (.t 61) (.t 66), none, [1, 6]⟩,
              ⟨(some 68), .mov (.t 67), none, [7]⟩,
              ⟨(some 69), .mov (.t 12), (some (68, false)), [8]⟩,
              ⟨(some 70), .mov (.t 11), (some (68, false)), [8]⟩,
              ⟨(some 71), .iaddrS [.int .u8 0, .nil] (.t 69) (.t 70), (some (68, false)), [9, 10, 8]⟩,
              ⟨(some 72), .faddr 0 (.t 71), (some (68, false)), [11, 8]⟩,
              ⟨(some 73), .load 1 false (.t 72), (some (68, false)), [12, 8]⟩,
              ⟨(some 74), .mov (.t 2), (some (68, false)), [8]⟩,
              ⟨(some 75), .cmp .neq 0 (.t 73) (.t 74), (some (68, false)), [13, 14, 8]⟩,
              ⟨(some 76), .pick (.t 68) (.c (.bool true)) (.t 75), none, [8, 15]⟩,
              ⟨(some 77), .mov (.t 76), none, [16, 8]⟩,
              ⟨(some 78), .mov (.t 12), (some (77, false)), [17]⟩,
              ⟨(some 79), .mov (.t 11), (some (77, false)), [17]⟩,
              ⟨(some 80), .iaddrS [.int .u8 0, .nil] (.t 78) (.t 79), (some (77, false)), [18, 19, 17]⟩,
              ⟨(some 81), .faddr 1 (.t 80), (some (77, false)), [20, 17]⟩,
              ⟨(some 82), .load 1 false (.t 81), (some (77, false)), [21, 17]⟩,
              ⟨(some 83), .mov (.t 3), (some (77, false)), [17]⟩,
              ⟨(some 84), .call 23 [(.t 82), (.t 83)], (some (77, false)), [22, 23, 17, 17]⟩,
              ⟨(some 85), .not (.t 84), (some (77, false)), [24, 17]⟩,
              ⟨(some 86), .pick (.t 77) (.c (.bool true)) (.t 85), none, [17, 25]⟩] false)
            (.cond (.t 86)
             (.seq
              (.region [
                ⟨(some 8), .mov (.c (.bool false)), none, []⟩] false)
              .ret)
             .skip))
           (.seq
            (.seq
             (.region [
               ⟨(some 14), .mov (.c (.int .i64 0)), none, []⟩] false)
             (.block 0
              (.loop 0
               (.seq
                (.seq
                 (.region [
                   ⟨(some 87), .mov (.t 14), none, []⟩,
                   ⟨(some 88), .mov (.t 12), none, []⟩,
                   ⟨(some 89), .len 0 (.t 88), none, [1]⟩,
                   ⟨(some 90), .cmp .lss 0 (.t 87) (.t 89), none, [0, 2]⟩] false)
                 (.cond (.t 90)
                  .skip
                  (.exit 0)))
                (.seq
                 (.block 1
                  (.seq
                   (.region [
                     ⟨(some 93), .mov (.t 14), none, []⟩,
                     ⟨(some 94), .mov (.t 11), none, []⟩,
                     ⟨(some 95), .cmp .neq 0 (.t 93) (.t 94), none, [1, 0]⟩,
                     ⟨(some 96), .mov (.t 95), none, [0, 1, 2]⟩,
                     ⟨(some 97), .mov (.t 12), (some (96, true)), [2, 1, 0, 3]⟩,
                     ⟨(some 98), .mov (.t 14), (some (96, true)), [2, 1, 0, 3]⟩,
                     ⟨(some 99), .iaddrS [.int .u8 0, .nil] (.t 97) (.t 98), (some (96, true)), [0, 1, 2, 3, 5, 4]⟩,
                     ⟨(some 100), .faddr 0 (.t 99), (some (96, true)), [4, 5, 2, 1, 0, 3, 6]⟩,
                     ⟨(some 101), .load 1 false (.t 100), (some (96, true)), [6, 0, 1, 2, 5, 4, 3, 7]⟩,
                     ⟨(some 102), .mov (.t 9), (some (96, true)), [2, 1, 0, 3]⟩,
                     ⟨(some 103), .mov (.t 14), (some (96, true)), [2, 1, 0, 3]⟩,
                     ⟨(some 104), .iaddrS [.int .u8 0, .nil] (.t 102) (.t 103), (some (96, true)), [0, 1, 2, 3, 10, 9]⟩,
                     ⟨(some 105), .faddr 0 (.t 104), (some (96, true)), [9, 10, 2, 1, 0, 3, 11]⟩,
                     ⟨(some 106), .load 1 false (.t 105), (some (96, true)), [11, 0, 1, 2, 10, 9, 3, 12]⟩,
                     ⟨(some 107), .cmp .neq 0 (.t 101) (.t 106), (some (96, true)), [12, 9, 10, 11, 7, 4, 5, 2, 1, 0, 6, 3, 13, 8]⟩,
                     ⟨(some 108), .mov (.t 107), (some (96, true)), [8, 13, 6, 0, 1, 2, 5, 4, 7, 11, 10, 9, 12, 3, 14]⟩,
                     ⟨(some 109), .mov (.t 12), (some (108, false)), [14, 3, 12, 9, 10, 11, 7, 4, 5, 2, 1, 0, 6, 13, 8, 15]⟩,
                     ⟨(some 110), .mov (.t 14), (some (108, false)), [14, 3, 12, 9, 10, 11, 7, 4, 5, 2, 1, 0, 6, 13, 8, 15]⟩,
                     ⟨(some 111), .iaddrS [.int .u8 0, .nil] (.t 109) (.t 110), (some (108, false)), [8, 13, 6, 0, 1, 2, 5, 4, 7, 11, 10, 9, 12, 3, 14, 15, 17, 16]⟩,
                     ⟨(some 112), .faddr 1 (.t 111), (some (108, false)), [16, 17, 14, 3, 12, 9, 10, 11, 7, 4, 5, 2, 1, 0, 6, 13, 8, 15, 18]⟩,
                     ⟨(some 113), .load 1 false (.t 112), (some (108, false)), [18, 8, 13, 6, 0, 1, 2, 5, 4, 7, 11, 10, 9, 12, 3, 14, 17, 16, 15, 19]⟩,
                     ⟨(some 114), .mov (.t 9), (some (108, false)), [14, 3, 12, 9, 10, 11, 7, 4, 5, 2, 1, 0, 6, 13, 8, 15]⟩,
                     ⟨(some 115), .mov (.t 14), (some (108, false)), [14, 3, 12, 9, 10, 11, 7, 4, 5, 2, 1, 0, 6, 13, 8, 15]⟩,
                     ⟨(some 116), .iaddrS [.int .u8 0, .nil] (.t 114) (.t 115), (some (108, false)), [8, 13, 6, 0, 1, 2, 5, 4, 7, 11, 10, 9, 12, 3, 14, 15, 22, 21]⟩,
                     ⟨(some 117), .faddr 1 (.t 116), (some (108, false)), [21, 22, 14, 3, 12, 9, 10, 11, 7, 4, 5, 2, 1, 0, 6, 13, 8, 15, 23]⟩,
                     ⟨(some 118), .load 1 false (.t 117), (some (108, false)), [23, 8, 13, 6, 0, 1, 2, 5, 4, 7, 11, 10, 9, 12, 3, 14, 22, 21, 15, 24]⟩,
                     ⟨(some 119), .call 23 [(.t 113), (.t 118)], (some (108, false)), [24, 21, 22, 23, 19, 16, 17, 14, 3, 12, 9, 10, 11, 7, 4, 5, 2, 1, 0, 6, 13, 8, 18, 15, 25, 20]⟩,
                     ⟨(some 120), .not (.t 119), (some (108, false)), [20, 25, 18, 8, 13, 6, 0, 1, 2, 5, 4, 7, 11, 10, 9, 12, 3, 14, 17, 16, 19, 23, 22, 21, 24, 15, 26]⟩,
                     ⟨(some 121), .pick (.t 108) (.c (.bool true)) (.t 120), (some (96, true)), [26, 24, 21, 22, 23, 19, 16, 17, 18, 25, 20, 14, 12, 9, 10, 11, 7, 4, 5, 2, 1, 0, 6, 13, 8, 3, 27, 15]⟩,
                     ⟨(some 122), .pick (.t 96) (.t 121) (.c (.bool false)), none, [15, 27, 8, 13, 6, 5, 4, 7, 11, 10, 9, 12, 14, 20, 25, 18, 17, 16, 19, 23, 22, 21, 24, 26, 2, 1, 0, 28, 3]⟩] true)
                   (.cond (.t 122)
                    (.seq
                     (.region [
                       ⟨(some 8), .mov (.c (.bool false)), none, []⟩] false)
                     .ret)
                    .skip)))
                 (.region [
                   ⟨(some 91), .mov (.t 14), none, []⟩,
                   ⟨(some 92), .arith .add (.t 91) (.c (.int .i64 1)), none, [0]⟩,
                   ⟨(some 14), .mov (.t 92), none, [1, 0, 1]⟩] false))))))
            (.seq
             (.region [
               ⟨(some 123), .mov (.t 12), none, []⟩,
               ⟨(some 124), .mov (.t 2), none, []⟩,
               ⟨(some 125), .call 20 [(.t 123), (.t 124), (.c (.int .i64 0))], none, [0, 1]⟩,
               ⟨(some 15), .mov (.t 125), none, [2, 2, 0, 1, 2]⟩] false)
             (.seq
              (.region [
                ⟨(some 126), .mov (.t 12), none, []⟩,
                ⟨(some 127), .mov (.t 2), none, []⟩,
                ⟨(some 128), .mov (.t 11), none, []⟩,
                ⟨(some 129), .call 20 [(.t 126), (.t 127), (.t 128)], none, [0, 1, 2]⟩,
                ⟨(some 130), .mov (.t 11), none, []⟩,
                ⟨(some 131), .cmp .eql 0 (.t 129) (.t 130), none, [3, 4]⟩,
                ⟨(some 132), .mov (.t 131), none, [5, 3]⟩,
                ⟨(some 133), .mov (.t 15), (some (132, true)), [6]⟩,
                ⟨(some 134), .cmp .geq 0 (.t 133) (.c (.int .i64 0)), (some (132, true)), [7, 6]⟩,
                ⟨(some 135), .pick (.t 132) (.t 134) (.c (.bool false)), none, [6, 8]⟩,
                ⟨(some 136), .mov (.t 135), none, [9, 6]⟩,
                ⟨(some 137), .mov (.t 15), (some (136, true)), [10]⟩,
                ⟨(some 138), .mov (.t 11), (some (136, true)), [10]⟩,
                ⟨(some 139), .cmp .leq 0 (.t 137) (.t 138), (some (136, true)), [11, 12, 10]⟩,
                ⟨(some 140), .pick (.t 136) (.t 139) (.c (.bool false)), none, [10, 13]⟩,
                ⟨(some 141), .mov (.t 140), none, [14, 10]⟩,
                ⟨(some 142), .mov (.t 12), (some (141, true)), [15]⟩,
                ⟨(some 143), .mov (.t 2), (some (141, true)), [15]⟩,
                ⟨(some 144), .mov (.t 12), (some (141, true)), [15]⟩,
                ⟨(some 145), .len 0 (.t 144), (some (141, true)), [18, 15]⟩,
                ⟨(some 146), .call 20 [(.t 142), (.t 143), (.t 145)], (some (141, true)), [16, 17, 19, 15, 15]⟩,
                ⟨(some 147), .cmp .eql 0 (.t 146) (.c (.int .i64 (-1))), (some (141, true)), [20, 15]⟩,
                ⟨(some 148), .pick (.t 141) (.t 147) (.c (.bool false)), none, [15, 21]⟩,
                ⟨(some 149), .mov (.t 148), none, [22, 20]⟩,
                ⟨(some 150), .call 10 [], (some (149, true)), [23, 23]⟩,
                ⟨(some 151), .pick (.t 149) (.t 150) (.c (.bool false)), none, [23, 24]⟩,
                ⟨(some 8), .mov (.t 151), none, [25, 24, 0, 1, 2, 3, 4, 5, 6, 7, 8, 9, 10, 11, 12, 13, 14, 15, 16, 17, 18, 19, 20, 21, 22, 23, 24, 25]⟩] false)
              .ret))))))))))))
def rv4 : List RV := [.t 8]
theorem rc4_ok : comp Try.prog Try.f4.ntmps (Try.f4.body.getD .skip) = some (erase rc4) := by kernel_rfl
theorem rv4_ok : compRes Try.prog Try.f4.results.toList = some rv4 := by kernel_rfl

/-- baseboard/baseboardlaw18.light [22] -/
def rc8 : RC :=
  (.seq
   (.region [
     ⟨(some 2), .mov (.c (.bool false)), none, []⟩] false)
   (.seq
    (.seq
     (.region [
       ⟨(some 4), .mov (.t 0), none, []⟩,
       ⟨(some 5), .len 0 (.t 4), none, [0]⟩,
       ⟨(some 6), .cmp .gtr 0 (.t 5) (.c (.int .i64 40)), none, [1]⟩] false)
     (.cond (.t 6)
      (.seq
       (.region [
         ⟨(some 2), .mov (.c (.bool false)), none, []⟩] false)
       .ret)
      .skip))
    (.seq
     (.seq
      (.region [
        ⟨(some 3), .mov (.c (.int .i64 0)), none, []⟩] false)
      (.block 0
       (.loop 0
        (.seq
         (.seq
          (.region [
            ⟨(some 7), .mov (.t 3), none, []⟩,
            ⟨(some 8), .mov (.t 0), none, []⟩,
            ⟨(some 9), .len 0 (.t 8), none, [1]⟩,
            ⟨(some 10), .cmp .lss 0 (.t 7) (.t 9), none, [0, 2]⟩] false)
          (.cond (.t 10)
           .skip
           (.exit 0)))
         (.seq
          (.block 1
           (.seq
            (.region [
              ⟨(some 13), .mov (.t 0), none, []⟩,
              ⟨(some 14), .mov (.t 3), none, []⟩,
              ⟨(some 15), .iaddrS [.int .u8 0, .nil] (.t 13) (.t 14), none, [0, 1]⟩,
              ⟨(some 16), .faddr 1 (.t 15), none, [2]⟩,
              ⟨(some 17), .load 1 false (.t 16), none, [3]⟩,
              ⟨(some 18), .len 0 (.t 17), none, [4]⟩,
              ⟨(some 19), .cmp .gtr 0 (.t 18) (.c (.int .i64 400)), none, [5]⟩] false)
            (.cond (.t 19)
             (.seq
              (.region [
                ⟨(some 2), .mov (.c (.bool false)), none, []⟩] false)
              .ret)
             .skip)))
          (.region [
            ⟨(some 11), .mov (.t 3), none, []⟩,
            ⟨(some 12), .arith .add (.t 11) (.c (.int .i64 1)), none, [0]⟩,
            ⟨(some 3), .mov (.t 12), none, [1, 0, 1]⟩] false))))))
     (.seq
      (.region [
        ⟨(some 2), .mov (.c (.bool true)), none, []⟩] false)
      .ret))))
def rv8 : List RV := [.t 2]
theorem rc8_ok : comp Try.prog Try.f8.ntmps (Try.f8.body.getD .skip) = some (erase rc8) := by kernel_rfl
theorem rv8_ok : compRes Try.prog Try.f8.results.toList = some rv8 := by kernel_rfl

/-- baseboard/baseboardmade.Light [23] -/
def rc9 : RC :=
  (.seq
   (.region [
     ⟨(some 2), .mov (.c (.bool false)), none, []⟩] false)
   (.seq
    (.region [
      ⟨(some 3), .mov (.t 0), none, []⟩,
      ⟨(some 4), .len 0 (.t 3), none, [0]⟩,
      ⟨(some 5), .cmp .leq 0 (.t 4) (.c (.int .i64 600)), none, [1]⟩,
      ⟨(some 2), .mov (.t 5), none, [2, 0, 1, 2]⟩] false)
    .ret))
def rv9 : List RV := [.t 2]
theorem rc9_ok : comp Try.prog Try.f9.ntmps (Try.f9.body.getD .skip) = some (erase rc9) := by kernel_rfl
theorem rv9_ok : compRes Try.prog Try.f9.results.toList = some rv9 := by kernel_rfl

/-- baseboard/baseboardlaw18.awake [] -/
def rc10 : RC :=
  (.seq
   (.region [
     ⟨(some 0), .mov (.c (.bool false)), none, []⟩] false)
   (.seq
    (.region [
      ⟨(some 4), .bslice 2 [.int .u8 0] [(0, (.c (.int .u8 1))), (1, (.c (.int .u8 2)))], none, []⟩,
      ⟨(some 5), .build [.int .u8 0, .nil] [(0, 1, (.c (.int .u8 192))), (1, 1, (.t 4))], none, [0]⟩,
      ⟨(some 6), .bslice 1 [.int .u8 0, .nil] [(0, (.t 5))], none, [1]⟩,
      ⟨(some 7), .call 24 [(.t 6)], none, [2]⟩,
      ⟨(some 3), .mov (.t 7), none, [3]⟩,
      ⟨(some 8), .extract 0 (.t 3), none, [4]⟩,
      ⟨(some 9), .extract 1 (.t 3), none, [4]⟩,
      ⟨(some 1), .mov (.t 8), none, [5, 3, 0, 1, 2, 3, 4, 5]⟩,
      ⟨(some 2), .mov (.t 9), none, [6, 7, 0, 1, 2, 3, 4, 5, 6, 7]⟩] false)
    (.seq
     (.split [
       ⟨(some 10), .mov (.t 2), none, []⟩,
       ⟨(some 11), .cmp .eql 0 (.t 10) (.c (.int .i64 0)), none, [0]⟩,
       ⟨(some 12), .mov (.t 11), none, [1]⟩,
       ⟨(some 13), .mov (.t 1), (some (12, true)), [2]⟩,
       ⟨(some 14), .bslice 7 [.int .u8 0] [(0, (.c (.int .u8 192))), (1, (.c (.int .u8 130))), (2, (.c (.int .u8 2))), (3, (.c (.int .u8 253))), (4, (.c (.int .u8 191))), (5, (.c (.int .u8 1))), (6, (.c (.int .u8 2)))], (some (12, true)), [2]⟩,
       ⟨(some 15), .call 23 [(.t 13), (.t 14)], (some (12, true)), [3, 4, 2, 2]⟩,
       ⟨(some 16), .pick (.t 12) (.t 15) (.c (.bool false)), none, [2, 5]⟩,
       ⟨(some 0), .mov (.t 16), none, [6, 5, 0, 1, 2, 3, 4, 5, 6]⟩])
     .ret)))
def rv10 : List RV := [.t 0]
theorem rc10_ok : comp Try.prog Try.f10.ntmps (Try.f10.body.getD .skip) = some (erase rc10) := by kernel_rfl
theorem rv10_ok : compRes Try.prog Try.f10.results.toList = some rv10 := by kernel_rfl

/-- baseboard/baseboardmade.Roll [23] -/
def rc11 : RC :=
  (.seq
   (.region [
     ⟨(some 2), .mov (.c (.junk)), none, []⟩] false)
   (.seq
    (.region [
      ⟨(some 3), .mov (.t 0), none, []⟩,
      ⟨(some 4), .build [.nil, .int .i64 0] [(0, 1, (.t 3))], none, [0]⟩,
      ⟨(some 5), .box 2 (.t 4), none, [1]⟩,
      ⟨(some 2), .mov (.t 5), none, [2, 0, 1, 2]⟩] false)
    .ret))
def rv11 : List RV := [.t 2]
theorem rc11_ok : comp Try.prog Try.f11.ntmps (Try.f11.body.getD .skip) = some (erase rc11) := by kernel_rfl
theorem rv11_ok : compRes Try.prog Try.f11.results.toList = some rv11 := by kernel_rfl

/-- (*baseboard/baseboardmade.Dice).Bytes [27, 3] -/
def rc12 : RC :=
  (.seq
   (.region [
     ⟨(some 4), .mov (.c (.nil)), none, []⟩] false)
   (.seq
    (.region [
      ⟨(some 5), .mov (.c (.nil)), none, []⟩] false)
    (.seq
     (.seq
      (.region [
        ⟨(some 7), .mov (.t 0), none, []⟩,
        ⟨(some 8), .mov (.t 1), none, []⟩,
        ⟨(some 9), .arith .add (.t 8) (.c (.int .i64 1)), none, [1]⟩,
        ⟨(some 10), .call 14 [(.t 7), (.t 9)], none, [0, 2]⟩,
        ⟨(some 6), .mov (.t 10), none, [3, 3, 0, 1, 2, 3]⟩] false)
      (.block 0
       (.loop 0
        (.seq
         (.seq
          (.region [
            ⟨(some 11), .mov (.t 6), none, []⟩,
            ⟨(some 12), .cmp .gtr 0 (.t 11) (.c (.int .i64 0)), none, [0]⟩] false)
          (.cond (.t 12)
           .skip
           (.exit 0)))
         (.seq
          (.block 1
           (.region [
             ⟨(some 15), .mov (.t 5), none, []⟩,
             ⟨(some 16), .mov (.t 0), none, []⟩,
             ⟨(some 17), .call 28 [(.t 16)], none, [1]⟩,
             ⟨(some 18), .bsliceO 5 1 [.int .u8 0] [(0, (.t 17))], none, [2]⟩,
             ⟨(some 19), .append 5 1 [.int .u8 0] (.t 15) (.t 18), none, [0, 3, 2]⟩,
             ⟨(some 5), .mov (.t 19), none, [4, 4, 0, 1, 2, 3, 4]⟩] false))
          (.region [
            ⟨(some 13), .mov (.t 6), none, []⟩,
            ⟨(some 14), .arith .sub (.t 13) (.c (.int .i64 1)), none, [0]⟩,
            ⟨(some 6), .mov (.t 14), none, [1, 0, 1]⟩] false))))))
     (.seq
      (.region [
        ⟨(some 20), .mov (.t 5), none, []⟩,
        ⟨(some 4), .mov (.t 20), none, [0, 0]⟩] false)
      .ret))))
def rv12 : List RV := [.t 4]
theorem rc12_ok : comp Try.prog Try.f12.ntmps (Try.f12.body.getD .skip) = some (erase rc12) := by kernel_rfl
theorem rv12_ok : compRes Try.prog Try.f12.results.toList = some rv12 := by kernel_rfl

/-- (*baseboard/baseboardmade.Dice).Bool [27, 3] -/
def rc13 : RC :=
  (.seq
   (.region [
     ⟨(some 4), .mov (.c (.bool false)), none, []⟩] false)
   (.seq
    (.region [
      ⟨(some 5), .mov (.t 0), none, []⟩,
      ⟨(some 6), .mov (.t 1), none, []⟩,
      ⟨(some 7), .call 14 [(.t 5), (.t 6)], none, [0, 1]⟩,
      ⟨(some 8), .mov (.t 1), none, []⟩,
      ⟨(some 9), .arith .sub (.t 8) (.c (.int .i64 1)), none, [3]⟩,
      ⟨(some 10), .cmp .eql 0 (.t 7) (.t 9), none, [2, 4]⟩,
      ⟨(some 4), .mov (.t 10), none, [5, 2, 0, 1, 2, 3, 4, 5]⟩] false)
    .ret))
def rv13 : List RV := [.t 4]
theorem rc13_ok : comp Try.prog Try.f13.ntmps (Try.f13.body.getD .skip) = some (erase rc13) := by kernel_rfl
theorem rv13_ok : compRes Try.prog Try.f13.results.toList = some rv13 := by kernel_rfl

/-- (*baseboard/baseboardmade.Dice).Next [27, 3] -/
def rc14 : RC :=
  (.seq
   (.region [
     ⟨(some 4), .mov (.c (.int .i64 0)), none, []⟩] false)
   (.seq
    (.seq
     (.region [
       ⟨(some 5), .mov (.t 0), none, []⟩,
       ⟨(some 6), .nilchk (.t 5), none, [0]⟩,
       ⟨(some 7), .faddr 1 (.t 6), none, [0, 1]⟩,
       ⟨(some 8), .load 1 false (.t 7), none, [1, 0, 2]⟩,
       ⟨(some 9), .mov (.t 0), none, []⟩,
       ⟨(some 10), .nilchk (.t 9), none, [4]⟩,
       ⟨(some 11), .faddr 0 (.t 10), none, [4, 5]⟩,
       ⟨(some 12), .load 1 false (.t 11), none, [5, 4, 6]⟩,
       ⟨(some 13), .len 0 (.t 12), none, [6, 4, 5, 7]⟩,
       ⟨(some 14), .cmp .geq 0 (.t 8) (.t 13), none, [7, 5, 4, 6, 2, 0, 1, 8, 3]⟩] true)
     (.cond (.t 14)
      (.seq
       (.region [
         ⟨(some 4), .mov (.c (.int .i64 0)), none, []⟩] false)
       .ret)
      .skip))
    (.seq
     (.region [
       ⟨(some 15), .mov (.t 0), none, []⟩,
       ⟨(some 16), .nilchk (.t 15), none, [0]⟩,
       ⟨(some 17), .faddr 1 (.t 16), none, [1]⟩,
       ⟨(some 18), .load 1 false (.t 17), none, [2]⟩,
       ⟨(some 19), .arith .add (.t 18) (.c (.int .i64 1)), none, [3]⟩,
       ⟨(some 20), .nilchk (.t 15), none, [0, 0, 1, 2, 3, 4]⟩,
       ⟨(some 21), .faddr 1 (.t 20), none, [5, 0, 1, 2, 3, 4]⟩,
       ⟨none, .store 1 (.t 21) (.t 19), none, [6, 4, 0, 1, 2, 3, 4]⟩] false)
     (.seq
      (.region [
        ⟨(some 22), .mov (.t 0), none, []⟩,
        ⟨(some 23), .nilchk (.t 22), none, [0]⟩,
        ⟨(some 24), .faddr 0 (.t 23), none, [0, 1]⟩,
        ⟨(some 25), .load 1 false (.t 24), none, [1, 0, 2]⟩,
        ⟨(some 26), .mov (.t 0), none, []⟩,
        ⟨(some 27), .nilchk (.t 26), none, [4]⟩,
        ⟨(some 28), .faddr 1 (.t 27), none, [4, 5]⟩,
        ⟨(some 29), .load 1 false (.t 28), none, [5, 4, 6]⟩,
        ⟨(some 30), .arith .sub (.t 29) (.c (.int .i64 1)), none, [6, 4, 5, 7]⟩,
        ⟨(some 31), .iaddrS [.int .i64 0] (.t 25) (.t 30), none, [7, 5, 4, 6, 2, 0, 1, 8, 3]⟩,
        ⟨(some 32), .load 1 false (.t 31), none, [3, 8, 1, 0, 2, 6, 4, 5, 7, 9]⟩,
        ⟨(some 33), .mov (.t 1), none, []⟩,
        ⟨(some 34), .call 16 [(.t 32), (.t 33)], none, [9, 7, 5, 4, 6, 2, 0, 1, 8, 3, 11, 10]⟩,
        ⟨(some 4), .mov (.t 34), none, [11, 10, 9, 8, 7, 6, 5, 4, 3, 2, 1, 0, 12]⟩] true)
      .ret))))
def rv14 : List RV := [.t 4]
theorem rc14_ok : comp Try.prog Try.f14.ntmps (Try.f14.body.getD .skip) = some (erase rc14) := by kernel_rfl
theorem rv14_ok : compRes Try.prog Try.f14.results.toList = some rv14 := by kernel_rfl

/-- (*baseboard/baseboardmade.Dice).Records [27, 3] -/
def rc15 : RC :=
  (.seq
   (.region [
     ⟨(some 4), .mov (.c (.nil)), none, []⟩] false)
   (.seq
    (.region [
      ⟨(some 5), .mov (.c (.nil)), none, []⟩] false)
    (.seq
     (.seq
      (.region [
        ⟨(some 8), .mov (.t 0), none, []⟩,
        ⟨(some 9), .mov (.t 1), none, []⟩,
        ⟨(some 10), .arith .add (.t 9) (.c (.int .i64 1)), none, [1]⟩,
        ⟨(some 11), .call 14 [(.t 8), (.t 10)], none, [0, 2]⟩,
        ⟨(some 6), .mov (.t 11), none, [3, 3, 0, 1, 2, 3]⟩] false)
      (.block 0
       (.loop 0
        (.seq
         (.seq
          (.region [
            ⟨(some 12), .mov (.t 6), none, []⟩,
            ⟨(some 13), .cmp .gtr 0 (.t 12) (.c (.int .i64 0)), none, [0]⟩] false)
          (.cond (.t 13)
           .skip
           (.exit 0)))
         (.seq
          (.block 1
           (.seq
            (.region [
              ⟨(some 16), .mov (.t 0), none, []⟩,
              ⟨(some 17), .call 14 [(.t 16), (.c (.int .i64 4))], none, [0]⟩,
              ⟨(some 18), .conv .u8 (.t 17), none, [1]⟩,
              ⟨(some 19), .mov (.t 0), none, []⟩,
              ⟨(some 20), .call 12 [(.t 19), (.c (.int .i64 12))], none, [3, 1]⟩,
              ⟨(some 21), .build [.int .u8 0, .nil] [(0, 1, (.t 18)), (1, 1, (.t 20))], none, [2, 4]⟩,
              ⟨(some 7), .alloc [.int .u8 0, .nil], none, []⟩,
              ⟨none, .store 2 (.t 7) (.t 21), none, [6, 5, 4, 0, 1, 2, 3, 4, 5, 6]⟩] false)
            (.seq
             (.seq
              (.region [
                ⟨(some 22), .mov (.t 0), none, []⟩,
                ⟨(some 23), .call 13 [(.t 22), (.c (.int .i64 40))], none, [0]⟩] false)
              (.cond (.t 23)
               (.region [
                 ⟨(some 24), .mov (.t 0), none, []⟩,
                 ⟨(some 25), .call 14 [(.t 24), (.c (.int .i64 3))], none, [0]⟩,
                 ⟨(some 26), .arith .add (.c (.int .i64 254)) (.t 25), none, [1]⟩,
                 ⟨(some 27), .mkslice 5 1 [.int .u8 0] (.t 26) (.t 26), none, [2, 2]⟩,
                 ⟨(some 28), .faddr 1 (.t 7), none, [0, 1, 2, 3]⟩,
                 ⟨none, .store 1 (.t 28) (.t 27), none, [4, 3, 1, 0, 1, 2, 3]⟩] false)
               .skip))
             (.region [
               ⟨(some 29), .mov (.t 5), none, []⟩,
               ⟨(some 30), .load 2 true (.t 7), none, []⟩,
               ⟨(some 31), .bsliceO 32 1 [.int .u8 0, .nil] [(0, (.t 30))], none, [1]⟩,
               ⟨(some 32), .append 32 32 [.int .u8 0, .nil] (.t 29) (.t 31), none, [0, 2]⟩,
               ⟨(some 5), .mov (.t 32), none, [3, 3, 0, 1, 2, 3]⟩] false))))
          (.region [
            ⟨(some 14), .mov (.t 6), none, []⟩,
            ⟨(some 15), .arith .sub (.t 14) (.c (.int .i64 1)), none, [0]⟩,
            ⟨(some 6), .mov (.t 15), none, [1, 0, 1]⟩] false))))))
     (.seq
      (.region [
        ⟨(some 33), .mov (.t 5), none, []⟩,
        ⟨(some 4), .mov (.t 33), none, [0, 0]⟩] false)
      .ret))))
def rv15 : List RV := [.t 4]
theorem rc15_ok : comp Try.prog Try.f15.ntmps (Try.f15.body.getD .skip) = some (erase rc15) := by kernel_rfl
theorem rv15_ok : compRes Try.prog Try.f15.results.toList = some rv15 := by kernel_rfl

/-- baseboard/baseboardmade.Mod [3, 3] -/
def rc16 : RC :=
  (.seq
   (.region [
     ⟨(some 4), .mov (.c (.int .i64 0)), none, []⟩] false)
   (.seq
    (.region [
      ⟨(some 5), .mov (.t 0), none, []⟩,
      ⟨(some 6), .mov (.t 1), none, []⟩,
      ⟨(some 7), .arith .rem (.t 5) (.t 6), none, [0, 1]⟩,
      ⟨(some 0), .mov (.t 7), none, [2, 0, 1, 2]⟩] false)
    (.seq
     (.seq
      (.region [
        ⟨(some 8), .mov (.t 0), none, []⟩,
        ⟨(some 9), .cmp .lss 0 (.t 8) (.c (.int .i64 0)), none, [0]⟩] false)
      (.cond (.t 9)
       (.region [
         ⟨(some 10), .mov (.t 0), none, []⟩,
         ⟨(some 11), .mov (.t 1), none, []⟩,
         ⟨(some 12), .arith .add (.t 10) (.t 11), none, [0, 1]⟩,
         ⟨(some 0), .mov (.t 12), none, [2, 0, 1, 2]⟩] false)
       .skip))
     (.seq
      (.region [
        ⟨(some 13), .mov (.t 0), none, []⟩,
        ⟨(some 4), .mov (.t 13), none, [0, 0]⟩] false)
      .ret))))
def rv16 : List RV := [.t 4]
theorem rc16_ok : comp Try.prog Try.f16.ntmps (Try.f16.body.getD .skip) = some (erase rc16) := by kernel_rfl
theorem rv16_ok : compRes Try.prog Try.f16.results.toList = some rv16 := by kernel_rfl

/-- baseboard/multirecord.Replace [22, 3, 32] -/
def rc17 : RC :=
  (.seq
   (.region [
     ⟨(some 5), .box 2 (.t 2), none, []⟩,
     ⟨(some 6), .mov (.c (.nil)), none, []⟩,
     ⟨(some 7), .mov (.c (.int .i64 0)), none, [1]⟩] false)
   (.seq
    (.seq
     (.region [
       ⟨(some 11), .mov (.t 1), none, []⟩,
       ⟨(some 12), .cmp .lss 0 (.t 11) (.c (.int .i64 0)), none, [0]⟩,
       ⟨(some 13), .mov (.t 12), none, [1]⟩,
       ⟨(some 14), .mov (.t 1), (some (13, false)), [2]⟩,
       ⟨(some 15), .mov (.t 0), (some (13, false)), [2]⟩,
       ⟨(some 16), .len 0 (.t 15), (some (13, false)), [4, 2]⟩,
       ⟨(some 17), .cmp .gtr 0 (.t 14) (.t 16), (some (13, false)), [3, 5, 2]⟩,
       ⟨(some 18), .pick (.t 13) (.c (.bool true)) (.t 17), none, [2, 6]⟩] false)
     (.cond (.t 18)
      (.seq
       (.region [
         ⟨(some 6), .mov (.c (.nil)), none, []⟩,
         ⟨(some 7), .mov (.c (.int .i64 2)), none, [0, 0]⟩] false)
       .ret)
      .skip))
    (.seq
     (.region [
       ⟨(some 8), .mov (.c (.nil)), none, []⟩] false)
     (.seq
      (.seq
       (.region [
         ⟨(some 19), .mov (.t 0), none, []⟩,
         ⟨(some 20), .len 0 (.t 19), none, [0]⟩,
         ⟨(some 21), .mov (.c (.int .i64 0)), none, []⟩] false)
       (.block 0
        (.loop 0
         (.seq
          (.region [
            ⟨(some 22), .cmp .lss 0 (.t 21) (.t 20), none, []⟩] false)
          (.seq
           (.cond (.t 22)
            .skip
            (.exit 0))
           (.seq
            (.block 1
             (.seq
              (.region [
                ⟨(some 23), .iaddrS [.int .u8 0, .nil] (.t 19) (.t 21), none, []⟩,
                ⟨(some 24), .load 2 true (.t 23), none, [0]⟩,
                ⟨(some 10), .alloc [.int .u8 0, .nil], none, []⟩,
                ⟨none, .store 2 (.t 10) (.t 24), none, [2, 1, 0, 1, 2]⟩] false)
              (.region [
                ⟨(some 25), .mov (.t 8), none, []⟩,
                ⟨(some 26), .faddr 0 (.t 10), none, []⟩,
                ⟨(some 27), .load 1 false (.t 26), none, [1]⟩,
                ⟨(some 28), .faddr 1 (.t 10), none, []⟩,
                ⟨(some 29), .load 1 false (.t 28), none, [3]⟩,
                ⟨(some 30), .call 33 [(.t 29)], none, [3, 4]⟩,
                ⟨(some 31), .build [.int .u8 0, .nil] [(0, 1, (.t 27)), (1, 1, (.t 30))], none, [4, 3, 1, 5, 2]⟩,
                ⟨(some 32), .bslice 1 [.int .u8 0, .nil] [(0, (.t 31))], none, [2, 5, 1, 3, 4, 6]⟩,
                ⟨(some 33), .appD 32 32 [.int .u8 0, .nil] (.t 25) (.t 32), none, [6, 4, 3, 1, 2, 5, 7, 0]⟩,
                ⟨(some 8), .mov (.t 33), none, [7, 6, 5, 4, 3, 2, 1, 0, 8]⟩] true)))
            (.region [
              ⟨(some 34), .arith .add (.t 21) (.c (.int .i64 1)), none, []⟩,
              ⟨(some 21), .mov (.t 34), none, [0]⟩] false)))))))
      (.seq
       (.region [
         ⟨(some 35), .faddr 1 (.t 5), none, []⟩,
         ⟨(some 36), .load 1 false (.t 35), none, [0]⟩,
         ⟨(some 37), .call 33 [(.t 36)], none, [1]⟩,
         ⟨(some 38), .faddr 1 (.t 5), none, [0, 1, 2]⟩,
         ⟨none, .store 1 (.t 38) (.t 37), none, [3, 2, 2, 0, 1, 2]⟩] false)
       (.seq
        (.seq
         (.region [
           ⟨(some 39), .mov (.t 1), none, []⟩,
           ⟨(some 40), .mov (.t 0), none, []⟩,
           ⟨(some 41), .len 0 (.t 40), none, [1]⟩,
           ⟨(some 42), .cmp .eql 0 (.t 39) (.t 41), none, [0, 2]⟩] false)
         (.cond (.t 42)
          (.region [
            ⟨(some 43), .mov (.t 8), none, []⟩,
            ⟨(some 44), .load 2 true (.t 5), none, []⟩,
            ⟨(some 45), .bsliceO 32 1 [.int .u8 0, .nil] [(0, (.t 44))], none, [1]⟩,
            ⟨(some 46), .append 32 32 [.int .u8 0, .nil] (.t 43) (.t 45), none, [0, 2]⟩,
            ⟨(some 8), .mov (.t 46), none, [3, 3, 0, 1, 2, 3]⟩] false)
          (.region [
            ⟨(some 47), .mov (.t 8), none, []⟩,
            ⟨(some 48), .mov (.t 1), none, []⟩,
            ⟨(some 49), .load 2 true (.t 5), none, []⟩,
            ⟨(some 50), .iaddrS [.int .u8 0, .nil] (.t 47) (.t 48), none, [0, 1, 0, 1, 2]⟩,
            ⟨none, .store 2 (.t 50) (.t 49), none, [3, 2, 0, 1, 2]⟩] false)))
        (.seq
         (.seq
          (.region [
            ⟨(some 51), .mov (.t 8), none, []⟩,
            ⟨(some 52), .call 26 [(.t 51)], none, [0]⟩,
            ⟨(some 53), .not (.t 52), none, [1]⟩] false)
          (.cond (.t 53)
           (.seq
            (.region [
              ⟨(some 6), .mov (.c (.nil)), none, []⟩,
              ⟨(some 7), .mov (.c (.int .i64 1)), none, [0, 0]⟩] false)
            .ret)
           .skip))
         (.seq
          (.region [
            ⟨(some 54), .mov (.t 8), none, []⟩,
            ⟨(some 6), .mov (.t 54), none, [0, 0]⟩,
            ⟨(some 7), .mov (.c (.int .i64 0)), none, [1, 0, 1]⟩] false)
          .ret))))))))
def rv17 : List RV := [.t 6, .t 7]
theorem rc17_ok : comp Try.prog Try.f17.ntmps (Try.f17.body.getD .skip) = some (erase rc17) := by kernel_rfl
theorem rv17_ok : compRes Try.prog Try.f17.results.toList = some rv17 := by kernel_rfl

/-- baseboard/baseboardref18.Replace [22, 3, 32] -/
def rc18 : RC :=
  (.seq
   (.region [
     ⟨(some 5), .box 2 (.t 2), none, []⟩,
     ⟨(some 6), .mov (.c (.nil)), none, []⟩,
     ⟨(some 7), .mov (.c (.int .i64 0)), none, [1]⟩] false)
   (.seq
    (.seq
     (.region [
       ⟨(some 10), .mov (.t 1), none, []⟩,
       ⟨(some 11), .cmp .lss 0 (.t 10) (.c (.int .i64 0)), none, [0]⟩,
       ⟨(some 12), .mov (.t 11), none, [1]⟩,
       ⟨(some 13), .mov (.t 1), (some (12, false)), [2]⟩,
       ⟨(some 14), .mov (.t 0), (some (12, false)), [2]⟩,
       ⟨(some 15), .len 0 (.t 14), (some (12, false)), [4, 2]⟩,
       ⟨(some 16), .cmp .gtr 0 (.t 13) (.t 15), (some (12, false)), [3, 5, 2]⟩,
       ⟨(some 17), .pick (.t 12) (.c (.bool true)) (.t 16), none, [2, 6]⟩] false)
     (.cond (.t 17)
      (.seq
       (.region [
         ⟨(some 6), .mov (.c (.nil)), none, []⟩,
         ⟨(some 7), .mov (.c (.int .i64 2)), none, [0, 0]⟩] false)
       .ret)
      .skip))
    (.seq
     (.region [
       ⟨(some 18), .mov (.t 0), none, []⟩,
       ⟨(some 19), .call 22 [(.t 18)], none, [0]⟩,
       ⟨(some 8), .mov (.t 19), none, [1, 1, 0, 1]⟩] false)
     (.seq
      (.region [
        ⟨(some 20), .faddr 0 (.t 5), none, []⟩,
        ⟨(some 21), .load 1 false (.t 20), none, [0]⟩,
        ⟨(some 22), .faddr 1 (.t 5), none, []⟩,
        ⟨(some 23), .load 1 false (.t 22), none, [2]⟩,
        ⟨(some 24), .call 34 [(.t 23)], none, [2, 3]⟩,
        ⟨(some 25), .build [.int .u8 0, .nil] [(0, 1, (.t 21)), (1, 1, (.t 24))], none, [3, 2, 0, 4, 1]⟩,
        ⟨(some 9), .alloc [.int .u8 0, .nil], none, []⟩,
        ⟨none, .store 2 (.t 9) (.t 25), none, [3, 2, 1, 0, 4, 5, 6]⟩] true)
      (.seq
       (.seq
        (.region [
          ⟨(some 26), .mov (.t 1), none, []⟩,
          ⟨(some 27), .mov (.t 0), none, []⟩,
          ⟨(some 28), .len 0 (.t 27), none, [1]⟩,
          ⟨(some 29), .cmp .eql 0 (.t 26) (.t 28), none, [0, 2]⟩] false)
        (.cond (.t 29)
         (.region [
           ⟨(some 30), .mov (.t 8), none, []⟩,
           ⟨(some 31), .load 2 true (.t 9), none, []⟩,
           ⟨(some 32), .bsliceO 32 1 [.int .u8 0, .nil] [(0, (.t 31))], none, [1]⟩,
           ⟨(some 33), .append 32 32 [.int .u8 0, .nil] (.t 30) (.t 32), none, [0, 2]⟩,
           ⟨(some 8), .mov (.t 33), none, [3, 3, 0, 1, 2, 3]⟩] false)
         (.region [
           ⟨(some 34), .mov (.t 8), none, []⟩,
           ⟨(some 35), .mov (.t 1), none, []⟩,
           ⟨(some 36), .load 2 true (.t 9), none, []⟩,
           ⟨(some 37), .iaddrS [.int .u8 0, .nil] (.t 34) (.t 35), none, [0, 1, 0, 1, 2]⟩,
           ⟨none, .store 2 (.t 37) (.t 36), none, [3, 2, 0, 1, 2]⟩] false)))
       (.seq
        (.seq
         (.region [
           ⟨(some 38), .mov (.t 8), none, []⟩,
           ⟨(some 39), .call 27 [(.t 38)], none, [0]⟩,
           ⟨(some 40), .not (.t 39), none, [1]⟩] false)
         (.cond (.t 40)
          (.seq
           (.region [
             ⟨(some 6), .mov (.c (.nil)), none, []⟩,
             ⟨(some 7), .mov (.c (.int .i64 1)), none, [0, 0]⟩] false)
           .ret)
          .skip))
        (.seq
         (.region [
           ⟨(some 41), .mov (.t 8), none, []⟩,
           ⟨(some 6), .mov (.t 41), none, [0, 0]⟩,
           ⟨(some 7), .mov (.c (.int .i64 0)), none, [1, 0, 1]⟩] false)
         .ret)))))))
def rv18 : List RV := [.t 6, .t 7]
theorem rc18_ok : comp Try.prog Try.f18.ntmps (Try.f18.body.getD .skip) = some (erase rc18) := by kernel_rfl
theorem rv18_ok : compRes Try.prog Try.f18.results.toList = some rv18 := by kernel_rfl

/-- baseboard/baseboardref18.Same [22, 22] -/
def rc19 : RC :=
  (.seq
   (.region [
     ⟨(some 4), .mov (.c (.bool false)), none, []⟩] false)
   (.seq
    (.seq
     (.region [
       ⟨(some 6), .mov (.t 0), none, []⟩,
       ⟨(some 7), .len 0 (.t 6), none, [0]⟩,
       ⟨(some 8), .mov (.t 1), none, []⟩,
       ⟨(some 9), .len 0 (.t 8), none, [2]⟩,
       ⟨(some 10), .cmp .neq 0 (.t 7) (.t 9), none, [1, 3]⟩] false)
     (.cond (.t 10)
      (.seq
       (.region [
         ⟨(some 4), .mov (.c (.bool false)), none, []⟩] false)
       .ret)
      .skip))
    (.seq
     (.seq
      (.region [
        ⟨(some 5), .mov (.c (.int .i64 0)), none, []⟩] false)
      (.block 0
       (.loop 0
        (.seq
         (.seq
          (.region [
            ⟨(some 11), .mov (.t 5), none, []⟩,
            ⟨(some 12), .mov (.t 0), none, []⟩,
            ⟨(some 13), .len 0 (.t 12), none, [1]⟩,
            ⟨(some 14), .cmp .lss 0 (.t 11) (.t 13), none, [0, 2]⟩] false)
          (.cond (.t 14)
           .skip
           (.exit 0)))
         (.seq
          (.block 1
           (.seq
            (.region [
              ⟨(some 17), .mov (.t 0), none, []⟩,
              ⟨(some 18), .mov (.t 5), none, []⟩,
              ⟨(some 19), .iaddrS [.int .u8 0, .nil] (.t 17) (.t 18), none, [1, 0]⟩,
              ⟨(some 20), .faddr 0 (.t 19), none, [0, 1, 2]⟩,
              ⟨(some 21), .load 1 false (.t 20), none, [2, 1, 0, 3]⟩,
              ⟨(some 22), .mov (.t 1), none, []⟩,
              ⟨(some 23), .mov (.t 5), none, []⟩,
              ⟨(some 24), .iaddrS [.int .u8 0, .nil] (.t 22) (.t 23), none, [6, 5]⟩,
              ⟨(some 25), .faddr 0 (.t 24), none, [5, 6, 7]⟩,
              ⟨(some 26), .load 1 false (.t 25), none, [7, 6, 5, 8]⟩,
              ⟨(some 27), .cmp .neq 0 (.t 21) (.t 26), none, [8, 5, 6, 7, 3, 0, 1, 2, 9, 4]⟩,
              ⟨(some 28), .mov (.t 27), none, [4, 9, 2, 1, 0, 3, 7, 6, 5, 8, 10]⟩,
              ⟨(some 29), .mov (.t 0), (some (28, false)), [10, 8, 5, 6, 7, 3, 0, 1, 2, 9, 4, 11]⟩,
              ⟨(some 30), .mov (.t 5), (some (28, false)), [10, 8, 5, 6, 7, 3, 0, 1, 2, 9, 4, 11]⟩,
              ⟨(some 31), .iaddrS [.int .u8 0, .nil] (.t 29) (.t 30), (some (28, false)), [4, 9, 2, 1, 0, 3, 7, 6, 5, 8, 10, 11, 13, 12]⟩,
              ⟨(some 32), .faddr 1 (.t 31), (some (28, false)), [12, 13, 10, 8, 5, 6, 7, 3, 0, 1, 2, 9, 4, 11, 14]⟩,
              ⟨(some 33), .load 1 false (.t 32), (some (28, false)), [14, 4, 9, 2, 1, 0, 3, 7, 6, 5, 8, 10, 13, 12, 11, 15]⟩,
              ⟨(some 34), .mov (.t 1), (some (28, false)), [10, 8, 5, 6, 7, 3, 0, 1, 2, 9, 4, 11]⟩,
              ⟨(some 35), .mov (.t 5), (some (28, false)), [10, 8, 5, 6, 7, 3, 0, 1, 2, 9, 4, 11]⟩,
              ⟨(some 36), .iaddrS [.int .u8 0, .nil] (.t 34) (.t 35), (some (28, false)), [4, 9, 2, 1, 0, 3, 7, 6, 5, 8, 10, 11, 18, 17]⟩,
              ⟨(some 37), .faddr 1 (.t 36), (some (28, false)), [17, 18, 10, 8, 5, 6, 7, 3, 0, 1, 2, 9, 4, 11, 19]⟩,
              ⟨(some 38), .load 1 false (.t 37), (some (28, false)), [19, 4, 9, 2, 1, 0, 3, 7, 6, 5, 8, 10, 18, 17, 11, 20]⟩,
              ⟨(some 39), .call 23 [(.t 33), (.t 38)], (some (28, false)), [20, 17, 18, 19, 15, 12, 13, 10, 8, 5, 6, 7, 3, 0, 1, 2, 9, 4, 14, 11, 21, 16]⟩,
              ⟨(some 40), .not (.t 39), (some (28, false)), [16, 21, 14, 4, 9, 2, 1, 0, 3, 7, 6, 5, 8, 10, 13, 12, 15, 19, 18, 17, 20, 11, 22]⟩,
              ⟨(some 41), .pick (.t 28) (.c (.bool true)) (.t 40), none, [22, 20, 17, 18, 19, 15, 12, 13, 14, 21, 16, 10, 8, 5, 6, 7, 3, 0, 1, 2, 9, 4, 23, 11]⟩] true)
            (.cond (.t 41)
             (.seq
              (.region [
                ⟨(some 4), .mov (.c (.bool false)), none, []⟩] false)
              .ret)
             .skip)))
          (.region [
            ⟨(some 15), .mov (.t 5), none, []⟩,
            ⟨(some 16), .arith .add (.t 15) (.c (.int .i64 1)), none, [0]⟩,
            ⟨(some 5), .mov (.t 16), none, [1, 0, 1]⟩] false))))))
     (.seq
      (.region [
        ⟨(some 4), .mov (.c (.bool true)), none, []⟩] false)
      .ret))))
def rv19 : List RV := [.t 4]
theorem rc19_ok : comp Try.prog Try.f19.ntmps (Try.f19.body.getD .skip) = some (erase rc19) := by kernel_rfl
theorem rv19_ok : compRes Try.prog Try.f19.results.toList = some rv19 := by kernel_rfl

/-- baseboard/multirecord.Find [22, 5, 3] -/
def rc20 : RC :=
  (.seq
   (.region [
     ⟨(some 6), .mov (.c (.int .i64 0)), none, []⟩] false)
   (.seq
    (.seq
     (.region [
       ⟨(some 8), .mov (.t 2), none, []⟩,
       ⟨(some 9), .minmax true [(.t 8), (.c (.int .i64 0))], none, [0]⟩,
       ⟨(some 7), .mov (.t 9), none, [1, 0, 1]⟩] false)
     (.block 0
      (.loop 0
       (.seq
        (.seq
         (.region [
           ⟨(some 10), .mov (.t 7), none, []⟩,
           ⟨(some 11), .mov (.t 0), none, []⟩,
           ⟨(some 12), .len 0 (.t 11), none, [1]⟩,
           ⟨(some 13), .cmp .lss 0 (.t 10) (.t 12), none, [0, 2]⟩] false)
         (.cond (.t 13)
          .skip
          (.exit 0)))
        (.seq
         (.block 1
          (.seq
           (.region [
             ⟨(some 16), .mov (.t 0), none, []⟩,
             ⟨(some 17), .mov (.t 7), none, []⟩,
             ⟨(some 18), .iaddrS [.int .u8 0, .nil] (.t 16) (.t 17), none, [0, 1]⟩,
             ⟨(some 19), .faddr 0 (.t 18), none, [2]⟩,
             ⟨(some 20), .load 1 false (.t 19), none, [3]⟩,
             ⟨(some 21), .mov (.t 1), none, []⟩,
             ⟨(some 22), .cmp .eql 0 (.t 20) (.t 21), none, [4, 5]⟩] false)
           (.cond (.t 22)
            (.seq
             (.region [
               ⟨(some 23), .mov (.t 7), none, []⟩,
               ⟨(some 6), .mov (.t 23), none, [0, 0]⟩] false)
             .ret)
            .skip)))
         (.region [
           ⟨(some 14), .mov (.t 7), none, []⟩,
           ⟨(some 15), .arith .add (.t 14) (.c (.int .i64 1)), none, [0]⟩,
           ⟨(some 7), .mov (.t 15), none, [1, 0, 1]⟩] false))))))
    (.seq
     (.region [
       ⟨(some 6), .mov (.c (.int .i64 (-1))), none, []⟩] false)
     .ret)))
def rv20 : List RV := [.t 6]
theorem rc20_ok : comp Try.prog Try.f20.ntmps (Try.f20.body.getD .skip) = some (erase rc20) := by kernel_rfl
theorem rv20_ok : compRes Try.prog Try.f20.results.toList = some rv20 := by kernel_rfl

/-- baseboard/baseboardref18.Find [22, 5, 3] -/
def rc21 : RC :=
  (.seq
   (.region [
     ⟨(some 6), .mov (.c (.int .i64 0)), none, []⟩] false)
   (.seq
    (.seq
     (.region [
       ⟨(some 7), .mov (.c (.int .i64 0)), none, []⟩] false)
     (.block 0
      (.loop 0
       (.seq
        (.seq
         (.region [
           ⟨(some 8), .mov (.t 7), none, []⟩,
           ⟨(some 9), .mov (.t 0), none, []⟩,
           ⟨(some 10), .len 0 (.t 9), none, [1]⟩,
           ⟨(some 11), .cmp .lss 0 (.t 8) (.t 10), none, [0, 2]⟩] false)
         (.cond (.t 11)
          .skip
          (.exit 0)))
        (.seq
         (.block 1
          (.seq
           (.region [
             ⟨(some 14), .mov (.t 7), none, []⟩,
             ⟨(some 15), .mov (.t 2), none, []⟩,
             ⟨(some 16), .cmp .geq 0 (.t 14) (.t 15), none, [0, 1]⟩,
             ⟨(some 17), .mov (.t 16), none, [2]⟩,
             ⟨(some 18), .mov (.t 0), (some (17, true)), [3]⟩,
             ⟨(some 19), .mov (.t 7), (some (17, true)), [3]⟩,
             ⟨(some 20), .iaddrS [.int .u8 0, .nil] (.t 18) (.t 19), (some (17, true)), [4, 5, 3]⟩,
             ⟨(some 21), .faddr 0 (.t 20), (some (17, true)), [6, 3]⟩,
             ⟨(some 22), .load 1 false (.t 21), (some (17, true)), [7, 3]⟩,
             ⟨(some 23), .mov (.t 1), (some (17, true)), [3]⟩,
             ⟨(some 24), .cmp .eql 0 (.t 22) (.t 23), (some (17, true)), [8, 9, 3]⟩,
             ⟨(some 25), .pick (.t 17) (.t 24) (.c (.bool false)), none, [3, 10]⟩] false)
           (.cond (.t 25)
            (.seq
             (.region [
               ⟨(some 26), .mov (.t 7), none, []⟩,
               ⟨(some 6), .mov (.t 26), none, [0, 0]⟩] false)
             .ret)
            .skip)))
         (.region [
           ⟨(some 12), .mov (.t 7), none, []⟩,
           ⟨(some 13), .arith .add (.t 12) (.c (.int .i64 1)), none, [0]⟩,
           ⟨(some 7), .mov (.t 13), none, [1, 0, 1]⟩] false))))))
    (.seq
     (.region [
       ⟨(some 6), .mov (.c (.int .i64 (-1))), none, []⟩] false)
     .ret)))
def rv21 : List RV := [.t 6]
theorem rc21_ok : comp Try.prog Try.f21.ntmps (Try.f21.body.getD .skip) = some (erase rc21) := by kernel_rfl
theorem rv21_ok : compRes Try.prog Try.f21.results.toList = some rv21 := by kernel_rfl

/-- baseboard/baseboardref18.Copy [22] -/
def rc22 : RC :=
  (.seq
   (.region [
     ⟨(some 2), .mov (.c (.nil)), none, []⟩] false)
   (.seq
    (.region [
      ⟨(some 3), .mov (.c (.nil)), none, []⟩] false)
    (.seq
     (.seq
      (.region [
        ⟨(some 4), .mov (.c (.int .i64 0)), none, []⟩] false)
      (.block 0
       (.loop 0
        (.seq
         (.seq
          (.region [
            ⟨(some 5), .mov (.t 4), none, []⟩,
            ⟨(some 6), .mov (.t 0), none, []⟩,
            ⟨(some 7), .len 0 (.t 6), none, [1]⟩,
            ⟨(some 8), .cmp .lss 0 (.t 5) (.t 7), none, [0, 2]⟩] false)
          (.cond (.t 8)
           .skip
           (.exit 0)))
         (.seq
          (.block 1
           (.region [
             ⟨(some 11), .mov (.t 3), none, []⟩,
             ⟨(some 12), .mov (.t 0), none, []⟩,
             ⟨(some 13), .mov (.t 4), none, []⟩,
             ⟨(some 14), .iaddrS [.int .u8 0, .nil] (.t 12) (.t 13), none, [2, 1]⟩,
             ⟨(some 15), .faddr 0 (.t 14), none, [1, 2, 3]⟩,
             ⟨(some 16), .load 1 false (.t 15), none, [3, 2, 1, 4]⟩,
             ⟨(some 17), .mov (.t 0), none, []⟩,
             ⟨(some 18), .mov (.t 4), none, []⟩,
             ⟨(some 19), .iaddrS [.int .u8 0, .nil] (.t 17) (.t 18), none, [7, 6]⟩,
             ⟨(some 20), .faddr 1 (.t 19), none, [6, 7, 8]⟩,
             ⟨(some 21), .load 1 false (.t 20), none, [8, 7, 6, 9]⟩,
             ⟨(some 22), .call 34 [(.t 21)], none, [9, 6, 7, 8, 10]⟩,
             ⟨(some 23), .build [.int .u8 0, .nil] [(0, 1, (.t 16)), (1, 1, (.t 22))], none, [10, 8, 7, 6, 9, 4, 1, 2, 3, 11, 5]⟩,
             ⟨(some 24), .bslice 1 [.int .u8 0, .nil] [(0, (.t 23))], none, [5, 11, 3, 2, 1, 4, 9, 6, 7, 8, 10, 12]⟩,
             ⟨(some 25), .appD 32 32 [.int .u8 0, .nil] (.t 11) (.t 24), none, [12, 10, 8, 7, 6, 9, 4, 1, 2, 3, 5, 11, 13, 0]⟩,
             ⟨(some 3), .mov (.t 25), none, [13, 12, 11, 10, 9, 8, 7, 6, 5, 4, 3, 2, 1, 0, 14]⟩] true))
          (.region [
            ⟨(some 9), .mov (.t 4), none, []⟩,
            ⟨(some 10), .arith .add (.t 9) (.c (.int .i64 1)), none, [0]⟩,
            ⟨(some 4), .mov (.t 10), none, [1, 0, 1]⟩] false))))))
     (.seq
      (.region [
        ⟨(some 26), .mov (.t 3), none, []⟩,
        ⟨(some 2), .mov (.t 26), none, [0, 0]⟩] false)
      .ret))))
def rv22 : List RV := [.t 2]
theorem rc22_ok : comp Try.prog Try.f22.ntmps (Try.f22.body.getD .skip) = some (erase rc22) := by kernel_rfl
theorem rv22_ok : compRes Try.prog Try.f22.results.toList = some rv22 := by kernel_rfl

/-- baseboard/baseboardref01.Same [29, 29] -/
def rc23 : RC :=
  (.seq
   (.region [
     ⟨(some 4), .mov (.c (.bool false)), none, []⟩] false)
   (.seq
    (.seq
     (.region [
       ⟨(some 6), .mov (.t 0), none, []⟩,
       ⟨(some 7), .len 0 (.t 6), none, [0]⟩,
       ⟨(some 8), .mov (.t 1), none, []⟩,
       ⟨(some 9), .len 0 (.t 8), none, [2]⟩,
       ⟨(some 10), .cmp .neq 0 (.t 7) (.t 9), none, [1, 3]⟩] false)
     (.cond (.t 10)
      (.seq
       (.region [
         ⟨(some 4), .mov (.c (.bool false)), none, []⟩] false)
       .ret)
      .skip))
    (.seq
     (.seq
      (.region [
        ⟨(some 5), .mov (.c (.int .i64 0)), none, []⟩] false)
      (.block 0
       (.loop 0
        (.seq
         (.seq
          (.region [
            ⟨(some 11), .mov (.t 5), none, []⟩,
            ⟨(some 12), .mov (.t 0), none, []⟩,
            ⟨(some 13), .len 0 (.t 12), none, [1]⟩,
            ⟨(some 14), .cmp .lss 0 (.t 11) (.t 13), none, [0, 2]⟩] false)
          (.cond (.t 14)
           .skip
           (.exit 0)))
         (.seq
          (.block 1
           (.seq
            (.region [
              ⟨(some 17), .mov (.t 0), none, []⟩,
              ⟨(some 18), .mov (.t 5), none, []⟩,
              ⟨(some 19), .iaddrS [.int .u8 0] (.t 17) (.t 18), none, [1, 0]⟩,
              ⟨(some 20), .load 1 false (.t 19), none, [0, 1, 2]⟩,
              ⟨(some 21), .mov (.t 1), none, []⟩,
              ⟨(some 22), .mov (.t 5), none, []⟩,
              ⟨(some 23), .iaddrS [.int .u8 0] (.t 21) (.t 22), none, [5, 4]⟩,
              ⟨(some 24), .load 1 false (.t 23), none, [4, 5, 6]⟩,
              ⟨(some 25), .cmp .neq 0 (.t 20) (.t 24), none, [6, 5, 4, 2, 1, 0, 7, 3]⟩] true)
            (.cond (.t 25)
             (.seq
              (.region [
                ⟨(some 4), .mov (.c (.bool false)), none, []⟩] false)
              .ret)
             .skip)))
          (.region [
            ⟨(some 15), .mov (.t 5), none, []⟩,
            ⟨(some 16), .arith .add (.t 15) (.c (.int .i64 1)), none, [0]⟩,
            ⟨(some 5), .mov (.t 16), none, [1, 0, 1]⟩] false))))))
     (.seq
      (.region [
        ⟨(some 4), .mov (.c (.bool true)), none, []⟩] false)
      .ret))))
def rv23 : List RV := [.t 4]
theorem rc23_ok : comp Try.prog Try.f23.ntmps (Try.f23.body.getD .skip) = some (erase rc23) := by kernel_rfl
theorem rv23_ok : compRes Try.prog Try.f23.results.toList = some rv23 := by kernel_rfl

/-- baseboard/multirecord.Encode [22] -/
def rc24 : RC :=
  (.seq
   (.region [
     ⟨(some 2), .mov (.c (.nil)), none, []⟩,
     ⟨(some 3), .mov (.c (.int .i64 0)), none, [0]⟩] false)
   (.seq
    (.seq
     (.region [
       ⟨(some 8), .mov (.t 0), none, []⟩,
       ⟨(some 9), .call 26 [(.t 8)], none, [0]⟩,
       ⟨(some 10), .not (.t 9), none, [1]⟩] false)
     (.cond (.t 10)
      (.seq
       (.region [
         ⟨(some 2), .mov (.c (.nil)), none, []⟩,
         ⟨(some 3), .mov (.c (.int .i64 1)), none, [0, 0]⟩] false)
       .ret)
      .skip))
    (.seq
     (.region [
       ⟨(some 4), .mov (.c (.nil)), none, []⟩] false)
     (.seq
      (.seq
       (.region [
         ⟨(some 11), .mov (.t 0), none, []⟩,
         ⟨(some 12), .len 0 (.t 11), none, [0]⟩,
         ⟨(some 13), .mov (.c (.int .i64 0)), none, []⟩] false)
       (.block 0
        (.loop 0
         (.seq
          (.region [
            ⟨(some 14), .cmp .lss 0 (.t 13) (.t 12), none, []⟩] false)
          (.seq
           (.cond (.t 14)
            .skip
            (.exit 0))
           (.seq
            (.block 1
             (.seq
              (.region [
                ⟨(some 15), .mov (.t 13), none, []⟩,
                ⟨(some 16), .iaddrS [.int .u8 0, .nil] (.t 11) (.t 13), none, []⟩,
                ⟨(some 17), .load 2 true (.t 16), none, [1]⟩,
                ⟨(some 6), .alloc [.int .u8 0, .nil], none, []⟩,
                ⟨(some 5), .mov (.t 15), none, [0, 0, 1, 2, 3]⟩,
                ⟨none, .store 2 (.t 6) (.t 17), none, [3, 2, 4, 0, 1, 2, 3, 4]⟩] false)
              (.seq
               (.region [
                 ⟨(some 18), .faddr 0 (.t 6), none, []⟩,
                 ⟨(some 19), .load 1 false (.t 18), none, [0]⟩,
                 ⟨(some 20), .faddr 1 (.t 6), none, []⟩,
                 ⟨(some 21), .load 1 false (.t 20), none, [2]⟩,
                 ⟨(some 22), .len 0 (.t 21), none, [2, 3]⟩,
                 ⟨(some 23), .conv .u8 (.t 22), none, [3, 2, 4]⟩,
                 ⟨(some 24), .faddr 1 (.t 6), none, []⟩,
                 ⟨(some 25), .load 1 false (.t 24), none, [6]⟩,
                 ⟨(some 26), .call 35 [(.t 25)], none, [6, 7]⟩,
                 ⟨(some 27), .bsliceO 5 4 [.int .u8 0] [(0, (.t 19)), (1, (.c (.int .u8 2))), (2, (.t 23)), (3, (.t 26))], none, [7, 6, 4, 2, 3, 0, 8, 5, 1]⟩,
                 ⟨(some 7), .mov (.t 27), none, [7, 6, 5, 4, 3, 2, 1, 0, 8, 9]⟩] true)
               (.seq
                (.seq
                 (.region [
                   ⟨(some 28), .mov (.t 5), none, []⟩,
                   ⟨(some 29), .mov (.t 0), none, []⟩,
                   ⟨(some 30), .len 0 (.t 29), none, [1]⟩,
                   ⟨(some 31), .arith .sub (.t 30) (.c (.int .i64 1)), none, [2]⟩,
                   ⟨(some 32), .cmp .eql 0 (.t 28) (.t 31), none, [0, 3]⟩] false)
                 (.cond (.t 32)
                  (.region [
                    ⟨(some 33), .mov (.t 7), none, []⟩,
                    ⟨(some 34), .iaddrS [.int .u8 0] (.t 33) (.c (.int .i64 1)), none, [0]⟩,
                    ⟨(some 35), .load 1 false (.t 34), none, [1]⟩,
                    ⟨(some 36), .arith .or (.t 35) (.c (.int .u8 128)), none, [2]⟩,
                    ⟨(some 37), .iaddrS [.int .u8 0] (.t 33) (.c (.int .i64 1)), none, [0, 0, 1, 2, 3]⟩,
                    ⟨none, .store 1 (.t 37) (.t 36), none, [4, 3, 0, 1, 2, 3]⟩] false)
                  .skip))
                (.ghost 7 (.region [
                  ⟨(some 38), .mov (.t 4), none, []⟩,
                  ⟨(some 39), .mov (.t 7), none, []⟩,
                  ⟨(some 40), .call 36 [(.t 39)], none, [1]⟩,
                  ⟨(some 41), .appD 5 1 [.int .u8 0] (.t 38) (.t 40), none, [1, 2, 0]⟩,
                  ⟨(some 42), .faddr 1 (.t 6), none, []⟩,
                  ⟨(some 43), .load 1 false (.t 42), none, [4]⟩,
                  ⟨(some 44), .appD 5 1 [.int .u8 0] (.t 41) (.t 43), none, [4, 0, 2, 1, 5, 3]⟩,
                  ⟨(some 4), .mov (.t 44), none, [5, 4, 3, 2, 1, 0, 6]⟩] true))))))
            (.region [
              ⟨(some 45), .arith .add (.t 13) (.c (.int .i64 1)), none, []⟩,
              ⟨(some 13), .mov (.t 45), none, [0]⟩] false)))))))
      (.seq
       (.region [
         ⟨(some 46), .mov (.t 4), none, []⟩,
         ⟨(some 2), .mov (.t 46), none, [0, 0]⟩,
         ⟨(some 3), .mov (.c (.int .i64 0)), none, [1, 0, 1]⟩] false)
       .ret)))))
def rv24 : List RV := [.t 2, .t 3]
theorem rc24_ok : comp Try.prog Try.f24.ntmps (Try.f24.body.getD .skip) = some (erase rc24) := by kernel_rfl
theorem rv24_ok : compRes Try.prog Try.f24.results.toList = some rv24 := by kernel_rfl

/-- baseboard/baseboardref18.Encode [22] -/
def rc25 : RC :=
  (.seq
   (.region [
     ⟨(some 2), .mov (.c (.nil)), none, []⟩,
     ⟨(some 3), .mov (.c (.int .i64 0)), none, [0]⟩] false)
   (.seq
    (.seq
     (.region [
       ⟨(some 7), .mov (.t 0), none, []⟩,
       ⟨(some 8), .call 27 [(.t 7)], none, [0]⟩,
       ⟨(some 9), .not (.t 8), none, [1]⟩] false)
     (.cond (.t 9)
      (.seq
       (.region [
         ⟨(some 2), .mov (.c (.nil)), none, []⟩,
         ⟨(some 3), .mov (.c (.int .i64 1)), none, [0, 0]⟩] false)
       .ret)
      .skip))
    (.seq
     (.region [
       ⟨(some 4), .mov (.c (.nil)), none, []⟩] false)
     (.seq
      (.seq
       (.region [
         ⟨(some 5), .mov (.c (.int .i64 0)), none, []⟩] false)
       (.block 0
        (.loop 0
         (.seq
          (.seq
           (.region [
             ⟨(some 10), .mov (.t 5), none, []⟩,
             ⟨(some 11), .mov (.t 0), none, []⟩,
             ⟨(some 12), .len 0 (.t 11), none, [1]⟩,
             ⟨(some 13), .cmp .lss 0 (.t 10) (.t 12), none, [0, 2]⟩] false)
           (.cond (.t 13)
            .skip
            (.exit 0)))
          (.seq
           (.block 1
            (.seq
             (.region [
               ⟨(some 6), .mov (.c (.int .u8 2)), none, []⟩] false)
             (.seq
              (.seq
               (.region [
                 ⟨(some 16), .mov (.t 5), none, []⟩,
                 ⟨(some 17), .arith .add (.t 16) (.c (.int .i64 1)), none, [0]⟩,
                 ⟨(some 18), .mov (.t 0), none, []⟩,
                 ⟨(some 19), .len 0 (.t 18), none, [2]⟩,
                 ⟨(some 20), .cmp .eql 0 (.t 17) (.t 19), none, [1, 3]⟩] false)
               (.cond (.t 20)
                (.region [
                  ⟨(some 6), .mov (.c (.int .u8 130)), none, []⟩] false)
                .skip))
              (.seq
               (.region [
                 ⟨(some 21), .mov (.t 4), none, []⟩,
                 ⟨(some 22), .mov (.t 0), none, []⟩,
                 ⟨(some 23), .mov (.t 5), none, []⟩,
                 ⟨(some 24), .iaddrS [.int .u8 0, .nil] (.t 22) (.t 23), none, [2, 1]⟩,
                 ⟨(some 25), .faddr 0 (.t 24), none, [1, 2, 3]⟩,
                 ⟨(some 26), .load 1 false (.t 25), none, [3, 2, 1, 4]⟩,
                 ⟨(some 27), .mov (.t 6), none, []⟩,
                 ⟨(some 28), .mov (.t 0), none, []⟩,
                 ⟨(some 29), .mov (.t 5), none, []⟩,
                 ⟨(some 30), .iaddrS [.int .u8 0, .nil] (.t 28) (.t 29), none, [8, 7]⟩,
                 ⟨(some 31), .faddr 1 (.t 30), none, [7, 8, 9]⟩,
                 ⟨(some 32), .load 1 false (.t 31), none, [9, 8, 7, 10]⟩,
                 ⟨(some 33), .len 0 (.t 32), none, [10, 7, 8, 9, 11]⟩,
                 ⟨(some 34), .conv .u8 (.t 33), none, [11, 9, 8, 7, 10, 12]⟩,
                 ⟨(some 35), .mov (.t 0), none, []⟩,
                 ⟨(some 36), .mov (.t 5), none, []⟩,
                 ⟨(some 37), .iaddrS [.int .u8 0, .nil] (.t 35) (.t 36), none, [15, 14]⟩,
                 ⟨(some 38), .faddr 1 (.t 37), none, [14, 15, 16]⟩,
                 ⟨(some 39), .load 1 false (.t 38), none, [16, 15, 14, 17]⟩,
                 ⟨(some 40), .call 29 [(.t 39)], none, [17, 14, 15, 16, 18]⟩,
                 ⟨(some 41), .bslice 4 [.int .u8 0] [(0, (.t 26)), (1, (.t 27)), (2, (.t 34)), (3, (.t 40))], none, [18, 16, 15, 14, 17, 12, 10, 7, 8, 9, 11, 4, 1, 2, 3, 19, 13, 6, 5]⟩,
                 ⟨(some 42), .call 32 [(.t 41)], none, [5, 6, 13, 3, 2, 1, 4, 11, 9, 8, 7, 10, 12, 17, 14, 15, 16, 18, 19, 20]⟩,
                 ⟨(some 43), .appD 5 1 [.int .u8 0] (.t 21) (.t 42), none, [20, 19, 18, 16, 15, 14, 17, 12, 10, 7, 8, 9, 11, 4, 1, 2, 3, 13, 6, 5, 21, 0]⟩,
                 ⟨(some 4), .mov (.t 43), none, [21, 20, 19, 18, 17, 16, 15, 14, 13, 12, 11, 10, 9, 8, 7, 6, 5, 4, 3, 2, 1, 0, 22]⟩] true)
               (.region [
                 ⟨(some 44), .mov (.t 4), none, []⟩,
                 ⟨(some 45), .mov (.t 0), none, []⟩,
                 ⟨(some 46), .mov (.t 5), none, []⟩,
                 ⟨(some 47), .iaddrS [.int .u8 0, .nil] (.t 45) (.t 46), none, [1, 2]⟩,
                 ⟨(some 48), .faddr 1 (.t 47), none, [3]⟩,
                 ⟨(some 49), .load 1 false (.t 48), none, [4]⟩,
                 ⟨(some 50), .append 5 1 [.int .u8 0] (.t 44) (.t 49), none, [0, 5]⟩,
                 ⟨(some 4), .mov (.t 50), none, [6, 6, 0, 1, 2, 3, 4, 5, 6]⟩] false)))))
           (.region [
             ⟨(some 14), .mov (.t 5), none, []⟩,
             ⟨(some 15), .arith .add (.t 14) (.c (.int .i64 1)), none, [0]⟩,
             ⟨(some 5), .mov (.t 15), none, [1, 0, 1]⟩] false))))))
      (.seq
       (.region [
         ⟨(some 51), .mov (.t 4), none, []⟩,
         ⟨(some 2), .mov (.t 51), none, [0, 0]⟩,
         ⟨(some 3), .mov (.c (.int .i64 0)), none, [1, 0, 1]⟩] false)
       .ret)))))
def rv25 : List RV := [.t 2, .t 3]
theorem rc25_ok : comp Try.prog Try.f25.ntmps (Try.f25.body.getD .skip) = some (erase rc25) := by kernel_rfl
theorem rv25_ok : compRes Try.prog Try.f25.results.toList = some rv25 := by kernel_rfl

/-- baseboard/multirecord.Valid [22] -/
def rc26 : RC :=
  (.seq
   (.region [
     ⟨(some 2), .mov (.c (.bool false)), none, []⟩] false)
   (.seq
    (.seq
     (.region [
       ⟨(some 6), .mov (.t 0), none, []⟩,
       ⟨(some 7), .len 0 (.t 6), none, [0]⟩,
       ⟨(some 8), .cmp .gtr 0 (.t 7) (.c (.int .i64 16)), none, [1]⟩] false)
     (.cond (.t 8)
      (.seq
       (.region [
         ⟨(some 2), .mov (.c (.bool false)), none, []⟩] false)
       .ret)
      .skip))
    (.seq
     (.region [
       ⟨(some 3), .mov (.c (.int .i64 0)), none, []⟩] false)
     (.seq
      (.seq
       (.region [
         ⟨(some 9), .mov (.t 0), none, []⟩,
         ⟨(some 10), .len 0 (.t 9), none, [0]⟩,
         ⟨(some 11), .mov (.c (.int .i64 0)), none, []⟩] false)
       (.block 0
        (.loop 0
         (.seq
          (.region [
            ⟨(some 12), .cmp .lss 0 (.t 11) (.t 10), none, []⟩] false)
          (.seq
           (.cond (.t 12)
            .skip
            (.exit 0))
           (.seq
            (.block 1
             (.seq
              (.region [
                ⟨(some 13), .iaddrS [.int .u8 0, .nil] (.t 9) (.t 11), none, []⟩,
                ⟨(some 14), .load 2 true (.t 13), none, [0]⟩,
                ⟨(some 5), .alloc [.int .u8 0, .nil], none, []⟩,
                ⟨none, .store 2 (.t 5) (.t 14), none, [2, 1, 0, 1, 2]⟩] false)
              (.seq
               (.seq
                (.region [
                  ⟨(some 15), .faddr 1 (.t 5), none, []⟩,
                  ⟨(some 16), .load 1 false (.t 15), none, [0]⟩,
                  ⟨(some 17), .len 0 (.t 16), none, [1]⟩,
                  ⟨(some 18), .cmp .gtr 0 (.t 17) (.c (.int .i64 255)), none, [2]⟩] false)
                (.cond (.t 18)
                 (.seq
                  (.region [
                    ⟨(some 2), .mov (.c (.bool false)), none, []⟩] false)
                  .ret)
                 .skip))
               (.region [
                 ⟨(some 19), .mov (.t 3), none, []⟩,
                 ⟨(some 20), .faddr 1 (.t 5), none, []⟩,
                 ⟨(some 21), .load 1 false (.t 20), none, [1]⟩,
                 ⟨(some 22), .len 0 (.t 21), none, [2]⟩,
                 ⟨(some 23), .arith .add (.c (.int .i64 5)) (.t 22), none, [3]⟩,
                 ⟨(some 24), .arith .add (.t 19) (.t 23), none, [0, 4]⟩,
                 ⟨(some 3), .mov (.t 24), none, [5, 0, 1, 2, 3, 4, 5]⟩] false))))
            (.region [
              ⟨(some 25), .arith .add (.t 11) (.c (.int .i64 1)), none, []⟩,
              ⟨(some 11), .mov (.t 25), none, [0]⟩] false)))))))
      (.seq
       (.region [
         ⟨(some 26), .mov (.t 3), none, []⟩,
         ⟨(some 27), .cmp .leq 0 (.t 26) (.c (.int .i64 2048)), none, [0]⟩,
         ⟨(some 2), .mov (.t 27), none, [1, 0, 1]⟩] false)
       .ret)))))
def rv26 : List RV := [.t 2]
theorem rc26_ok : comp Try.prog Try.f26.ntmps (Try.f26.body.getD .skip) = some (erase rc26) := by kernel_rfl
theorem rv26_ok : compRes Try.prog Try.f26.results.toList = some rv26 := by kernel_rfl

/-- baseboard/baseboardref18.Valid [22] -/
def rc27 : RC :=
  (.seq
   (.region [
     ⟨(some 2), .mov (.c (.bool false)), none, []⟩] false)
   (.seq
    (.seq
     (.region [
       ⟨(some 5), .mov (.t 0), none, []⟩,
       ⟨(some 6), .len 0 (.t 5), none, [0]⟩,
       ⟨(some 7), .cmp .gtr 0 (.t 6) (.c (.int .i64 16)), none, [1]⟩] false)
     (.cond (.t 7)
      (.seq
       (.region [
         ⟨(some 2), .mov (.c (.bool false)), none, []⟩] false)
       .ret)
      .skip))
    (.seq
     (.region [
       ⟨(some 3), .mov (.c (.int .i64 0)), none, []⟩] false)
     (.seq
      (.seq
       (.region [
         ⟨(some 4), .mov (.c (.int .i64 0)), none, []⟩] false)
       (.block 0
        (.loop 0
         (.seq
          (.seq
           (.region [
             ⟨(some 8), .mov (.t 4), none, []⟩,
             ⟨(some 9), .mov (.t 0), none, []⟩,
             ⟨(some 10), .len 0 (.t 9), none, [1]⟩,
             ⟨(some 11), .cmp .lss 0 (.t 8) (.t 10), none, [0, 2]⟩] false)
           (.cond (.t 11)
            .skip
            (.exit 0)))
          (.seq
           (.block 1
            (.seq
             (.seq
              (.region [
                ⟨(some 14), .mov (.t 0), none, []⟩,
                ⟨(some 15), .mov (.t 4), none, []⟩,
                ⟨(some 16), .iaddrS [.int .u8 0, .nil] (.t 14) (.t 15), none, [0, 1]⟩,
                ⟨(some 17), .faddr 1 (.t 16), none, [2]⟩,
                ⟨(some 18), .load 1 false (.t 17), none, [3]⟩,
                ⟨(some 19), .len 0 (.t 18), none, [4]⟩,
                ⟨(some 20), .cmp .gtr 0 (.t 19) (.c (.int .i64 255)), none, [5]⟩] false)
              (.cond (.t 20)
               (.seq
                (.region [
                  ⟨(some 2), .mov (.c (.bool false)), none, []⟩] false)
                .ret)
               .skip))
             (.region [
               ⟨(some 21), .mov (.t 3), none, []⟩,
               ⟨(some 22), .mov (.t 0), none, []⟩,
               ⟨(some 23), .mov (.t 4), none, []⟩,
               ⟨(some 24), .iaddrS [.int .u8 0, .nil] (.t 22) (.t 23), none, [1, 2]⟩,
               ⟨(some 25), .faddr 1 (.t 24), none, [3]⟩,
               ⟨(some 26), .load 1 false (.t 25), none, [4]⟩,
               ⟨(some 27), .len 0 (.t 26), none, [5]⟩,
               ⟨(some 28), .arith .add (.c (.int .i64 5)) (.t 27), none, [6]⟩,
               ⟨(some 29), .arith .add (.t 21) (.t 28), none, [0, 7]⟩,
               ⟨(some 3), .mov (.t 29), none, [8, 0, 1, 2, 3, 4, 5, 6, 7, 8]⟩] false)))
           (.region [
             ⟨(some 12), .mov (.t 4), none, []⟩,
             ⟨(some 13), .arith .add (.t 12) (.c (.int .i64 1)), none, [0]⟩,
             ⟨(some 4), .mov (.t 13), none, [1, 0, 1]⟩] false))))))
      (.seq
       (.region [
         ⟨(some 30), .mov (.t 3), none, []⟩,
         ⟨(some 31), .cmp .leq 0 (.t 30) (.c (.int .i64 2048)), none, [0]⟩,
         ⟨(some 2), .mov (.t 31), none, [1, 0, 1]⟩] false)
       .ret)))))
def rv27 : List RV := [.t 2]
theorem rc27_ok : comp Try.prog Try.f27.ntmps (Try.f27.body.getD .skip) = some (erase rc27) := by kernel_rfl
theorem rv27_ok : compRes Try.prog Try.f27.results.toList = some rv27 := by kernel_rfl

/-- (*baseboard/baseboardmade.Dice).Byte [27] -/
def rc28 : RC :=
  (.seq
   (.region [
     ⟨(some 2), .mov (.c (.int .u8 0)), none, []⟩] false)
   (.seq
    (.region [
      ⟨(some 4), .build [.int .u8 0, .int .u8 0, .int .u8 0, .int .u8 0, .int .u8 0, .int .u8 0, .int .u8 0, .int .u8 0] [(0, 1, (.c (.int .u8 0))), (1, 1, (.c (.int .u8 1))), (2, 1, (.c (.int .u8 127))), (3, 1, (.c (.int .u8 128))), (4, 1, (.c (.int .u8 254))), (5, 1, (.c (.int .u8 255))), (6, 1, (.c (.int .u8 15))), (7, 1, (.c (.int .u8 240)))], none, []⟩,
      ⟨(some 3), .alloc [.int .u8 0, .int .u8 0, .int .u8 0, .int .u8 0, .int .u8 0, .int .u8 0, .int .u8 0, .int .u8 0], none, []⟩,
      ⟨none, .store 8 (.t 3) (.t 4), none, [1, 0, 0, 1]⟩] false)
    (.seq
     (.seq
      (.region [
        ⟨(some 5), .mov (.t 0), none, []⟩,
        ⟨(some 6), .call 13 [(.t 5), (.c (.int .i64 3))], none, [0]⟩] false)
      (.cond (.t 6)
       (.seq
        (.region [
          ⟨(some 7), .mov (.t 0), none, []⟩,
          ⟨(some 8), .call 14 [(.t 7), (.c (.int .i64 8))], none, [0]⟩,
          ⟨(some 9), .iaddrA 8 1 (.t 3) (.t 8), none, [1]⟩,
          ⟨(some 10), .load 1 false (.t 9), none, [2]⟩,
          ⟨(some 2), .mov (.t 10), none, [3, 1, 0, 1, 2, 3]⟩] false)
        .ret)
       .skip))
     (.seq
      (.region [
        ⟨(some 11), .mov (.t 0), none, []⟩,
        ⟨(some 12), .call 14 [(.t 11), (.c (.int .i64 256))], none, [0]⟩,
        ⟨(some 13), .conv .u8 (.t 12), none, [1]⟩,
        ⟨(some 2), .mov (.t 13), none, [2, 1, 0, 1, 2]⟩] false)
      .ret))))
def rv28 : List RV := [.t 2]
theorem rc28_ok : comp Try.prog Try.f28.ntmps (Try.f28.body.getD .skip) = some (erase rc28) := by kernel_rfl
theorem rv28_ok : compRes Try.prog Try.f28.results.toList = some rv28 := by kernel_rfl

/-- baseboard/baseboardref01.Sum8 [29] -/
def rc29 : RC :=
  (.seq
   (.region [
     ⟨(some 2), .mov (.c (.int .u8 0)), none, []⟩] false)
   (.seq
    (.region [
      ⟨(some 3), .mov (.c (.int .i64 0)), none, []⟩] false)
    (.seq
     (.seq
      (.region [
        ⟨(some 4), .mov (.c (.int .i64 0)), none, []⟩] false)
      (.block 0
       (.loop 0
        (.seq
         (.seq
          (.region [
            ⟨(some 5), .mov (.t 4), none, []⟩,
            ⟨(some 6), .mov (.t 0), none, []⟩,
            ⟨(some 7), .len 0 (.t 6), none, [1]⟩,
            ⟨(some 8), .cmp .lss 0 (.t 5) (.t 7), none, [0, 2]⟩] false)
          (.cond (.t 8)
           .skip
           (.exit 0)))
         (.seq
          (.block 1
           (.region [
             ⟨(some 11), .mov (.t 3), none, []⟩,
             ⟨(some 12), .mov (.t 0), none, []⟩,
             ⟨(some 13), .mov (.t 4), none, []⟩,
             ⟨(some 14), .iaddrS [.int .u8 0] (.t 12) (.t 13), none, [1, 2]⟩,
             ⟨(some 15), .load 1 false (.t 14), none, [3]⟩,
             ⟨(some 16), .conv .i64 (.t 15), none, [4]⟩,
             ⟨(some 17), .arith .add (.t 11) (.t 16), none, [0, 5]⟩,
             ⟨(some 18), .arith .rem (.t 17) (.c (.int .i64 256)), none, [6]⟩,
             ⟨(some 3), .mov (.t 18), none, [7, 0, 1, 2, 3, 4, 5, 6, 7]⟩] false))
          (.region [
            ⟨(some 9), .mov (.t 4), none, []⟩,
            ⟨(some 10), .arith .add (.t 9) (.c (.int .i64 1)), none, [0]⟩,
            ⟨(some 4), .mov (.t 10), none, [1, 0, 1]⟩] false))))))
     (.seq
      (.region [
        ⟨(some 19), .mov (.t 3), none, []⟩,
        ⟨(some 20), .arith .sub (.c (.int .i64 256)) (.t 19), none, [0]⟩,
        ⟨(some 21), .arith .rem (.t 20) (.c (.int .i64 256)), none, [1]⟩,
        ⟨(some 22), .conv .u8 (.t 21), none, [2]⟩,
        ⟨(some 2), .mov (.t 22), none, [3, 0, 1, 2, 3]⟩] false)
      .ret))))
def rv29 : List RV := [.t 2]
theorem rc29_ok : comp Try.prog Try.f29.ntmps (Try.f29.body.getD .skip) = some (erase rc29) := by kernel_rfl
theorem rv29_ok : compRes Try.prog Try.f29.results.toList = some rv29 := by kernel_rfl

/-- baseboard/multirecord.Decode [29] -/
def rc30 : RC :=
  (.seq
   (.region [
     ⟨(some 2), .mov (.c (.nil)), none, []⟩,
     ⟨(some 3), .mov (.c (.int .i64 0)), none, [0]⟩,
     ⟨(some 4), .mov (.c (.int .i64 0)), none, [1]⟩] false)
   (.seq
    (.block 0
     (.loop 0
      (.block 1
       (.seq
        (.seq
         (.region [
           ⟨(some 8), .mov (.t 0), none, []⟩,
           ⟨(some 9), .len 0 (.t 8), none, [0]⟩,
           ⟨(some 10), .mov (.t 3), none, []⟩,
           ⟨(some 11), .arith .sub (.t 9) (.t 10), none, [1, 2]⟩,
           ⟨(some 12), .cmp .lss 0 (.t 11) (.c (.int .i64 5)), none, [3]⟩] false)
         (.cond (.t 12)
          (.seq
           (.region [
             ⟨(some 2), .mov (.c (.nil)), none, []⟩,
             ⟨(some 3), .mov (.c (.int .i64 0)), none, [0, 0]⟩,
             ⟨(some 4), .mov (.c (.int .i64 4)), none, [1, 0, 1]⟩] false)
           .ret)
          .skip))
        (.seq
         (.region [
           ⟨(some 13), .mov (.t 0), none, []⟩,
           ⟨(some 14), .mov (.t 3), none, []⟩,
           ⟨(some 15), .mov (.t 3), none, []⟩,
           ⟨(some 16), .arith .add (.t 15) (.c (.int .i64 5)), none, [2]⟩,
           ⟨(some 17), .slice 1 (.t 13) (some (.t 14)) (some (.t 16)), none, [0, 1, 3]⟩,
           ⟨(some 5), .mov (.t 17), none, [4, 0, 1, 2, 3, 4]⟩] false)
         (.seq
          (.region [
            ⟨(some 18), .mov (.t 3), none, []⟩,
            ⟨(some 19), .arith .add (.t 18) (.c (.int .i64 5)), none, [0]⟩,
            ⟨(some 20), .mov (.t 3), none, []⟩,
            ⟨(some 21), .arith .add (.t 20) (.c (.int .i64 5)), none, [2]⟩,
            ⟨(some 22), .mov (.t 5), none, []⟩,
            ⟨(some 23), .iaddrS [.int .u8 0] (.t 22) (.c (.int .i64 2)), none, [4]⟩,
            ⟨(some 24), .load 1 false (.t 23), none, [4, 5]⟩,
            ⟨(some 25), .conv .i64 (.t 24), none, [5, 4, 6]⟩,
            ⟨(some 26), .arith .add (.t 21) (.t 25), none, [6, 4, 5, 2, 7, 3]⟩,
            ⟨(some 6), .mov (.t 19), none, [0, 1]⟩,
            ⟨(some 7), .mov (.t 26), none, [7, 6, 5, 4, 3, 2, 1, 0, 9, 8]⟩] true)
          (.seq
           (.block 2
            (.seq
             (.region [
               ⟨(some 28), .mov (.t 5), none, []⟩,
               ⟨(some 29), .call 35 [(.t 28)], none, [0]⟩,
               ⟨(some 30), .cmp .neq 0 (.t 29) (.c (.int .u8 0)), none, [1]⟩,
               ⟨(some 27), .mov (.t 30), none, [2, 1]⟩] false)
             (.cond (.t 27)
              (.seq
               (.region [
                 ⟨(some 2), .mov (.c (.nil)), none, []⟩,
                 ⟨(some 3), .mov (.c (.int .i64 0)), none, [0, 0]⟩,
                 ⟨(some 4), .mov (.c (.int .i64 5)), none, [1, 0, 1]⟩] false)
               .ret)
              (.seq
               (.region [
                 ⟨(some 32), .mov (.t 5), none, []⟩,
                 ⟨(some 33), .iaddrS [.int .u8 0] (.t 32) (.c (.int .i64 1)), none, [0]⟩,
                 ⟨(some 34), .load 1 false (.t 33), none, [1]⟩,
                 ⟨(some 35), .arith .andNot (.t 34) (.c (.int .u8 128)), none, [2]⟩,
                 ⟨(some 36), .cmp .neq 0 (.t 35) (.c (.int .u8 2)), none, [3]⟩,
                 ⟨(some 31), .mov (.t 36), none, [4]⟩] false)
               (.cond (.t 31)
                (.seq
                 (.region [
                   ⟨(some 2), .mov (.c (.nil)), none, []⟩,
                   ⟨(some 3), .mov (.c (.int .i64 0)), none, [0, 0]⟩,
                   ⟨(some 4), .mov (.c (.int .i64 6)), none, [1, 0, 1]⟩] false)
                 .ret)
                (.seq
                 (.region [
                   ⟨(some 38), .mov (.t 0), none, []⟩,
                   ⟨(some 39), .len 0 (.t 38), none, [0]⟩,
                   ⟨(some 40), .mov (.t 7), none, []⟩,
                   ⟨(some 41), .cmp .lss 0 (.t 39) (.t 40), none, [1, 2]⟩,
                   ⟨(some 37), .mov (.t 41), none, [3]⟩] false)
                 (.cond (.t 37)
                  (.seq
                   (.region [
                     ⟨(some 2), .mov (.c (.nil)), none, []⟩,
                     ⟨(some 3), .mov (.c (.int .i64 0)), none, [0, 0]⟩,
                     ⟨(some 4), .mov (.c (.int .i64 4)), none, [1, 0, 1]⟩] false)
                   .ret)
                  (.seq
                   (.region [
                     ⟨(some 43), .mov (.t 0), none, []⟩,
                     ⟨(some 44), .mov (.t 6), none, []⟩,
                     ⟨(some 45), .mov (.t 7), none, []⟩,
                     ⟨(some 46), .slice 1 (.t 43) (some (.t 44)) (some (.t 45)), none, [2, 1, 0]⟩,
                     ⟨(some 47), .call 35 [(.t 46)], none, [0, 1, 2, 3]⟩,
                     ⟨(some 48), .mov (.t 5), none, []⟩,
                     ⟨(some 49), .iaddrS [.int .u8 0] (.t 48) (.c (.int .i64 3)), none, [5]⟩,
                     ⟨(some 50), .load 1 false (.t 49), none, [5, 6]⟩,
                     ⟨(some 51), .cmp .neq 0 (.t 47) (.t 50), none, [6, 5, 3, 2, 1, 0, 7, 4]⟩,
                     ⟨(some 42), .mov (.t 51), none, [7, 0, 1, 2, 3, 5, 6, 4, 8]⟩] true)
                   (.cond (.t 42)
                    (.seq
                     (.region [
                       ⟨(some 2), .mov (.c (.nil)), none, []⟩,
                       ⟨(some 3), .mov (.c (.int .i64 0)), none, [0, 0]⟩,
                       ⟨(some 4), .mov (.c (.int .i64 5)), none, [1, 0, 1]⟩] false)
                     .ret)
                    (.seq
                     (.region [
                       ⟨(some 53), .mov (.t 2), none, []⟩,
                       ⟨(some 54), .len 0 (.t 53), none, [0]⟩,
                       ⟨(some 55), .cmp .eql 0 (.t 54) (.c (.int .i64 16)), none, [1]⟩,
                       ⟨(some 52), .mov (.t 55), none, [2]⟩] false)
                     (.cond (.t 52)
                      (.seq
                       (.region [
                         ⟨(some 2), .mov (.c (.nil)), none, []⟩,
                         ⟨(some 3), .mov (.c (.int .i64 0)), none, [0, 0]⟩,
                         ⟨(some 4), .mov (.c (.int .i64 3)), none, [1, 0, 1]⟩] false)
                       .ret)
                      .skip)))))))))))
           (.seq
            (.region [
              ⟨(some 56), .mov (.t 2), none, []⟩,
              ⟨(some 57), .mov (.t 5), none, []⟩,
              ⟨(some 58), .iaddrS [.int .u8 0] (.t 57) (.c (.int .i64 0)), none, [1]⟩,
              ⟨(some 59), .load 1 false (.t 58), none, [1, 2]⟩,
              ⟨(some 60), .mov (.t 0), none, []⟩,
              ⟨(some 61), .mov (.t 6), none, []⟩,
              ⟨(some 62), .mov (.t 7), none, []⟩,
              ⟨(some 63), .slice 1 (.t 60) (some (.t 61)) (some (.t 62)), none, [6, 5, 4]⟩,
              ⟨(some 64), .call 33 [(.t 63)], none, [4, 5, 6, 7]⟩,
              ⟨(some 65), .build [.int .u8 0, .nil] [(0, 1, (.t 59)), (1, 1, (.t 64))], none, [7, 6, 5, 4, 2, 1, 8, 3]⟩,
              ⟨(some 66), .bslice 1 [.int .u8 0, .nil] [(0, (.t 65))], none, [3, 8, 1, 2, 4, 5, 6, 7, 9]⟩,
              ⟨(some 67), .appD 32 32 [.int .u8 0, .nil] (.t 56) (.t 66), none, [9, 7, 6, 5, 4, 2, 1, 3, 8, 10, 0]⟩,
              ⟨(some 68), .mov (.t 7), none, []⟩,
              ⟨(some 2), .mov (.t 67), none, [10, 9, 8, 7, 6, 5, 4, 3, 2, 1, 0, 11]⟩,
              ⟨(some 3), .mov (.t 68), none, [11, 10, 9, 8, 7, 6, 5, 4, 3, 2, 1, 0, 13, 12]⟩] true)
            (.seq
             (.region [
               ⟨(some 69), .mov (.t 5), none, []⟩,
               ⟨(some 70), .iaddrS [.int .u8 0] (.t 69) (.c (.int .i64 1)), none, [0]⟩,
               ⟨(some 71), .load 1 false (.t 70), none, [1]⟩,
               ⟨(some 72), .arith .and (.t 71) (.c (.int .u8 128)), none, [2]⟩,
               ⟨(some 73), .cmp .neq 0 (.t 72) (.c (.int .u8 0)), none, [3]⟩] false)
             (.cond (.t 73)
              (.exit 0)
              .skip))))))))))
    (.seq
     (.seq
      (.region [
        ⟨(some 74), .mov (.t 2), none, []⟩,
        ⟨(some 75), .call 26 [(.t 74)], none, [0]⟩,
        ⟨(some 76), .not (.t 75), none, [1]⟩] false)
      (.cond (.t 76)
       (.seq
        (.region [
          ⟨(some 2), .mov (.c (.nil)), none, []⟩,
          ⟨(some 3), .mov (.c (.int .i64 0)), none, [0, 0]⟩,
          ⟨(some 4), .mov (.c (.int .i64 1)), none, [1, 0, 1]⟩] false)
        .ret)
       .skip))
     (.seq
      (.region [
        ⟨(some 77), .mov (.t 2), none, []⟩,
        ⟨(some 78), .mov (.t 3), none, []⟩,
        ⟨(some 2), .mov (.t 77), none, [0, 0]⟩,
        ⟨(some 3), .mov (.t 78), none, [1, 2, 0, 1, 2]⟩,
        ⟨(some 4), .mov (.c (.int .i64 0)), none, [3, 0, 1, 2, 3]⟩] false)
      .ret))))
def rv30 : List RV := [.t 2, .t 3, .t 4]
theorem rc30_ok : comp Try.prog Try.f30.ntmps (Try.f30.body.getD .skip) = some (erase rc30) := by kernel_rfl
theorem rv30_ok : compRes Try.prog Try.f30.results.toList = some rv30 := by kernel_rfl

/-- baseboard/baseboardref18.Decode [29] -/
def rc31 : RC :=
  (.seq
   (.region [
     ⟨(some 2), .mov (.c (.nil)), none, []⟩,
     ⟨(some 3), .mov (.c (.int .i64 0)), none, [0]⟩,
     ⟨(some 4), .mov (.c (.int .i64 0)), none, [1]⟩] false)
   (.seq
    (.region [
      ⟨(some 5), .mov (.c (.nil)), none, []⟩] false)
    (.seq
     (.region [
       ⟨(some 6), .mov (.c (.int .i64 0)), none, []⟩] false)
     (.seq
      (.block 0
       (.loop 0
        (.block 1
         (.seq
          (.seq
           (.region [
             ⟨(some 10), .mov (.t 0), none, []⟩,
             ⟨(some 11), .len 0 (.t 10), none, [0]⟩,
             ⟨(some 12), .mov (.t 6), none, []⟩,
             ⟨(some 13), .arith .sub (.t 11) (.t 12), none, [1, 2]⟩,
             ⟨(some 14), .cmp .lss 0 (.t 13) (.c (.int .i64 5)), none, [3]⟩] false)
           (.cond (.t 14)
            (.seq
             (.region [
               ⟨(some 2), .mov (.c (.nil)), none, []⟩,
               ⟨(some 3), .mov (.c (.int .i64 0)), none, [0, 0]⟩,
               ⟨(some 4), .mov (.c (.int .i64 4)), none, [1, 0, 1]⟩] false)
             .ret)
            .skip))
          (.seq
           (.region [
             ⟨(some 15), .mov (.t 0), none, []⟩,
             ⟨(some 16), .mov (.t 6), none, []⟩,
             ⟨(some 17), .mov (.t 6), none, []⟩,
             ⟨(some 18), .arith .add (.t 17) (.c (.int .i64 5)), none, [2]⟩,
             ⟨(some 19), .slice 1 (.t 15) (some (.t 16)) (some (.t 18)), none, [0, 1, 3]⟩,
             ⟨(some 7), .mov (.t 19), none, [4, 0, 1, 2, 3, 4]⟩] false)
           (.seq
            (.seq
             (.region [
               ⟨(some 20), .mov (.t 7), none, []⟩,
               ⟨(some 21), .call 29 [(.t 20)], none, [0]⟩,
               ⟨(some 22), .cmp .neq 0 (.t 21) (.c (.int .u8 0)), none, [1]⟩] false)
             (.cond (.t 22)
              (.seq
               (.region [
                 ⟨(some 2), .mov (.c (.nil)), none, []⟩,
                 ⟨(some 3), .mov (.c (.int .i64 0)), none, [0, 0]⟩,
                 ⟨(some 4), .mov (.c (.int .i64 5)), none, [1, 0, 1]⟩] false)
               .ret)
              .skip))
            (.seq
             (.seq
              (.region [
                ⟨(some 23), .mov (.t 7), none, []⟩,
                ⟨(some 24), .iaddrS [.int .u8 0] (.t 23) (.c (.int .i64 1)), none, [0]⟩,
                ⟨(some 25), .load 1 false (.t 24), none, [1]⟩,
                ⟨(some 26), .arith .rem (.t 25) (.c (.int .u8 128)), none, [2]⟩,
                ⟨(some 27), .cmp .neq 0 (.t 26) (.c (.int .u8 2)), none, [3]⟩] false)
              (.cond (.t 27)
               (.seq
                (.region [
                  ⟨(some 2), .mov (.c (.nil)), none, []⟩,
                  ⟨(some 3), .mov (.c (.int .i64 0)), none, [0, 0]⟩,
                  ⟨(some 4), .mov (.c (.int .i64 6)), none, [1, 0, 1]⟩] false)
                .ret)
               .skip))
             (.seq
              (.region [
                ⟨(some 28), .mov (.t 7), none, []⟩,
                ⟨(some 29), .iaddrS [.int .u8 0] (.t 28) (.c (.int .i64 2)), none, [0]⟩,
                ⟨(some 30), .load 1 false (.t 29), none, [1]⟩,
                ⟨(some 31), .conv .i64 (.t 30), none, [2]⟩,
                ⟨(some 8), .mov (.t 31), none, [3, 0, 1, 2, 3]⟩] false)
              (.seq
               (.seq
                (.region [
                  ⟨(some 32), .mov (.t 0), none, []⟩,
                  ⟨(some 33), .len 0 (.t 32), none, [0]⟩,
                  ⟨(some 34), .mov (.t 6), none, []⟩,
                  ⟨(some 35), .arith .sub (.t 33) (.t 34), none, [1, 2]⟩,
                  ⟨(some 36), .arith .sub (.t 35) (.c (.int .i64 5)), none, [3]⟩,
                  ⟨(some 37), .mov (.t 8), none, []⟩,
                  ⟨(some 38), .cmp .lss 0 (.t 36) (.t 37), none, [4, 5]⟩] false)
                (.cond (.t 38)
                 (.seq
                  (.region [
                    ⟨(some 2), .mov (.c (.nil)), none, []⟩,
                    ⟨(some 3), .mov (.c (.int .i64 0)), none, [0, 0]⟩,
                    ⟨(some 4), .mov (.c (.int .i64 4)), none, [1, 0, 1]⟩] false)
                  .ret)
                 .skip))
               (.seq
                (.region [
                  ⟨(some 39), .mov (.t 0), none, []⟩,
                  ⟨(some 40), .mov (.t 6), none, []⟩,
                  ⟨(some 41), .arith .add (.t 40) (.c (.int .i64 5)), none, [1]⟩,
                  ⟨(some 42), .mov (.t 6), none, []⟩,
                  ⟨(some 43), .arith .add (.t 42) (.c (.int .i64 5)), none, [3]⟩,
                  ⟨(some 44), .mov (.t 8), none, []⟩,
                  ⟨(some 45), .arith .add (.t 43) (.t 44), none, [4, 5]⟩,
                  ⟨(some 46), .slice 1 (.t 39) (some (.t 41)) (some (.t 45)), none, [0, 2, 6]⟩,
                  ⟨(some 9), .mov (.t 46), none, [7, 0, 1, 2, 3, 4, 5, 6, 7]⟩] false)
                (.seq
                 (.seq
                  (.region [
                    ⟨(some 47), .mov (.t 9), none, []⟩,
                    ⟨(some 48), .call 29 [(.t 47)], none, [0]⟩,
                    ⟨(some 49), .mov (.t 7), none, []⟩,
                    ⟨(some 50), .iaddrS [.int .u8 0] (.t 49) (.c (.int .i64 3)), none, [2]⟩,
                    ⟨(some 51), .load 1 false (.t 50), none, [2, 3]⟩,
                    ⟨(some 52), .cmp .neq 0 (.t 48) (.t 51), none, [3, 2, 0, 4, 1]⟩] true)
                  (.cond (.t 52)
                   (.seq
                    (.region [
                      ⟨(some 2), .mov (.c (.nil)), none, []⟩,
                      ⟨(some 3), .mov (.c (.int .i64 0)), none, [0, 0]⟩,
                      ⟨(some 4), .mov (.c (.int .i64 5)), none, [1, 0, 1]⟩] false)
                    .ret)
                   .skip))
                 (.seq
                  (.seq
                   (.region [
                     ⟨(some 53), .mov (.t 5), none, []⟩,
                     ⟨(some 54), .len 0 (.t 53), none, [0]⟩,
                     ⟨(some 55), .cmp .eql 0 (.t 54) (.c (.int .i64 16)), none, [1]⟩] false)
                   (.cond (.t 55)
                    (.seq
                     (.region [
                       ⟨(some 2), .mov (.c (.nil)), none, []⟩,
                       ⟨(some 3), .mov (.c (.int .i64 0)), none, [0, 0]⟩,
                       ⟨(some 4), .mov (.c (.int .i64 3)), none, [1, 0, 1]⟩] false)
                     .ret)
                    .skip))
                  (.seq
                   (.region [
                     ⟨(some 56), .mov (.t 5), none, []⟩,
                     ⟨(some 57), .mov (.t 7), none, []⟩,
                     ⟨(some 58), .iaddrS [.int .u8 0] (.t 57) (.c (.int .i64 0)), none, [1]⟩,
                     ⟨(some 59), .load 1 false (.t 58), none, [1, 2]⟩,
                     ⟨(some 60), .mov (.t 9), none, []⟩,
                     ⟨(some 61), .call 34 [(.t 60)], none, [4]⟩,
                     ⟨(some 62), .build [.int .u8 0, .nil] [(0, 1, (.t 59)), (1, 1, (.t 61))], none, [4, 2, 1, 5, 3]⟩,
                     ⟨(some 63), .bslice 1 [.int .u8 0, .nil] [(0, (.t 62))], none, [3, 5, 1, 2, 4, 6]⟩,
                     ⟨(some 64), .appD 32 32 [.int .u8 0, .nil] (.t 56) (.t 63), none, [6, 4, 2, 1, 3, 5, 7, 0]⟩,
                     ⟨(some 5), .mov (.t 64), none, [7, 6, 5, 4, 3, 2, 1, 0, 8]⟩] true)
                   (.seq
                    (.region [
                      ⟨(some 65), .mov (.t 6), none, []⟩,
                      ⟨(some 66), .mov (.t 8), none, []⟩,
                      ⟨(some 67), .arith .add (.c (.int .i64 5)) (.t 66), none, [1]⟩,
                      ⟨(some 68), .arith .add (.t 65) (.t 67), none, [0, 2]⟩,
                      ⟨(some 6), .mov (.t 68), none, [3, 0, 1, 2, 3]⟩] false)
                    (.seq
                     (.region [
                       ⟨(some 69), .mov (.t 7), none, []⟩,
                       ⟨(some 70), .iaddrS [.int .u8 0] (.t 69) (.c (.int .i64 1)), none, [0]⟩,
                       ⟨(some 71), .load 1 false (.t 70), none, [1]⟩,
                       ⟨(some 72), .cmp .geq 0 (.t 71) (.c (.int .u8 128)), none, [2]⟩] false)
                     (.cond (.t 72)
                      (.exit 0)
                      .skip))))))))))))))))
      (.seq
       (.seq
        (.region [
          ⟨(some 73), .mov (.t 5), none, []⟩,
          ⟨(some 74), .call 27 [(.t 73)], none, [0]⟩,
          ⟨(some 75), .not (.t 74), none, [1]⟩] false)
        (.cond (.t 75)
         (.seq
          (.region [
            ⟨(some 2), .mov (.c (.nil)), none, []⟩,
            ⟨(some 3), .mov (.c (.int .i64 0)), none, [0, 0]⟩,
            ⟨(some 4), .mov (.c (.int .i64 1)), none, [1, 0, 1]⟩] false)
          .ret)
         .skip))
       (.seq
        (.region [
          ⟨(some 76), .mov (.t 5), none, []⟩,
          ⟨(some 77), .mov (.t 6), none, []⟩,
          ⟨(some 2), .mov (.t 76), none, [0, 0]⟩,
          ⟨(some 3), .mov (.t 77), none, [1, 2, 0, 1, 2]⟩,
          ⟨(some 4), .mov (.c (.int .i64 0)), none, [3, 0, 1, 2, 3]⟩] false)
        .ret))))))
def rv31 : List RV := [.t 2, .t 3, .t 4]
theorem rc31_ok : comp Try.prog Try.f31.ntmps (Try.f31.body.getD .skip) = some (erase rc31) := by kernel_rfl
theorem rv31_ok : compRes Try.prog Try.f31.results.toList = some rv31 := by kernel_rfl

/-- baseboard/baseboardref01.Seal8 [29] -/
def rc32 : RC :=
  (.seq
   (.region [
     ⟨(some 2), .mov (.c (.nil)), none, []⟩] false)
   (.seq
    (.region [
      ⟨(some 3), .mov (.t 0), none, []⟩,
      ⟨(some 4), .call 34 [(.t 3)], none, [0]⟩,
      ⟨(some 5), .mov (.t 0), none, []⟩,
      ⟨(some 6), .call 29 [(.t 5)], none, [2, 1]⟩,
      ⟨(some 7), .bsliceO 5 1 [.int .u8 0] [(0, (.t 6))], none, [3]⟩,
      ⟨(some 8), .append 5 1 [.int .u8 0] (.t 4) (.t 7), none, [1, 4, 3]⟩,
      ⟨(some 2), .mov (.t 8), none, [5, 5, 0, 1, 2, 3, 4, 5]⟩] false)
    .ret))
def rv32 : List RV := [.t 2]
theorem rc32_ok : comp Try.prog Try.f32.ntmps (Try.f32.body.getD .skip) = some (erase rc32) := by kernel_rfl
theorem rv32_ok : compRes Try.prog Try.f32.results.toList = some rv32 := by kernel_rfl

/-- slices.Clone[[]byte,byte] [29] -/
def rc33 : RC :=
  (.seq
   (.region [
     ⟨(some 2), .mov (.c (.nil)), none, []⟩] false)
   (.seq
    (.seq
     (.region [
       ⟨(some 3), .mov (.t 0), none, []⟩,
       ⟨(some 4), .eqnil false (.t 3), none, [0]⟩] false)
     (.cond (.t 4)
      (.seq
       (.region [
         ⟨(some 2), .mov (.c (.nil)), none, []⟩] false)
       .ret)
      .skip))
    (.seq
     (.region [
       ⟨(some 5), .bsliceO 5 0 [.int .u8 0] [], none, []⟩,
       ⟨(some 6), .mov (.t 0), none, []⟩,
       ⟨(some 7), .append 5 1 [.int .u8 0] (.t 5) (.t 6), none, [0, 1]⟩,
       ⟨(some 2), .mov (.t 7), none, [2, 2, 0, 1, 2]⟩] false)
     .ret)))
def rv33 : List RV := [.t 2]
theorem rc33_ok : comp Try.prog Try.f33.ntmps (Try.f33.body.getD .skip) = some (erase rc33) := by kernel_rfl
theorem rv33_ok : compRes Try.prog Try.f33.results.toList = some rv33 := by kernel_rfl

/-- baseboard/baseboardref01.Copy [29] -/
def rc34 : RC :=
  (.seq
   (.region [
     ⟨(some 2), .mov (.c (.nil)), none, []⟩] false)
   (.seq
    (.region [
      ⟨(some 3), .mov (.c (.nil)), none, []⟩] false)
    (.seq
     (.seq
      (.region [
        ⟨(some 4), .mov (.c (.int .i64 0)), none, []⟩] false)
      (.block 0
       (.loop 0
        (.seq
         (.seq
          (.region [
            ⟨(some 5), .mov (.t 4), none, []⟩,
            ⟨(some 6), .mov (.t 0), none, []⟩,
            ⟨(some 7), .len 0 (.t 6), none, [1]⟩,
            ⟨(some 8), .cmp .lss 0 (.t 5) (.t 7), none, [0, 2]⟩] false)
          (.cond (.t 8)
           .skip
           (.exit 0)))
         (.seq
          (.block 1
           (.region [
             ⟨(some 11), .mov (.t 3), none, []⟩,
             ⟨(some 12), .mov (.t 0), none, []⟩,
             ⟨(some 13), .mov (.t 4), none, []⟩,
             ⟨(some 14), .iaddrS [.int .u8 0] (.t 12) (.t 13), none, [1, 2]⟩,
             ⟨(some 15), .load 1 false (.t 14), none, [3]⟩,
             ⟨(some 16), .bsliceO 5 1 [.int .u8 0] [(0, (.t 15))], none, [4]⟩,
             ⟨(some 17), .append 5 1 [.int .u8 0] (.t 11) (.t 16), none, [0, 5]⟩,
             ⟨(some 3), .mov (.t 17), none, [6, 6, 0, 1, 2, 3, 4, 5, 6]⟩] false))
          (.region [
            ⟨(some 9), .mov (.t 4), none, []⟩,
            ⟨(some 10), .arith .add (.t 9) (.c (.int .i64 1)), none, [0]⟩,
            ⟨(some 4), .mov (.t 10), none, [1, 0, 1]⟩] false))))))
     (.seq
      (.region [
        ⟨(some 18), .mov (.t 3), none, []⟩,
        ⟨(some 2), .mov (.t 18), none, [0, 0]⟩] false)
      .ret))))
def rv34 : List RV := [.t 2]
theorem rc34_ok : comp Try.prog Try.f34.ntmps (Try.f34.body.getD .skip) = some (erase rc34) := by kernel_rfl
theorem rv34_ok : compRes Try.prog Try.f34.results.toList = some rv34 := by kernel_rfl

/-- baseboard/checksum.Sum8 [29] -/
def rc35 : RC :=
  (.seq
   (.region [
     ⟨(some 2), .mov (.c (.int .u8 0)), none, []⟩] false)
   (.seq
    (.region [
      ⟨(some 3), .mov (.c (.int .u8 0)), none, []⟩] false)
    (.seq
     (.seq
      (.region [
        ⟨(some 6), .mov (.t 0), none, []⟩,
        ⟨(some 7), .len 0 (.t 6), none, [0]⟩,
        ⟨(some 8), .mov (.c (.int .i64 0)), none, []⟩] false)
      (.block 0
       (.loop 0
        (.seq
         (.region [
           ⟨(some 9), .cmp .lss 0 (.t 8) (.t 7), none, []⟩] false)
         (.seq
          (.cond (.t 9)
           .skip
           (.exit 0))
          (.seq
           (.block 1
            (.seq
             (.region [
               ⟨(some 10), .iaddrS [.int .u8 0] (.t 6) (.t 8), none, []⟩,
               ⟨(some 11), .load 1 false (.t 10), none, [0]⟩,
               ⟨(some 5), .mov (.t 11), none, [1, 0, 1]⟩] false)
             (.region [
               ⟨(some 12), .mov (.t 3), none, []⟩,
               ⟨(some 13), .mov (.t 5), none, []⟩,
               ⟨(some 14), .arith .add (.t 12) (.t 13), none, [0, 1]⟩,
               ⟨(some 3), .mov (.t 14), none, [2, 0, 1, 2]⟩] false)))
           (.region [
             ⟨(some 15), .arith .add (.t 8) (.c (.int .i64 1)), none, []⟩,
             ⟨(some 8), .mov (.t 15), none, [0]⟩] false)))))))
     (.seq
      (.region [
        ⟨(some 16), .mov (.t 3), none, []⟩,
        ⟨(some 17), .neg (.t 16), none, [0]⟩,
        ⟨(some 2), .mov (.t 17), none, [1, 0, 1]⟩] false)
      .ret))))
def rv35 : List RV := [.t 2]
theorem rc35_ok : comp Try.prog Try.f35.ntmps (Try.f35.body.getD .skip) = some (erase rc35) := by kernel_rfl
theorem rv35_ok : compRes Try.prog Try.f35.results.toList = some rv35 := by kernel_rfl

/-- baseboard/checksum.Seal8 [29] -/
def rc36 : RC :=
  (.seq
   (.region [
     ⟨(some 2), .mov (.c (.nil)), none, []⟩] false)
   (.seq
    (.region [
      ⟨(some 3), .mov (.t 0), none, []⟩,
      ⟨(some 4), .call 33 [(.t 3)], none, [0]⟩,
      ⟨(some 5), .mov (.t 0), none, []⟩,
      ⟨(some 6), .call 35 [(.t 5)], none, [2, 1]⟩,
      ⟨(some 7), .bsliceO 5 1 [.int .u8 0] [(0, (.t 6))], none, [3]⟩,
      ⟨(some 8), .append 5 1 [.int .u8 0] (.t 4) (.t 7), none, [1, 4, 3]⟩,
      ⟨(some 2), .mov (.t 8), none, [5, 5, 0, 1, 2, 3, 4, 5]⟩] false)
    .ret))
def rv36 : List RV := [.t 2]
theorem rc36_ok : comp Try.prog Try.f36.ntmps (Try.f36.body.getD .skip) = some (erase rc36) := by kernel_rfl
theorem rv36_ok : compRes Try.prog Try.f36.results.toList = some rv36 := by kernel_rfl

end Go.Proofs.Ytklbnccpeeehkaa

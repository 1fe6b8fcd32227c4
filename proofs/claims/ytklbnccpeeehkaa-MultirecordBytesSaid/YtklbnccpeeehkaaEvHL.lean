/- A part of the proof: symbolic evaluation of the program's functions, proved sound against the model; no condition. -/
import Derived.Test.YtklbnccpeeehkaaEvHK
namespace Go.Proofs.Ytklbnccpeeehkaa
open Go Go.RowKit Go.Ev
set_option linter.unusedSimpArgs false
set_option linter.unusedVariables false
set_option maxRecDepth 20000
/-- baseboard/baseboardlaw18.MultirecordBytes [22, 29, 23] -/
def rc5 : RC :=
  (.seq
   (.region [
     ⟨(some 6), .mov (.c (.bool false)), none, []⟩] false)
   (.seq
    (.seq
     (.region [
       ⟨(some 27), .mov (.t 0), none, []⟩,
       ⟨(some 28), .call 8 [(.t 27)], none, [0]⟩,
       ⟨(some 29), .not (.t 28), none, [1]⟩,
       ⟨(some 30), .mov (.t 29), none, [2, 1]⟩,
       ⟨(some 31), .mov (.t 1), (some (30, false)), [3]⟩,
       ⟨(some 32), .len 0 (.t 31), (some (30, false)), [4, 3]⟩,
       ⟨(some 33), .cmp .gtr 0 (.t 32) (.c (.int .i64 600)), (some (30, false)), [5, 3]⟩,
       ⟨(some 34), .pick (.t 30) (.c (.bool true)) (.t 33), none, [3, 6]⟩,
       ⟨(some 35), .mov (.t 34), none, [7, 3]⟩,
       ⟨(some 36), .mov (.t 2), (some (35, false)), [8]⟩,
       ⟨(some 37), .call 9 [(.t 36)], (some (35, false)), [9, 8, 8]⟩,
       ⟨(some 38), .not (.t 37), (some (35, false)), [10, 8]⟩,
       ⟨(some 39), .pick (.t 35) (.c (.bool true)) (.t 38), none, [8, 11]⟩] false)
     (.cond (.t 39)
      (.seq
       (.region [
         ⟨(some 40), .call 10 [], none, []⟩,
         ⟨(some 6), .mov (.t 40), none, [0, 0, 0]⟩] false)
       .ret)
      .skip))
    (.seq
     (.region [
       ⟨(some 41), .mov (.t 2), none, []⟩,
       ⟨(some 42), .call 11 [(.t 41)], none, [0]⟩,
       ⟨(some 7), .mov (.t 42), none, [1, 1, 0, 1]⟩] false)
     (.seq
      (.seq
       (.region [
         ⟨(some 43), .mov (.t 0), none, []⟩,
         ⟨(some 44), .mov (.t 7), none, []⟩,
         ⟨(some 45), .call 15 [(.t 44), (.c (.int .i64 18))], none, [1]⟩,
         ⟨(some 46), .bsliceO 22 2 [.nil] [(0, (.t 43)), (1, (.t 45))], none, [0, 2]⟩,
         ⟨(some 47), .len 0 (.t 46), none, [3]⟩,
         ⟨(some 48), .mov (.c (.int .i64 0)), none, []⟩] false)
       (.block 0
        (.loop 0
         (.seq
          (.region [
            ⟨(some 49), .cmp .lss 0 (.t 48) (.t 47), none, []⟩] false)
          (.seq
           (.cond (.t 49)
            .skip
            (.exit 0))
           (.seq
            (.block 1
             (.seq
              (.region [
                ⟨(some 50), .iaddrS [.nil] (.t 46) (.t 48), none, []⟩,
                ⟨(some 51), .load 1 false (.t 50), none, [0]⟩,
                ⟨(some 9), .mov (.t 51), none, [1, 0, 1]⟩] false)
              (.seq
               (.region [
                 ⟨(some 53), .mov (.t 9), none, []⟩,
                 ⟨(some 54), .call 24 [(.t 53)], none, [0]⟩,
                 ⟨(some 52), .mov (.t 54), none, [1]⟩,
                 ⟨(some 55), .extract 0 (.t 52), none, [2]⟩,
                 ⟨(some 56), .extract 1 (.t 52), none, [2]⟩,
                 ⟨(some 10), .mov (.t 55), none, [3, 1, 0, 1, 2, 3]⟩,
                 ⟨(some 11), .mov (.t 56), none, [4, 5, 0, 1, 2, 3, 4, 5]⟩] false)
               (.seq
                (.region [
                  ⟨(some 58), .mov (.t 9), none, []⟩,
                  ⟨(some 59), .call 25 [(.t 58)], none, [0]⟩,
                  ⟨(some 57), .mov (.t 59), none, [1]⟩,
                  ⟨(some 60), .extract 0 (.t 57), none, [2]⟩,
                  ⟨(some 61), .extract 1 (.t 57), none, [2]⟩,
                  ⟨(some 12), .mov (.t 60), none, [3, 1, 0, 1, 2, 3]⟩,
                  ⟨(some 13), .mov (.t 61), none, [4, 5, 0, 1, 2, 3, 4, 5]⟩] false)
                (.seq
                 (.region [
                   ⟨(some 62), .mov (.t 9), none, []⟩,
                   ⟨(some 63), .call 26 [(.t 62)], none, [0]⟩,
                   ⟨(some 64), .mov (.t 9), none, []⟩,
                   ⟨(some 65), .call 27 [(.t 64)], none, [2, 1]⟩,
                   ⟨(some 66), .cmp .neq 1 (.t 63) (.t 65), none, [1, 3]⟩,
                   ⟨(some 67), .mov (.t 66), none, [4, 3]⟩,
                   ⟨(some 68), .mov (.t 11), (some (67, false)), [5]⟩,
                   ⟨(some 69), .mov (.t 13), (some (67, false)), [5]⟩,
                   ⟨(some 70), .cmp .neq 0 (.t 68) (.t 69), (some (67, false)), [6, 7, 5]⟩,
                   ⟨(some 71), .pick (.t 67) (.c (.bool true)) (.t 70), none, [5, 8]⟩,
                   ⟨(some 72), .mov (.t 71), none, [9, 5]⟩,
                   ⟨(some 73), .mov (.t 10), (some (72, false)), [10]⟩,
                   ⟨(some 74), .mov (.t 12), (some (72, false)), [10]⟩,
                   ⟨(some 75), .call 23 [(.t 73), (.t 74)], (some (72, false)), [11, 12, 10, 10]⟩,
                   ⟨(some 76), .not (.t 75), (some (72, false)), [13, 10]⟩,
                   ⟨(some 77), .pick (.t 72) (.c (.bool true)) (.t 76), none, [10, 14]⟩] false)
                 (.cond (.t 77)
                  (.seq
                   (.region [
                     ⟨(some 6), .mov (.c (.bool false)), none, []⟩] false)
                   .ret)
                  .skip))))))
            (.region [
              ⟨(some 78), .arith .add (.t 48) (.c (.int .i64 1)), none, []⟩,
              ⟨(some 48), .mov (.t 78), none, [0]⟩] false)))))))
      (.seq
       (.region [
         ⟨(some 80), .mov (.t 7), none, []⟩,
         ⟨(some 81), .call 15 [(.t 80), (.c (.int .i64 5))], none, [0]⟩,
         ⟨(some 82), .call 25 [(.t 81)], none, [1, 1]⟩,
         ⟨(some 79), .mov (.t 82), none, [2]⟩,
         ⟨(some 83), .extract 0 (.t 79), none, [3]⟩,
         ⟨(some 84), .extract 1 (.t 79), none, [3]⟩,
         ⟨(some 14), .mov (.t 83), none, [4, 2, 0, 1, 2, 3, 4]⟩,
         ⟨(some 15), .mov (.t 84), none, [5, 6, 0, 1, 2, 3, 4, 5, 6]⟩] false)
       (.seq
        (.region [
          ⟨(some 85), .mov (.t 14), none, []⟩,
          ⟨(some 86), .append 5 1 [.int .u8 0] (.c (.nil)) (.t 85), none, [0]⟩,
          ⟨(some 16), .mov (.t 86), none, [1, 1, 0, 1]⟩] false)
        (.seq
         (.seq
          (.region [
            ⟨(some 87), .mov (.t 16), none, []⟩,
            ⟨(some 88), .len 0 (.t 87), none, [0]⟩,
            ⟨(some 89), .cmp .gtr 0 (.t 88) (.c (.int .i64 4)), none, [1]⟩] false)
          (.cond (.t 89)
           (.seq
            (.region [
              ⟨(some 90), .mov (.t 7), none, []⟩,
              ⟨(some 91), .call 14 [(.t 90), (.c (.int .i64 5))], none, [0]⟩,
              ⟨(some 17), .mov (.t 91), none, [1, 1, 0, 1]⟩] false)
            (.seq
             (.region [
               ⟨(some 92), .mov (.t 16), none, []⟩,
               ⟨(some 93), .mov (.t 17), none, []⟩,
               ⟨(some 94), .mov (.t 7), none, []⟩,
               ⟨(some 95), .call 28 [(.t 94)], none, [2]⟩,
               ⟨(some 96), .iaddrS [.int .u8 0] (.t 92) (.t 93), none, [0, 1, 0, 1, 2, 3]⟩,
               ⟨none, .store 1 (.t 96) (.t 95), none, [4, 3, 3, 0, 1, 2, 3]⟩] false)
             (.seq
              (.region [
                ⟨(some 97), .mov (.t 7), none, []⟩,
                ⟨(some 98), .call 13 [(.t 97), (.c (.int .i64 2))], none, [0]⟩] false)
              (.cond (.t 98)
               (.region [
                 ⟨(some 99), .mov (.t 16), none, []⟩,
                 ⟨(some 100), .mov (.t 16), none, []⟩,
                 ⟨(some 101), .slice 1 (.t 100) none (some (.c (.int .i64 4))), none, [1]⟩,
                 ⟨(some 102), .call 29 [(.t 101)], none, [2]⟩,
                 ⟨(some 103), .iaddrS [.int .u8 0] (.t 99) (.c (.int .i64 4)), none, [0, 0, 1, 2, 3]⟩,
                 ⟨none, .store 1 (.t 103) (.t 102), none, [4, 3, 3, 0, 1, 2, 3]⟩] false)
               .skip))))
           .skip))
         (.seq
          (.region [
            ⟨(some 104), .bsliceO 5 5 [.int .u8 0] [(0, (.c (.int .u8 1))), (1, (.c (.int .u8 2))), (2, (.c (.int .u8 0))), (3, (.c (.int .u8 0))), (4, (.c (.int .u8 253)))], none, []⟩,
            ⟨(some 105), .append 5 1 [.int .u8 0] (.c (.nil)) (.t 104), none, [0]⟩,
            ⟨(some 106), .mov (.t 14), none, []⟩,
            ⟨(some 107), .append 5 1 [.int .u8 0] (.t 105) (.t 106), none, [1, 2, 1]⟩,
            ⟨(some 18), .mov (.t 107), none, [3, 3, 0, 1, 2, 3]⟩] false)
          (.seq
           (.seq
            (.ghost 16 (.ghost 18 (.region [
              ⟨(some 108), .mov (.t 1), none, []⟩,
              ⟨(some 109), .mov (.t 14), none, []⟩,
              ⟨(some 110), .mov (.t 16), none, []⟩,
              ⟨(some 111), .mov (.t 14), none, []⟩,
              ⟨(some 112), .mov (.t 7), none, []⟩,
              ⟨(some 113), .mov (.t 14), none, []⟩,
              ⟨(some 114), .len 0 (.t 113), none, [5]⟩,
              ⟨(some 115), .arith .add (.t 114) (.c (.int .i64 1)), none, [6]⟩,
              ⟨(some 116), .call 14 [(.t 112), (.t 115)], none, [4, 7]⟩,
              ⟨(some 117), .slice 1 (.t 111) none (some (.t 116)), none, [3, 8]⟩,
              ⟨(some 118), .mov (.t 18), none, []⟩,
              ⟨(some 119), .bsliceO 29 5 [.nil] [(0, (.t 108)), (1, (.t 109)), (2, (.t 110)), (3, (.t 117)), (4, (.t 118))], none, [0, 1, 2, 9, 10]⟩,
              ⟨(some 120), .len 0 (.t 119), none, [11]⟩,
              ⟨(some 121), .mov (.c (.int .i64 0)), none, []⟩] false)))
            (.block 2
             (.loop 1
              (.seq
               (.region [
                 ⟨(some 122), .cmp .lss 0 (.t 121) (.t 120), none, []⟩] false)
               (.seq
                (.cond (.t 122)
                 .skip
                 (.exit 2))
                (.seq
                 (.block 3
                  (.seq
                   (.region [
                     ⟨(some 123), .iaddrS [.nil] (.t 119) (.t 121), none, []⟩,
                     ⟨(some 124), .load 1 false (.t 123), none, [0]⟩,
                     ⟨(some 20), .mov (.t 124), none, [1, 0, 1]⟩] false)
                   (.seq
                    (.region [
                      ⟨(some 126), .mov (.t 20), none, []⟩,
                      ⟨(some 127), .call 30 [(.t 126)], none, [0]⟩,
                      ⟨(some 125), .mov (.t 127), none, [1]⟩,
                      ⟨(some 128), .extract 0 (.t 125), none, [2]⟩,
                      ⟨(some 129), .extract 1 (.t 125), none, [2]⟩,
                      ⟨(some 130), .extract 2 (.t 125), none, [2]⟩,
                      ⟨(some 21), .mov (.t 128), none, [3, 1, 0, 1, 2, 3]⟩,
                      ⟨(some 22), .mov (.t 129), none, [4, 6, 0, 1, 2, 3, 4, 6]⟩,
                      ⟨(some 23), .mov (.t 130), none, [5, 7, 0, 1, 2, 3, 4, 5, 6, 7]⟩] false)
                    (.seq
                     (.region [
                       ⟨(some 132), .mov (.t 20), none, []⟩,
                       ⟨(some 133), .call 31 [(.t 132)], none, [0]⟩,
                       ⟨(some 131), .mov (.t 133), none, [1]⟩,
                       ⟨(some 134), .extract 0 (.t 131), none, [2]⟩,
                       ⟨(some 135), .extract 1 (.t 131), none, [2]⟩,
                       ⟨(some 136), .extract 2 (.t 131), none, [2]⟩,
                       ⟨(some 24), .mov (.t 134), none, [3, 1, 0, 1, 2, 3]⟩,
                       ⟨(some 25), .mov (.t 135), none, [4, 6, 0, 1, 2, 3, 4, 6]⟩,
                       ⟨(some 26), .mov (.t 136), none, [5, 7, 0, 1, 2, 3, 4, 5, 6, 7]⟩] false)
                     (.seq
                      (.region [
                        ⟨(some 137), .mov (.t 23), none, []⟩,
                        ⟨(some 138), .mov (.t 26), none, []⟩,
                        ⟨(some 139), .cmp .neq 0 (.t 137) (.t 138), none, [0, 1]⟩,
                        ⟨(some 140), .mov (.t 139), none, [2]⟩,
                        ⟨(some 141), .mov (.t 22), (some (140, false)), [3]⟩,
                        ⟨(some 142), .mov (.t 25), (some (140, false)), [3]⟩,
                        ⟨(some 143), .cmp .neq 0 (.t 141) (.t 142), (some (140, false)), [4, 5, 3]⟩,
                        ⟨(some 144), .pick (.t 140) (.c (.bool true)) (.t 143), none, [3, 6]⟩,
                        ⟨(some 145), .mov (.t 144), none, [7, 3]⟩,
                        ⟨(some 146), .mov (.t 21), (some (145, false)), [8]⟩,
                        ⟨(some 147), .mov (.t 24), (some (145, false)), [8]⟩,
                        ⟨(some 148), .call 19 [(.t 146), (.t 147)], (some (145, false)), [9, 10, 8, 8]⟩,
                        ⟨(some 149), .not (.t 148), (some (145, false)), [11, 8]⟩,
                        ⟨(some 150), .pick (.t 145) (.c (.bool true)) (.t 149), none, [8, 12]⟩] false)
                      (.cond (.t 150)
                       (.seq
                        (.region [
                          ⟨(some 6), .mov (.c (.bool false)), none, []⟩] false)
                        .ret)
                       .skip))))))
                 (.region [
                   ⟨(some 151), .arith .add (.t 121) (.c (.int .i64 1)), none, []⟩,
                   ⟨(some 121), .mov (.t 151), none, [0]⟩] false)))))))
           (.seq
            (.region [
              ⟨(some 152), .call 10 [], none, []⟩,
              ⟨(some 6), .mov (.t 152), none, [0, 0, 0]⟩] false)
            .ret))))))))))
def rv5 : List RV := [.t 6]
theorem rc5_ok : comp Try.prog Try.f5.ntmps (Try.f5.body.getD .skip) = some (erase rc5) := by kernel_rfl
theorem rv5_ok : compRes Try.prog Try.f5.results.toList = some rv5 := by kernel_rfl

/-- baseboard/baseboardlaw18.MultirecordReturns [23, 29, 3, 5] -/
def rc6 : RC :=
  (.seq
   (.region [
     ⟨(some 8), .mov (.c (.bool false)), none, []⟩] false)
   (.seq
    (.seq
     (.region [
       ⟨(some 22), .mov (.t 0), none, []⟩,
       ⟨(some 23), .call 9 [(.t 22)], none, [0]⟩,
       ⟨(some 24), .not (.t 23), none, [1]⟩,
       ⟨(some 25), .mov (.t 24), none, [2, 1]⟩,
       ⟨(some 26), .mov (.t 1), (some (25, false)), [3]⟩,
       ⟨(some 27), .len 0 (.t 26), (some (25, false)), [4, 3]⟩,
       ⟨(some 28), .cmp .gtr 0 (.t 27) (.c (.int .i64 100)), (some (25, false)), [5, 3]⟩,
       ⟨(some 29), .pick (.t 25) (.c (.bool true)) (.t 28), none, [3, 6]⟩] false)
     (.cond (.t 29)
      (.seq
       (.region [
         ⟨(some 30), .call 10 [], none, []⟩,
         ⟨(some 8), .mov (.t 30), none, [0, 0, 0]⟩] false)
       .ret)
      .skip))
    (.seq
     (.region [
       ⟨(some 31), .mov (.t 0), none, []⟩,
       ⟨(some 32), .call 11 [(.t 31)], none, [0]⟩,
       ⟨(some 9), .mov (.t 32), none, [1, 1, 0, 1]⟩] false)
     (.seq
      (.region [
        ⟨(some 33), .mov (.t 9), none, []⟩,
        ⟨(some 34), .call 15 [(.t 33), (.c (.int .i64 6))], none, [0]⟩,
        ⟨(some 10), .mov (.t 34), none, [1, 1, 0, 1]⟩] false)
      (.seq
       (.region [
         ⟨(some 35), .mov (.t 10), none, []⟩,
         ⟨(some 36), .mov (.t 9), none, []⟩,
         ⟨(some 37), .call 28 [(.t 36)], none, [1]⟩,
         ⟨(some 38), .mov (.t 9), none, []⟩,
         ⟨(some 39), .call 12 [(.t 38), (.c (.int .i64 9))], none, [3, 2]⟩,
         ⟨(some 40), .build [.int .u8 0, .nil] [(0, 1, (.t 37)), (1, 1, (.t 39))], none, [2, 4]⟩,
         ⟨(some 41), .bsliceO 32 1 [.int .u8 0, .nil] [(0, (.t 40))], none, [5]⟩,
         ⟨(some 42), .append 32 32 [.int .u8 0, .nil] (.t 35) (.t 41), none, [0, 6, 4]⟩,
         ⟨(some 10), .mov (.t 42), none, [7, 7, 0, 1, 2, 3, 4, 5, 6, 7]⟩] false)
       (.seq
        (.region [
          ⟨(some 44), .mov (.t 10), none, []⟩,
          ⟨(some 45), .call 24 [(.t 44)], none, [0]⟩,
          ⟨(some 43), .mov (.t 45), none, [1]⟩,
          ⟨(some 46), .extract 0 (.t 43), none, [2]⟩,
          ⟨(some 47), .extract 1 (.t 43), none, [2]⟩,
          ⟨(some 11), .mov (.t 46), none, [3, 1, 0, 1, 2, 3]⟩,
          ⟨(some 12), .mov (.t 47), none, [4, 5, 0, 1, 2, 3, 4, 5]⟩] false)
        (.seq
         (.seq
          (.region [
            ⟨(some 48), .mov (.t 10), none, []⟩,
            ⟨(some 49), .call 26 [(.t 48)], none, [0]⟩,
            ⟨(some 50), .not (.t 49), none, [1]⟩] false)
          (.cond (.t 50)
           (.seq
            (.region [
              ⟨(some 51), .mov (.t 12), none, []⟩,
              ⟨(some 52), .cmp .eql 0 (.t 51) (.c (.int .i64 1)), none, [0]⟩,
              ⟨(some 53), .mov (.t 52), none, [1]⟩,
              ⟨(some 54), .mov (.t 11), (some (53, true)), [2]⟩,
              ⟨(some 55), .len 0 (.t 54), (some (53, true)), [3, 2]⟩,
              ⟨(some 56), .cmp .eql 0 (.t 55) (.c (.int .i64 0)), (some (53, true)), [4, 2]⟩,
              ⟨(some 57), .pick (.t 53) (.t 56) (.c (.bool false)), none, [2, 5]⟩,
              ⟨(some 58), .mov (.t 57), none, [6, 2]⟩,
              ⟨(some 59), .call 10 [], (some (58, true)), [7, 7]⟩,
              ⟨(some 60), .pick (.t 58) (.t 59) (.c (.bool false)), none, [7, 8]⟩,
              ⟨(some 8), .mov (.t 60), none, [9, 8, 0, 1, 2, 3, 4, 5, 6, 7, 8, 9]⟩] false)
            .ret)
           .skip))
         (.seq
          (.region [
            ⟨(some 62), .mov (.t 11), none, []⟩,
            ⟨(some 63), .append 5 1 [.int .u8 0] (.c (.nil)) (.t 62), none, [0]⟩,
            ⟨(some 64), .mov (.t 1), none, []⟩,
            ⟨(some 65), .append 5 1 [.int .u8 0] (.t 63) (.t 64), none, [1, 2, 1]⟩,
            ⟨(some 66), .call 30 [(.t 65)], none, [3, 3]⟩,
            ⟨(some 61), .mov (.t 66), none, [4]⟩,
            ⟨(some 67), .extract 0 (.t 61), none, [5]⟩,
            ⟨(some 68), .extract 1 (.t 61), none, [5]⟩,
            ⟨(some 69), .extract 2 (.t 61), none, [5]⟩,
            ⟨(some 13), .mov (.t 67), none, [6, 4, 0, 1, 2, 3, 4, 5, 6]⟩,
            ⟨(some 14), .mov (.t 68), none, [7, 9, 0, 1, 2, 3, 4, 5, 6, 7, 9]⟩,
            ⟨(some 15), .mov (.t 69), none, [8, 10, 0, 1, 2, 3, 4, 5, 6, 7, 8, 9, 10]⟩] false)
          (.seq
           (.seq
            (.region [
              ⟨(some 70), .mov (.t 12), none, []⟩,
              ⟨(some 71), .cmp .neq 0 (.t 70) (.c (.int .i64 0)), none, [0]⟩,
              ⟨(some 72), .mov (.t 71), none, [1]⟩,
              ⟨(some 73), .mov (.t 15), (some (72, false)), [2]⟩,
              ⟨(some 74), .cmp .neq 0 (.t 73) (.c (.int .i64 0)), (some (72, false)), [3, 2]⟩,
              ⟨(some 75), .pick (.t 72) (.c (.bool true)) (.t 74), none, [2, 4]⟩,
              ⟨(some 76), .mov (.t 75), none, [5, 2]⟩,
              ⟨(some 77), .mov (.t 14), (some (76, false)), [6]⟩,
              ⟨(some 78), .mov (.t 11), (some (76, false)), [6]⟩,
              ⟨(some 79), .len 0 (.t 78), (some (76, false)), [8, 6]⟩,
              ⟨(some 80), .cmp .neq 0 (.t 77) (.t 79), (some (76, false)), [7, 9, 6]⟩,
              ⟨(some 81), .pick (.t 76) (.c (.bool true)) (.t 80), none, [6, 10]⟩,
              ⟨(some 82), .mov (.t 81), none, [11, 6]⟩,
              ⟨(some 83), .mov (.t 10), (some (82, false)), [12]⟩,
              ⟨(some 84), .mov (.t 13), (some (82, false)), [12]⟩,
              ⟨(some 85), .call 19 [(.t 83), (.t 84)], (some (82, false)), [13, 14, 12, 12]⟩,
              ⟨(some 86), .not (.t 85), (some (82, false)), [15, 12]⟩,
              ⟨(some 87), .pick (.t 82) (.c (.bool true)) (.t 86), none, [12, 16]⟩,
              ⟨(some 88), .mov (.t 87), none, [17, 15]⟩,
              ⟨(some 89), .mov (.t 14), (some (88, false)), [18]⟩,
              ⟨(some 90), .cmp .lss 0 (.t 89) (.c (.int .i64 5)), (some (88, false)), [19, 18]⟩,
              ⟨(some 91), .pick (.t 88) (.c (.bool true)) (.t 90), none, [18, 20]⟩] false)
            (.cond (.t 91)
             (.seq
              (.region [
                ⟨(some 8), .mov (.c (.bool false)), none, []⟩] false)
              .ret)
             .skip))
           (.seq
            (.region [
              ⟨(some 93), .mov (.t 11), none, []⟩,
              ⟨(some 94), .mov (.t 2), none, []⟩,
              ⟨(some 95), .mov (.t 14), none, []⟩,
              ⟨(some 96), .call 16 [(.t 94), (.t 95)], none, [1, 2]⟩,
              ⟨(some 97), .slice 1 (.t 93) none (some (.t 96)), none, [0, 3]⟩,
              ⟨(some 98), .call 30 [(.t 97)], none, [4, 3]⟩,
              ⟨(some 92), .mov (.t 98), none, [5]⟩,
              ⟨(some 99), .extract 0 (.t 92), none, [6]⟩,
              ⟨(some 100), .extract 1 (.t 92), none, [6]⟩,
              ⟨(some 101), .extract 2 (.t 92), none, [6]⟩,
              ⟨(some 16), .mov (.t 99), none, [7, 5, 0, 1, 2, 3, 4, 5, 6, 7]⟩,
              ⟨(some 17), .mov (.t 100), none, [8, 10, 0, 1, 2, 3, 4, 5, 6, 7, 8, 10]⟩,
              ⟨(some 18), .mov (.t 101), none, [9, 11, 0, 1, 2, 3, 4, 5, 6, 7, 8, 9, 10, 11]⟩] false)
            (.seq
             (.seq
              (.region [
                ⟨(some 102), .mov (.t 18), none, []⟩,
                ⟨(some 103), .cmp .neq 0 (.t 102) (.c (.int .i64 4)), none, [0]⟩] false)
              (.cond (.t 103)
               (.seq
                (.region [
                  ⟨(some 8), .mov (.c (.bool false)), none, []⟩] false)
                .ret)
               .skip))
             (.seq
              (.seq
               (.region [
                 ⟨(some 104), .mov (.t 3), none, []⟩,
                 ⟨(some 105), .cmp .eql 0 (.t 104) (.c (.int .u8 0)), none, [0]⟩] false)
               (.cond (.t 105)
                (.seq
                 (.region [
                   ⟨(some 106), .call 10 [], none, []⟩,
                   ⟨(some 8), .mov (.t 106), none, [0, 0, 0]⟩] false)
                 .ret)
                .skip))
              (.seq
               (.region [
                 ⟨(some 107), .mov (.t 11), none, []⟩,
                 ⟨(some 108), .mov (.t 2), none, []⟩,
                 ⟨(some 109), .mov (.t 14), none, []⟩,
                 ⟨(some 110), .call 16 [(.t 108), (.t 109)], none, [1, 2]⟩,
                 ⟨(some 111), .iaddrS [.int .u8 0] (.t 107) (.t 110), none, [0, 3]⟩,
                 ⟨(some 112), .load 1 false (.t 111), none, [4]⟩,
                 ⟨(some 113), .mov (.t 3), none, []⟩,
                 ⟨(some 114), .arith .xor (.t 112) (.t 113), none, [5, 6]⟩,
                 ⟨(some 115), .iaddrS [.int .u8 0] (.t 107) (.t 110), none, [0, 3, 0, 1, 2, 3, 4, 5, 6, 7]⟩,
                 ⟨none, .store 1 (.t 115) (.t 114), none, [8, 7, 3, 0, 1, 2, 3, 4, 5, 6, 7]⟩] false)
               (.seq
                (.region [
                  ⟨(some 117), .mov (.t 11), none, []⟩,
                  ⟨(some 118), .call 30 [(.t 117)], none, [0]⟩,
                  ⟨(some 116), .mov (.t 118), none, [1]⟩,
                  ⟨(some 119), .extract 0 (.t 116), none, [2]⟩,
                  ⟨(some 120), .extract 1 (.t 116), none, [2]⟩,
                  ⟨(some 121), .extract 2 (.t 116), none, [2]⟩,
                  ⟨(some 19), .mov (.t 119), none, [3, 1, 0, 1, 2, 3]⟩,
                  ⟨(some 20), .mov (.t 120), none, [4, 6, 0, 1, 2, 3, 4, 6]⟩,
                  ⟨(some 21), .mov (.t 121), none, [5, 7, 0, 1, 2, 3, 4, 5, 6, 7]⟩] false)
                (.seq
                 (.region [
                   ⟨(some 122), .mov (.t 21), none, []⟩,
                   ⟨(some 123), .cmp .eql 0 (.t 122) (.c (.int .i64 5)), none, [0]⟩,
                   ⟨(some 124), .mov (.t 123), none, [1]⟩,
                   ⟨(some 125), .call 10 [], (some (124, true)), [2, 2]⟩,
                   ⟨(some 126), .pick (.t 124) (.t 125) (.c (.bool false)), none, [2, 3]⟩,
                   ⟨(some 8), .mov (.t 126), none, [4, 3, 0, 1, 2, 3, 4]⟩] false)
                 .ret)))))))))))))))
def rv6 : List RV := [.t 8]
theorem rc6_ok : comp Try.prog Try.f6.ntmps (Try.f6.body.getD .skip) = some (erase rc6) := by kernel_rfl
theorem rv6_ok : compRes Try.prog Try.f6.results.toList = some rv6 := by kernel_rfl
def pk2 (i : Nat) (a b : List Rc) : List Rc := if i = 0 then a else b
theorem getE_two (a b : List Rc) (i : Nat) (h : decide ((i : Int) < 2) = true) : getE [.nil] [[.lst [.int .u8 0, .nil] (recs a)], [.lst [.int .u8 0, .nil] (recs b)]] i = [.lst [.int .u8 0, .nil] (recs (pk2 i a b))] := by
  have h := of_decide_eq_true h
  have : i = 0 ∨ i = 1 := by omega
  rcases this with rfl | rfl <;> rfl
theorem pk2_len {i : Nat} {a b : List Rc} {n : Nat} (ha : a.length ≤ n) (hb : b.length ≤ n) : (pk2 i a b).length ≤ n := by unfold pk2; split <;> assumption
theorem pk2_all {i : Nat} {a b : List Rc} {n : Nat} (ha : ∀ r ∈ a, r.d.length ≤ n) (hb : ∀ r ∈ b, r.d.length ≤ n) : ∀ r ∈ pk2 i a b, r.d.length ≤ n := by unfold pk2; split <;> assumption
def pk5 (i : Nat) (a b c d e : List Int) : List Int := if i = 0 then a else if i = 1 then b else if i = 2 then c else if i = 3 then d else e
theorem getE_five (a b c d e : List Int) (i : Nat) (h : decide ((i : Int) < 5) = true) : getE [.nil] [[.lst [.int .u8 0] (u8s a)], [.lst [.int .u8 0] (u8s b)], [.lst [.int .u8 0] (u8s c)], [.lst [.int .u8 0] (u8s d)], [.lst [.int .u8 0] (u8s e)]] i = [.lst [.int .u8 0] (u8s (pk5 i a b c d e))] := by
  have h := of_decide_eq_true h
  have : i = 0 ∨ i = 1 ∨ i = 2 ∨ i = 3 ∨ i = 4 := by omega
  rcases this with rfl | rfl | rfl | rfl | rfl <;> rfl
structure P5 where
  a : List Int
  b : List Int
  c : List Int
  d : List Int
  e : List Int
  ha : a.length ≤ 100000 ∧ Okb a
  hb : b.length ≤ 100000 ∧ Okb b
  hc : c.length ≤ 100000 ∧ Okb c
  hd : d.length ≤ 100000 ∧ Okb d
  he : e.length ≤ 100000 ∧ Okb e
theorem P5.ok (p : P5) (i : Nat) : (pk5 i p.a p.b p.c p.d p.e).length ≤ 100000 ∧ Okb (pk5 i p.a p.b p.c p.d p.e) := by
  unfold pk5
  split
  · exact p.ha
  · split
    · exact p.hb
    · split
      · exact p.hc
      · split
        · exact p.hd
        · exact p.he
theorem pk2_ok {i : Nat} {a b : List Rc} (ha : Okr a) (hb : Okr b) : Okr (pk2 i a b) := by unfold pk2; split <;> assumption
theorem okb_set {l : List Int} (h : Okb l) {i : Nat} {k : Int} (hk : 0 ≤ k ∧ k ≤ 255) : Okb (l.set i k) := fun x hx => (List.mem_or_eq_of_mem_set hx).elim (h x) fun e => e ▸ hk
structure K5a (l : List Rc) (L B : List Int) where
  i : Nat
  a : Int
  q : List Rc
  hi : i ≤ 2
  ha : 0 ≤ a
  hq : Okr q
def S5a (l : List Rc) (L B : List Int) (p : K5a l L B) : SL := ⟨[(1, .lst [.int .u8 0] (u8s B)), (7, .ptr 2752 0), (46, .lst [.nil] [[.lst [.int .u8 0, .nil] (recs l)], [.lst [.int .u8 0, .nil] (recs p.q)]]), (47, .int .i64 2), (48, .int .i64 p.i)], [(2752, .cells [.lst [.int .i64 0] (i64s L), .int .i64 p.a])]⟩
abbrev L5a (l : List Rc) (L B : List Int) : LI := ⟨K5a l L B, S5a l L B, fun p => 2 - p.i, fun p q => True⟩
theorem L5aS (l : List Rc) (L B : List Int) : (L5a l L B).S = S5a l L B := rfl
theorem L5aM (l : List Rc) (L B : List Int) (p : K5a l L B) : (L5a l L B).μ p = 2 - p.i := rfl
theorem L5aR (l : List Rc) (L B : List Int) (p q : K5a l L B) : (L5a l L B).R p q = (True) := rfl
structure K5b (l : List Rc) (L B : List Int) where
  i : Nat
  x : P5
  hi : i ≤ 5
def S5b (l : List Rc) (L B : List Int) (p : K5b l L B) : SL := ⟨[(119, .lst [.nil] [[.lst [.int .u8 0] (u8s p.x.a)], [.lst [.int .u8 0] (u8s p.x.b)], [.lst [.int .u8 0] (u8s p.x.c)], [.lst [.int .u8 0] (u8s p.x.d)], [.lst [.int .u8 0] (u8s p.x.e)]]), (120, .int .i64 5), (121, .int .i64 p.i)], []⟩
abbrev L5b (l : List Rc) (L B : List Int) : LI := ⟨K5b l L B, S5b l L B, fun p => 5 - p.i, fun p q => True⟩
theorem L5bS (l : List Rc) (L B : List Int) : (L5b l L B).S = S5b l L B := rfl
theorem L5bM (l : List Rc) (L B : List Int) (p : K5b l L B) : (L5b l L B).μ p = 5 - p.i := rfl
theorem L5bR (l : List Rc) (L B : List Int) (p q : K5b l L B) : (L5b l L B).R p q = (True) := rfl
def I5 (l : List Rc) (L B : List Int) : Nat → LI := fun n => if n = 0 then L5a l L B else L5b l L B
theorem I5_0 (l : List Rc) (L B : List Int) : I5 l L B 0 = L5a l L B := rfl
theorem I5_1 (l : List Rc) (L B : List Int) : I5 l L B 1 = L5b l L B := rfl
set_option maxHeartbeats 4000000 in
theorem walk5 {Phi : Nat → Option Ctr} (P8 : Phi 8 = some CLg) (P9 : Phi 9 = some CDl) (P10 : Phi 10 = some CAw) (P11 : Phi 11 = some CRl) (P13 : Phi 13 = some CDb) (P14 : Phi 14 = some CDx) (P15 : Phi 15 = some CDRo) (P19 : Phi 19 = some CSm) (P23 : Phi 23 = some CSb) (P24 : Phi 24 = some CEn) (P25 : Phi 25 = some CEo) (P26 : Phi 26 = some CVl) (P27 : Phi 27 = some CVl) (P28 : Phi 28 = some CDy) (P29 : Phi 29 = some CSo) (P30 : Phi 30 = some CDc) (P31 : Phi 31 = some CDc) (l : List Rc) (L B : List Int) (hl : Okr l) (hB : Okb B) : evC Phi (I5 l L B) rc5 ⟨initS [.lst [.int .u8 0, .nil] (recs l), .lst [.int .u8 0] (u8s B), .lst [.int .i64 0] (i64s L)], initM false []⟩ (kRet rv5 (.bool true) false []) := by
  simp (config := {maxSteps := 2000000, contextual := true}) only [rc5, initM_f, rv5, evC_seq, evC_region, eo_mov, evG_no, Option.getD_some, ev_mov, av_c, gv_bool, bind1_some', un1_mov, goOp_some, put_q, evOps_nil, kEnd_at, hasG_no, hasG_nil, kEndB_f, kSeq_n, av_t, upd_at, Nat.reduceEqDiff, ↓reduceIte, initS_at, List.getD_cons_zero, gv_lst, eo_call, P8, CLg, evCl_mk, ev_call, avs_cons, avs_nil, consO_some, clO_some, call_pure, lends_cons, lend1_lst, lends_nil, consL_some', List.nil_append, callN_some, decR_recs, and_self, callP_some, c2_bool, flat2_bool, backOK_nil, Bool.and_self, clQ_t, eo_not, ev_not, un1_not, evG_yes, pathG_bool, gG_some, List.getD_cons_succ, guardR_q, guardL_nil, eo_len, ev_len, gv_gd, List.contains_cons, List.contains_nil, Bool.or_false, List.all_cons, beq_self_eq_true, List.all_nil, gvB_true, len_lst, u8s_len, eo_cmp, ev_cmp, gv_int, cmp2_some, cmp_gtr, toR_some', eo_pick, ev_pick, pick3_some, pickV_bool, Bool.cond_true_left, eo_call_g, P9, CDl, decI_i64s, guardL_cons, pathP_cons, boolOf_bool, pathP_nil, and_true, implies_true, hasG_yes, kEndB_t, evC_cond, P10, CAw, evC_ret, kSeq_r, kRet_r, retOK_eq, retL_cons, retV_t, retL_nil, lkR_one, lk1_bool, lkT_f, applyL_nil, retOK_f, rtO_some, resV_one, leV1_bool, knowL_nil, askL_nil, askL_cons, evC_skip, ungdS_at, ungd_lst, P11, CRl, evCl_ext, evXV_some, evX_f, evXA_some, evXN_some, evXP_eq, wfX2_fp, c0_lst, c0_int, frs2_fp, idsOK_eq, List.map_cons, List.map_nil, nodupN_cons, Bool.not_false, nodupN_nil, Nat.reduceLT, decide_true, flatX2_fp, flat0_lst, flat0_int, Bool.and_true, flatL_cells, flatL_nil, evOpsk_at, backX_nil, putX_eq, unfr2_fp, Nat.reduceMul, Nat.reduceAdd, Nat.add_zero, addF_cons, addF_nil, putY_eq, gv_ptr, killS_at, kill3_lst, P15, CDRo, evX_t, updM_at, evXC_cells, lend1_int, evXB_some, Int.reduceLE, evXM_some, evXS_eq, wfX2_lst, frs2_lst, flatX2_lst, eo_bsliceO, vwsG_cons, vwsG_nil, setB_eq, unfr2_lst, ar_t, vws1_lst, frzL_nil, goF_eq, ev_bsliceO, List.length_cons, List.length_nil, Nat.zero_add, List.replicate_succ, List.replicate_zero, fillS_cons, fsK_some, cells_lst, fsC_some, List.set_cons_zero, List.set_cons_succ, fillS_nil, blO2_some, put_n, killB_buf, gv_vw, len_vw, lenV_buf, Nat.reduceLeDiff, evC_block, evC_loop, I5_0, L5aS, S5a, SL_ge, lkL_cons, lkS_lst, kill3_ptr, lkS_ptr, lkS_vw_lst, lkS_int, lkL_nil, List.cons_append, lkM_cons, killM_at, killO_some, killB_cells, kill0_lst, kill0_int, lkB_cells, lkC_cons, lkC0_lst, lkC0_int, lkC_nil, lkM_nil, applyL_frz, frzQ_buf, frzP_t, SL_ge0, leL_cons, frzSl_at, frz3_lst, leV1_lst, frz3_ptr, leV1_ptr, frz3_vw, frz3_int, leV1_int, leL_nil, true_and, leM_cons, frzM_at, frzO_some, frzB_cells, frz0_lst, frz0_int, leB_cells, leAs_cons, leA_lst, leA_int, leAs_nil, leM_nil, L5aR, SL_st, lookL_cons, cmp_lss, eo_iaddrS, ev_iaddrS, bind2_some', iaddrS_lst, iasB_true, Int.toNat_natCast, eo_load, ev_load, gv_ep, load_ep, valOf_one, knowL_cons, true_imp_iff, evC_exit, kSeq_e, kLoop_e, kBlk_e, kBlkB_t, lookM_cons, P25, CEo, c2_tup, c1_lst, c1_int, flat2_tup, flat1_lst, flat1_int, gv_tup, eo_extract, ev_extract, un1_extract, List.getElem?_cons_zero, List.getElem?_cons_succ, eo_append, ev_append, gv_nil, appR_nil, ysOf_lst, appK_some, Nat.mul_one, P14, CDx, call_state, callC_cells, callB_some, callD_t, callS_some, c2_int, flat2_int, Bool.true_and, clU_t, put_u, liveB_cells, P28, CDy, iaddrS_vw, iasV_buf, iasW_t, eo_store, vwsT_bp, vws1_int, Option.getD_none, ev_store, gv_bp, store_bp, cells_int, stP_buf, stQ_t, getE_u8, setC_cons, setC_nil, u8s_set, put_s, liveB_buf, P13, CDb, W, eo_slice, ev_slice, boundA_none, boundA_some, optS_some, sliceO_some, slice_vw, slB_buf, loOf_none, List.length_set, hiOf_int, slV_some, Int.reduceToNat, P29, CSo, gv_sv, lend1_sv, lendP_buf, lendQ_t, List.drop_zero, u8s_take, decU_u8s, backOK_cons, ar_c, ysOf_vw, ysV_buf, appR_vw, appV_buf, evC_ghost, kill3_vw, vws0_vw, frzL_cons, frzB_buf, eo_arith, ev_arith, arith_add, slice_lst, slL_some, I5_1, L5bS, S5b, L5bR, condK_bool, getE_five, ldV_some, P30, CDc, P31, cmp_neq, Bool.not_true, Bool.cond_false_right, P19, CSm, imp_self, kBlk_r, kLoop_r, kBlk_n, ungd_int, kLoop_n, ungd_bool, Bool.false_eq_true, false_imp_iff, getE_two, P24, CEn, P26, CVl, P27, cmp_neqB, P23, CSb, ungd_ptr]
  intro h
  simp only [Bool.or_eq_false_iff, Bool.not_eq_false', decide_eq_false_iff_not] at h
  obtain ⟨⟨h1, h2⟩, h3⟩ := h
  rintro _ ⟨q, a⟩ ⟨⟨_, hq⟩, ha⟩
  dsimp only at hq ha ⊢
  refine ⟨⟨0, a, q, by omega, ha, hq⟩, ⟨⟨rfl, rfl, rfl⟩, rfl⟩, ?_⟩
  rintro ⟨i, a1, q1, hi, ha1, hq1⟩
  dsimp only
  refine ⟨fun hc => ?_, fun hc => ⟨ha1, ?_⟩⟩
  · have hc := of_decide_eq_true hc
    exact ⟨⟨by omega, by omega⟩, pk2_ok hl hq1, ⟨i + 1, a1, q1, by omega, ha1, hq1⟩, ⟨⟨rfl, AV.int_inj' (wr_succ i (by omega))⟩, rfl⟩, by dsimp only; omega⟩
  rintro ⟨q2, a2⟩ ⟨⟨_, hq2⟩, ha2⟩
  dsimp only at hq2 ha2 ⊢
  have hE := enL_len q2
  have hEo := enL_ok hq2
  generalize enL q2 = E at hE hEo ⊢
  have hEe : Okb (1 :: 2 :: 0 :: 0 :: 253 :: E) := .cons (by decide) (.cons (by decide) (.cons (by decide) (.cons (by decide) (.cons (by decide) hEo))))
  have wE : IntKind.i64.wrap ((E.length : Int) + 1) = (E.length : Int) + 1 := wr_in _ (by omega) (by omega)
  rw [wE]
  have bd5 := dx_bd (L := L) (a := a2) (m := 5) (by omega) (by omega)
  have hx1 := dxA_nn (L := L) ha2
  have hy := dyA_nn (L := L) hx1
  have hx2 := dxA_nn (L := L) hy
  have bdy := dy_bd L (dxA L a2)
  refine ⟨by omega, by omega, fun _ => ⟨fun h4 => ?_, fun h4 => ?_⟩⟩
  · have h4 := of_decide_eq_true h4
    have bdl := dx_bd (L := L) (a := dxA L (dyA L (dxA L a2))) (m := (E.length : Int) + 1) (by omega) (by omega)
    have hS : Okb (E.set (dxV L a2 5).toNat (dyV L (dxA L a2))) := okb_set hEo bdy
    refine ⟨by decide, hx1, ⟨by omega, by omega⟩, by omega, ⟨hy, by decide⟩, fun _ => ?_, fun _ => ?_⟩
    · refine ⟨by omega, ⟨by simp only [List.length_take, List.length_set]; omega, hS.take _⟩, by omega, by omega, by omega, by omega, ⟨hx2, by omega⟩, ⟨by omega, by omega⟩, ⟨0, ⟨B, E, (E.set (dxV L a2 5).toNat (dyV L (dxA L a2))).set 4 (c8 ((E.set (dxV L a2 5).toNat (dyV L (dxA L a2))).take (4 - 0))), E.take ((dxV L (dxA L (dyA L (dxA L a2))) ((E.length : Int) + 1)).toNat - 0), 1 :: 2 :: 0 :: 0 :: 253 :: E, ⟨by omega, hB⟩, ⟨by omega, hEo⟩, ⟨by simp only [List.length_set]; omega, okb_set hS (c8_bd _)⟩, ⟨by simp only [List.length_take]; omega, hEo.take _⟩, ⟨by simp only [List.length_cons]; omega, hEe⟩⟩, by omega⟩, ⟨rfl, rfl, rfl⟩, ?_⟩
      rintro ⟨i, x, hi⟩ hc
      have hc := of_decide_eq_true hc
      dsimp only at hc ⊢
      exact ⟨⟨by omega, by omega⟩, x.ok i, x.ok i, ⟨i + 1, x, by omega⟩, ⟨rfl, AV.int_inj' (wr_succ i (by omega))⟩, by dsimp only; omega⟩
    · refine ⟨by omega, by omega, ⟨hx2, by omega⟩, ⟨by omega, by omega⟩, ⟨0, ⟨B, E, (E.set (dxV L a2 5).toNat (dyV L (dxA L a2))), E.take ((dxV L (dxA L (dyA L (dxA L a2))) ((E.length : Int) + 1)).toNat - 0), 1 :: 2 :: 0 :: 0 :: 253 :: E, ⟨by omega, hB⟩, ⟨by omega, hEo⟩, ⟨by simp only [List.length_set]; omega, hS⟩, ⟨by simp only [List.length_take]; omega, hEo.take _⟩, ⟨by simp only [List.length_cons]; omega, hEe⟩⟩, by omega⟩, ⟨rfl, rfl, rfl⟩, ?_⟩
      rintro ⟨i, x, hi⟩ hc
      have hc := of_decide_eq_true hc
      dsimp only at hc ⊢
      exact ⟨⟨by omega, by omega⟩, x.ok i, x.ok i, ⟨i + 1, x, by omega⟩, ⟨rfl, AV.int_inj' (wr_succ i (by omega))⟩, by dsimp only; omega⟩
  · have h4 := of_decide_eq_false h4
    have bdl := dx_bd (L := L) (a := a2) (m := (E.length : Int) + 1) (by omega) (by omega)
    refine ⟨by omega, by omega, by omega, ⟨by omega, by omega⟩, ⟨0, ⟨B, E, E, E.take ((dxV L a2 ((E.length : Int) + 1)).toNat - 0), 1 :: 2 :: 0 :: 0 :: 253 :: E, ⟨by omega, hB⟩, ⟨by omega, hEo⟩, ⟨by omega, hEo⟩, ⟨by simp only [List.length_take]; omega, hEo.take _⟩, ⟨by simp only [List.length_cons]; omega, hEe⟩⟩, by omega⟩, ⟨rfl, rfl, rfl⟩, ?_⟩
    rintro ⟨i, x, hi⟩ hc
    have hc := of_decide_eq_true hc
    dsimp only at hc ⊢
    exact ⟨⟨by omega, by omega⟩, x.ok i, x.ok i, ⟨i + 1, x, by omega⟩, ⟨rfl, AV.int_inj' (wr_succ i (by omega))⟩, by dsimp only; omega⟩
end Go.Proofs.Ytklbnccpeeehkaa

/- A part of the proof: symbolic evaluation of the program's functions, proved sound against the model; no condition. -/
import Derived.Test.YtknapnleecepaaaEvJI
namespace Go.Proofs.Ytknapnleecepaaa
open Go Go.RowKit Go.Ev
set_option linter.unusedSimpArgs false
set_option linter.unusedVariables false
set_option maxRecDepth 20000
/-- baseboard/baseboardlaw36.ConsoleNumbers [22, 4] -/
def rc7 : RC :=
  (.seq
   (.region [
     ⟨(some 4), .mov (.c (.bool false)), none, []⟩] false)
   (.seq
    (.seq
     (.region [
       ⟨(some 19), .call 8 [], none, []⟩,
       ⟨(some 20), .not (.t 19), none, [0]⟩] false)
     (.cond (.t 20)
      (.seq
       (.region [
         ⟨(some 4), .mov (.c (.bool false)), none, []⟩] false)
       .ret)
      .skip))
    (.seq
     (.seq
      (.region [
        ⟨(some 21), .mov (.t 0), none, []⟩,
        ⟨(some 22), .len 0 (.t 21), none, [0]⟩,
        ⟨(some 23), .cmp .gtr 0 (.t 22) (.c (.int .i64 3000)), none, [1]⟩] false)
      (.cond (.t 23)
       (.seq
        (.region [
          ⟨(some 4), .mov (.c (.bool true)), none, []⟩] false)
        .ret)
       .skip))
     (.seq
      (.region [
        ⟨(some 24), .call 32 [], none, []⟩,
        ⟨(some 25), .call 32 [], none, [0]⟩,
        ⟨(some 5), .alloc [.nil, .bool false, .nil, .bool false, .bool false, .int .i64 0, .int .i64 0, .int .i64 0, .int .i64 0, .int .i64 0], none, []⟩,
        ⟨(some 6), .alloc [.nil, .bool false, .nil, .bool false, .bool false, .int .i64 0, .int .i64 0, .int .i64 0, .int .i64 0, .int .i64 0], none, []⟩,
        ⟨none, .store 10 (.t 5) (.t 24), none, [2, 0, 1, 0, 2, 3]⟩,
        ⟨none, .store 10 (.t 6) (.t 25), none, [3, 1, 4, 0, 1, 2, 3, 4]⟩] false)
      (.seq
       (.region [
         ⟨(some 7), .mov (.c (.nil)), none, []⟩] false)
       (.seq
        (.region [
          ⟨(some 8), .mov (.c (.int .i64 0)), none, []⟩,
          ⟨(some 9), .mov (.c (.int .i64 0)), none, [0, 0]⟩] false)
        (.seq
         (.seq
          (.region [
            ⟨(some 26), .mov (.t 1), none, []⟩] false)
          (.cond (.t 26)
           (.region [
             ⟨(some 27), .load 10 true (.t 5), none, []⟩,
             ⟨(some 28), .call 29 [(.t 27)], none, [0]⟩,
             ⟨none, .store 10 (.t 5) (.t 28), none, [1, 1, 0, 1]⟩] false)
           .skip))
         (.seq
          (.region [
            ⟨(some 29), .mov (.t 0), none, []⟩,
            ⟨(some 10), .mov (.t 29), none, [0, 0]⟩] false)
          (.block 0
           (.loop 0
            (.block 1
             (.seq
              (.region [
                ⟨(some 31), .load 10 true (.t 5), none, []⟩,
                ⟨(some 32), .mov (.t 10), none, []⟩,
                ⟨(some 33), .call 21 [(.t 31), (.t 32)], none, [0, 1]⟩,
                ⟨(some 30), .mov (.t 33), none, [2]⟩,
                ⟨(some 34), .extract 0 (.t 30), none, [3]⟩,
                ⟨(some 35), .extract 1 (.t 30), none, [3]⟩,
                ⟨(some 11), .alloc [.nil, .bool false, .nil, .bool false, .bool false, .int .i64 0, .int .i64 0, .int .i64 0, .int .i64 0, .int .i64 0], none, []⟩,
                ⟨none, .store 10 (.t 11) (.t 34), none, [6, 4, 2, 0, 1, 2, 3, 4, 6]⟩,
                ⟨(some 12), .mov (.t 35), none, [5, 7, 0, 1, 2, 3, 4, 5, 6, 7]⟩] false)
              (.seq
               (.region [
                 ⟨(some 36), .load 10 true (.t 11), none, []⟩,
                 ⟨(some 37), .mov (.t 10), none, []⟩,
                 ⟨(some 38), .mov (.t 12), none, []⟩,
                 ⟨(some 39), .slice 1 (.t 37) (some (.t 38)) none, none, [2, 1]⟩,
                 ⟨none, .store 10 (.t 5) (.t 36), none, [0]⟩,
                 ⟨(some 10), .mov (.t 39), none, [2, 1, 0, 4, 3]⟩] true)
               (.seq
                (.region [
                  ⟨(some 41), .load 10 true (.t 5), none, []⟩,
                  ⟨(some 42), .call 23 [(.t 41)], none, [0]⟩,
                  ⟨(some 40), .mov (.t 42), none, [1]⟩,
                  ⟨(some 43), .extract 0 (.t 40), none, [2]⟩,
                  ⟨(some 44), .extract 1 (.t 40), none, [2]⟩,
                  ⟨(some 45), .extract 2 (.t 40), none, [2]⟩,
                  ⟨none, .store 10 (.t 11) (.t 43), none, [3, 1, 0, 1, 2, 3]⟩,
                  ⟨(some 13), .mov (.t 44), none, [4, 6, 0, 1, 2, 3, 4, 6]⟩,
                  ⟨(some 14), .mov (.t 45), none, [5, 7, 0, 1, 2, 3, 4, 5, 6, 7]⟩] false)
                (.seq
                 (.region [
                   ⟨(some 46), .load 10 true (.t 11), none, []⟩,
                   ⟨none, .store 10 (.t 5) (.t 46), none, [0, 0]⟩] false)
                 (.seq
                  (.seq
                   (.region [
                     ⟨(some 47), .mov (.t 14), none, []⟩,
                     ⟨(some 48), .not (.t 47), none, [0]⟩] false)
                   (.cond (.t 48)
                    (.seq
                     (.region [
                       ⟨(some 49), .mov (.t 7), none, []⟩,
                       ⟨(some 50), .b2s (.t 49), none, [0]⟩,
                       ⟨(some 51), .mov (.t 0), none, []⟩,
                       ⟨(some 52), .b2s (.t 51), none, [2]⟩,
                       ⟨(some 53), .cmp .eql 2 (.t 50) (.t 52), none, [1, 3]⟩,
                       ⟨(some 54), .mov (.t 53), none, [4]⟩,
                       ⟨(some 55), .mov (.t 10), (some (54, true)), [5]⟩,
                       ⟨(some 56), .len 0 (.t 55), (some (54, true)), [6, 5]⟩,
                       ⟨(some 57), .cmp .eql 0 (.t 56) (.c (.int .i64 0)), (some (54, true)), [7, 5]⟩,
                       ⟨(some 58), .pick (.t 54) (.t 57) (.c (.bool false)), none, [5, 8]⟩,
                       ⟨(some 59), .mov (.t 58), none, [9, 5]⟩,
                       ⟨(some 60), .mov (.t 8), (some (59, true)), [10]⟩,
                       ⟨(some 61), .cmp .eql 0 (.t 60) (.c (.int .i64 1)), (some (59, true)), [11, 10]⟩,
                       ⟨(some 62), .mov (.t 1), (some (59, true)), [10]⟩,
                       ⟨(some 63), .cmp .eql 1 (.t 61) (.t 62), (some (59, true)), [12, 13, 10]⟩,
                       ⟨(some 64), .pick (.t 59) (.t 63) (.c (.bool false)), none, [10, 14]⟩,
                       ⟨(some 65), .mov (.t 64), none, [15, 10]⟩,
                       ⟨(some 66), .mov (.t 8), (some (65, true)), [16]⟩,
                       ⟨(some 67), .cmp .leq 0 (.t 66) (.c (.int .i64 1)), (some (65, true)), [17, 16]⟩,
                       ⟨(some 68), .pick (.t 65) (.t 67) (.c (.bool false)), none, [16, 18]⟩,
                       ⟨(some 4), .mov (.t 68), none, [19, 16, 0, 1, 2, 3, 4, 5, 6, 7, 8, 9, 10, 11, 12, 13, 14, 15, 16, 17, 18, 19]⟩] false)
                     .ret)
                    .skip))
                  (.seq
                   (.region [
                     ⟨(some 70), .mov (.t 13), none, []⟩,
                     ⟨(some 71), .call 11 [(.t 70)], none, [0]⟩,
                     ⟨(some 69), .mov (.t 71), none, [1]⟩,
                     ⟨(some 72), .extract 0 (.t 69), none, [2]⟩,
                     ⟨(some 73), .extract 1 (.t 69), none, [2]⟩,
                     ⟨(some 15), .alloc [.int .i64 0, .int .i64 0, .int .i64 0, .bool false, .nil], none, []⟩,
                     ⟨none, .store 5 (.t 15) (.t 72), none, [5, 3, 1, 0, 1, 2, 3, 5]⟩,
                     ⟨(some 16), .mov (.t 73), none, [4, 6, 0, 1, 2, 3, 4, 5, 6]⟩] false)
                   (.seq
                    (.seq
                     (.region [
                       ⟨(some 74), .mov (.t 16), none, []⟩,
                       ⟨(some 75), .cmp .neq 0 (.t 74) (.c (.int .i64 0)), none, [0]⟩,
                       ⟨(some 76), .mov (.t 75), none, [1]⟩,
                       ⟨(some 77), .faddr 0 (.t 15), (some (76, false)), [2]⟩,
                       ⟨(some 78), .load 1 false (.t 77), (some (76, false)), [3, 2]⟩,
                       ⟨(some 79), .mov (.t 9), (some (76, false)), [2]⟩,
                       ⟨(some 80), .arith .rem (.t 79) (.c (.int .i64 15)), (some (76, false)), [5, 2]⟩,
                       ⟨(some 81), .arith .add (.t 80) (.c (.int .i64 1)), (some (76, false)), [6, 2]⟩,
                       ⟨(some 82), .cmp .neq 0 (.t 78) (.t 81), (some (76, false)), [4, 7, 2]⟩,
                       ⟨(some 83), .pick (.t 76) (.c (.bool true)) (.t 82), none, [2, 8]⟩,
                       ⟨(some 84), .mov (.t 83), none, [9, 2]⟩,
                       ⟨(some 85), .faddr 4 (.t 15), (some (84, false)), [10]⟩,
                       ⟨(some 86), .load 1 false (.t 85), (some (84, false)), [11, 10]⟩,
                       ⟨(some 87), .len 0 (.t 86), (some (84, false)), [12, 10]⟩,
                       ⟨(some 88), .cmp .gtr 0 (.t 87) (.c (.int .i64 64)), (some (84, false)), [13, 10]⟩,
                       ⟨(some 89), .pick (.t 84) (.c (.bool true)) (.t 88), none, [10, 14]⟩,
                       ⟨(some 90), .mov (.t 89), none, [15, 10]⟩,
                       ⟨(some 91), .faddr 1 (.t 15), (some (90, false)), [16]⟩,
                       ⟨(some 92), .load 1 false (.t 91), (some (90, false)), [17, 16]⟩,
                       ⟨(some 93), .cmp .neq 0 (.t 92) (.c (.int .i64 0)), (some (90, false)), [18, 16]⟩,
                       ⟨(some 94), .pick (.t 90) (.c (.bool true)) (.t 93), none, [16, 19]⟩] false)
                     (.cond (.t 94)
                      (.seq
                       (.region [
                         ⟨(some 4), .mov (.c (.bool false)), none, []⟩] false)
                       .ret)
                      .skip))
                    (.seq
                     (.region [
                       ⟨(some 95), .mov (.t 9), none, []⟩,
                       ⟨(some 96), .arith .add (.t 95) (.c (.int .i64 1)), none, [0]⟩,
                       ⟨(some 9), .mov (.t 96), none, [1, 0, 1]⟩] false)
                     (.seq
                      (.region [
                        ⟨(some 98), .load 10 true (.t 6), none, []⟩,
                        ⟨(some 99), .mov (.t 13), none, []⟩,
                        ⟨(some 100), .call 18 [(.t 98), (.t 99)], none, [0, 1]⟩,
                        ⟨(some 97), .mov (.t 100), none, [2]⟩,
                        ⟨(some 101), .extract 0 (.t 97), none, [3]⟩,
                        ⟨(some 102), .extract 1 (.t 97), none, [3]⟩,
                        ⟨(some 103), .extract 2 (.t 97), none, [3]⟩,
                        ⟨(some 104), .extract 3 (.t 97), none, [3]⟩,
                        ⟨none, .store 10 (.t 11) (.t 101), none, [4, 2, 0, 1, 2, 3, 4]⟩,
                        ⟨(some 17), .mov (.t 102), none, [5, 8, 0, 1, 2, 3, 4, 5, 8]⟩,
                        ⟨(some 18), .mov (.t 103), none, [6, 9, 0, 1, 2, 3, 4, 5, 6, 8, 9]⟩,
                        ⟨(some 16), .mov (.t 104), none, [7, 10, 0, 1, 2, 3, 4, 5, 6, 7, 8, 9, 10]⟩] false)
                      (.seq
                       (.seq
                        (.region [
                          ⟨(some 105), .mov (.t 16), none, []⟩,
                          ⟨(some 106), .cmp .neq 0 (.t 105) (.c (.int .i64 0)), none, [0]⟩,
                          ⟨(some 107), .mov (.t 106), none, [1]⟩,
                          ⟨(some 108), .mov (.t 17), (some (107, false)), [2]⟩,
                          ⟨(some 109), .b2s (.t 108), (some (107, false)), [3, 2]⟩,
                          ⟨(some 110), .faddr 4 (.t 15), (some (107, false)), [2]⟩,
                          ⟨(some 111), .load 1 false (.t 110), (some (107, false)), [5, 2]⟩,
                          ⟨(some 112), .b2s (.t 111), (some (107, false)), [6, 2]⟩,
                          ⟨(some 113), .cmp .neq 2 (.t 109) (.t 112), (some (107, false)), [4, 7, 2]⟩,
                          ⟨(some 114), .pick (.t 107) (.c (.bool true)) (.t 113), none, [2, 8]⟩] false)
                        (.cond (.t 114)
                         (.seq
                          (.region [
                            ⟨(some 4), .mov (.c (.bool false)), none, []⟩] false)
                          .ret)
                         .skip))
                       (.seq
                        (.seq
                         (.region [
                           ⟨(some 115), .mov (.t 18), none, []⟩] false)
                         (.cond (.t 115)
                          (.region [
                            ⟨(some 116), .mov (.t 8), none, []⟩,
                            ⟨(some 117), .arith .add (.t 116) (.c (.int .i64 1)), none, [0]⟩,
                            ⟨(some 8), .mov (.t 117), none, [1, 0, 1]⟩] false)
                          .skip))
                        (.seq
                         (.region [
                           ⟨(some 118), .load 10 true (.t 11), none, []⟩,
                           ⟨(some 119), .mov (.t 17), none, []⟩,
                           ⟨(some 120), .len 0 (.t 119), none, [1]⟩,
                           ⟨(some 121), .call 16 [(.t 118), (.t 120)], none, [0, 2]⟩,
                           ⟨(some 122), .mov (.t 7), none, []⟩,
                           ⟨(some 123), .mov (.t 17), none, []⟩,
                           ⟨(some 124), .append 5 1 [.int .u8 0] (.t 122) (.t 123), none, [4, 5, 3]⟩,
                           ⟨none, .store 10 (.t 6) (.t 121), none, [3, 6, 0, 1, 2, 3]⟩,
                           ⟨(some 7), .mov (.t 124), none, [6, 7, 0, 1, 2, 3, 4, 5, 6, 7]⟩] false)
                         (.seq
                          (.region [
                            ⟨(some 126), .load 10 true (.t 6), none, []⟩,
                            ⟨(some 127), .call 23 [(.t 126)], none, [0]⟩,
                            ⟨(some 125), .mov (.t 127), none, [1]⟩,
                            ⟨(some 128), .extract 0 (.t 125), none, [2]⟩,
                            ⟨(some 129), .extract 1 (.t 125), none, [2]⟩,
                            ⟨(some 130), .extract 2 (.t 125), none, [2]⟩,
                            ⟨none, .store 10 (.t 6) (.t 128), none, [3, 1, 0, 1, 2, 3]⟩,
                            ⟨(some 13), .mov (.t 129), none, [4, 6, 0, 1, 2, 3, 4, 6]⟩] false)
                          (.seq
                           (.region [
                             ⟨(some 132), .load 10 true (.t 5), none, []⟩,
                             ⟨(some 133), .mov (.t 13), none, []⟩,
                             ⟨(some 134), .call 18 [(.t 132), (.t 133)], none, [0, 1]⟩,
                             ⟨(some 131), .mov (.t 134), none, [2]⟩,
                             ⟨(some 135), .extract 0 (.t 131), none, [3]⟩,
                             ⟨(some 136), .extract 1 (.t 131), none, [3]⟩,
                             ⟨(some 137), .extract 2 (.t 131), none, [3]⟩,
                             ⟨(some 138), .extract 3 (.t 131), none, [3]⟩,
                             ⟨none, .store 10 (.t 5) (.t 135), none, [4, 2, 0, 1, 2, 3, 4]⟩,
                             ⟨(some 16), .mov (.t 138), none, [7, 8, 0, 1, 2, 3, 4, 5, 6, 7, 8]⟩] false)
                           (.seq
                            (.region [
                              ⟨(some 139), .mov (.t 16), none, []⟩,
                              ⟨(some 140), .cmp .neq 0 (.t 139) (.c (.int .i64 0)), none, [0]⟩,
                              ⟨(some 141), .mov (.t 140), none, [1]⟩,
                              ⟨(some 142), .faddr 4 (.t 5), (some (141, false)), [2]⟩,
                              ⟨(some 143), .load 1 false (.t 142), (some (141, false)), [3, 2]⟩,
                              ⟨(some 144), .pick (.t 141) (.c (.bool true)) (.t 143), none, [2, 4]⟩] false)
                            (.cond (.t 144)
                             (.seq
                              (.region [
                                ⟨(some 4), .mov (.c (.bool false)), none, []⟩] false)
                              .ret)
                             .skip)))))))))))))))))))))))))))
def rv7 : List RV := [.t 4]
theorem rc7_ok : comp Try.prog Try.f7.ntmps (Try.f7.body.getD .skip) = some (erase rc7) := by kernel_rfl
theorem rv7_ok : compRes Try.prog Try.f7.results.toList = some rv7 := by kernel_rfl
/-! Two lines between which every packet is accepted. -/
def aL (w : List Int) (wi : Bool) (sq : Int) : Ln := ⟨w, wi, [], false, false, sq, 0, 1024, 0, 0⟩
def bL (rc ct : Int) : Ln := ⟨[], false, [], false, false, 0, rc, 1024, 0, ct⟩
def mL (w : List Int) (wi : Bool) (sq : Int) : Ln := ⟨w.drop 64, false, w.take 64, wi, true, nx sq, 0, 1024, 0, 0⟩
def cP (w : List Int) (wi : Bool) (sq : Int) : Ck := ⟨nx sq, 0, 0, wi, w.take 64⟩
def cQ (sq : Int) (n : Nat) : Ck := ⟨0, nx sq, n, false, []⟩
theorem nx_bd {n : Int} (h : 0 ≤ n ∧ n ≤ 15) : (1 ≤ nx n ∧ nx n ≤ 15) ∧ nx n ≠ n := by
  rw [nx, tmod_nn n 15 h.1]; omega
theorem tk_len (w : List Int) : (w.take 64).length ≤ 64 := by rw [List.length_take]; omega
section
variable {w rest : List Int} {wi : Bool} {sq ct : Int} (hw : w.length ≤ 1024) (hs : 0 ≤ sq ∧ sq ≤ 15) (hc : 0 ≤ ct ∧ ct ≤ 64)
theorem nil_len : ([] : List Int).length = 0 := rfl
include hw hs in
theorem aL_P (wi : Bool) : lnP (aL w wi sq) := by
  have := nil_len
  refine ⟨⟨by dsimp only [aL]; omega, by dsimp only [aL]; omega⟩, hs, by dsimp only [aL]; omega, by dsimp only [aL]; omega, .inl rfl, by dsimp only [aL]; omega, fun h => (by cases h), fun _ => ⟨rfl, rfl⟩⟩
include hs hc in
theorem bL_P : lnP (bL sq ct) := by
  have := nil_len
  refine ⟨⟨by dsimp only [bL]; omega, by dsimp only [bL]; omega⟩, by dsimp only [bL]; omega, hs, by dsimp only [bL]; omega, .inl rfl, hc, fun h => (by cases h), fun _ => ⟨rfl, rfl⟩⟩
include hw hs in
theorem mL_P (wi : Bool) : lnP (mL w wi sq) := by
  have h1 := (nx_bd hs).1
  refine ⟨⟨?_, tk_len w⟩, by dsimp only [mL]; omega, by dsimp only [mL]; omega, by dsimp only [mL]; omega, .inl rfl, by dsimp only [mL]; omega, fun _ => by dsimp only [mL]; omega, fun h => by cases h⟩
  simp only [mL, List.length_drop, List.length_take]; omega
include hs in
theorem cP_P (w : List Int) (wi : Bool) : ckP (cP w wi sq) := by
  have h1 := (nx_bd hs).1
  exact ⟨by dsimp only [cP]; omega, by dsimp only [cP]; omega, by dsimp only [cP]; omega, tk_len w, fun _ => rfl, fun h => by dsimp only [cP] at h; omega⟩
include hs in
theorem cQ_P {n : Nat} (hn : n ≤ 64) : ckP (cQ sq n) := by
  have h1 := (nx_bd hs).1
  exact ⟨by dsimp only [cQ]; omega, by dsimp only [cQ]; omega, by dsimp only [cQ]; omega, Nat.zero_le _, fun h => by dsimp only [cQ] at h; omega, fun _ => ⟨rfl, rfl⟩⟩
include hw hs in
theorem wr_a (wi : Bool) (rest : List Int) : wrN (aL w wi sq) rest = min rest.length (1024 - w.length) ∧ wrL (aL w wi sq) rest = aL (w ++ rest.take (min rest.length (1024 - w.length))) wi sq := by
  have hP := aL_P hw hs wi
  have e : wrN (aL w wi sq) rest = min rest.length (1024 - w.length) := by rw [wrN, if_pos hP]; rfl
  exact ⟨e, by rw [wrL, if_pos hP, e]; rfl⟩
include hw hs in
theorem po_a (h : w ≠ [] ∨ wi = true) : poL (aL w wi sq) = mL w wi sq ∧ poB (aL w wi sq) = enB (cP w wi sq) ∧ poK (aL w wi sq) = true := by
  have hF : (aL w wi sq).bu = false ∧ ((aL w wi sq).w.length ≠ 0 ∨ (aL w wi sq).wi = true) := ⟨rfl, h.imp (fun h e => h (List.length_eq_zero_iff.1 e)) id⟩
  exact po_do (m := mL w wi sq) (aL_P hw hs wi) (if_pos hF) (.inl rfl) rfl
include hs in
theorem po_a0 : poK (aL [] false sq) = false :=
  (po_id (m := aL [] false sq) (aL_P (w := []) (Nat.zero_le _) hs false) (if_neg (fun h => h.2.elim (fun h => h rfl) (fun h => by cases h))) rfl rfl).2.2
include hs hc in
theorem re_b (w : List Int) (wi : Bool) : reR (bL sq ct) (enB (cP w wi sq)) = ⟨[], false, [], false, false, 0, nx sq, 1024 - ((w.take 64).length : Int), nx sq, (w.take 64).length⟩ ∧ reD (bL sq ct) (enB (cP w wi sq)) = w.take 64 ∧ reB (bL sq ct) (enB (cP w wi sq)) = wi ∧ reE (bL sq ct) (enB (cP w wi sq)) = 0 := by
  obtain ⟨d1, d2⟩ := de_en (cP_P hs w wi)
  have hx := nx_bd hs
  have hl := tk_len w
  have hN : reN (bL sq ct) (cP w wi sq) = (w.take 64).length := by
    show min (w.take 64).length (1024 : Int).toNat = _
    have : (1024 : Int).toNat = 1024 := rfl
    omega
  obtain ⟨e1, e2, e3, e4⟩ := re_3 (m := bL sq ct) (bL_P hs hc) d1 (if_neg (fun h => by cases h.1)) (by rw [d2]; dsimp only [cP]; omega) (by rw [d2]; exact hx.2) (by rw [d2]; rfl)
  rw [d2, hN] at e1 e2
  rw [d2] at e3
  exact ⟨e1, e2.trans List.take_length, e3, e4⟩
include hs in
theorem gr_b {n : Nat} (hn : n ≤ 64) : grL ⟨[], false, [], false, false, 0, nx sq, 1024 - (n : Int), nx sq, n⟩ n = ⟨[], false, [], false, false, 0, nx sq, 1024, nx sq, n⟩ := by
  have hx := (nx_bd hs).1
  have := nil_len
  have hP : lnP ⟨[], false, [], false, false, 0, nx sq, 1024 - (n : Int), nx sq, n⟩ :=
    ⟨⟨by dsimp only; omega, by dsimp only; omega⟩, by dsimp only; omega, by dsimp only; omega, by dsimp only; omega, .inr rfl, by dsimp only; omega, fun h => (by cases h), fun _ => ⟨rfl, rfl⟩⟩
  rw [grL, if_pos ⟨hP, by omega⟩]
  dsimp only
  rw [show 1024 - (n : Int) + min (n : Int) (1024 - (1024 - (n : Int))) = 1024 by omega]
include hs in
theorem po_b {n : Nat} (hn : n ≤ 64) : poL ⟨[], false, [], false, false, 0, nx sq, 1024, nx sq, n⟩ = bL (nx sq) n ∧ poB ⟨[], false, [], false, false, 0, nx sq, 1024, nx sq, n⟩ = enB (cQ sq n) := by
  have hx := (nx_bd hs).1
  have := nil_len
  have hP : lnP ⟨[], false, [], false, false, 0, nx sq, 1024, nx sq, n⟩ :=
    ⟨⟨by dsimp only; omega, by dsimp only; omega⟩, by dsimp only; omega, by dsimp only; omega, by dsimp only; omega, .inr rfl, by dsimp only; omega, fun h => (by cases h), fun _ => ⟨rfl, rfl⟩⟩
  have ha : nx sq ≠ 0 := by omega
  obtain ⟨e1, e2, _⟩ := po_do (c := cQ sq n) hP (if_neg (fun h => h.2.elim (fun h => h rfl) (fun h => by cases h))) (.inr ha) (by simp [poC, cQ, ha])
  exact ⟨e1, e2⟩
include hw hs in
theorem re_m (wi : Bool) : reR (mL w wi sq) (enB (cQ sq (w.take 64).length)) = aL (w.drop 64) false (nx sq) ∧ reE (mL w wi sq) (enB (cQ sq (w.take 64).length)) = 0 := by
  obtain ⟨d1, d2⟩ := de_en (cQ_P hs (tk_len w))
  have hm : reA (mL w wi sq) (cQ sq (w.take 64).length) = aL (w.drop 64) false (nx sq) := by
    rw [reA, if_pos ⟨rfl, rfl⟩]
    have : (w.take 64).drop ((w.take 64).length : Int).toNat = [] := by rw [Int.toNat_natCast, List.drop_length]
    show (⟨(w.take 64).drop ((w.take 64).length : Int).toNat ++ w.drop 64, false, [], false, false, nx sq, 0, 1024, 0, 0⟩ : Ln) = _
    rw [this]; rfl
  obtain ⟨e1, _, _, e4⟩ := re_1 (m := aL (w.drop 64) false (nx sq)) (mL_P hw hs wi) d1 (by rw [d2]; exact hm) (by rw [d2]; rfl)
  exact ⟨e1, e4⟩
end
structure J7 (d : List Int) (brk : Bool) (w rest out : List Int) (wi : Bool) (sq ct nb nn : Int) : Prop where
  hw : w.length ≤ 1024
  hs : 0 ≤ sq ∧ sq ≤ 15
  hc : 0 ≤ ct ∧ ct ≤ 64
  hd : out ++ (w ++ rest) = d
  hn : 0 ≤ nn ∧ nn ≤ out.length + nb
  hq : nx sq = nn % 15 + 1
  hk : nb = if brk = true ∧ wi = false then 1 else 0
  hi : wi = true → brk = true
theorem br_0 : brL { l0 with ro := 1024 } = aL [] true 0 := by decide +kernel
theorem nw_0 : ({ l0 with ro := 1024 } : Ln) = aL [] false 0 := by decide +kernel
theorem nw_1 : ({ l0 with ro := 1024 } : Ln) = bL 0 0 := by decide +kernel
/-- Where the line has nothing to send. -/
theorem j7_end {d w rest out : List Int} {brk wi : Bool} {sq ct nb nn : Int} (h : J7 d brk w rest out wi sq ct nb nn) (hk : poK (wrL (aL w wi sq) rest) = false) : out = d ∧ rest = [] ∧ wi = false := by
  obtain ⟨e1, e2⟩ := wr_a h.hw h.hs wi rest
  have hl : (w ++ rest.take (min rest.length (1024 - w.length))).length ≤ 1024 := by
    rw [List.length_append, List.length_take]; have := h.hw; omega
  rw [e2] at hk
  have hn : ¬ (w ++ rest.take (min rest.length (1024 - w.length)) ≠ [] ∨ wi = true) := fun hne => by
    rw [(po_a hl h.hs hne).2.2] at hk; cases hk
  have h1 : w ++ rest.take (min rest.length (1024 - w.length)) = [] := by
    by_cases e : w ++ rest.take (min rest.length (1024 - w.length)) = []
    · exact e
    · exact absurd (.inl e) hn
  have h2 : wi = false := by
    cases hwi : wi with
    | false => rfl
    | true => exact absurd (.inr hwi) hn
  have h3 := congrArg List.length h1
  rw [List.length_append, List.length_take] at h3
  have h4 : w = [] := List.length_eq_zero_iff.1 (by simp only [List.length_nil] at h3; omega)
  have h5 : rest = [] := List.length_eq_zero_iff.1 (by simp only [List.length_nil] at h3; omega)
  refine ⟨?_, h5, h2⟩
  have := h.hd
  rw [h4, h5] at this
  simpa using this
/-- Where it has. -/
theorem j7_go {d w rest out : List Int} {brk wi : Bool} {sq ct nb nn : Int} (h : J7 d brk w rest out wi sq ct nb nn) (hk : poK (wrL (aL w wi sq) rest) = true) :
    J7 d brk ((w ++ rest.take (min rest.length (1024 - w.length))).drop 64) (rest.drop (min rest.length (1024 - w.length))) (out ++ (w ++ rest.take (min rest.length (1024 - w.length))).take 64) false (nx sq) (((w ++ rest.take (min rest.length (1024 - w.length))).take 64).length : Int) (if wi = true then nb + 1 else nb) (nn + 1) ∧
    (d.length - (out ++ (w ++ rest.take (min rest.length (1024 - w.length))).take 64).length) < (d.length - out.length) + (if wi = true then 1 else 0) ∧ (w ++ rest.take (min rest.length (1024 - w.length)) ≠ [] ∨ wi = true) := by
  obtain ⟨e1, e2⟩ := wr_a h.hw h.hs wi rest
  have hl : (w ++ rest.take (min rest.length (1024 - w.length))).length ≤ 1024 := by
    rw [List.length_append, List.length_take]; have := h.hw; omega
  have hd := h.hd
  generalize hw1 : w ++ rest.take (min rest.length (1024 - w.length)) = w1 at hl e2 ⊢
  have hne : w1 ≠ [] ∨ wi = true := by
    by_cases e : w1 = []
    · cases hwi : wi with
      | true => exact .inr rfl
      | false => rw [e2, e, hwi, po_a0 h.hs] at hk; cases hk
    · exact .inl e
  have hd2 : w1 ++ rest.drop (min rest.length (1024 - w.length)) = w ++ rest := by
    rw [← hw1, List.append_assoc, List.take_append_drop]
  have hlen := congrArg List.length hd
  have hlen2 := congrArg List.length hd2
  simp only [List.length_append] at hlen hlen2
  have htk : (w1.take 64).length = min 64 w1.length := List.length_take
  have hpos : wi = false → 1 ≤ w1.length := fun hf => by
    rcases hne with h1 | h1
    · have : w1.length ≠ 0 := fun e => h1 (List.length_eq_zero_iff.1 e)
      omega
    · rw [hf] at h1; cases h1
  obtain ⟨⟨x1, x2⟩, _⟩ := nx_bd h.hs
  have hn := h.hn
  refine ⟨⟨by rw [List.length_drop]; omega, by omega, by omega, ?_, ?_, ?_, ?_, fun h => by cases h⟩, ?_, hne⟩
  · rw [List.append_assoc, ← List.append_assoc (w1.take 64), List.take_append_drop, hd2, hd]
  · rw [List.length_append]
    cases hwi : wi with
    | true => simp only [if_true]; omega
    | false =>
      have := hpos hwi
      simp only [Bool.false_eq_true, if_false]; omega
  · have := h.hq
    rw [nx, tmod_nn _ 15 (by omega)]
    omega
  · rw [h.hk]
    cases hwi : wi with
    | true =>
      have := h.hi hwi
      simp [this]
    | false => simp
  · rw [List.length_append]
    cases hwi : wi with
    | true => simp only [if_true]; omega
    | false =>
      have := hpos hwi
      simp only [Bool.false_eq_true, if_false]; omega
end Go.Proofs.Ytknapnleecepaaa

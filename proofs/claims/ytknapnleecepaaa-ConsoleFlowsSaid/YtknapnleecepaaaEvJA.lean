/- A part of the proof: symbolic evaluation of the program's functions, proved sound against the model; no condition. -/
import Derived.Test.YtknapnleecepaaaEvZ
import Derived.Test.YtknapnleecepaaaChecked
namespace Go.Proofs.Ytknapnleecepaaa
open Go Go.RowKit Go.Ev
set_option linter.unusedSimpArgs false
set_option linter.unusedVariables false
set_option maxRecDepth 20000
/-- baseboard/console.Encode [24] -/
def rc9 : RC :=
  (.seq
   (.region [
     ⟨(some 1), .box 5 (.t 0), none, []⟩,
     ⟨(some 2), .mov (.c (.nil)), none, []⟩,
     ⟨(some 3), .mov (.c (.int .i64 0)), none, [1]⟩] false)
   (.seq
    (.seq
     (.region [
       ⟨(some 5), .load 5 true (.t 1), none, []⟩,
       ⟨(some 6), .call 34 [(.t 5)], none, [0]⟩,
       ⟨(some 7), .not (.t 6), none, [1]⟩] false)
     (.cond (.t 7)
      (.seq
       (.region [
         ⟨(some 2), .mov (.c (.nil)), none, []⟩,
         ⟨(some 3), .mov (.c (.int .i64 1)), none, [0, 0]⟩] false)
       .ret)
      .skip))
    (.seq
     (.region [
       ⟨(some 8), .faddr 4 (.t 1), none, []⟩,
       ⟨(some 9), .load 1 false (.t 8), none, [0]⟩,
       ⟨(some 10), .len 0 (.t 9), none, [0, 1]⟩,
       ⟨(some 11), .arith .add (.c (.int .i64 4)) (.t 10), none, [1, 0, 2]⟩,
       ⟨(some 12), .mkslice 5 1 [.int .u8 0] (.c (.int .i64 0)) (.t 11), none, [2, 0, 1, 3]⟩,
       ⟨(some 13), .faddr 0 (.t 1), none, []⟩,
       ⟨(some 14), .load 1 false (.t 13), none, [5]⟩,
       ⟨(some 15), .conv .u8 (.t 14), none, [5, 6]⟩,
       ⟨(some 16), .faddr 1 (.t 1), none, []⟩,
       ⟨(some 17), .load 1 false (.t 16), none, [8]⟩,
       ⟨(some 18), .conv .u8 (.t 17), none, [8, 9]⟩,
       ⟨(some 19), .faddr 2 (.t 1), none, []⟩,
       ⟨(some 20), .load 1 false (.t 19), none, [11]⟩,
       ⟨(some 21), .conv .u8 (.t 20), none, [11, 12]⟩,
       ⟨(some 22), .bslice 4 [.int .u8 0] [(0, (.t 15)), (1, (.t 18)), (2, (.t 21)), (3, (.c (.int .u8 0)))], none, [12, 11, 9, 8, 6, 5, 13, 10, 7]⟩,
       ⟨(some 23), .appD 5 1 [.int .u8 0] (.t 12) (.t 22), none, [7, 10, 13, 5, 6, 8, 9, 11, 12, 3, 1, 0, 2, 14, 4]⟩,
       ⟨(some 4), .mov (.t 23), none, [14, 13, 12, 11, 10, 9, 8, 7, 6, 5, 4, 3, 2, 1, 0, 15]⟩] true)
     (.seq
      (.seq
       (.region [
         ⟨(some 24), .faddr 3 (.t 1), none, []⟩,
         ⟨(some 25), .load 1 false (.t 24), none, [0]⟩] false)
       (.cond (.t 25)
        (.region [
          ⟨(some 26), .mov (.t 4), none, []⟩,
          ⟨(some 27), .iaddrS [.int .u8 0] (.t 26) (.c (.int .i64 3)), none, [0, 0]⟩,
          ⟨none, .store 1 (.t 27) (.c (.int .u8 1)), none, [1, 0]⟩] false)
        .skip))
      (.seq
       (.region [
         ⟨(some 28), .mov (.t 4), none, []⟩,
         ⟨(some 29), .faddr 4 (.t 1), none, []⟩,
         ⟨(some 30), .load 1 false (.t 29), none, [1]⟩,
         ⟨(some 31), .append 5 1 [.int .u8 0] (.t 28) (.t 30), none, [0, 2]⟩,
         ⟨(some 2), .mov (.t 31), none, [3, 3, 0, 1, 2, 3]⟩,
         ⟨(some 3), .mov (.c (.int .i64 0)), none, [4, 0, 1, 2, 3, 4]⟩] false)
       .ret)))))
def rv9 : List RV := [.t 2, .t 3]
theorem rc9_ok : comp Try.prog Try.f9.ntmps (Try.f9.body.getD .skip) = some (erase rc9) := by kernel_rfl
theorem rv9_ok : compRes Try.prog Try.f9.results.toList = some rv9 := by kernel_rfl

/-- baseboard/baseboardref36.Encode [24] -/
def rc10 : RC :=
  (.seq
   (.region [
     ⟨(some 1), .box 5 (.t 0), none, []⟩,
     ⟨(some 2), .mov (.c (.nil)), none, []⟩,
     ⟨(some 3), .mov (.c (.int .i64 0)), none, [1]⟩] false)
   (.seq
    (.seq
     (.region [
       ⟨(some 5), .load 5 true (.t 1), none, []⟩,
       ⟨(some 6), .call 35 [(.t 5)], none, [0]⟩,
       ⟨(some 7), .not (.t 6), none, [1]⟩] false)
     (.cond (.t 7)
      (.seq
       (.region [
         ⟨(some 2), .mov (.c (.nil)), none, []⟩,
         ⟨(some 3), .mov (.c (.int .i64 1)), none, [0, 0]⟩] false)
       .ret)
      .skip))
    (.seq
     (.region [
       ⟨(some 8), .faddr 0 (.t 1), none, []⟩,
       ⟨(some 9), .load 1 false (.t 8), none, [0]⟩,
       ⟨(some 10), .conv .u8 (.t 9), none, [1]⟩,
       ⟨(some 11), .faddr 1 (.t 1), none, []⟩,
       ⟨(some 12), .load 1 false (.t 11), none, [3]⟩,
       ⟨(some 13), .conv .u8 (.t 12), none, [4]⟩,
       ⟨(some 14), .faddr 2 (.t 1), none, []⟩,
       ⟨(some 15), .load 1 false (.t 14), none, [6]⟩,
       ⟨(some 16), .conv .u8 (.t 15), none, [7]⟩,
       ⟨(some 17), .bsliceO 5 4 [.int .u8 0] [(0, (.t 10)), (1, (.t 13)), (2, (.t 16)), (3, (.c (.int .u8 0)))], none, [2, 5, 8]⟩,
       ⟨(some 4), .mov (.t 17), none, [9, 0, 1, 2, 3, 4, 5, 6, 7, 8, 9]⟩] false)
     (.seq
      (.seq
       (.region [
         ⟨(some 18), .faddr 3 (.t 1), none, []⟩,
         ⟨(some 19), .load 1 false (.t 18), none, [0]⟩] false)
       (.cond (.t 19)
        (.region [
          ⟨(some 20), .mov (.t 4), none, []⟩,
          ⟨(some 21), .iaddrS [.int .u8 0] (.t 20) (.c (.int .i64 3)), none, [0, 0]⟩,
          ⟨none, .store 1 (.t 21) (.c (.int .u8 1)), none, [1, 0]⟩] false)
        .skip))
      (.seq
       (.region [
         ⟨(some 22), .mov (.t 4), none, []⟩,
         ⟨(some 23), .faddr 4 (.t 1), none, []⟩,
         ⟨(some 24), .load 1 false (.t 23), none, [1]⟩,
         ⟨(some 25), .append 5 1 [.int .u8 0] (.t 22) (.t 24), none, [0, 2]⟩,
         ⟨(some 2), .mov (.t 25), none, [3, 3, 0, 1, 2, 3]⟩,
         ⟨(some 3), .mov (.c (.int .i64 0)), none, [4, 0, 1, 2, 3, 4]⟩] false)
       .ret)))))
def rv10 : List RV := [.t 2, .t 3]
theorem rc10_ok : comp Try.prog Try.f10.ntmps (Try.f10.body.getD .skip) = some (erase rc10) := by kernel_rfl
theorem rv10_ok : compRes Try.prog Try.f10.results.toList = some rv10 := by kernel_rfl

/-- baseboard/console.Decode [22] -/
def rc11 : RC :=
  (.seq
   (.region [
     ⟨(some 2), .alloc [.int .i64 0, .int .i64 0, .int .i64 0, .bool false, .nil], none, []⟩,
     ⟨(some 3), .mov (.c (.int .i64 0)), none, []⟩] false)
   (.seq
    (.seq
     (.region [
       ⟨(some 5), .mov (.t 0), none, []⟩,
       ⟨(some 6), .len 0 (.t 5), none, [0]⟩,
       ⟨(some 7), .cmp .lss 0 (.t 6) (.c (.int .i64 4)), none, [1]⟩] false)
     (.cond (.t 7)
      (.seq
       (.region [
         ⟨(some 8), .build [.int .i64 0, .int .i64 0, .int .i64 0, .bool false, .nil] [], none, []⟩,
         ⟨none, .store 5 (.t 2) (.t 8), none, [0, 0]⟩,
         ⟨(some 3), .mov (.c (.int .i64 4)), none, [1, 0, 1]⟩] false)
       .ret)
      .skip))
    (.seq
     (.seq
      (.region [
        ⟨(some 9), .mov (.t 0), none, []⟩,
        ⟨(some 10), .len 0 (.t 9), none, [0]⟩,
        ⟨(some 11), .cmp .gtr 0 (.t 10) (.c (.int .i64 68)), none, [1]⟩] false)
      (.cond (.t 11)
       (.seq
        (.region [
          ⟨(some 12), .build [.int .i64 0, .int .i64 0, .int .i64 0, .bool false, .nil] [], none, []⟩,
          ⟨none, .store 5 (.t 2) (.t 12), none, [0, 0]⟩,
          ⟨(some 3), .mov (.c (.int .i64 3)), none, [1, 0, 1]⟩] false)
        .ret)
       .skip))
     (.seq
      (.region [
        ⟨(some 13), .mov (.t 0), none, []⟩,
        ⟨(some 14), .iaddrS [.int .u8 0] (.t 13) (.c (.int .i64 0)), none, [0]⟩,
        ⟨(some 15), .load 1 false (.t 14), none, [0, 1]⟩,
        ⟨(some 16), .conv .i64 (.t 15), none, [1, 0, 2]⟩,
        ⟨(some 17), .mov (.t 0), none, []⟩,
        ⟨(some 18), .iaddrS [.int .u8 0] (.t 17) (.c (.int .i64 1)), none, [4]⟩,
        ⟨(some 19), .load 1 false (.t 18), none, [4, 5]⟩,
        ⟨(some 20), .conv .i64 (.t 19), none, [5, 4, 6]⟩,
        ⟨(some 21), .mov (.t 0), none, []⟩,
        ⟨(some 22), .iaddrS [.int .u8 0] (.t 21) (.c (.int .i64 2)), none, [8]⟩,
        ⟨(some 23), .load 1 false (.t 22), none, [8, 9]⟩,
        ⟨(some 24), .conv .i64 (.t 23), none, [9, 8, 10]⟩,
        ⟨(some 25), .mov (.t 0), none, []⟩,
        ⟨(some 26), .iaddrS [.int .u8 0] (.t 25) (.c (.int .i64 3)), none, [12]⟩,
        ⟨(some 27), .load 1 false (.t 26), none, [12, 13]⟩,
        ⟨(some 28), .cmp .eql 0 (.t 27) (.c (.int .u8 1)), none, [13, 12, 14]⟩,
        ⟨(some 29), .mov (.t 0), none, []⟩,
        ⟨(some 30), .slice 1 (.t 29) (some (.c (.int .i64 4))) none, none, [16]⟩,
        ⟨(some 31), .call 36 [(.t 30)], none, [16, 17]⟩,
        ⟨(some 32), .build [.int .i64 0, .int .i64 0, .int .i64 0, .bool false, .nil] [(0, 1, (.t 16)), (1, 1, (.t 20)), (2, 1, (.t 24)), (3, 1, (.t 28)), (4, 1, (.t 31))], none, [17, 16, 14, 12, 13, 10, 8, 9, 6, 4, 5, 2, 0, 1, 18, 15, 11, 7, 3]⟩,
        ⟨(some 4), .alloc [.int .i64 0, .int .i64 0, .int .i64 0, .bool false, .nil], none, []⟩,
        ⟨none, .store 5 (.t 4) (.t 32), none, [17, 16, 15, 14, 13, 12, 11, 10, 9, 8, 7, 6, 5, 4, 3, 2, 1, 0, 18, 19, 20]⟩] true)
      (.seq
       (.seq
        (.region [
          ⟨(some 33), .mov (.t 0), none, []⟩,
          ⟨(some 34), .iaddrS [.int .u8 0] (.t 33) (.c (.int .i64 3)), none, [0]⟩,
          ⟨(some 35), .load 1 false (.t 34), none, [1]⟩,
          ⟨(some 36), .cmp .gtr 0 (.t 35) (.c (.int .u8 1)), none, [2]⟩,
          ⟨(some 37), .mov (.t 36), none, [3]⟩,
          ⟨(some 38), .load 5 true (.t 4), (some (37, false)), [4]⟩,
          ⟨(some 39), .call 34 [(.t 38)], (some (37, false)), [5, 4, 4]⟩,
          ⟨(some 40), .not (.t 39), (some (37, false)), [6, 4]⟩,
          ⟨(some 41), .pick (.t 37) (.c (.bool true)) (.t 40), none, [4, 7]⟩] false)
        (.cond (.t 41)
         (.seq
          (.region [
            ⟨(some 42), .build [.int .i64 0, .int .i64 0, .int .i64 0, .bool false, .nil] [], none, []⟩,
            ⟨none, .store 5 (.t 2) (.t 42), none, [0, 0]⟩,
            ⟨(some 3), .mov (.c (.int .i64 6)), none, [1, 0, 1]⟩] false)
          .ret)
         .skip))
       (.seq
        (.region [
          ⟨(some 43), .load 5 true (.t 4), none, []⟩,
          ⟨none, .store 5 (.t 2) (.t 43), none, [0, 0]⟩,
          ⟨(some 3), .mov (.c (.int .i64 0)), none, [1, 0, 1]⟩] false)
        .ret))))))
def rv11 : List RV := [.c 2 5 true, .t 3]
theorem rc11_ok : comp Try.prog Try.f11.ntmps (Try.f11.body.getD .skip) = some (erase rc11) := by kernel_rfl
theorem rv11_ok : compRes Try.prog Try.f11.results.toList = some rv11 := by kernel_rfl

/-- baseboard/baseboardref36.SameChunk [24, 24] -/
def rc12 : RC :=
  (.seq
   (.region [
     ⟨(some 2), .box 5 (.t 0), none, []⟩,
     ⟨(some 3), .box 5 (.t 1), none, []⟩,
     ⟨(some 4), .mov (.c (.bool false)), none, []⟩] false)
   (.seq
    (.region [
      ⟨(some 5), .faddr 0 (.t 2), none, []⟩,
      ⟨(some 6), .load 1 false (.t 5), none, [0]⟩,
      ⟨(some 7), .faddr 0 (.t 3), none, []⟩,
      ⟨(some 8), .load 1 false (.t 7), none, [2]⟩,
      ⟨(some 9), .cmp .eql 0 (.t 6) (.t 8), none, [1, 3]⟩,
      ⟨(some 10), .mov (.t 9), none, [4]⟩,
      ⟨(some 11), .faddr 1 (.t 2), (some (10, true)), [5]⟩,
      ⟨(some 12), .load 1 false (.t 11), (some (10, true)), [6, 5]⟩,
      ⟨(some 13), .faddr 1 (.t 3), (some (10, true)), [5]⟩,
      ⟨(some 14), .load 1 false (.t 13), (some (10, true)), [8, 5]⟩,
      ⟨(some 15), .cmp .eql 0 (.t 12) (.t 14), (some (10, true)), [7, 9, 5]⟩,
      ⟨(some 16), .pick (.t 10) (.t 15) (.c (.bool false)), none, [5, 10]⟩,
      ⟨(some 17), .mov (.t 16), none, [11, 5]⟩,
      ⟨(some 18), .faddr 2 (.t 2), (some (17, true)), [12]⟩,
      ⟨(some 19), .load 1 false (.t 18), (some (17, true)), [13, 12]⟩,
      ⟨(some 20), .faddr 2 (.t 3), (some (17, true)), [12]⟩,
      ⟨(some 21), .load 1 false (.t 20), (some (17, true)), [15, 12]⟩,
      ⟨(some 22), .cmp .eql 0 (.t 19) (.t 21), (some (17, true)), [14, 16, 12]⟩,
      ⟨(some 23), .pick (.t 17) (.t 22) (.c (.bool false)), none, [12, 17]⟩,
      ⟨(some 24), .mov (.t 23), none, [18, 12]⟩,
      ⟨(some 25), .faddr 3 (.t 2), (some (24, true)), [19]⟩,
      ⟨(some 26), .load 1 false (.t 25), (some (24, true)), [20, 19]⟩,
      ⟨(some 27), .faddr 3 (.t 3), (some (24, true)), [19]⟩,
      ⟨(some 28), .load 1 false (.t 27), (some (24, true)), [22, 19]⟩,
      ⟨(some 29), .cmp .eql 1 (.t 26) (.t 28), (some (24, true)), [21, 23, 19]⟩,
      ⟨(some 30), .pick (.t 24) (.t 29) (.c (.bool false)), none, [19, 24]⟩,
      ⟨(some 31), .mov (.t 30), none, [25, 19]⟩,
      ⟨(some 32), .faddr 4 (.t 2), (some (31, true)), [26]⟩,
      ⟨(some 33), .load 1 false (.t 32), (some (31, true)), [27, 26]⟩,
      ⟨(some 34), .b2s (.t 33), (some (31, true)), [28, 26]⟩,
      ⟨(some 35), .faddr 4 (.t 3), (some (31, true)), [26]⟩,
      ⟨(some 36), .load 1 false (.t 35), (some (31, true)), [30, 26]⟩,
      ⟨(some 37), .b2s (.t 36), (some (31, true)), [31, 26]⟩,
      ⟨(some 38), .cmp .eql 2 (.t 34) (.t 37), (some (31, true)), [29, 32, 26]⟩,
      ⟨(some 39), .pick (.t 31) (.t 38) (.c (.bool false)), none, [26, 33]⟩,
      ⟨(some 4), .mov (.t 39), none, [34, 26, 0, 1, 2, 3, 4, 5, 6, 7, 8, 9, 10, 11, 12, 13, 14, 15, 16, 17, 18, 19, 20, 21, 22, 23, 24, 25, 26, 27, 28, 29, 30, 31, 32, 33, 34]⟩] false)
    .ret))
def rv12 : List RV := [.t 4]
theorem rc12_ok : comp Try.prog Try.f12.ntmps (Try.f12.body.getD .skip) = some (erase rc12) := by kernel_rfl
theorem rv12_ok : compRes Try.prog Try.f12.results.toList = some rv12 := by kernel_rfl

/-- baseboard/baseboardref36.Decode [22] -/
def rc13 : RC :=
  (.seq
   (.region [
     ⟨(some 2), .alloc [.int .i64 0, .int .i64 0, .int .i64 0, .bool false, .nil], none, []⟩,
     ⟨(some 3), .mov (.c (.int .i64 0)), none, []⟩] false)
   (.seq
    (.block 0
     (.seq
      (.region [
        ⟨(some 6), .mov (.t 0), none, []⟩,
        ⟨(some 7), .len 0 (.t 6), none, [0]⟩,
        ⟨(some 8), .cmp .lss 0 (.t 7) (.c (.int .i64 4)), none, [1]⟩,
        ⟨(some 5), .mov (.t 8), none, [2]⟩] false)
      (.cond (.t 5)
       (.seq
        (.region [
          ⟨(some 9), .build [.int .i64 0, .int .i64 0, .int .i64 0, .bool false, .nil] [], none, []⟩,
          ⟨none, .store 5 (.t 2) (.t 9), none, [0, 0]⟩,
          ⟨(some 3), .mov (.c (.int .i64 4)), none, [1, 0, 1]⟩] false)
        .ret)
       (.seq
        (.region [
          ⟨(some 11), .mov (.t 0), none, []⟩,
          ⟨(some 12), .len 0 (.t 11), none, [0]⟩,
          ⟨(some 13), .cmp .gtr 0 (.t 12) (.c (.int .i64 68)), none, [1]⟩,
          ⟨(some 10), .mov (.t 13), none, [2]⟩] false)
        (.cond (.t 10)
         (.seq
          (.region [
            ⟨(some 14), .build [.int .i64 0, .int .i64 0, .int .i64 0, .bool false, .nil] [], none, []⟩,
            ⟨none, .store 5 (.t 2) (.t 14), none, [0, 0]⟩,
            ⟨(some 3), .mov (.c (.int .i64 3)), none, [1, 0, 1]⟩] false)
          .ret)
         .skip)))))
    (.seq
     (.region [
       ⟨(some 15), .mov (.t 0), none, []⟩,
       ⟨(some 16), .iaddrS [.int .u8 0] (.t 15) (.c (.int .i64 0)), none, [0]⟩,
       ⟨(some 17), .load 1 false (.t 16), none, [0, 1]⟩,
       ⟨(some 18), .conv .i64 (.t 17), none, [1, 0, 2]⟩,
       ⟨(some 19), .mov (.t 0), none, []⟩,
       ⟨(some 20), .iaddrS [.int .u8 0] (.t 19) (.c (.int .i64 1)), none, [4]⟩,
       ⟨(some 21), .load 1 false (.t 20), none, [4, 5]⟩,
       ⟨(some 22), .conv .i64 (.t 21), none, [5, 4, 6]⟩,
       ⟨(some 23), .mov (.t 0), none, []⟩,
       ⟨(some 24), .iaddrS [.int .u8 0] (.t 23) (.c (.int .i64 2)), none, [8]⟩,
       ⟨(some 25), .load 1 false (.t 24), none, [8, 9]⟩,
       ⟨(some 26), .conv .i64 (.t 25), none, [9, 8, 10]⟩,
       ⟨(some 27), .mov (.t 0), none, []⟩,
       ⟨(some 28), .iaddrS [.int .u8 0] (.t 27) (.c (.int .i64 3)), none, [12]⟩,
       ⟨(some 29), .load 1 false (.t 28), none, [12, 13]⟩,
       ⟨(some 30), .cmp .eql 0 (.t 29) (.c (.int .u8 1)), none, [13, 12, 14]⟩,
       ⟨(some 31), .mov (.t 0), none, []⟩,
       ⟨(some 32), .slice 1 (.t 31) (some (.c (.int .i64 4))) none, none, [16]⟩,
       ⟨(some 33), .appD 5 1 [.int .u8 0] (.c (.nil)) (.t 32), none, [16, 17]⟩,
       ⟨(some 34), .build [.int .i64 0, .int .i64 0, .int .i64 0, .bool false, .nil] [(0, 1, (.t 18)), (1, 1, (.t 22)), (2, 1, (.t 26)), (3, 1, (.t 30)), (4, 1, (.t 33))], none, [17, 16, 14, 12, 13, 10, 8, 9, 6, 4, 5, 2, 0, 1, 18, 15, 11, 7, 3]⟩,
       ⟨(some 4), .alloc [.int .i64 0, .int .i64 0, .int .i64 0, .bool false, .nil], none, []⟩,
       ⟨none, .store 5 (.t 4) (.t 34), none, [17, 16, 15, 14, 13, 12, 11, 10, 9, 8, 7, 6, 5, 4, 3, 2, 1, 0, 18, 19, 20]⟩] true)
     (.seq
      (.seq
       (.region [
         ⟨(some 35), .mov (.t 0), none, []⟩,
         ⟨(some 36), .iaddrS [.int .u8 0] (.t 35) (.c (.int .i64 3)), none, [0]⟩,
         ⟨(some 37), .load 1 false (.t 36), none, [1]⟩,
         ⟨(some 38), .cmp .gtr 0 (.t 37) (.c (.int .u8 1)), none, [2]⟩,
         ⟨(some 39), .mov (.t 38), none, [3]⟩,
         ⟨(some 40), .load 5 true (.t 4), (some (39, false)), [4]⟩,
         ⟨(some 41), .call 35 [(.t 40)], (some (39, false)), [5, 4, 4]⟩,
         ⟨(some 42), .not (.t 41), (some (39, false)), [6, 4]⟩,
         ⟨(some 43), .pick (.t 39) (.c (.bool true)) (.t 42), none, [4, 7]⟩] false)
       (.cond (.t 43)
        (.seq
         (.region [
           ⟨(some 44), .build [.int .i64 0, .int .i64 0, .int .i64 0, .bool false, .nil] [], none, []⟩,
           ⟨none, .store 5 (.t 2) (.t 44), none, [0, 0]⟩,
           ⟨(some 3), .mov (.c (.int .i64 6)), none, [1, 0, 1]⟩] false)
         .ret)
        .skip))
      (.seq
       (.region [
         ⟨(some 45), .load 5 true (.t 4), none, []⟩,
         ⟨none, .store 5 (.t 2) (.t 45), none, [0, 0]⟩,
         ⟨(some 3), .mov (.c (.int .i64 0)), none, [1, 0, 1]⟩] false)
       .ret)))))
def rv13 : List RV := [.c 2 5 true, .t 3]
theorem rc13_ok : comp Try.prog Try.f13.ntmps (Try.f13.body.getD .skip) = some (erase rc13) := by kernel_rfl
theorem rv13_ok : compRes Try.prog Try.f13.results.toList = some rv13 := by kernel_rfl

/-- baseboard/console.Grow [38, 3] -/
def rc16 : RC :=
  (.seq
   (.region [
     ⟨(some 2), .box 10 (.t 0), none, []⟩,
     ⟨(some 4), .alloc [.nil, .bool false, .nil, .bool false, .bool false, .int .i64 0, .int .i64 0, .int .i64 0, .int .i64 0, .int .i64 0], none, []⟩] false)
   (.seq
    (.region [
      ⟨(some 6), .load 10 true (.t 2), none, []⟩,
      ⟨(some 7), .call 38 [(.t 6)], none, [0]⟩,
      ⟨(some 5), .alloc [.nil, .bool false, .nil, .bool false, .bool false, .int .i64 0, .int .i64 0, .int .i64 0, .int .i64 0, .int .i64 0], none, []⟩,
      ⟨none, .store 10 (.t 5) (.t 7), none, [2, 1, 1, 0, 1, 2]⟩] false)
    (.seq
     (.seq
      (.region [
        ⟨(some 8), .load 10 true (.t 2), none, []⟩,
        ⟨(some 9), .call 25 [(.t 8)], none, [0]⟩,
        ⟨(some 10), .mov (.t 9), none, [1, 1]⟩,
        ⟨(some 11), .mov (.t 1), (some (10, true)), [2]⟩,
        ⟨(some 12), .cmp .geq 0 (.t 11) (.c (.int .i64 0)), (some (10, true)), [3, 2]⟩,
        ⟨(some 13), .pick (.t 10) (.t 12) (.c (.bool false)), none, [2, 4]⟩] false)
      (.cond (.t 13)
       (.region [
         ⟨(some 14), .faddr 7 (.t 5), none, []⟩,
         ⟨(some 15), .load 1 false (.t 14), none, [0]⟩,
         ⟨(some 16), .mov (.t 1), none, []⟩,
         ⟨(some 17), .faddr 7 (.t 5), none, []⟩,
         ⟨(some 18), .load 1 false (.t 17), none, [3]⟩,
         ⟨(some 19), .arith .sub (.c (.int .i64 1024)) (.t 18), none, [4]⟩,
         ⟨(some 20), .minmax false [(.t 16), (.t 19)], none, [2, 5]⟩,
         ⟨(some 21), .arith .add (.t 15) (.t 20), none, [1, 6]⟩,
         ⟨(some 22), .faddr 7 (.t 5), none, [0, 1, 2, 3, 4, 5, 6, 7]⟩,
         ⟨none, .store 1 (.t 22) (.t 21), none, [8, 7, 0, 1, 2, 3, 4, 5, 6, 7]⟩] false)
       .skip))
     (.seq
      (.region [
        ⟨(some 23), .load 10 true (.t 5), none, []⟩,
        ⟨none, .store 10 (.t 4) (.t 23), none, [0, 0]⟩] false)
      .ret))))
def rv16 : List RV := [.c 4 10 true]
theorem rc16_ok : comp Try.prog Try.f16.ntmps (Try.f16.body.getD .skip) = some (erase rc16) := by kernel_rfl
theorem rv16_ok : compRes Try.prog Try.f16.results.toList = some rv16 := by kernel_rfl

/-- (*baseboard/baseboardfield.Codes).Bytes [35, 3] -/
def rc17 : RC :=
  (.seq
   (.region [
     ⟨(some 4), .mov (.c (.nil)), none, []⟩] false)
   (.seq
    (.region [
      ⟨(some 5), .mov (.c (.nil)), none, []⟩] false)
    (.seq
     (.seq
      (.region [
        ⟨(some 7), .mov (.t 0), none, []⟩,
        ⟨(some 8), .mov (.t 1), none, []⟩,
        ⟨(some 9), .arith .add (.t 8) (.c (.int .i64 1)), none, [1]⟩,
        ⟨(some 10), .call 20 [(.t 7), (.t 9)], none, [0, 2]⟩,
        ⟨(some 6), .mov (.t 10), none, [3, 3, 0, 1, 2, 3]⟩] false)
      (.block 0
       (.loop 0
        (.seq
         (.seq
          (.region [
            ⟨(some 11), .mov (.t 6), none, []⟩,
            ⟨(some 12), .cmp .gtr 0 (.t 11) (.c (.int .i64 0)), none, [0]⟩] false)
          (.cond (.t 12)
           .skip
           (.exit 0)))
         (.seq
          (.block 1
           (.region [
             ⟨(some 15), .mov (.t 5), none, []⟩,
             ⟨(some 16), .mov (.t 0), none, []⟩,
             ⟨(some 17), .call 20 [(.t 16), (.c (.int .i64 256))], none, [1]⟩,
             ⟨(some 18), .conv .u8 (.t 17), none, [2]⟩,
             ⟨(some 19), .bsliceO 5 1 [.int .u8 0] [(0, (.t 18))], none, [3]⟩,
             ⟨(some 20), .append 5 1 [.int .u8 0] (.t 15) (.t 19), none, [0, 4, 2]⟩,
             ⟨(some 5), .mov (.t 20), none, [5, 5, 0, 1, 2, 3, 4, 5]⟩] false))
          (.region [
            ⟨(some 13), .mov (.t 6), none, []⟩,
            ⟨(some 14), .arith .sub (.t 13) (.c (.int .i64 1)), none, [0]⟩,
            ⟨(some 6), .mov (.t 14), none, [1, 0, 1]⟩] false))))))
     (.seq
      (.region [
        ⟨(some 21), .mov (.t 5), none, []⟩,
        ⟨(some 4), .mov (.t 21), none, [0, 0]⟩] false)
      .ret))))
def rv17 : List RV := [.t 4]
theorem rc17_ok : comp Try.prog Try.f17.ntmps (Try.f17.body.getD .skip) = some (erase rc17) := by kernel_rfl
theorem rv17_ok : compRes Try.prog Try.f17.results.toList = some rv17 := by kernel_rfl

/-- baseboard/console.Receive [38, 22] -/
def rc18 : RC :=
  (.seq
   (.region [
     ⟨(some 2), .box 10 (.t 0), none, []⟩,
     ⟨(some 4), .alloc [.nil, .bool false, .nil, .bool false, .bool false, .int .i64 0, .int .i64 0, .int .i64 0, .int .i64 0, .int .i64 0], none, []⟩,
     ⟨(some 5), .mov (.c (.nil)), none, []⟩,
     ⟨(some 6), .mov (.c (.bool false)), none, [2]⟩,
     ⟨(some 7), .mov (.c (.int .i64 0)), none, [3]⟩] false)
   (.seq
    (.seq
     (.region [
       ⟨(some 12), .load 10 true (.t 2), none, []⟩,
       ⟨(some 13), .call 25 [(.t 12)], none, [0]⟩,
       ⟨(some 14), .not (.t 13), none, [1]⟩] false)
     (.cond (.t 14)
      (.seq
       (.region [
         ⟨(some 15), .build [.nil, .bool false, .nil, .bool false, .bool false, .int .i64 0, .int .i64 0, .int .i64 0, .int .i64 0, .int .i64 0] [], none, []⟩,
         ⟨none, .store 10 (.t 4) (.t 15), none, [0, 0]⟩,
         ⟨(some 5), .mov (.c (.nil)), none, [1, 0, 1]⟩,
         ⟨(some 6), .mov (.c (.bool false)), none, [2, 0, 1, 2]⟩,
         ⟨(some 7), .mov (.c (.int .i64 1)), none, [3, 0, 1, 2, 3]⟩] false)
       .ret)
      .skip))
    (.seq
     (.region [
       ⟨(some 17), .mov (.t 1), none, []⟩,
       ⟨(some 18), .call 11 [(.t 17)], none, [0]⟩,
       ⟨(some 16), .mov (.t 18), none, [1]⟩,
       ⟨(some 19), .extract 0 (.t 16), none, [2]⟩,
       ⟨(some 20), .extract 1 (.t 16), none, [2]⟩,
       ⟨(some 8), .alloc [.int .i64 0, .int .i64 0, .int .i64 0, .bool false, .nil], none, []⟩,
       ⟨none, .store 5 (.t 8) (.t 19), none, [5, 3, 1, 0, 1, 2, 3, 5]⟩,
       ⟨(some 7), .mov (.t 20), none, [4, 6, 0, 1, 2, 3, 4, 5, 6]⟩] false)
     (.seq
      (.seq
       (.region [
         ⟨(some 21), .mov (.t 7), none, []⟩,
         ⟨(some 22), .cmp .neq 0 (.t 21) (.c (.int .i64 0)), none, [0]⟩] false)
       (.cond (.t 22)
        (.seq
         (.region [
           ⟨(some 23), .build [.nil, .bool false, .nil, .bool false, .bool false, .int .i64 0, .int .i64 0, .int .i64 0, .int .i64 0, .int .i64 0] [], none, []⟩,
           ⟨(some 24), .mov (.t 7), none, []⟩,
           ⟨none, .store 10 (.t 4) (.t 23), none, [0, 0]⟩,
           ⟨(some 5), .mov (.c (.nil)), none, [2, 0, 2]⟩,
           ⟨(some 6), .mov (.c (.bool false)), none, [3, 0, 2, 3]⟩,
           ⟨(some 7), .mov (.t 24), none, [1, 4, 0, 1, 2, 3, 4]⟩] false)
         .ret)
        .skip))
      (.seq
       (.region [
         ⟨(some 25), .load 10 true (.t 2), none, []⟩,
         ⟨(some 26), .call 38 [(.t 25)], none, [0]⟩,
         ⟨(some 9), .alloc [.nil, .bool false, .nil, .bool false, .bool false, .int .i64 0, .int .i64 0, .int .i64 0, .int .i64 0, .int .i64 0], none, []⟩,
         ⟨none, .store 10 (.t 9) (.t 26), none, [2, 1, 1, 0, 1, 2]⟩] false)
       (.seq
        (.seq
         (.region [
           ⟨(some 27), .faddr 4 (.t 9), none, []⟩,
           ⟨(some 28), .load 1 false (.t 27), none, [0]⟩,
           ⟨(some 29), .mov (.t 28), none, [1]⟩,
           ⟨(some 30), .faddr 1 (.t 8), (some (29, true)), [2]⟩,
           ⟨(some 31), .load 1 false (.t 30), (some (29, true)), [3, 2]⟩,
           ⟨(some 32), .faddr 5 (.t 9), (some (29, true)), [2]⟩,
           ⟨(some 33), .load 1 false (.t 32), (some (29, true)), [5, 2]⟩,
           ⟨(some 34), .cmp .eql 0 (.t 31) (.t 33), (some (29, true)), [4, 6, 2]⟩,
           ⟨(some 35), .pick (.t 29) (.t 34) (.c (.bool false)), none, [2, 7]⟩] false)
         (.cond (.t 35)
          (.seq
           (.region [
             ⟨(some 36), .faddr 2 (.t 9), none, []⟩,
             ⟨(some 37), .load 1 false (.t 36), none, [0]⟩,
             ⟨(some 38), .faddr 2 (.t 8), none, []⟩,
             ⟨(some 39), .load 1 false (.t 38), none, [2]⟩,
             ⟨(some 40), .faddr 2 (.t 9), none, []⟩,
             ⟨(some 41), .load 1 false (.t 40), none, [4]⟩,
             ⟨(some 42), .len 0 (.t 41), none, [5]⟩,
             ⟨(some 43), .minmax false [(.t 39), (.t 42)], none, [3, 6]⟩,
             ⟨(some 44), .slice 1 (.t 37) (some (.t 43)) none, none, [1, 7]⟩,
             ⟨(some 10), .mov (.t 44), none, [8, 0, 1, 2, 3, 4, 5, 6, 7, 8]⟩] false)
           (.seq
            (.region [
              ⟨(some 45), .mov (.t 10), none, []⟩,
              ⟨(some 46), .len 0 (.t 45), none, [0]⟩,
              ⟨(some 47), .faddr 0 (.t 9), none, []⟩,
              ⟨(some 48), .load 1 false (.t 47), none, [2]⟩,
              ⟨(some 49), .len 0 (.t 48), none, [2, 3]⟩,
              ⟨(some 50), .arith .add (.t 46) (.t 49), none, [3, 2, 0, 4, 1]⟩,
              ⟨(some 51), .mkslice 5 1 [.int .u8 0] (.c (.int .i64 0)) (.t 50), none, [1, 4, 0, 2, 3, 5]⟩,
              ⟨(some 52), .mov (.t 10), none, []⟩,
              ⟨(some 53), .appD 5 1 [.int .u8 0] (.t 51) (.t 52), none, [5, 3, 2, 0, 4, 1, 7, 6]⟩,
              ⟨(some 54), .faddr 0 (.t 9), none, []⟩,
              ⟨(some 55), .load 1 false (.t 54), none, [9]⟩,
              ⟨(some 56), .appD 5 1 [.int .u8 0] (.t 53) (.t 55), none, [9, 6, 7, 1, 4, 0, 2, 3, 5, 10, 8]⟩,
              ⟨(some 57), .faddr 0 (.t 9), none, [11, 10, 9, 8, 7, 6, 5, 4, 3, 2, 1, 0]⟩,
              ⟨none, .store 1 (.t 57) (.t 56), none, [10, 9, 8, 7, 6, 5, 4, 3, 2, 1, 0, 11, 12]⟩] true)
            (.region [
              ⟨(some 58), .faddr 2 (.t 9), none, []⟩,
              ⟨none, .store 1 (.t 58) (.c (.nil)), none, [0]⟩,
              ⟨(some 59), .faddr 3 (.t 9), none, [0, 1]⟩,
              ⟨none, .store 1 (.t 59) (.c (.bool false)), none, [2, 1, 0, 1]⟩,
              ⟨(some 60), .faddr 4 (.t 9), none, [0, 1, 2, 3]⟩,
              ⟨none, .store 1 (.t 60) (.c (.bool false)), none, [4, 3, 0, 1, 2, 3]⟩] false)))
          .skip))
        (.seq
         (.block 0
          (.seq
           (.region [
             ⟨(some 62), .faddr 0 (.t 8), none, []⟩,
             ⟨(some 63), .load 1 false (.t 62), none, [0]⟩,
             ⟨(some 64), .cmp .eql 0 (.t 63) (.c (.int .i64 0)), none, [1]⟩,
             ⟨(some 61), .mov (.t 64), none, [2]⟩] false)
           (.cond (.t 61)
            .skip
            (.seq
             (.region [
               ⟨(some 66), .faddr 0 (.t 8), none, []⟩,
               ⟨(some 67), .load 1 false (.t 66), none, [0]⟩,
               ⟨(some 68), .faddr 6 (.t 9), none, []⟩,
               ⟨(some 69), .load 1 false (.t 68), none, [2]⟩,
               ⟨(some 70), .cmp .eql 0 (.t 67) (.t 69), none, [1, 3]⟩,
               ⟨(some 65), .mov (.t 70), none, [4]⟩] false)
             (.cond (.t 65)
              (.region [
                ⟨(some 71), .faddr 0 (.t 8), none, []⟩,
                ⟨(some 72), .load 1 false (.t 71), none, [0]⟩,
                ⟨(some 73), .faddr 8 (.t 9), none, [0, 1]⟩,
                ⟨none, .store 1 (.t 73) (.t 72), none, [2, 1, 0, 1]⟩] false)
              (.seq
               (.region [
                 ⟨(some 75), .faddr 0 (.t 8), none, []⟩,
                 ⟨(some 76), .load 1 false (.t 75), none, [0]⟩,
                 ⟨(some 77), .faddr 6 (.t 9), none, []⟩,
                 ⟨(some 78), .load 1 false (.t 77), none, [2]⟩,
                 ⟨(some 79), .call 39 [(.t 78)], none, [2, 3]⟩,
                 ⟨(some 80), .cmp .eql 0 (.t 76) (.t 79), none, [3, 2, 0, 4, 1]⟩,
                 ⟨(some 74), .mov (.t 80), none, [1, 0, 2, 3, 4, 5]⟩] true)
               (.cond (.t 74)
                (.seq
                 (.region [
                   ⟨(some 81), .faddr 4 (.t 8), none, []⟩,
                   ⟨(some 82), .load 1 false (.t 81), none, [0]⟩,
                   ⟨(some 83), .len 0 (.t 82), none, [1]⟩,
                   ⟨(some 84), .faddr 7 (.t 9), none, []⟩,
                   ⟨(some 85), .load 1 false (.t 84), none, [3]⟩,
                   ⟨(some 86), .minmax false [(.t 83), (.t 85)], none, [2, 4]⟩,
                   ⟨(some 11), .mov (.t 86), none, [5, 0, 1, 2, 3, 4, 5]⟩] false)
                 (.seq
                  (.region [
                    ⟨(some 87), .faddr 4 (.t 8), none, []⟩,
                    ⟨(some 88), .load 1 false (.t 87), none, [0]⟩,
                    ⟨(some 89), .mov (.t 11), none, []⟩,
                    ⟨(some 90), .slice 1 (.t 88) none (some (.t 89)), none, [0, 2, 1]⟩,
                    ⟨(some 91), .call 36 [(.t 90)], none, [1, 2, 0, 3]⟩,
                    ⟨(some 92), .faddr 3 (.t 8), none, []⟩,
                    ⟨(some 93), .load 1 false (.t 92), none, [5]⟩,
                    ⟨(some 5), .mov (.t 91), none, [3, 2, 1, 0, 4]⟩,
                    ⟨(some 6), .mov (.t 93), none, [5, 4, 3, 2, 1, 0, 7, 6]⟩] true)
                  (.seq
                   (.region [
                     ⟨(some 94), .faddr 7 (.t 9), none, []⟩,
                     ⟨(some 95), .load 1 false (.t 94), none, [0]⟩,
                     ⟨(some 96), .mov (.t 11), none, []⟩,
                     ⟨(some 97), .arith .sub (.t 95) (.t 96), none, [1, 2]⟩,
                     ⟨(some 98), .faddr 7 (.t 9), none, [0, 1, 2, 3]⟩,
                     ⟨none, .store 1 (.t 98) (.t 97), none, [4, 3, 0, 1, 2, 3]⟩] false)
                   (.region [
                     ⟨(some 99), .faddr 0 (.t 8), none, []⟩,
                     ⟨(some 100), .load 1 false (.t 99), none, [0]⟩,
                     ⟨(some 101), .faddr 0 (.t 8), none, []⟩,
                     ⟨(some 102), .load 1 false (.t 101), none, [2]⟩,
                     ⟨(some 103), .mov (.t 11), none, []⟩,
                     ⟨(some 104), .faddr 6 (.t 9), none, [1, 0]⟩,
                     ⟨none, .store 1 (.t 104) (.t 100), none, [0, 1, 5]⟩,
                     ⟨(some 105), .faddr 8 (.t 9), none, [6, 5, 3, 2, 1, 0]⟩,
                     ⟨none, .store 1 (.t 105) (.t 102), none, [5, 2, 1, 0, 6, 3, 7]⟩,
                     ⟨(some 106), .faddr 9 (.t 9), none, [8, 7, 6, 5, 4, 3, 2, 1, 0]⟩,
                     ⟨none, .store 1 (.t 106) (.t 103), none, [7, 6, 5, 3, 2, 1, 0, 8, 4, 9]⟩] true))))
                .skip)))))))
         (.seq
          (.region [
            ⟨(some 107), .load 10 true (.t 9), none, []⟩,
            ⟨(some 108), .mov (.t 5), none, []⟩,
            ⟨(some 109), .mov (.t 6), none, []⟩,
            ⟨none, .store 10 (.t 4) (.t 107), none, [0, 0]⟩,
            ⟨(some 5), .mov (.t 108), none, [1, 3, 0, 1, 3]⟩,
            ⟨(some 6), .mov (.t 109), none, [2, 4, 0, 1, 2, 3, 4]⟩,
            ⟨(some 7), .mov (.c (.int .i64 0)), none, [5, 0, 1, 2, 3, 4, 5]⟩] false)
          .ret))))))))
def rv18 : List RV := [.c 4 10 true, .t 5, .t 6, .t 7]
theorem rc18_ok : comp Try.prog Try.f18.ntmps (Try.f18.body.getD .skip) = some (erase rc18) := by kernel_rfl
theorem rv18_ok : compRes Try.prog Try.f18.results.toList = some rv18 := by kernel_rfl

/-- (*baseboard/baseboardfield.Codes).Next [35, 3] -/
def rc20 : RC :=
  (.seq
   (.region [
     ⟨(some 4), .mov (.c (.int .i64 0)), none, []⟩] false)
   (.seq
    (.seq
     (.region [
       ⟨(some 6), .mov (.t 0), none, []⟩,
       ⟨(some 7), .call 33 [(.t 6)], none, [0]⟩,
       ⟨(some 8), .not (.t 7), none, [1]⟩,
       ⟨(some 9), .mov (.t 8), none, [2, 1]⟩,
       ⟨(some 10), .mov (.t 1), (some (9, false)), [3]⟩,
       ⟨(some 11), .cmp .lss 0 (.t 10) (.c (.int .i64 1)), (some (9, false)), [4, 3]⟩,
       ⟨(some 12), .pick (.t 9) (.c (.bool true)) (.t 11), none, [3, 5]⟩] false)
     (.cond (.t 12)
      (.seq
       (.region [
         ⟨(some 4), .mov (.c (.int .i64 0)), none, []⟩] false)
       .ret)
      .skip))
    (.seq
     (.region [
       ⟨(some 13), .mov (.t 0), none, []⟩,
       ⟨(some 14), .nilchk (.t 13), none, [0]⟩,
       ⟨(some 15), .faddr 0 (.t 14), none, [0, 1]⟩,
       ⟨(some 16), .load 1 false (.t 15), none, [1, 0, 2]⟩,
       ⟨(some 17), .mov (.t 0), none, []⟩,
       ⟨(some 18), .nilchk (.t 17), none, [4]⟩,
       ⟨(some 19), .faddr 1 (.t 18), none, [4, 5]⟩,
       ⟨(some 20), .load 1 false (.t 19), none, [5, 4, 6]⟩,
       ⟨(some 21), .iaddrS [.int .u8 0] (.t 16) (.t 20), none, [6, 4, 5, 2, 0, 1, 7, 3]⟩,
       ⟨(some 22), .load 1 false (.t 21), none, [3, 7, 1, 0, 2, 5, 4, 6, 8]⟩,
       ⟨(some 23), .conv .i64 (.t 22), none, [8, 6, 4, 5, 2, 0, 1, 7, 3, 9]⟩,
       ⟨(some 5), .mov (.t 23), none, [9, 8, 7, 6, 5, 4, 3, 2, 1, 0, 10]⟩] true)
     (.seq
      (.region [
        ⟨(some 24), .mov (.t 0), none, []⟩,
        ⟨(some 25), .nilchk (.t 24), none, [0]⟩,
        ⟨(some 26), .faddr 1 (.t 25), none, [1]⟩,
        ⟨(some 27), .load 1 false (.t 26), none, [2]⟩,
        ⟨(some 28), .arith .add (.t 27) (.c (.int .i64 1)), none, [3]⟩,
        ⟨(some 29), .nilchk (.t 24), none, [0, 0, 1, 2, 3, 4]⟩,
        ⟨(some 30), .faddr 1 (.t 29), none, [5, 0, 1, 2, 3, 4]⟩,
        ⟨none, .store 1 (.t 30) (.t 28), none, [6, 4, 0, 1, 2, 3, 4]⟩] false)
      (.seq
       (.seq
        (.region [
          ⟨(some 31), .mov (.t 1), none, []⟩,
          ⟨(some 32), .cmp .gtr 0 (.t 31) (.c (.int .i64 256)), none, [0]⟩,
          ⟨(some 33), .mov (.t 32), none, [1]⟩,
          ⟨(some 34), .mov (.t 0), (some (33, true)), [2]⟩,
          ⟨(some 35), .call 33 [(.t 34)], (some (33, true)), [3, 2, 2]⟩,
          ⟨(some 36), .pick (.t 33) (.t 35) (.c (.bool false)), none, [2, 4]⟩] false)
        (.cond (.t 36)
         (.seq
          (.region [
            ⟨(some 37), .mov (.t 5), none, []⟩,
            ⟨(some 38), .mov (.t 0), none, []⟩,
            ⟨(some 39), .nilchk (.t 38), none, [1]⟩,
            ⟨(some 40), .faddr 0 (.t 39), none, [1, 2]⟩,
            ⟨(some 41), .load 1 false (.t 40), none, [2, 1, 3]⟩,
            ⟨(some 42), .mov (.t 0), none, []⟩,
            ⟨(some 43), .nilchk (.t 42), none, [5]⟩,
            ⟨(some 44), .faddr 1 (.t 43), none, [5, 6]⟩,
            ⟨(some 45), .load 1 false (.t 44), none, [6, 5, 7]⟩,
            ⟨(some 46), .iaddrS [.int .u8 0] (.t 41) (.t 45), none, [7, 5, 6, 3, 1, 2, 8, 4]⟩,
            ⟨(some 47), .load 1 false (.t 46), none, [4, 8, 2, 1, 3, 6, 5, 7, 9]⟩,
            ⟨(some 48), .conv .i64 (.t 47), none, [9, 7, 5, 6, 3, 1, 2, 8, 4, 10]⟩,
            ⟨(some 49), .shl 8 (.t 48), none, [10, 4, 8, 2, 1, 3, 6, 5, 7, 9, 11]⟩,
            ⟨(some 50), .arith .or (.t 37) (.t 49), none, [11, 9, 7, 5, 6, 3, 1, 2, 8, 4, 10, 12, 0]⟩,
            ⟨(some 5), .mov (.t 50), none, [12, 11, 10, 9, 8, 7, 6, 5, 4, 3, 2, 1, 0, 13]⟩] true)
          (.region [
            ⟨(some 51), .mov (.t 0), none, []⟩,
            ⟨(some 52), .nilchk (.t 51), none, [0]⟩,
            ⟨(some 53), .faddr 1 (.t 52), none, [1]⟩,
            ⟨(some 54), .load 1 false (.t 53), none, [2]⟩,
            ⟨(some 55), .arith .add (.t 54) (.c (.int .i64 1)), none, [3]⟩,
            ⟨(some 56), .nilchk (.t 51), none, [0, 0, 1, 2, 3, 4]⟩,
            ⟨(some 57), .faddr 1 (.t 56), none, [5, 0, 1, 2, 3, 4]⟩,
            ⟨none, .store 1 (.t 57) (.t 55), none, [6, 4, 0, 1, 2, 3, 4]⟩] false))
         .skip))
       (.seq
        (.region [
          ⟨(some 58), .mov (.t 5), none, []⟩,
          ⟨(some 59), .mov (.t 1), none, []⟩,
          ⟨(some 60), .arith .rem (.t 58) (.t 59), none, [0, 1]⟩,
          ⟨(some 4), .mov (.t 60), none, [2, 0, 1, 2]⟩] false)
        .ret))))))
def rv20 : List RV := [.t 4]
theorem rc20_ok : comp Try.prog Try.f20.ntmps (Try.f20.body.getD .skip) = some (erase rc20) := by kernel_rfl
theorem rv20_ok : compRes Try.prog Try.f20.results.toList = some rv20 := by kernel_rfl

/-- baseboard/console.Write [38, 22] -/
def rc21 : RC :=
  (.seq
   (.region [
     ⟨(some 2), .box 10 (.t 0), none, []⟩,
     ⟨(some 4), .alloc [.nil, .bool false, .nil, .bool false, .bool false, .int .i64 0, .int .i64 0, .int .i64 0, .int .i64 0, .int .i64 0], none, []⟩,
     ⟨(some 5), .mov (.c (.int .i64 0)), none, []⟩] false)
   (.seq
    (.region [
      ⟨(some 8), .load 10 true (.t 2), none, []⟩,
      ⟨(some 9), .call 38 [(.t 8)], none, [0]⟩,
      ⟨(some 6), .alloc [.nil, .bool false, .nil, .bool false, .bool false, .int .i64 0, .int .i64 0, .int .i64 0, .int .i64 0, .int .i64 0], none, []⟩,
      ⟨none, .store 10 (.t 6) (.t 9), none, [2, 1, 1, 0, 1, 2]⟩] false)
    (.seq
     (.seq
      (.region [
        ⟨(some 10), .load 10 true (.t 2), none, []⟩,
        ⟨(some 11), .call 25 [(.t 10)], none, [0]⟩,
        ⟨(some 12), .not (.t 11), none, [1]⟩] false)
      (.cond (.t 12)
       (.seq
        (.region [
          ⟨(some 13), .load 10 true (.t 6), none, []⟩,
          ⟨none, .store 10 (.t 4) (.t 13), none, [0, 0]⟩,
          ⟨(some 5), .mov (.c (.int .i64 0)), none, [1, 0, 1]⟩] false)
        .ret)
       .skip))
     (.seq
      (.region [
        ⟨(some 14), .mov (.t 1), none, []⟩,
        ⟨(some 15), .len 0 (.t 14), none, [0]⟩,
        ⟨(some 16), .faddr 0 (.t 2), none, []⟩,
        ⟨(some 17), .load 1 false (.t 16), none, [2]⟩,
        ⟨(some 18), .len 0 (.t 17), none, [3]⟩,
        ⟨(some 19), .arith .sub (.c (.int .i64 1024)) (.t 18), none, [4]⟩,
        ⟨(some 20), .faddr 2 (.t 2), none, []⟩,
        ⟨(some 21), .load 1 false (.t 20), none, [6]⟩,
        ⟨(some 22), .len 0 (.t 21), none, [7]⟩,
        ⟨(some 23), .arith .sub (.t 19) (.t 22), none, [5, 8]⟩,
        ⟨(some 24), .minmax false [(.t 15), (.t 23)], none, [1, 9]⟩,
        ⟨(some 7), .mov (.t 24), none, [10, 0, 1, 2, 3, 4, 5, 6, 7, 8, 9, 10]⟩] false)
      (.seq
       (.region [
         ⟨(some 25), .faddr 0 (.t 6), none, []⟩,
         ⟨(some 26), .load 1 false (.t 25), none, [0]⟩,
         ⟨(some 27), .mov (.t 1), none, []⟩,
         ⟨(some 28), .mov (.t 7), none, []⟩,
         ⟨(some 29), .slice 1 (.t 27) none (some (.t 28)), none, [3, 2]⟩,
         ⟨(some 30), .appD 5 1 [.int .u8 0] (.t 26) (.t 29), none, [2, 3, 0, 4, 1]⟩,
         ⟨(some 31), .faddr 0 (.t 6), none, [5, 4, 3, 2, 1, 0]⟩,
         ⟨none, .store 1 (.t 31) (.t 30), none, [4, 3, 2, 1, 0, 5, 6]⟩] true)
       (.seq
        (.region [
          ⟨(some 32), .load 10 true (.t 6), none, []⟩,
          ⟨(some 33), .mov (.t 7), none, []⟩,
          ⟨none, .store 10 (.t 4) (.t 32), none, [0, 0]⟩,
          ⟨(some 5), .mov (.t 33), none, [1, 2, 0, 1, 2]⟩] false)
        .ret))))))
def rv21 : List RV := [.c 4 10 true, .t 5]
theorem rc21_ok : comp Try.prog Try.f21.ntmps (Try.f21.body.getD .skip) = some (erase rc21) := by kernel_rfl
theorem rv21_ok : compRes Try.prog Try.f21.results.toList = some rv21 := by kernel_rfl

/-- baseboard/baseboardref36.Write [38, 22] -/
def rc22 : RC :=
  (.seq
   (.region [
     ⟨(some 2), .box 10 (.t 0), none, []⟩,
     ⟨(some 4), .alloc [.nil, .bool false, .nil, .bool false, .bool false, .int .i64 0, .int .i64 0, .int .i64 0, .int .i64 0, .int .i64 0], none, []⟩,
     ⟨(some 5), .mov (.c (.int .i64 0)), none, []⟩] false)
   (.seq
    (.seq
     (.region [
       ⟨(some 7), .load 10 true (.t 2), none, []⟩,
       ⟨(some 8), .call 26 [(.t 7)], none, [0]⟩,
       ⟨(some 9), .not (.t 8), none, [1]⟩] false)
     (.cond (.t 9)
      (.seq
       (.region [
         ⟨(some 10), .load 10 true (.t 2), none, []⟩,
         ⟨(some 11), .call 40 [(.t 10)], none, [0]⟩,
         ⟨none, .store 10 (.t 4) (.t 11), none, [1, 1, 0, 1]⟩,
         ⟨(some 5), .mov (.c (.int .i64 0)), none, [2, 0, 1, 2]⟩] false)
       .ret)
      .skip))
    (.seq
     (.region [
       ⟨(some 12), .mov (.t 1), none, []⟩,
       ⟨(some 13), .len 0 (.t 12), none, [0]⟩,
       ⟨(some 14), .faddr 0 (.t 2), none, []⟩,
       ⟨(some 15), .load 1 false (.t 14), none, [2]⟩,
       ⟨(some 16), .len 0 (.t 15), none, [3]⟩,
       ⟨(some 17), .arith .sub (.c (.int .i64 1024)) (.t 16), none, [4]⟩,
       ⟨(some 18), .faddr 2 (.t 2), none, []⟩,
       ⟨(some 19), .load 1 false (.t 18), none, [6]⟩,
       ⟨(some 20), .len 0 (.t 19), none, [7]⟩,
       ⟨(some 21), .arith .sub (.t 17) (.t 20), none, [5, 8]⟩,
       ⟨(some 22), .minmax false [(.t 13), (.t 21)], none, [1, 9]⟩,
       ⟨(some 6), .mov (.t 22), none, [10, 0, 1, 2, 3, 4, 5, 6, 7, 8, 9, 10]⟩] false)
     (.seq
      (.region [
        ⟨(some 23), .load 10 true (.t 2), none, []⟩,
        ⟨(some 24), .call 40 [(.t 23)], none, [0]⟩,
        ⟨none, .store 10 (.t 2) (.t 24), none, [1, 1, 0, 1]⟩] false)
      (.seq
       (.region [
         ⟨(some 25), .faddr 0 (.t 2), none, []⟩,
         ⟨(some 26), .load 1 false (.t 25), none, [0]⟩,
         ⟨(some 27), .mov (.t 1), none, []⟩,
         ⟨(some 28), .mov (.t 6), none, []⟩,
         ⟨(some 29), .slice 1 (.t 27) none (some (.t 28)), none, [3, 2]⟩,
         ⟨(some 30), .appD 5 1 [.int .u8 0] (.t 26) (.t 29), none, [2, 3, 0, 4, 1]⟩,
         ⟨(some 31), .faddr 0 (.t 2), none, [5, 4, 3, 2, 1, 0]⟩,
         ⟨none, .store 1 (.t 31) (.t 30), none, [4, 3, 2, 1, 0, 5, 6]⟩] true)
       (.seq
        (.region [
          ⟨(some 32), .load 10 true (.t 2), none, []⟩,
          ⟨(some 33), .mov (.t 6), none, []⟩,
          ⟨none, .store 10 (.t 4) (.t 32), none, [0, 0]⟩,
          ⟨(some 5), .mov (.t 33), none, [1, 2, 0, 1, 2]⟩] false)
        .ret))))))
def rv22 : List RV := [.c 4 10 true, .t 5]
theorem rc22_ok : comp Try.prog Try.f22.ntmps (Try.f22.body.getD .skip) = some (erase rc22) := by kernel_rfl
theorem rv22_ok : compRes Try.prog Try.f22.results.toList = some rv22 := by kernel_rfl

/-- baseboard/console.Poll [38] -/
def rc23 : RC :=
  (.seq
   (.region [
     ⟨(some 1), .box 10 (.t 0), none, []⟩,
     ⟨(some 2), .alloc [.nil, .bool false, .nil, .bool false, .bool false, .int .i64 0, .int .i64 0, .int .i64 0, .int .i64 0, .int .i64 0], none, []⟩,
     ⟨(some 3), .mov (.c (.nil)), none, []⟩,
     ⟨(some 4), .mov (.c (.bool false)), none, [2]⟩] false)
   (.seq
    (.region [
      ⟨(some 10), .load 10 true (.t 1), none, []⟩,
      ⟨(some 11), .call 38 [(.t 10)], none, [0]⟩,
      ⟨(some 5), .alloc [.nil, .bool false, .nil, .bool false, .bool false, .int .i64 0, .int .i64 0, .int .i64 0, .int .i64 0, .int .i64 0], none, []⟩,
      ⟨none, .store 10 (.t 5) (.t 11), none, [2, 1, 1, 0, 1, 2]⟩] false)
    (.seq
     (.seq
      (.region [
        ⟨(some 12), .load 10 true (.t 1), none, []⟩,
        ⟨(some 13), .call 25 [(.t 12)], none, [0]⟩,
        ⟨(some 14), .not (.t 13), none, [1]⟩] false)
      (.cond (.t 14)
       (.seq
        (.region [
          ⟨(some 15), .load 10 true (.t 5), none, []⟩,
          ⟨none, .store 10 (.t 2) (.t 15), none, [0, 0]⟩,
          ⟨(some 3), .mov (.c (.nil)), none, [1, 0, 1]⟩,
          ⟨(some 4), .mov (.c (.bool false)), none, [2, 0, 1, 2]⟩] false)
        .ret)
       .skip))
     (.seq
      (.seq
       (.region [
         ⟨(some 16), .faddr 4 (.t 5), none, []⟩,
         ⟨(some 17), .load 1 false (.t 16), none, [0]⟩,
         ⟨(some 18), .not (.t 17), none, [1]⟩,
         ⟨(some 19), .mov (.t 18), none, [2]⟩,
         ⟨(some 20), .faddr 0 (.t 5), (some (19, true)), [3]⟩,
         ⟨(some 21), .load 1 false (.t 20), (some (19, true)), [4, 3]⟩,
         ⟨(some 22), .len 0 (.t 21), (some (19, true)), [5, 3]⟩,
         ⟨(some 23), .cmp .gtr 0 (.t 22) (.c (.int .i64 0)), (some (19, true)), [6, 3]⟩,
         ⟨(some 24), .mov (.t 23), (some (19, true)), [7, 3, 3]⟩,
         ⟨(some 25), .faddr 1 (.t 5), (some (24, false)), [8]⟩,
         ⟨(some 26), .load 1 false (.t 25), (some (24, false)), [9, 8]⟩,
         ⟨(some 27), .pick (.t 24) (.c (.bool true)) (.t 26), (some (19, true)), [8, 10, 3]⟩,
         ⟨(some 28), .pick (.t 19) (.t 27) (.c (.bool false)), none, [3, 11]⟩] false)
       (.cond (.t 28)
        (.seq
         (.region [
           ⟨(some 29), .faddr 0 (.t 5), none, []⟩,
           ⟨(some 30), .load 1 false (.t 29), none, [0]⟩,
           ⟨(some 31), .len 0 (.t 30), none, [1]⟩,
           ⟨(some 32), .minmax false [(.t 31), (.c (.int .i64 64))], none, [2]⟩,
           ⟨(some 6), .mov (.t 32), none, [3, 0, 1, 2, 3]⟩] false)
         (.seq
          (.region [
            ⟨(some 33), .mov (.t 6), none, []⟩,
            ⟨(some 34), .mkslice 5 1 [.int .u8 0] (.c (.int .i64 0)) (.t 33), none, [0]⟩,
            ⟨(some 35), .faddr 0 (.t 5), none, []⟩,
            ⟨(some 36), .load 1 false (.t 35), none, [2]⟩,
            ⟨(some 37), .mov (.t 6), none, []⟩,
            ⟨(some 38), .slice 1 (.t 36) none (some (.t 37)), none, [2, 4, 3]⟩,
            ⟨(some 39), .appD 5 1 [.int .u8 0] (.t 34) (.t 38), none, [3, 4, 2, 0, 5, 1]⟩,
            ⟨(some 40), .faddr 2 (.t 5), none, [6, 5, 4, 3, 2, 1, 0]⟩,
            ⟨none, .store 1 (.t 40) (.t 39), none, [5, 4, 3, 2, 1, 0, 6, 7]⟩] true)
          (.seq
           (.region [
             ⟨(some 41), .faddr 0 (.t 5), none, []⟩,
             ⟨(some 42), .load 1 false (.t 41), none, [0]⟩,
             ⟨(some 43), .faddr 0 (.t 5), none, []⟩,
             ⟨(some 44), .load 1 false (.t 43), none, [2]⟩,
             ⟨(some 45), .faddr 0 (.t 5), none, []⟩,
             ⟨(some 46), .load 1 false (.t 45), none, [4]⟩,
             ⟨(some 47), .mov (.t 6), none, []⟩,
             ⟨(some 48), .slice 1 (.t 46) (some (.t 47)) none, none, [4, 6, 5]⟩,
             ⟨(some 49), .copy 1 (.t 44) (.t 48), none, [5, 6, 4, 2, 7, 3]⟩,
             ⟨(some 50), .slice 1 (.t 42) none (some (.t 49)), none, [3, 7, 2, 4, 6, 5, 0, 8, 1]⟩,
             ⟨(some 51), .faddr 0 (.t 5), none, [9, 8, 7, 6, 5, 4, 3, 2, 1, 0]⟩,
             ⟨none, .store 1 (.t 51) (.t 50), none, [7, 6, 5, 4, 3, 2, 1, 0, 8, 9, 10]⟩] true)
           (.seq
            (.region [
              ⟨(some 52), .faddr 1 (.t 5), none, []⟩,
              ⟨(some 53), .load 1 false (.t 52), none, [0]⟩,
              ⟨(some 54), .faddr 3 (.t 5), none, [0, 1]⟩,
              ⟨none, .store 1 (.t 54) (.t 53), none, [2, 1, 0, 1]⟩,
              ⟨(some 55), .faddr 1 (.t 5), none, [0, 1, 2, 3]⟩,
              ⟨none, .store 1 (.t 55) (.c (.bool false)), none, [4, 3, 0, 1, 2, 3]⟩,
              ⟨(some 56), .faddr 4 (.t 5), none, [0, 1, 2, 3, 4, 5]⟩,
              ⟨none, .store 1 (.t 56) (.c (.bool true)), none, [6, 5, 0, 1, 2, 3, 4, 5]⟩] false)
            (.region [
              ⟨(some 57), .faddr 5 (.t 5), none, []⟩,
              ⟨(some 58), .load 1 false (.t 57), none, [0]⟩,
              ⟨(some 59), .call 39 [(.t 58)], none, [1]⟩,
              ⟨(some 60), .faddr 5 (.t 5), none, [0, 1, 2]⟩,
              ⟨none, .store 1 (.t 60) (.t 59), none, [3, 2, 2, 0, 1, 2]⟩] false)))))
        .skip))
      (.seq
       (.seq
        (.region [
          ⟨(some 61), .faddr 4 (.t 5), none, []⟩,
          ⟨(some 62), .load 1 false (.t 61), none, [0]⟩,
          ⟨(some 63), .not (.t 62), none, [1]⟩,
          ⟨(some 64), .mov (.t 63), none, [2]⟩,
          ⟨(some 65), .faddr 8 (.t 5), (some (64, true)), [3]⟩,
          ⟨(some 66), .load 1 false (.t 65), (some (64, true)), [4, 3]⟩,
          ⟨(some 67), .cmp .eql 0 (.t 66) (.c (.int .i64 0)), (some (64, true)), [5, 3]⟩,
          ⟨(some 68), .pick (.t 64) (.t 67) (.c (.bool false)), none, [3, 6]⟩] false)
        (.cond (.t 68)
         (.seq
          (.region [
            ⟨(some 69), .load 10 true (.t 5), none, []⟩,
            ⟨none, .store 10 (.t 2) (.t 69), none, [0, 0]⟩,
            ⟨(some 3), .mov (.c (.nil)), none, [1, 0, 1]⟩,
            ⟨(some 4), .mov (.c (.bool false)), none, [2, 0, 1, 2]⟩] false)
          .ret)
         .skip))
       (.seq
        (.region [
          ⟨(some 7), .alloc [.int .i64 0, .int .i64 0, .int .i64 0, .bool false, .nil], none, []⟩] false)
        (.seq
         (.seq
          (.region [
            ⟨(some 70), .faddr 4 (.t 5), none, []⟩,
            ⟨(some 71), .load 1 false (.t 70), none, [0]⟩] false)
          (.cond (.t 71)
           (.region [
             ⟨(some 72), .faddr 5 (.t 5), none, []⟩,
             ⟨(some 73), .load 1 false (.t 72), none, [0]⟩,
             ⟨(some 74), .faddr 2 (.t 5), none, []⟩,
             ⟨(some 75), .load 1 false (.t 74), none, [2]⟩,
             ⟨(some 76), .faddr 3 (.t 5), none, []⟩,
             ⟨(some 77), .load 1 false (.t 76), none, [4]⟩,
             ⟨(some 78), .faddr 0 (.t 7), none, [1, 0]⟩,
             ⟨none, .store 1 (.t 78) (.t 73), none, [0, 1, 6]⟩,
             ⟨(some 79), .faddr 4 (.t 7), none, [7, 6, 3, 2, 1, 0]⟩,
             ⟨none, .store 1 (.t 79) (.t 75), none, [6, 2, 1, 0, 7, 3, 8]⟩,
             ⟨(some 80), .faddr 3 (.t 7), none, [9, 8, 7, 6, 5, 4, 3, 2, 1, 0]⟩,
             ⟨none, .store 1 (.t 80) (.t 77), none, [8, 7, 6, 4, 3, 2, 1, 0, 9, 5, 10]⟩] true)
           .skip))
         (.seq
          (.seq
           (.region [
             ⟨(some 81), .faddr 8 (.t 5), none, []⟩,
             ⟨(some 82), .load 1 false (.t 81), none, [0]⟩,
             ⟨(some 83), .cmp .neq 0 (.t 82) (.c (.int .i64 0)), none, [1]⟩] false)
           (.cond (.t 83)
            (.seq
             (.region [
               ⟨(some 84), .faddr 8 (.t 5), none, []⟩,
               ⟨(some 85), .load 1 false (.t 84), none, [0]⟩,
               ⟨(some 86), .faddr 9 (.t 5), none, []⟩,
               ⟨(some 87), .load 1 false (.t 86), none, [2]⟩,
               ⟨(some 88), .faddr 1 (.t 7), none, [1, 0]⟩,
               ⟨none, .store 1 (.t 88) (.t 85), none, [0, 1, 4]⟩,
               ⟨(some 89), .faddr 2 (.t 7), none, [5, 4, 3, 2, 1, 0]⟩,
               ⟨none, .store 1 (.t 89) (.t 87), none, [4, 2, 1, 0, 5, 3, 6]⟩] true)
             (.region [
               ⟨(some 90), .faddr 8 (.t 5), none, []⟩,
               ⟨none, .store 1 (.t 90) (.c (.int .i64 0)), none, [0]⟩] false))
            .skip))
          (.seq
           (.ghost 75 (.region [
             ⟨(some 92), .load 5 true (.t 7), none, []⟩,
             ⟨(some 93), .call 9 [(.t 92)], none, [0]⟩,
             ⟨(some 91), .mov (.t 93), none, [1]⟩,
             ⟨(some 94), .extract 0 (.t 91), none, [2]⟩,
             ⟨(some 95), .extract 1 (.t 91), none, [2]⟩,
             ⟨(some 8), .mov (.t 94), none, [3, 1, 0, 1, 2, 3]⟩,
             ⟨(some 9), .mov (.t 95), none, [4, 5, 0, 1, 2, 3, 4, 5]⟩] false))
           (.seq
            (.region [
              ⟨(some 96), .load 10 true (.t 5), none, []⟩,
              ⟨(some 97), .mov (.t 8), none, []⟩,
              ⟨none, .store 10 (.t 2) (.t 96), none, [0, 0]⟩,
              ⟨(some 3), .mov (.t 97), none, [1, 2, 0, 1, 2]⟩,
              ⟨(some 4), .mov (.c (.bool true)), none, [3, 0, 1, 2, 3]⟩] false)
            .ret))))))))))
def rv23 : List RV := [.c 2 10 true, .t 3, .t 4]
theorem rc23_ok : comp Try.prog Try.f23.ntmps (Try.f23.body.getD .skip) = some (erase rc23) := by kernel_rfl
theorem rv23_ok : compRes Try.prog Try.f23.results.toList = some rv23 := by kernel_rfl

/-- baseboard/baseboardref36.Poll [38] -/
def rc24 : RC :=
  (.seq
   (.region [
     ⟨(some 1), .box 10 (.t 0), none, []⟩,
     ⟨(some 2), .alloc [.nil, .bool false, .nil, .bool false, .bool false, .int .i64 0, .int .i64 0, .int .i64 0, .int .i64 0, .int .i64 0], none, []⟩,
     ⟨(some 3), .mov (.c (.nil)), none, []⟩,
     ⟨(some 4), .mov (.c (.bool false)), none, [2]⟩] false)
   (.seq
    (.region [
      ⟨(some 9), .load 10 true (.t 1), none, []⟩,
      ⟨(some 10), .call 40 [(.t 9)], none, [0]⟩,
      ⟨none, .store 10 (.t 1) (.t 10), none, [1, 1, 0, 1]⟩] false)
    (.seq
     (.seq
      (.region [
        ⟨(some 11), .load 10 true (.t 1), none, []⟩,
        ⟨(some 12), .call 26 [(.t 11)], none, [0]⟩,
        ⟨(some 13), .not (.t 12), none, [1]⟩] false)
      (.cond (.t 13)
       (.seq
        (.region [
          ⟨(some 14), .load 10 true (.t 1), none, []⟩,
          ⟨none, .store 10 (.t 2) (.t 14), none, [0, 0]⟩,
          ⟨(some 3), .mov (.c (.nil)), none, [1, 0, 1]⟩,
          ⟨(some 4), .mov (.c (.bool false)), none, [2, 0, 1, 2]⟩] false)
        .ret)
       .skip))
     (.seq
      (.seq
       (.region [
         ⟨(some 15), .faddr 4 (.t 1), none, []⟩,
         ⟨(some 16), .load 1 false (.t 15), none, [0]⟩,
         ⟨(some 17), .not (.t 16), none, [1]⟩,
         ⟨(some 18), .mov (.t 17), none, [2]⟩,
         ⟨(some 19), .faddr 0 (.t 1), (some (18, true)), [3]⟩,
         ⟨(some 20), .load 1 false (.t 19), (some (18, true)), [4, 3]⟩,
         ⟨(some 21), .len 0 (.t 20), (some (18, true)), [5, 3]⟩,
         ⟨(some 22), .cmp .gtr 0 (.t 21) (.c (.int .i64 0)), (some (18, true)), [6, 3]⟩,
         ⟨(some 23), .mov (.t 22), (some (18, true)), [7, 3, 3]⟩,
         ⟨(some 24), .faddr 1 (.t 1), (some (23, false)), [8]⟩,
         ⟨(some 25), .load 1 false (.t 24), (some (23, false)), [9, 8]⟩,
         ⟨(some 26), .pick (.t 23) (.c (.bool true)) (.t 25), (some (18, true)), [8, 10, 3]⟩,
         ⟨(some 27), .pick (.t 18) (.t 26) (.c (.bool false)), none, [3, 11]⟩] false)
       (.cond (.t 27)
        (.seq
         (.region [
           ⟨(some 28), .faddr 0 (.t 1), none, []⟩,
           ⟨(some 29), .load 1 false (.t 28), none, [0]⟩,
           ⟨(some 30), .len 0 (.t 29), none, [1]⟩,
           ⟨(some 31), .minmax false [(.t 30), (.c (.int .i64 64))], none, [2]⟩,
           ⟨(some 5), .mov (.t 31), none, [3, 0, 1, 2, 3]⟩] false)
         (.seq
          (.region [
            ⟨(some 32), .faddr 0 (.t 1), none, []⟩,
            ⟨(some 33), .load 1 false (.t 32), none, [0]⟩,
            ⟨(some 34), .mov (.t 5), none, []⟩,
            ⟨(some 35), .slice 1 (.t 33) none (some (.t 34)), none, [0, 2, 1]⟩,
            ⟨(some 36), .appD 5 1 [.int .u8 0] (.c (.nil)) (.t 35), none, [1, 2, 0, 3]⟩,
            ⟨(some 37), .faddr 0 (.t 1), none, []⟩,
            ⟨(some 38), .load 1 false (.t 37), none, [5]⟩,
            ⟨(some 39), .mov (.t 5), none, []⟩,
            ⟨(some 40), .slice 1 (.t 38) (some (.t 39)) none, none, [5, 7, 6]⟩,
            ⟨(some 41), .appD 5 1 [.int .u8 0] (.c (.nil)) (.t 40), none, [3, 0, 2, 1, 6, 7, 5, 4, 8]⟩,
            ⟨(some 42), .faddr 2 (.t 1), none, [6, 5, 4, 3, 2, 1, 0]⟩,
            ⟨none, .store 1 (.t 42) (.t 36), none, [8, 7, 6, 5, 3, 2, 1, 0, 9, 4, 10]⟩,
            ⟨(some 43), .faddr 0 (.t 1), none, [11, 10, 9, 8, 7, 6, 5, 4, 3, 2, 1, 0]⟩,
            ⟨none, .store 1 (.t 43) (.t 41), none, [10, 8, 7, 6, 5, 4, 3, 2, 1, 0, 11, 9, 12]⟩] true)
          (.region [
            ⟨(some 44), .faddr 1 (.t 1), none, []⟩,
            ⟨(some 45), .load 1 false (.t 44), none, [0]⟩,
            ⟨(some 46), .faddr 5 (.t 1), none, []⟩,
            ⟨(some 47), .load 1 false (.t 46), none, [2]⟩,
            ⟨(some 48), .call 41 [(.t 47)], none, [2, 3]⟩,
            ⟨(some 49), .faddr 3 (.t 1), none, [3, 2, 1, 0]⟩,
            ⟨none, .store 1 (.t 49) (.t 45), none, [3, 2, 0, 4, 1, 5]⟩,
            ⟨(some 50), .faddr 1 (.t 1), none, [4, 6, 5, 3, 2, 1, 0]⟩,
            ⟨none, .store 1 (.t 50) (.c (.bool false)), none, [4, 5, 3, 2, 1, 0, 6, 7]⟩,
            ⟨(some 51), .faddr 4 (.t 1), none, [4, 8, 7, 6, 5, 3, 2, 1, 0]⟩,
            ⟨none, .store 1 (.t 51) (.c (.bool true)), none, [4, 7, 6, 5, 3, 2, 1, 0, 8, 9]⟩,
            ⟨(some 52), .faddr 5 (.t 1), none, [10, 9, 8, 7, 6, 5, 4, 3, 2, 1, 0]⟩,
            ⟨none, .store 1 (.t 52) (.t 48), none, [9, 8, 7, 6, 5, 3, 2, 1, 0, 10, 4, 11]⟩] true)))
        .skip))
      (.seq
       (.seq
        (.region [
          ⟨(some 53), .faddr 4 (.t 1), none, []⟩,
          ⟨(some 54), .load 1 false (.t 53), none, [0]⟩,
          ⟨(some 55), .not (.t 54), none, [1]⟩,
          ⟨(some 56), .mov (.t 55), none, [2]⟩,
          ⟨(some 57), .faddr 8 (.t 1), (some (56, true)), [3]⟩,
          ⟨(some 58), .load 1 false (.t 57), (some (56, true)), [4, 3]⟩,
          ⟨(some 59), .cmp .eql 0 (.t 58) (.c (.int .i64 0)), (some (56, true)), [5, 3]⟩,
          ⟨(some 60), .pick (.t 56) (.t 59) (.c (.bool false)), none, [3, 6]⟩] false)
        (.cond (.t 60)
         (.seq
          (.region [
            ⟨(some 61), .load 10 true (.t 1), none, []⟩,
            ⟨none, .store 10 (.t 2) (.t 61), none, [0, 0]⟩,
            ⟨(some 3), .mov (.c (.nil)), none, [1, 0, 1]⟩,
            ⟨(some 4), .mov (.c (.bool false)), none, [2, 0, 1, 2]⟩] false)
          .ret)
         .skip))
       (.seq
        (.region [
          ⟨(some 6), .alloc [.int .i64 0, .int .i64 0, .int .i64 0, .bool false, .nil], none, []⟩] false)
        (.seq
         (.seq
          (.region [
            ⟨(some 62), .faddr 4 (.t 1), none, []⟩,
            ⟨(some 63), .load 1 false (.t 62), none, [0]⟩] false)
          (.cond (.t 63)
           (.region [
             ⟨(some 64), .faddr 5 (.t 1), none, []⟩,
             ⟨(some 65), .load 1 false (.t 64), none, [0]⟩,
             ⟨(some 66), .faddr 2 (.t 1), none, []⟩,
             ⟨(some 67), .load 1 false (.t 66), none, [2]⟩,
             ⟨(some 68), .faddr 3 (.t 1), none, []⟩,
             ⟨(some 69), .load 1 false (.t 68), none, [4]⟩,
             ⟨(some 70), .faddr 0 (.t 6), none, [1, 0]⟩,
             ⟨none, .store 1 (.t 70) (.t 65), none, [0, 1, 6]⟩,
             ⟨(some 71), .faddr 4 (.t 6), none, [7, 6, 3, 2, 1, 0]⟩,
             ⟨none, .store 1 (.t 71) (.t 67), none, [6, 2, 1, 0, 7, 3, 8]⟩,
             ⟨(some 72), .faddr 3 (.t 6), none, [9, 8, 7, 6, 5, 4, 3, 2, 1, 0]⟩,
             ⟨none, .store 1 (.t 72) (.t 69), none, [8, 7, 6, 4, 3, 2, 1, 0, 9, 5, 10]⟩] true)
           .skip))
         (.seq
          (.seq
           (.region [
             ⟨(some 73), .faddr 8 (.t 1), none, []⟩,
             ⟨(some 74), .load 1 false (.t 73), none, [0]⟩,
             ⟨(some 75), .cmp .neq 0 (.t 74) (.c (.int .i64 0)), none, [1]⟩] false)
           (.cond (.t 75)
            (.region [
              ⟨(some 76), .faddr 8 (.t 1), none, []⟩,
              ⟨(some 77), .load 1 false (.t 76), none, [0]⟩,
              ⟨(some 78), .faddr 9 (.t 1), none, []⟩,
              ⟨(some 79), .load 1 false (.t 78), none, [2]⟩,
              ⟨(some 80), .faddr 1 (.t 6), none, [1, 0]⟩,
              ⟨none, .store 1 (.t 80) (.t 77), none, [0, 1, 4]⟩,
              ⟨(some 81), .faddr 2 (.t 6), none, [5, 4, 3, 2, 1, 0]⟩,
              ⟨none, .store 1 (.t 81) (.t 79), none, [4, 2, 1, 0, 5, 3, 6]⟩,
              ⟨(some 82), .faddr 8 (.t 1), none, [7, 6, 5, 4, 3, 2, 1, 0]⟩,
              ⟨none, .store 1 (.t 82) (.c (.int .i64 0)), none, [6, 5, 4, 3, 2, 1, 0, 7, 8]⟩] true)
            .skip))
          (.seq
           (.ghost 67 (.region [
             ⟨(some 84), .load 5 true (.t 6), none, []⟩,
             ⟨(some 85), .call 10 [(.t 84)], none, [0]⟩,
             ⟨(some 83), .mov (.t 85), none, [1]⟩,
             ⟨(some 86), .extract 0 (.t 83), none, [2]⟩,
             ⟨(some 87), .extract 1 (.t 83), none, [2]⟩,
             ⟨(some 7), .mov (.t 86), none, [3, 1, 0, 1, 2, 3]⟩,
             ⟨(some 8), .mov (.t 87), none, [4, 5, 0, 1, 2, 3, 4, 5]⟩] false))
           (.seq
            (.region [
              ⟨(some 88), .load 10 true (.t 1), none, []⟩,
              ⟨(some 89), .mov (.t 7), none, []⟩,
              ⟨none, .store 10 (.t 2) (.t 88), none, [0, 0]⟩,
              ⟨(some 3), .mov (.t 89), none, [1, 2, 0, 1, 2]⟩,
              ⟨(some 4), .mov (.c (.bool true)), none, [3, 0, 1, 2, 3]⟩] false)
            .ret))))))))))
def rv24 : List RV := [.c 2 10 true, .t 3, .t 4]
theorem rc24_ok : comp Try.prog Try.f24.ntmps (Try.f24.body.getD .skip) = some (erase rc24) := by kernel_rfl
theorem rv24_ok : compRes Try.prog Try.f24.results.toList = some rv24 := by kernel_rfl

/-- baseboard/console.Valid [38] -/
def rc25 : RC :=
  (.seq
   (.region [
     ⟨(some 1), .box 10 (.t 0), none, []⟩,
     ⟨(some 2), .mov (.c (.bool false)), none, []⟩] false)
   (.seq
    (.seq
     (.region [
       ⟨(some 3), .faddr 0 (.t 1), none, []⟩,
       ⟨(some 4), .load 1 false (.t 3), none, [0]⟩,
       ⟨(some 5), .len 0 (.t 4), none, [1]⟩,
       ⟨(some 6), .faddr 2 (.t 1), none, []⟩,
       ⟨(some 7), .load 1 false (.t 6), none, [3]⟩,
       ⟨(some 8), .len 0 (.t 7), none, [4]⟩,
       ⟨(some 9), .arith .add (.t 5) (.t 8), none, [2, 5]⟩,
       ⟨(some 10), .cmp .gtr 0 (.t 9) (.c (.int .i64 1024)), none, [6]⟩,
       ⟨(some 11), .mov (.t 10), none, [7]⟩,
       ⟨(some 12), .faddr 2 (.t 1), (some (11, false)), [8]⟩,
       ⟨(some 13), .load 1 false (.t 12), (some (11, false)), [9, 8]⟩,
       ⟨(some 14), .len 0 (.t 13), (some (11, false)), [10, 8]⟩,
       ⟨(some 15), .cmp .gtr 0 (.t 14) (.c (.int .i64 64)), (some (11, false)), [11, 8]⟩,
       ⟨(some 16), .pick (.t 11) (.c (.bool true)) (.t 15), none, [8, 12]⟩,
       ⟨(some 17), .mov (.t 16), none, [13, 8]⟩,
       ⟨(some 18), .faddr 5 (.t 1), (some (17, false)), [14]⟩,
       ⟨(some 19), .load 1 false (.t 18), (some (17, false)), [15, 14]⟩,
       ⟨(some 20), .call 42 [(.t 19)], (some (17, false)), [16, 14, 14]⟩,
       ⟨(some 21), .not (.t 20), (some (17, false)), [17, 14]⟩,
       ⟨(some 22), .pick (.t 17) (.c (.bool true)) (.t 21), none, [14, 18]⟩,
       ⟨(some 23), .mov (.t 22), none, [19, 17]⟩,
       ⟨(some 24), .faddr 6 (.t 1), (some (23, false)), [20]⟩,
       ⟨(some 25), .load 1 false (.t 24), (some (23, false)), [21, 20]⟩,
       ⟨(some 26), .call 42 [(.t 25)], (some (23, false)), [22, 20, 20]⟩,
       ⟨(some 27), .not (.t 26), (some (23, false)), [23, 20]⟩,
       ⟨(some 28), .pick (.t 23) (.c (.bool true)) (.t 27), none, [20, 24]⟩] false)
     (.cond (.t 28)
      (.seq
       (.region [
         ⟨(some 2), .mov (.c (.bool false)), none, []⟩] false)
       .ret)
      .skip))
    (.seq
     (.seq
      (.region [
        ⟨(some 29), .faddr 7 (.t 1), none, []⟩,
        ⟨(some 30), .load 1 false (.t 29), none, [0]⟩,
        ⟨(some 31), .cmp .lss 0 (.t 30) (.c (.int .i64 0)), none, [1]⟩,
        ⟨(some 32), .mov (.t 31), none, [2]⟩,
        ⟨(some 33), .faddr 7 (.t 1), (some (32, false)), [3]⟩,
        ⟨(some 34), .load 1 false (.t 33), (some (32, false)), [4, 3]⟩,
        ⟨(some 35), .cmp .gtr 0 (.t 34) (.c (.int .i64 1024)), (some (32, false)), [5, 3]⟩,
        ⟨(some 36), .pick (.t 32) (.c (.bool true)) (.t 35), none, [3, 6]⟩,
        ⟨(some 37), .mov (.t 36), none, [7, 3]⟩,
        ⟨(some 38), .faddr 8 (.t 1), (some (37, false)), [8]⟩,
        ⟨(some 39), .load 1 false (.t 38), (some (37, false)), [9, 8]⟩,
        ⟨(some 40), .cmp .neq 0 (.t 39) (.c (.int .i64 0)), (some (37, false)), [10, 8]⟩,
        ⟨(some 41), .mov (.t 40), (some (37, false)), [11, 8, 8]⟩,
        ⟨(some 42), .faddr 8 (.t 1), (some (41, true)), [12]⟩,
        ⟨(some 43), .load 1 false (.t 42), (some (41, true)), [13, 12]⟩,
        ⟨(some 44), .faddr 6 (.t 1), (some (41, true)), [12]⟩,
        ⟨(some 45), .load 1 false (.t 44), (some (41, true)), [15, 12]⟩,
        ⟨(some 46), .cmp .neq 0 (.t 43) (.t 45), (some (41, true)), [14, 16, 12]⟩,
        ⟨(some 47), .pick (.t 41) (.t 46) (.c (.bool false)), (some (37, false)), [12, 17, 8]⟩,
        ⟨(some 48), .pick (.t 37) (.c (.bool true)) (.t 47), none, [8, 18]⟩,
        ⟨(some 49), .mov (.t 48), none, [19, 12]⟩,
        ⟨(some 50), .faddr 9 (.t 1), (some (49, false)), [20]⟩,
        ⟨(some 51), .load 1 false (.t 50), (some (49, false)), [21, 20]⟩,
        ⟨(some 52), .cmp .lss 0 (.t 51) (.c (.int .i64 0)), (some (49, false)), [22, 20]⟩,
        ⟨(some 53), .pick (.t 49) (.c (.bool true)) (.t 52), none, [20, 23]⟩,
        ⟨(some 54), .mov (.t 53), none, [24, 20]⟩,
        ⟨(some 55), .faddr 9 (.t 1), (some (54, false)), [25]⟩,
        ⟨(some 56), .load 1 false (.t 55), (some (54, false)), [26, 25]⟩,
        ⟨(some 57), .cmp .gtr 0 (.t 56) (.c (.int .i64 64)), (some (54, false)), [27, 25]⟩,
        ⟨(some 58), .pick (.t 54) (.c (.bool true)) (.t 57), none, [25, 28]⟩] false)
      (.cond (.t 58)
       (.seq
        (.region [
          ⟨(some 2), .mov (.c (.bool false)), none, []⟩] false)
        .ret)
       .skip))
     (.seq
      (.seq
       (.region [
         ⟨(some 59), .faddr 4 (.t 1), none, []⟩,
         ⟨(some 60), .load 1 false (.t 59), none, [0]⟩] false)
       (.cond (.t 60)
        (.seq
         (.region [
           ⟨(some 61), .faddr 5 (.t 1), none, []⟩,
           ⟨(some 62), .load 1 false (.t 61), none, [0]⟩,
           ⟨(some 63), .cmp .neq 0 (.t 62) (.c (.int .i64 0)), none, [1]⟩,
           ⟨(some 2), .mov (.t 63), none, [2, 0, 1, 2]⟩] false)
         .ret)
        .skip))
      (.seq
       (.region [
         ⟨(some 64), .faddr 2 (.t 1), none, []⟩,
         ⟨(some 65), .load 1 false (.t 64), none, [0]⟩,
         ⟨(some 66), .len 0 (.t 65), none, [1]⟩,
         ⟨(some 67), .cmp .eql 0 (.t 66) (.c (.int .i64 0)), none, [2]⟩,
         ⟨(some 68), .mov (.t 67), none, [3]⟩,
         ⟨(some 69), .faddr 3 (.t 1), (some (68, true)), [4]⟩,
         ⟨(some 70), .load 1 false (.t 69), (some (68, true)), [5, 4]⟩,
         ⟨(some 71), .not (.t 70), (some (68, true)), [6, 4]⟩,
         ⟨(some 72), .pick (.t 68) (.t 71) (.c (.bool false)), none, [4, 7]⟩,
         ⟨(some 2), .mov (.t 72), none, [8, 4, 0, 1, 2, 3, 4, 5, 6, 7, 8]⟩] false)
       .ret)))))
def rv25 : List RV := [.t 2]
theorem rc25_ok : comp Try.prog Try.f25.ntmps (Try.f25.body.getD .skip) = some (erase rc25) := by kernel_rfl
theorem rv25_ok : compRes Try.prog Try.f25.results.toList = some rv25 := by kernel_rfl

/-- baseboard/baseboardref36.Valid [38] -/
def rc26 : RC :=
  (.seq
   (.region [
     ⟨(some 1), .box 10 (.t 0), none, []⟩,
     ⟨(some 2), .mov (.c (.bool false)), none, []⟩] false)
   (.seq
    (.region [
      ⟨(some 4), .faddr 0 (.t 1), none, []⟩,
      ⟨(some 5), .load 1 false (.t 4), none, [0]⟩,
      ⟨(some 6), .len 0 (.t 5), none, [1]⟩,
      ⟨(some 7), .faddr 2 (.t 1), none, []⟩,
      ⟨(some 8), .load 1 false (.t 7), none, [3]⟩,
      ⟨(some 9), .len 0 (.t 8), none, [4]⟩,
      ⟨(some 10), .arith .add (.t 6) (.t 9), none, [2, 5]⟩,
      ⟨(some 11), .cmp .leq 0 (.t 10) (.c (.int .i64 1024)), none, [6]⟩,
      ⟨(some 12), .mov (.t 11), none, [7]⟩,
      ⟨(some 13), .faddr 2 (.t 1), (some (12, true)), [8]⟩,
      ⟨(some 14), .load 1 false (.t 13), (some (12, true)), [9, 8]⟩,
      ⟨(some 15), .len 0 (.t 14), (some (12, true)), [10, 8]⟩,
      ⟨(some 16), .cmp .leq 0 (.t 15) (.c (.int .i64 64)), (some (12, true)), [11, 8]⟩,
      ⟨(some 17), .pick (.t 12) (.t 16) (.c (.bool false)), none, [8, 12]⟩,
      ⟨(some 18), .mov (.t 17), none, [13, 8]⟩,
      ⟨(some 19), .faddr 5 (.t 1), (some (18, true)), [14]⟩,
      ⟨(some 20), .load 1 false (.t 19), (some (18, true)), [15, 14]⟩,
      ⟨(some 21), .call 43 [(.t 20), (.c (.int .i64 0)), (.c (.int .i64 15))], (some (18, true)), [16, 14, 14]⟩,
      ⟨(some 22), .pick (.t 18) (.t 21) (.c (.bool false)), none, [14, 17]⟩,
      ⟨(some 23), .mov (.t 22), none, [18, 17]⟩,
      ⟨(some 24), .faddr 6 (.t 1), (some (23, true)), [19]⟩,
      ⟨(some 25), .load 1 false (.t 24), (some (23, true)), [20, 19]⟩,
      ⟨(some 26), .call 43 [(.t 25), (.c (.int .i64 0)), (.c (.int .i64 15))], (some (23, true)), [21, 19, 19]⟩,
      ⟨(some 27), .pick (.t 23) (.t 26) (.c (.bool false)), none, [19, 22]⟩,
      ⟨(some 28), .mov (.t 27), none, [23, 22]⟩,
      ⟨(some 29), .faddr 7 (.t 1), (some (28, true)), [24]⟩,
      ⟨(some 30), .load 1 false (.t 29), (some (28, true)), [25, 24]⟩,
      ⟨(some 31), .call 43 [(.t 30), (.c (.int .i64 0)), (.c (.int .i64 1024))], (some (28, true)), [26, 24, 24]⟩,
      ⟨(some 32), .pick (.t 28) (.t 31) (.c (.bool false)), none, [24, 27]⟩,
      ⟨(some 33), .mov (.t 32), none, [28, 27]⟩,
      ⟨(some 34), .faddr 9 (.t 1), (some (33, true)), [29]⟩,
      ⟨(some 35), .load 1 false (.t 34), (some (33, true)), [30, 29]⟩,
      ⟨(some 36), .call 43 [(.t 35), (.c (.int .i64 0)), (.c (.int .i64 64))], (some (33, true)), [31, 29, 29]⟩,
      ⟨(some 37), .pick (.t 33) (.t 36) (.c (.bool false)), none, [29, 32]⟩,
      ⟨(some 3), .mov (.t 37), none, [33, 32, 0, 1, 2, 3, 4, 5, 6, 7, 8, 9, 10, 11, 12, 13, 14, 15, 16, 17, 18, 19, 20, 21, 22, 23, 24, 25, 26, 27, 28, 29, 30, 31, 32, 33]⟩] false)
    (.seq
     (.seq
      (.region [
        ⟨(some 38), .mov (.t 3), none, []⟩,
        ⟨(some 39), .not (.t 38), none, [0]⟩,
        ⟨(some 40), .mov (.t 39), none, [1]⟩,
        ⟨(some 41), .faddr 8 (.t 1), (some (40, false)), [2]⟩,
        ⟨(some 42), .load 1 false (.t 41), (some (40, false)), [3, 2]⟩,
        ⟨(some 43), .cmp .neq 0 (.t 42) (.c (.int .i64 0)), (some (40, false)), [4, 2]⟩,
        ⟨(some 44), .mov (.t 43), (some (40, false)), [5, 2, 2]⟩,
        ⟨(some 45), .faddr 8 (.t 1), (some (44, true)), [6]⟩,
        ⟨(some 46), .load 1 false (.t 45), (some (44, true)), [7, 6]⟩,
        ⟨(some 47), .faddr 6 (.t 1), (some (44, true)), [6]⟩,
        ⟨(some 48), .load 1 false (.t 47), (some (44, true)), [9, 6]⟩,
        ⟨(some 49), .cmp .neq 0 (.t 46) (.t 48), (some (44, true)), [8, 10, 6]⟩,
        ⟨(some 50), .pick (.t 44) (.t 49) (.c (.bool false)), (some (40, false)), [6, 11, 2]⟩,
        ⟨(some 51), .pick (.t 40) (.c (.bool true)) (.t 50), none, [2, 12]⟩] false)
      (.cond (.t 51)
       (.seq
        (.region [
          ⟨(some 2), .mov (.c (.bool false)), none, []⟩] false)
        .ret)
       .skip))
     (.seq
      (.seq
       (.region [
         ⟨(some 52), .faddr 4 (.t 1), none, []⟩,
         ⟨(some 53), .load 1 false (.t 52), none, [0]⟩] false)
       (.cond (.t 53)
        (.seq
         (.region [
           ⟨(some 54), .faddr 5 (.t 1), none, []⟩,
           ⟨(some 55), .load 1 false (.t 54), none, [0]⟩,
           ⟨(some 56), .cmp .neq 0 (.t 55) (.c (.int .i64 0)), none, [1]⟩,
           ⟨(some 2), .mov (.t 56), none, [2, 0, 1, 2]⟩] false)
         .ret)
        .skip))
      (.seq
       (.region [
         ⟨(some 57), .faddr 2 (.t 1), none, []⟩,
         ⟨(some 58), .load 1 false (.t 57), none, [0]⟩,
         ⟨(some 59), .len 0 (.t 58), none, [1]⟩,
         ⟨(some 60), .cmp .eql 0 (.t 59) (.c (.int .i64 0)), none, [2]⟩,
         ⟨(some 61), .mov (.t 60), none, [3]⟩,
         ⟨(some 62), .faddr 3 (.t 1), (some (61, true)), [4]⟩,
         ⟨(some 63), .load 1 false (.t 62), (some (61, true)), [5, 4]⟩,
         ⟨(some 64), .not (.t 63), (some (61, true)), [6, 4]⟩,
         ⟨(some 65), .pick (.t 61) (.t 64) (.c (.bool false)), none, [4, 7]⟩,
         ⟨(some 2), .mov (.t 65), none, [8, 4, 0, 1, 2, 3, 4, 5, 6, 7, 8]⟩] false)
       .ret)))))
def rv26 : List RV := [.t 2]
theorem rc26_ok : comp Try.prog Try.f26.ntmps (Try.f26.body.getD .skip) = some (erase rc26) := by kernel_rfl
theorem rv26_ok : compRes Try.prog Try.f26.results.toList = some rv26 := by kernel_rfl

/-- baseboard/baseboardref36.Same [38, 38] -/
def rc27 : RC :=
  (.seq
   (.region [
     ⟨(some 2), .box 10 (.t 0), none, []⟩,
     ⟨(some 3), .box 10 (.t 1), none, []⟩,
     ⟨(some 4), .mov (.c (.bool false)), none, []⟩] false)
   (.seq
    (.region [
      ⟨(some 5), .faddr 0 (.t 2), none, []⟩,
      ⟨(some 6), .load 1 false (.t 5), none, [0]⟩,
      ⟨(some 7), .b2s (.t 6), none, [1]⟩,
      ⟨(some 8), .faddr 0 (.t 3), none, []⟩,
      ⟨(some 9), .load 1 false (.t 8), none, [3]⟩,
      ⟨(some 10), .b2s (.t 9), none, [4]⟩,
      ⟨(some 11), .cmp .eql 2 (.t 7) (.t 10), none, [2, 5]⟩,
      ⟨(some 12), .mov (.t 11), none, [6]⟩,
      ⟨(some 13), .faddr 1 (.t 2), (some (12, true)), [7]⟩,
      ⟨(some 14), .load 1 false (.t 13), (some (12, true)), [8, 7]⟩,
      ⟨(some 15), .faddr 1 (.t 3), (some (12, true)), [7]⟩,
      ⟨(some 16), .load 1 false (.t 15), (some (12, true)), [10, 7]⟩,
      ⟨(some 17), .cmp .eql 1 (.t 14) (.t 16), (some (12, true)), [9, 11, 7]⟩,
      ⟨(some 18), .pick (.t 12) (.t 17) (.c (.bool false)), none, [7, 12]⟩,
      ⟨(some 19), .mov (.t 18), none, [13, 7]⟩,
      ⟨(some 20), .faddr 2 (.t 2), (some (19, true)), [14]⟩,
      ⟨(some 21), .load 1 false (.t 20), (some (19, true)), [15, 14]⟩,
      ⟨(some 22), .b2s (.t 21), (some (19, true)), [16, 14]⟩,
      ⟨(some 23), .faddr 2 (.t 3), (some (19, true)), [14]⟩,
      ⟨(some 24), .load 1 false (.t 23), (some (19, true)), [18, 14]⟩,
      ⟨(some 25), .b2s (.t 24), (some (19, true)), [19, 14]⟩,
      ⟨(some 26), .cmp .eql 2 (.t 22) (.t 25), (some (19, true)), [17, 20, 14]⟩,
      ⟨(some 27), .pick (.t 19) (.t 26) (.c (.bool false)), none, [14, 21]⟩,
      ⟨(some 28), .mov (.t 27), none, [22, 14]⟩,
      ⟨(some 29), .faddr 3 (.t 2), (some (28, true)), [23]⟩,
      ⟨(some 30), .load 1 false (.t 29), (some (28, true)), [24, 23]⟩,
      ⟨(some 31), .faddr 3 (.t 3), (some (28, true)), [23]⟩,
      ⟨(some 32), .load 1 false (.t 31), (some (28, true)), [26, 23]⟩,
      ⟨(some 33), .cmp .eql 1 (.t 30) (.t 32), (some (28, true)), [25, 27, 23]⟩,
      ⟨(some 34), .pick (.t 28) (.t 33) (.c (.bool false)), none, [23, 28]⟩,
      ⟨(some 35), .mov (.t 34), none, [29, 23]⟩,
      ⟨(some 36), .faddr 4 (.t 2), (some (35, true)), [30]⟩,
      ⟨(some 37), .load 1 false (.t 36), (some (35, true)), [31, 30]⟩,
      ⟨(some 38), .faddr 4 (.t 3), (some (35, true)), [30]⟩,
      ⟨(some 39), .load 1 false (.t 38), (some (35, true)), [33, 30]⟩,
      ⟨(some 40), .cmp .eql 1 (.t 37) (.t 39), (some (35, true)), [32, 34, 30]⟩,
      ⟨(some 41), .pick (.t 35) (.t 40) (.c (.bool false)), none, [30, 35]⟩,
      ⟨(some 42), .mov (.t 41), none, [36, 30]⟩,
      ⟨(some 43), .faddr 5 (.t 2), (some (42, true)), [37]⟩,
      ⟨(some 44), .load 1 false (.t 43), (some (42, true)), [38, 37]⟩,
      ⟨(some 45), .faddr 5 (.t 3), (some (42, true)), [37]⟩,
      ⟨(some 46), .load 1 false (.t 45), (some (42, true)), [40, 37]⟩,
      ⟨(some 47), .cmp .eql 0 (.t 44) (.t 46), (some (42, true)), [39, 41, 37]⟩,
      ⟨(some 48), .pick (.t 42) (.t 47) (.c (.bool false)), none, [37, 42]⟩,
      ⟨(some 49), .mov (.t 48), none, [43, 37]⟩,
      ⟨(some 50), .faddr 6 (.t 2), (some (49, true)), [44]⟩,
      ⟨(some 51), .load 1 false (.t 50), (some (49, true)), [45, 44]⟩,
      ⟨(some 52), .faddr 6 (.t 3), (some (49, true)), [44]⟩,
      ⟨(some 53), .load 1 false (.t 52), (some (49, true)), [47, 44]⟩,
      ⟨(some 54), .cmp .eql 0 (.t 51) (.t 53), (some (49, true)), [46, 48, 44]⟩,
      ⟨(some 55), .pick (.t 49) (.t 54) (.c (.bool false)), none, [44, 49]⟩,
      ⟨(some 56), .mov (.t 55), none, [50, 44]⟩,
      ⟨(some 57), .faddr 7 (.t 2), (some (56, true)), [51]⟩,
      ⟨(some 58), .load 1 false (.t 57), (some (56, true)), [52, 51]⟩,
      ⟨(some 59), .faddr 7 (.t 3), (some (56, true)), [51]⟩,
      ⟨(some 60), .load 1 false (.t 59), (some (56, true)), [54, 51]⟩,
      ⟨(some 61), .cmp .eql 0 (.t 58) (.t 60), (some (56, true)), [53, 55, 51]⟩,
      ⟨(some 62), .pick (.t 56) (.t 61) (.c (.bool false)), none, [51, 56]⟩,
      ⟨(some 63), .mov (.t 62), none, [57, 51]⟩,
      ⟨(some 64), .faddr 8 (.t 2), (some (63, true)), [58]⟩,
      ⟨(some 65), .load 1 false (.t 64), (some (63, true)), [59, 58]⟩,
      ⟨(some 66), .faddr 8 (.t 3), (some (63, true)), [58]⟩,
      ⟨(some 67), .load 1 false (.t 66), (some (63, true)), [61, 58]⟩,
      ⟨(some 68), .cmp .eql 0 (.t 65) (.t 67), (some (63, true)), [60, 62, 58]⟩,
      ⟨(some 69), .pick (.t 63) (.t 68) (.c (.bool false)), none, [58, 63]⟩,
      ⟨(some 70), .mov (.t 69), none, [64, 58]⟩,
      ⟨(some 71), .faddr 9 (.t 2), (some (70, true)), [65]⟩,
      ⟨(some 72), .load 1 false (.t 71), (some (70, true)), [66, 65]⟩,
      ⟨(some 73), .faddr 9 (.t 3), (some (70, true)), [65]⟩,
      ⟨(some 74), .load 1 false (.t 73), (some (70, true)), [68, 65]⟩,
      ⟨(some 75), .cmp .eql 0 (.t 72) (.t 74), (some (70, true)), [67, 69, 65]⟩,
      ⟨(some 76), .pick (.t 70) (.t 75) (.c (.bool false)), none, [65, 70]⟩,
      ⟨(some 4), .mov (.t 76), none, [71, 65, 0, 1, 2, 3, 4, 5, 6, 7, 8, 9, 10, 11, 12, 13, 14, 15, 16, 17, 18, 19, 20, 21, 22, 23, 24, 25, 26, 27, 28, 29, 30, 31, 32, 33, 34, 35, 36, 37, 38, 39, 40, 41, 42, 43, 44, 45, 46, 47, 48, 49, 50, 51, 52, 53, 54, 55, 56, 57, 58, 59, 60, 61, 62, 63, 64, 65, 66, 67, 68, 69, 70, 71]⟩] false)
    .ret))
def rv27 : List RV := [.t 4]
theorem rc27_ok : comp Try.prog Try.f27.ntmps (Try.f27.body.getD .skip) = some (erase rc27) := by kernel_rfl
theorem rv27_ok : compRes Try.prog Try.f27.results.toList = some rv27 := by kernel_rfl

/-- baseboard/baseboardref36.Receive [38, 22] -/
def rc28 : RC :=
  (.seq
   (.region [
     ⟨(some 2), .box 10 (.t 0), none, []⟩,
     ⟨(some 4), .alloc [.nil, .bool false, .nil, .bool false, .bool false, .int .i64 0, .int .i64 0, .int .i64 0, .int .i64 0, .int .i64 0], none, []⟩,
     ⟨(some 5), .mov (.c (.nil)), none, []⟩,
     ⟨(some 6), .mov (.c (.bool false)), none, [2]⟩,
     ⟨(some 7), .mov (.c (.int .i64 0)), none, [3]⟩] false)
   (.seq
    (.seq
     (.region [
       ⟨(some 12), .load 10 true (.t 2), none, []⟩,
       ⟨(some 13), .call 26 [(.t 12)], none, [0]⟩,
       ⟨(some 14), .not (.t 13), none, [1]⟩] false)
     (.cond (.t 14)
      (.seq
       (.region [
         ⟨(some 15), .build [.nil, .bool false, .nil, .bool false, .bool false, .int .i64 0, .int .i64 0, .int .i64 0, .int .i64 0, .int .i64 0] [], none, []⟩,
         ⟨none, .store 10 (.t 4) (.t 15), none, [0, 0]⟩,
         ⟨(some 5), .mov (.c (.nil)), none, [1, 0, 1]⟩,
         ⟨(some 6), .mov (.c (.bool false)), none, [2, 0, 1, 2]⟩,
         ⟨(some 7), .mov (.c (.int .i64 1)), none, [3, 0, 1, 2, 3]⟩] false)
       .ret)
      .skip))
    (.seq
     (.region [
       ⟨(some 17), .mov (.t 1), none, []⟩,
       ⟨(some 18), .call 13 [(.t 17)], none, [0]⟩,
       ⟨(some 16), .mov (.t 18), none, [1]⟩,
       ⟨(some 19), .extract 0 (.t 16), none, [2]⟩,
       ⟨(some 20), .extract 1 (.t 16), none, [2]⟩,
       ⟨(some 8), .alloc [.int .i64 0, .int .i64 0, .int .i64 0, .bool false, .nil], none, []⟩,
       ⟨none, .store 5 (.t 8) (.t 19), none, [5, 3, 1, 0, 1, 2, 3, 5]⟩,
       ⟨(some 9), .mov (.t 20), none, [4, 6, 0, 1, 2, 3, 4, 5, 6]⟩] false)
     (.seq
      (.seq
       (.region [
         ⟨(some 21), .mov (.t 9), none, []⟩,
         ⟨(some 22), .cmp .neq 0 (.t 21) (.c (.int .i64 0)), none, [0]⟩] false)
       (.cond (.t 22)
        (.seq
         (.region [
           ⟨(some 23), .build [.nil, .bool false, .nil, .bool false, .bool false, .int .i64 0, .int .i64 0, .int .i64 0, .int .i64 0, .int .i64 0] [], none, []⟩,
           ⟨(some 24), .mov (.t 9), none, []⟩,
           ⟨none, .store 10 (.t 4) (.t 23), none, [0, 0]⟩,
           ⟨(some 5), .mov (.c (.nil)), none, [2, 0, 2]⟩,
           ⟨(some 6), .mov (.c (.bool false)), none, [3, 0, 2, 3]⟩,
           ⟨(some 7), .mov (.t 24), none, [1, 4, 0, 1, 2, 3, 4]⟩] false)
         .ret)
        .skip))
      (.seq
       (.region [
         ⟨(some 25), .load 10 true (.t 2), none, []⟩,
         ⟨(some 26), .call 40 [(.t 25)], none, [0]⟩,
         ⟨none, .store 10 (.t 2) (.t 26), none, [1, 1, 0, 1]⟩] false)
       (.seq
        (.seq
         (.region [
           ⟨(some 27), .faddr 4 (.t 2), none, []⟩,
           ⟨(some 28), .load 1 false (.t 27), none, [0]⟩,
           ⟨(some 29), .mov (.t 28), none, [1]⟩,
           ⟨(some 30), .faddr 1 (.t 8), (some (29, true)), [2]⟩,
           ⟨(some 31), .load 1 false (.t 30), (some (29, true)), [3, 2]⟩,
           ⟨(some 32), .faddr 5 (.t 2), (some (29, true)), [2]⟩,
           ⟨(some 33), .load 1 false (.t 32), (some (29, true)), [5, 2]⟩,
           ⟨(some 34), .cmp .eql 0 (.t 31) (.t 33), (some (29, true)), [4, 6, 2]⟩,
           ⟨(some 35), .pick (.t 29) (.t 34) (.c (.bool false)), none, [2, 7]⟩] false)
         (.cond (.t 35)
          (.seq
           (.region [
             ⟨(some 36), .faddr 2 (.t 8), none, []⟩,
             ⟨(some 37), .load 1 false (.t 36), none, [0]⟩,
             ⟨(some 38), .faddr 2 (.t 2), none, []⟩,
             ⟨(some 39), .load 1 false (.t 38), none, [2]⟩,
             ⟨(some 40), .len 0 (.t 39), none, [3]⟩,
             ⟨(some 41), .minmax false [(.t 37), (.t 40)], none, [1, 4]⟩,
             ⟨(some 10), .mov (.t 41), none, [5, 0, 1, 2, 3, 4, 5]⟩] false)
           (.seq
            (.region [
              ⟨(some 42), .faddr 2 (.t 2), none, []⟩,
              ⟨(some 43), .load 1 false (.t 42), none, [0]⟩,
              ⟨(some 44), .mov (.t 10), none, []⟩,
              ⟨(some 45), .slice 1 (.t 43) (some (.t 44)) none, none, [0, 2, 1]⟩,
              ⟨(some 46), .appD 5 1 [.int .u8 0] (.c (.nil)) (.t 45), none, [1, 2, 0, 3]⟩,
              ⟨(some 47), .faddr 0 (.t 2), none, []⟩,
              ⟨(some 48), .load 1 false (.t 47), none, [5]⟩,
              ⟨(some 49), .appD 5 1 [.int .u8 0] (.t 46) (.t 48), none, [5, 3, 0, 2, 1, 6, 4]⟩,
              ⟨(some 50), .faddr 0 (.t 2), none, [7, 6, 5, 4, 3, 2, 1, 0]⟩,
              ⟨none, .store 1 (.t 50) (.t 49), none, [6, 5, 4, 3, 2, 1, 0, 7, 8]⟩] true)
            (.region [
              ⟨(some 51), .faddr 2 (.t 2), none, []⟩,
              ⟨none, .store 1 (.t 51) (.c (.nil)), none, [0]⟩,
              ⟨(some 52), .faddr 3 (.t 2), none, [0, 1]⟩,
              ⟨none, .store 1 (.t 52) (.c (.bool false)), none, [2, 1, 0, 1]⟩,
              ⟨(some 53), .faddr 4 (.t 2), none, [0, 1, 2, 3]⟩,
              ⟨none, .store 1 (.t 53) (.c (.bool false)), none, [4, 3, 0, 1, 2, 3]⟩] false)))
          .skip))
        (.seq
         (.block 0
          (.seq
           (.region [
             ⟨(some 55), .faddr 0 (.t 8), none, []⟩,
             ⟨(some 56), .load 1 false (.t 55), none, [0]⟩,
             ⟨(some 57), .cmp .eql 0 (.t 56) (.c (.int .i64 0)), none, [1]⟩,
             ⟨(some 54), .mov (.t 57), none, [2]⟩] false)
           (.cond (.t 54)
            .skip
            (.seq
             (.region [
               ⟨(some 59), .faddr 0 (.t 8), none, []⟩,
               ⟨(some 60), .load 1 false (.t 59), none, [0]⟩,
               ⟨(some 61), .faddr 6 (.t 2), none, []⟩,
               ⟨(some 62), .load 1 false (.t 61), none, [2]⟩,
               ⟨(some 63), .cmp .eql 0 (.t 60) (.t 62), none, [1, 3]⟩,
               ⟨(some 58), .mov (.t 63), none, [4]⟩] false)
             (.cond (.t 58)
              (.region [
                ⟨(some 64), .faddr 0 (.t 8), none, []⟩,
                ⟨(some 65), .load 1 false (.t 64), none, [0]⟩,
                ⟨(some 66), .faddr 8 (.t 2), none, [0, 1]⟩,
                ⟨none, .store 1 (.t 66) (.t 65), none, [2, 1, 0, 1]⟩] false)
              (.seq
               (.region [
                 ⟨(some 68), .faddr 0 (.t 8), none, []⟩,
                 ⟨(some 69), .load 1 false (.t 68), none, [0]⟩,
                 ⟨(some 70), .faddr 6 (.t 2), none, []⟩,
                 ⟨(some 71), .load 1 false (.t 70), none, [2]⟩,
                 ⟨(some 72), .call 41 [(.t 71)], none, [2, 3]⟩,
                 ⟨(some 73), .cmp .eql 0 (.t 69) (.t 72), none, [3, 2, 0, 4, 1]⟩,
                 ⟨(some 67), .mov (.t 73), none, [1, 0, 2, 3, 4, 5]⟩] true)
               (.cond (.t 67)
                (.seq
                 (.region [
                   ⟨(some 74), .faddr 4 (.t 8), none, []⟩,
                   ⟨(some 75), .load 1 false (.t 74), none, [0]⟩,
                   ⟨(some 76), .len 0 (.t 75), none, [1]⟩,
                   ⟨(some 77), .faddr 7 (.t 2), none, []⟩,
                   ⟨(some 78), .load 1 false (.t 77), none, [3]⟩,
                   ⟨(some 79), .minmax false [(.t 76), (.t 78)], none, [2, 4]⟩,
                   ⟨(some 11), .mov (.t 79), none, [5, 0, 1, 2, 3, 4, 5]⟩] false)
                 (.seq
                  (.region [
                    ⟨(some 80), .faddr 7 (.t 2), none, []⟩,
                    ⟨(some 81), .load 1 false (.t 80), none, [0]⟩,
                    ⟨(some 82), .mov (.t 11), none, []⟩,
                    ⟨(some 83), .arith .sub (.t 81) (.t 82), none, [0, 2, 1]⟩,
                    ⟨(some 84), .faddr 0 (.t 8), none, []⟩,
                    ⟨(some 85), .load 1 false (.t 84), none, [4]⟩,
                    ⟨(some 86), .faddr 0 (.t 8), none, []⟩,
                    ⟨(some 87), .load 1 false (.t 86), none, [6]⟩,
                    ⟨(some 88), .mov (.t 11), none, []⟩,
                    ⟨(some 89), .faddr 7 (.t 2), none, [3, 2, 1, 0]⟩,
                    ⟨none, .store 1 (.t 89) (.t 83), none, [2, 1, 0, 3, 9]⟩,
                    ⟨(some 90), .faddr 6 (.t 2), none, [10, 9, 5, 4, 3, 2, 1, 0]⟩,
                    ⟨none, .store 1 (.t 90) (.t 85), none, [9, 4, 3, 2, 1, 0, 10, 5, 11]⟩,
                    ⟨(some 91), .faddr 8 (.t 2), none, [12, 11, 10, 9, 7, 6, 5, 4, 3, 2, 1, 0]⟩,
                    ⟨none, .store 1 (.t 91) (.t 87), none, [11, 10, 9, 6, 5, 4, 3, 2, 1, 0, 12, 7, 13]⟩,
                    ⟨(some 92), .faddr 9 (.t 2), none, [14, 13, 12, 11, 10, 9, 8, 7, 6, 5, 4, 3, 2, 1, 0]⟩,
                    ⟨none, .store 1 (.t 92) (.t 88), none, [13, 12, 11, 10, 9, 7, 6, 5, 4, 3, 2, 1, 0, 14, 8, 15]⟩] true)
                  (.seq
                   (.region [
                     ⟨(some 93), .load 10 true (.t 2), none, []⟩,
                     ⟨(some 94), .faddr 4 (.t 8), none, []⟩,
                     ⟨(some 95), .load 1 false (.t 94), none, [1]⟩,
                     ⟨(some 96), .mov (.t 11), none, []⟩,
                     ⟨(some 97), .slice 1 (.t 95) none (some (.t 96)), none, [1, 3, 2]⟩,
                     ⟨(some 98), .appD 5 1 [.int .u8 0] (.c (.nil)) (.t 97), none, [2, 3, 1, 4]⟩,
                     ⟨(some 99), .faddr 3 (.t 8), none, []⟩,
                     ⟨(some 100), .load 1 false (.t 99), none, [6]⟩,
                     ⟨none, .store 10 (.t 4) (.t 93), none, [4, 1, 3, 2, 5, 0]⟩,
                     ⟨(some 5), .mov (.t 98), none, [4, 3, 2, 1, 0, 8, 5]⟩,
                     ⟨(some 6), .mov (.t 100), none, [8, 6, 5, 4, 3, 2, 1, 0, 9, 7]⟩,
                     ⟨(some 7), .mov (.c (.int .i64 0)), none, [9, 8, 7, 6, 5, 4, 3, 2, 1, 0, 10]⟩] true)
                   .ret)))
                .skip)))))))
         (.seq
          (.region [
            ⟨(some 101), .load 10 true (.t 2), none, []⟩,
            ⟨none, .store 10 (.t 4) (.t 101), none, [0, 0]⟩,
            ⟨(some 5), .mov (.c (.nil)), none, [1, 0, 1]⟩,
            ⟨(some 6), .mov (.c (.bool false)), none, [2, 0, 1, 2]⟩,
            ⟨(some 7), .mov (.c (.int .i64 0)), none, [3, 0, 1, 2, 3]⟩] false)
          .ret))))))))
def rv28 : List RV := [.c 4 10 true, .t 5, .t 6, .t 7]
theorem rc28_ok : comp Try.prog Try.f28.ntmps (Try.f28.body.getD .skip) = some (erase rc28) := by kernel_rfl
theorem rv28_ok : compRes Try.prog Try.f28.results.toList = some rv28 := by kernel_rfl

/-- baseboard/console.Break [38] -/
def rc29 : RC :=
  (.seq
   (.region [
     ⟨(some 1), .box 10 (.t 0), none, []⟩,
     ⟨(some 2), .alloc [.nil, .bool false, .nil, .bool false, .bool false, .int .i64 0, .int .i64 0, .int .i64 0, .int .i64 0, .int .i64 0], none, []⟩] false)
   (.seq
    (.region [
      ⟨(some 4), .load 10 true (.t 1), none, []⟩,
      ⟨(some 5), .call 38 [(.t 4)], none, [0]⟩,
      ⟨(some 3), .alloc [.nil, .bool false, .nil, .bool false, .bool false, .int .i64 0, .int .i64 0, .int .i64 0, .int .i64 0, .int .i64 0], none, []⟩,
      ⟨none, .store 10 (.t 3) (.t 5), none, [2, 1, 1, 0, 1, 2]⟩] false)
    (.seq
     (.seq
      (.region [
        ⟨(some 6), .load 10 true (.t 1), none, []⟩,
        ⟨(some 7), .call 25 [(.t 6)], none, [0]⟩] false)
      (.cond (.t 7)
       (.region [
         ⟨(some 8), .faddr 1 (.t 3), none, []⟩,
         ⟨none, .store 1 (.t 8) (.c (.bool true)), none, [0]⟩] false)
       .skip))
     (.seq
      (.region [
        ⟨(some 9), .load 10 true (.t 3), none, []⟩,
        ⟨none, .store 10 (.t 2) (.t 9), none, [0, 0]⟩] false)
      .ret))))
def rv29 : List RV := [.c 2 10 true]
theorem rc29_ok : comp Try.prog Try.f29.ntmps (Try.f29.body.getD .skip) = some (erase rc29) := by kernel_rfl
theorem rv29_ok : compRes Try.prog Try.f29.results.toList = some rv29 := by kernel_rfl

/-- baseboard/baseboardref36.Break [38] -/
def rc30 : RC :=
  (.seq
   (.region [
     ⟨(some 1), .box 10 (.t 0), none, []⟩,
     ⟨(some 2), .alloc [.nil, .bool false, .nil, .bool false, .bool false, .int .i64 0, .int .i64 0, .int .i64 0, .int .i64 0, .int .i64 0], none, []⟩] false)
   (.seq
    (.region [
      ⟨(some 3), .load 10 true (.t 1), none, []⟩,
      ⟨(some 4), .call 40 [(.t 3)], none, [0]⟩,
      ⟨none, .store 10 (.t 1) (.t 4), none, [1, 1, 0, 1]⟩] false)
    (.seq
     (.seq
      (.region [
        ⟨(some 5), .load 10 true (.t 1), none, []⟩,
        ⟨(some 6), .call 26 [(.t 5)], none, [0]⟩] false)
      (.cond (.t 6)
       (.region [
         ⟨(some 7), .faddr 1 (.t 1), none, []⟩,
         ⟨none, .store 1 (.t 7) (.c (.bool true)), none, [0]⟩] false)
       .skip))
     (.seq
      (.region [
        ⟨(some 8), .load 10 true (.t 1), none, []⟩,
        ⟨none, .store 10 (.t 2) (.t 8), none, [0, 0]⟩] false)
      .ret))))
def rv30 : List RV := [.c 2 10 true]
theorem rc30_ok : comp Try.prog Try.f30.ntmps (Try.f30.body.getD .skip) = some (erase rc30) := by kernel_rfl
theorem rv30_ok : compRes Try.prog Try.f30.results.toList = some rv30 := by kernel_rfl

/-- baseboard/baseboardref36.Grow [38, 3] -/
def rc31 : RC :=
  (.seq
   (.region [
     ⟨(some 2), .box 10 (.t 0), none, []⟩,
     ⟨(some 4), .alloc [.nil, .bool false, .nil, .bool false, .bool false, .int .i64 0, .int .i64 0, .int .i64 0, .int .i64 0, .int .i64 0], none, []⟩] false)
   (.seq
    (.region [
      ⟨(some 5), .load 10 true (.t 2), none, []⟩,
      ⟨(some 6), .call 40 [(.t 5)], none, [0]⟩,
      ⟨none, .store 10 (.t 2) (.t 6), none, [1, 1, 0, 1]⟩] false)
    (.seq
     (.seq
      (.region [
        ⟨(some 7), .load 10 true (.t 2), none, []⟩,
        ⟨(some 8), .call 26 [(.t 7)], none, [0]⟩,
        ⟨(some 9), .mov (.t 8), none, [1, 1]⟩,
        ⟨(some 10), .mov (.t 1), (some (9, true)), [2]⟩,
        ⟨(some 11), .cmp .gtr 0 (.t 10) (.c (.int .i64 0)), (some (9, true)), [3, 2]⟩,
        ⟨(some 12), .pick (.t 9) (.t 11) (.c (.bool false)), none, [2, 4]⟩] false)
      (.cond (.t 12)
       (.region [
         ⟨(some 13), .faddr 7 (.t 2), none, []⟩,
         ⟨(some 14), .load 1 false (.t 13), none, [0]⟩,
         ⟨(some 15), .mov (.t 1), none, []⟩,
         ⟨(some 16), .faddr 7 (.t 2), none, []⟩,
         ⟨(some 17), .load 1 false (.t 16), none, [3]⟩,
         ⟨(some 18), .arith .sub (.c (.int .i64 1024)) (.t 17), none, [4]⟩,
         ⟨(some 19), .minmax false [(.t 15), (.t 18)], none, [2, 5]⟩,
         ⟨(some 20), .arith .add (.t 14) (.t 19), none, [1, 6]⟩,
         ⟨(some 21), .faddr 7 (.t 2), none, [0, 1, 2, 3, 4, 5, 6, 7]⟩,
         ⟨none, .store 1 (.t 21) (.t 20), none, [8, 7, 0, 1, 2, 3, 4, 5, 6, 7]⟩] false)
       .skip))
     (.seq
      (.region [
        ⟨(some 22), .load 10 true (.t 2), none, []⟩,
        ⟨none, .store 10 (.t 4) (.t 22), none, [0, 0]⟩] false)
      .ret))))
def rv31 : List RV := [.c 4 10 true]
theorem rc31_ok : comp Try.prog Try.f31.ntmps (Try.f31.body.getD .skip) = some (erase rc31) := by kernel_rfl
theorem rv31_ok : compRes Try.prog Try.f31.results.toList = some rv31 := by kernel_rfl

/-- baseboard/console.New [] -/
def rc32 : RC :=
  (.seq
   (.region [
     ⟨(some 0), .alloc [.nil, .bool false, .nil, .bool false, .bool false, .int .i64 0, .int .i64 0, .int .i64 0, .int .i64 0, .int .i64 0], none, []⟩] false)
   (.seq
    (.region [
      ⟨(some 1), .build [.nil, .bool false, .nil, .bool false, .bool false, .int .i64 0, .int .i64 0, .int .i64 0, .int .i64 0, .int .i64 0] [(7, 1, (.c (.int .i64 1024)))], none, []⟩,
      ⟨none, .store 10 (.t 0) (.t 1), none, [0, 0]⟩] false)
    .ret))
def rv32 : List RV := [.c 0 10 true]
theorem rc32_ok : comp Try.prog Try.f32.ntmps (Try.f32.body.getD .skip) = some (erase rc32) := by kernel_rfl
theorem rv32_ok : compRes Try.prog Try.f32.results.toList = some rv32 := by kernel_rfl

/-- (*baseboard/baseboardfield.Codes).Left [35] -/
def rc33 : RC :=
  (.seq
   (.region [
     ⟨(some 2), .mov (.c (.bool false)), none, []⟩] false)
   (.seq
    (.region [
      ⟨(some 3), .mov (.t 0), none, []⟩,
      ⟨(some 4), .nilchk (.t 3), none, [0]⟩,
      ⟨(some 5), .faddr 1 (.t 4), none, [0, 1]⟩,
      ⟨(some 6), .load 1 false (.t 5), none, [1, 0, 2]⟩,
      ⟨(some 7), .mov (.t 0), none, []⟩,
      ⟨(some 8), .nilchk (.t 7), none, [4]⟩,
      ⟨(some 9), .faddr 0 (.t 8), none, [4, 5]⟩,
      ⟨(some 10), .load 1 false (.t 9), none, [5, 4, 6]⟩,
      ⟨(some 11), .len 0 (.t 10), none, [6, 4, 5, 7]⟩,
      ⟨(some 12), .cmp .lss 0 (.t 6) (.t 11), none, [7, 5, 4, 6, 2, 0, 1, 8, 3]⟩,
      ⟨(some 2), .mov (.t 12), none, [8, 7, 6, 5, 4, 3, 2, 1, 0, 9]⟩] true)
    .ret))
def rv33 : List RV := [.t 2]
theorem rc33_ok : comp Try.prog Try.f33.ntmps (Try.f33.body.getD .skip) = some (erase rc33) := by kernel_rfl
theorem rv33_ok : compRes Try.prog Try.f33.results.toList = some rv33 := by kernel_rfl

/-- baseboard/console.valid [24] -/
def rc34 : RC :=
  (.seq
   (.region [
     ⟨(some 1), .box 5 (.t 0), none, []⟩,
     ⟨(some 2), .mov (.c (.bool false)), none, []⟩] false)
   (.seq
    (.seq
     (.region [
       ⟨(some 3), .faddr 0 (.t 1), none, []⟩,
       ⟨(some 4), .load 1 false (.t 3), none, [0]⟩,
       ⟨(some 5), .call 42 [(.t 4)], none, [1]⟩,
       ⟨(some 6), .not (.t 5), none, [2]⟩,
       ⟨(some 7), .mov (.t 6), none, [3, 2]⟩,
       ⟨(some 8), .faddr 1 (.t 1), (some (7, false)), [4]⟩,
       ⟨(some 9), .load 1 false (.t 8), (some (7, false)), [5, 4]⟩,
       ⟨(some 10), .call 42 [(.t 9)], (some (7, false)), [6, 4, 4]⟩,
       ⟨(some 11), .not (.t 10), (some (7, false)), [7, 4]⟩,
       ⟨(some 12), .pick (.t 7) (.c (.bool true)) (.t 11), none, [4, 8]⟩,
       ⟨(some 13), .mov (.t 12), none, [9, 7]⟩,
       ⟨(some 14), .faddr 2 (.t 1), (some (13, false)), [10]⟩,
       ⟨(some 15), .load 1 false (.t 14), (some (13, false)), [11, 10]⟩,
       ⟨(some 16), .cmp .lss 0 (.t 15) (.c (.int .i64 0)), (some (13, false)), [12, 10]⟩,
       ⟨(some 17), .pick (.t 13) (.c (.bool true)) (.t 16), none, [10, 13]⟩,
       ⟨(some 18), .mov (.t 17), none, [14, 10]⟩,
       ⟨(some 19), .faddr 2 (.t 1), (some (18, false)), [15]⟩,
       ⟨(some 20), .load 1 false (.t 19), (some (18, false)), [16, 15]⟩,
       ⟨(some 21), .cmp .gtr 0 (.t 20) (.c (.int .i64 64)), (some (18, false)), [17, 15]⟩,
       ⟨(some 22), .pick (.t 18) (.c (.bool true)) (.t 21), none, [15, 18]⟩,
       ⟨(some 23), .mov (.t 22), none, [19, 15]⟩,
       ⟨(some 24), .faddr 4 (.t 1), (some (23, false)), [20]⟩,
       ⟨(some 25), .load 1 false (.t 24), (some (23, false)), [21, 20]⟩,
       ⟨(some 26), .len 0 (.t 25), (some (23, false)), [22, 20]⟩,
       ⟨(some 27), .cmp .gtr 0 (.t 26) (.c (.int .i64 64)), (some (23, false)), [23, 20]⟩,
       ⟨(some 28), .pick (.t 23) (.c (.bool true)) (.t 27), none, [20, 24]⟩] false)
     (.cond (.t 28)
      (.seq
       (.region [
         ⟨(some 2), .mov (.c (.bool false)), none, []⟩] false)
       .ret)
      .skip))
    (.seq
     (.seq
      (.region [
        ⟨(some 29), .faddr 1 (.t 1), none, []⟩,
        ⟨(some 30), .load 1 false (.t 29), none, [0]⟩,
        ⟨(some 31), .cmp .eql 0 (.t 30) (.c (.int .i64 0)), none, [1]⟩,
        ⟨(some 32), .mov (.t 31), none, [2]⟩,
        ⟨(some 33), .faddr 2 (.t 1), (some (32, true)), [3]⟩,
        ⟨(some 34), .load 1 false (.t 33), (some (32, true)), [4, 3]⟩,
        ⟨(some 35), .cmp .neq 0 (.t 34) (.c (.int .i64 0)), (some (32, true)), [5, 3]⟩,
        ⟨(some 36), .pick (.t 32) (.t 35) (.c (.bool false)), none, [3, 6]⟩] false)
      (.cond (.t 36)
       (.seq
        (.region [
          ⟨(some 2), .mov (.c (.bool false)), none, []⟩] false)
        .ret)
       .skip))
     (.seq
      (.region [
        ⟨(some 37), .faddr 0 (.t 1), none, []⟩,
        ⟨(some 38), .load 1 false (.t 37), none, [0]⟩,
        ⟨(some 39), .cmp .neq 0 (.t 38) (.c (.int .i64 0)), none, [1]⟩,
        ⟨(some 40), .mov (.t 39), none, [2]⟩,
        ⟨(some 41), .faddr 4 (.t 1), (some (40, false)), [3]⟩,
        ⟨(some 42), .load 1 false (.t 41), (some (40, false)), [4, 3]⟩,
        ⟨(some 43), .len 0 (.t 42), (some (40, false)), [5, 3]⟩,
        ⟨(some 44), .cmp .eql 0 (.t 43) (.c (.int .i64 0)), (some (40, false)), [6, 3]⟩,
        ⟨(some 45), .mov (.t 44), (some (40, false)), [7, 3, 3]⟩,
        ⟨(some 46), .faddr 3 (.t 1), (some (45, true)), [8]⟩,
        ⟨(some 47), .load 1 false (.t 46), (some (45, true)), [9, 8]⟩,
        ⟨(some 48), .not (.t 47), (some (45, true)), [10, 8]⟩,
        ⟨(some 49), .pick (.t 45) (.t 48) (.c (.bool false)), (some (40, false)), [8, 11, 3]⟩,
        ⟨(some 50), .pick (.t 40) (.c (.bool true)) (.t 49), none, [3, 12]⟩,
        ⟨(some 2), .mov (.t 50), none, [13, 8, 0, 1, 2, 3, 4, 5, 6, 7, 8, 9, 10, 11, 12, 13]⟩] false)
      .ret))))
def rv34 : List RV := [.t 2]
theorem rc34_ok : comp Try.prog Try.f34.ntmps (Try.f34.body.getD .skip) = some (erase rc34) := by kernel_rfl
theorem rv34_ok : compRes Try.prog Try.f34.results.toList = some rv34 := by kernel_rfl

/-- baseboard/baseboardref36.right [24] -/
def rc35 : RC :=
  (.seq
   (.region [
     ⟨(some 1), .box 5 (.t 0), none, []⟩,
     ⟨(some 2), .mov (.c (.bool false)), none, []⟩] false)
   (.seq
    (.seq
     (.region [
       ⟨(some 3), .faddr 0 (.t 1), none, []⟩,
       ⟨(some 4), .load 1 false (.t 3), none, [0]⟩,
       ⟨(some 5), .call 43 [(.t 4), (.c (.int .i64 0)), (.c (.int .i64 15))], none, [1]⟩,
       ⟨(some 6), .not (.t 5), none, [2]⟩,
       ⟨(some 7), .mov (.t 6), none, [3, 2]⟩,
       ⟨(some 8), .faddr 1 (.t 1), (some (7, false)), [4]⟩,
       ⟨(some 9), .load 1 false (.t 8), (some (7, false)), [5, 4]⟩,
       ⟨(some 10), .call 43 [(.t 9), (.c (.int .i64 0)), (.c (.int .i64 15))], (some (7, false)), [6, 4, 4]⟩,
       ⟨(some 11), .not (.t 10), (some (7, false)), [7, 4]⟩,
       ⟨(some 12), .pick (.t 7) (.c (.bool true)) (.t 11), none, [4, 8]⟩,
       ⟨(some 13), .mov (.t 12), none, [9, 7]⟩,
       ⟨(some 14), .faddr 2 (.t 1), (some (13, false)), [10]⟩,
       ⟨(some 15), .load 1 false (.t 14), (some (13, false)), [11, 10]⟩,
       ⟨(some 16), .call 43 [(.t 15), (.c (.int .i64 0)), (.c (.int .i64 64))], (some (13, false)), [12, 10, 10]⟩,
       ⟨(some 17), .not (.t 16), (some (13, false)), [13, 10]⟩,
       ⟨(some 18), .pick (.t 13) (.c (.bool true)) (.t 17), none, [10, 14]⟩,
       ⟨(some 19), .mov (.t 18), none, [15, 13]⟩,
       ⟨(some 20), .faddr 4 (.t 1), (some (19, false)), [16]⟩,
       ⟨(some 21), .load 1 false (.t 20), (some (19, false)), [17, 16]⟩,
       ⟨(some 22), .len 0 (.t 21), (some (19, false)), [18, 16]⟩,
       ⟨(some 23), .cmp .gtr 0 (.t 22) (.c (.int .i64 64)), (some (19, false)), [19, 16]⟩,
       ⟨(some 24), .pick (.t 19) (.c (.bool true)) (.t 23), none, [16, 20]⟩,
       ⟨(some 25), .mov (.t 24), none, [21, 16]⟩,
       ⟨(some 26), .faddr 1 (.t 1), (some (25, false)), [22]⟩,
       ⟨(some 27), .load 1 false (.t 26), (some (25, false)), [23, 22]⟩,
       ⟨(some 28), .cmp .eql 0 (.t 27) (.c (.int .i64 0)), (some (25, false)), [24, 22]⟩,
       ⟨(some 29), .mov (.t 28), (some (25, false)), [25, 22, 22]⟩,
       ⟨(some 30), .faddr 2 (.t 1), (some (29, true)), [26]⟩,
       ⟨(some 31), .load 1 false (.t 30), (some (29, true)), [27, 26]⟩,
       ⟨(some 32), .cmp .neq 0 (.t 31) (.c (.int .i64 0)), (some (29, true)), [28, 26]⟩,
       ⟨(some 33), .pick (.t 29) (.t 32) (.c (.bool false)), (some (25, false)), [26, 29, 22]⟩,
       ⟨(some 34), .pick (.t 25) (.c (.bool true)) (.t 33), none, [22, 30]⟩] false)
     (.cond (.t 34)
      (.seq
       (.region [
         ⟨(some 2), .mov (.c (.bool false)), none, []⟩] false)
       .ret)
      .skip))
    (.seq
     (.region [
       ⟨(some 35), .faddr 0 (.t 1), none, []⟩,
       ⟨(some 36), .load 1 false (.t 35), none, [0]⟩,
       ⟨(some 37), .cmp .neq 0 (.t 36) (.c (.int .i64 0)), none, [1]⟩,
       ⟨(some 38), .mov (.t 37), none, [2]⟩,
       ⟨(some 39), .faddr 4 (.t 1), (some (38, false)), [3]⟩,
       ⟨(some 40), .load 1 false (.t 39), (some (38, false)), [4, 3]⟩,
       ⟨(some 41), .len 0 (.t 40), (some (38, false)), [5, 3]⟩,
       ⟨(some 42), .cmp .eql 0 (.t 41) (.c (.int .i64 0)), (some (38, false)), [6, 3]⟩,
       ⟨(some 43), .mov (.t 42), (some (38, false)), [7, 3, 3]⟩,
       ⟨(some 44), .faddr 3 (.t 1), (some (43, true)), [8]⟩,
       ⟨(some 45), .load 1 false (.t 44), (some (43, true)), [9, 8]⟩,
       ⟨(some 46), .not (.t 45), (some (43, true)), [10, 8]⟩,
       ⟨(some 47), .pick (.t 43) (.t 46) (.c (.bool false)), (some (38, false)), [8, 11, 3]⟩,
       ⟨(some 48), .pick (.t 38) (.c (.bool true)) (.t 47), none, [3, 12]⟩,
       ⟨(some 2), .mov (.t 48), none, [13, 8, 0, 1, 2, 3, 4, 5, 6, 7, 8, 9, 10, 11, 12, 13]⟩] false)
     .ret)))
def rv35 : List RV := [.t 2]
theorem rc35_ok : comp Try.prog Try.f35.ntmps (Try.f35.body.getD .skip) = some (erase rc35) := by kernel_rfl
theorem rv35_ok : compRes Try.prog Try.f35.results.toList = some rv35 := by kernel_rfl

/-- slices.Clone[[]byte,byte] [22] -/
def rc36 : RC :=
  (.seq
   (.region [
     ⟨(some 2), .mov (.c (.nil)), none, []⟩] false)
   (.seq
    (.seq
     (.region [
       ⟨(some 3), .mov (.t 0), none, []⟩,
       ⟨(some 4), .eqnil false (.t 3), none, [0]⟩] false)
     (.cond (.t 4)
      (.seq
       (.region [
         ⟨(some 2), .mov (.c (.nil)), none, []⟩] false)
       .ret)
      .skip))
    (.seq
     (.region [
       ⟨(some 5), .bsliceO 5 0 [.int .u8 0] [], none, []⟩,
       ⟨(some 6), .mov (.t 0), none, []⟩,
       ⟨(some 7), .append 5 1 [.int .u8 0] (.t 5) (.t 6), none, [0, 1]⟩,
       ⟨(some 2), .mov (.t 7), none, [2, 2, 0, 1, 2]⟩] false)
     .ret)))
def rv36 : List RV := [.t 2]
theorem rc36_ok : comp Try.prog Try.f36.ntmps (Try.f36.body.getD .skip) = some (erase rc36) := by kernel_rfl
theorem rv36_ok : compRes Try.prog Try.f36.results.toList = some rv36 := by kernel_rfl

/-- baseboard/baseboardref36.New [] -/
def rc37 : RC :=
  (.seq
   (.region [
     ⟨(some 0), .alloc [.nil, .bool false, .nil, .bool false, .bool false, .int .i64 0, .int .i64 0, .int .i64 0, .int .i64 0, .int .i64 0], none, []⟩] false)
   (.seq
    (.region [
      ⟨(some 1), .build [.nil, .bool false, .nil, .bool false, .bool false, .int .i64 0, .int .i64 0, .int .i64 0, .int .i64 0, .int .i64 0] [(7, 1, (.c (.int .i64 1024)))], none, []⟩,
      ⟨none, .store 10 (.t 0) (.t 1), none, [0, 0]⟩] false)
    .ret))
def rv37 : List RV := [.c 0 10 true]
theorem rc37_ok : comp Try.prog Try.f37.ntmps (Try.f37.body.getD .skip) = some (erase rc37) := by kernel_rfl
theorem rv37_ok : compRes Try.prog Try.f37.results.toList = some rv37 := by kernel_rfl

/-- baseboard/console.clone [38] -/
def rc38 : RC :=
  (.seq
   (.region [
     ⟨(some 1), .box 10 (.t 0), none, []⟩,
     ⟨(some 2), .alloc [.nil, .bool false, .nil, .bool false, .bool false, .int .i64 0, .int .i64 0, .int .i64 0, .int .i64 0, .int .i64 0], none, []⟩] false)
   (.seq
    (.region [
      ⟨(some 3), .faddr 0 (.t 1), none, []⟩,
      ⟨(some 4), .load 1 false (.t 3), none, [0]⟩,
      ⟨(some 5), .call 36 [(.t 4)], none, [0, 1]⟩,
      ⟨(some 6), .faddr 2 (.t 1), none, []⟩,
      ⟨(some 7), .load 1 false (.t 6), none, [3]⟩,
      ⟨(some 8), .call 36 [(.t 7)], none, [1, 0, 3, 2, 4]⟩,
      ⟨(some 9), .faddr 0 (.t 1), none, [4, 3, 2, 1, 0]⟩,
      ⟨none, .store 1 (.t 9) (.t 5), none, [4, 3, 1, 0, 5, 2, 6]⟩,
      ⟨(some 10), .faddr 2 (.t 1), none, [7, 6, 5, 4, 3, 2, 1, 0]⟩,
      ⟨none, .store 1 (.t 10) (.t 8), none, [6, 4, 3, 2, 1, 0, 7, 5, 8]⟩] true)
    (.seq
     (.region [
       ⟨(some 11), .load 10 true (.t 1), none, []⟩,
       ⟨none, .store 10 (.t 2) (.t 11), none, [0, 0]⟩] false)
     .ret)))
def rv38 : List RV := [.c 2 10 true]
theorem rc38_ok : comp Try.prog Try.f38.ntmps (Try.f38.body.getD .skip) = some (erase rc38) := by kernel_rfl
theorem rv38_ok : compRes Try.prog Try.f38.results.toList = some rv38 := by kernel_rfl

/-- (baseboard/console.number).next [64] -/
def rc39 : RC :=
  (.seq
   (.region [
     ⟨(some 2), .mov (.c (.int .i64 0)), none, []⟩] false)
   (.seq
    (.region [
      ⟨(some 3), .mov (.t 0), none, []⟩,
      ⟨(some 4), .arith .rem (.t 3) (.c (.int .i64 15)), none, [0]⟩,
      ⟨(some 5), .arith .add (.t 4) (.c (.int .i64 1)), none, [1]⟩,
      ⟨(some 2), .mov (.t 5), none, [2, 0, 1, 2]⟩] false)
    .ret))
def rv39 : List RV := [.t 2]
theorem rc39_ok : comp Try.prog Try.f39.ntmps (Try.f39.body.getD .skip) = some (erase rc39) := by kernel_rfl
theorem rv39_ok : compRes Try.prog Try.f39.results.toList = some rv39 := by kernel_rfl

/-- baseboard/baseboardref36.Copy [38] -/
def rc40 : RC :=
  (.seq
   (.region [
     ⟨(some 1), .box 10 (.t 0), none, []⟩,
     ⟨(some 2), .alloc [.nil, .bool false, .nil, .bool false, .bool false, .int .i64 0, .int .i64 0, .int .i64 0, .int .i64 0, .int .i64 0], none, []⟩] false)
   (.seq
    (.region [
      ⟨(some 3), .faddr 0 (.t 1), none, []⟩,
      ⟨(some 4), .load 1 false (.t 3), none, [0]⟩,
      ⟨(some 5), .appD 5 1 [.int .u8 0] (.c (.nil)) (.t 4), none, [0, 1]⟩,
      ⟨(some 6), .faddr 2 (.t 1), none, []⟩,
      ⟨(some 7), .load 1 false (.t 6), none, [3]⟩,
      ⟨(some 8), .appD 5 1 [.int .u8 0] (.c (.nil)) (.t 7), none, [1, 0, 3, 2, 4]⟩,
      ⟨(some 9), .faddr 0 (.t 1), none, [4, 3, 2, 1, 0]⟩,
      ⟨none, .store 1 (.t 9) (.t 5), none, [4, 3, 1, 0, 5, 2, 6]⟩,
      ⟨(some 10), .faddr 2 (.t 1), none, [7, 6, 5, 4, 3, 2, 1, 0]⟩,
      ⟨none, .store 1 (.t 10) (.t 8), none, [6, 4, 3, 2, 1, 0, 7, 5, 8]⟩] true)
    (.seq
     (.region [
       ⟨(some 11), .load 10 true (.t 1), none, []⟩,
       ⟨none, .store 10 (.t 2) (.t 11), none, [0, 0]⟩] false)
     .ret)))
def rv40 : List RV := [.c 2 10 true]
theorem rc40_ok : comp Try.prog Try.f40.ntmps (Try.f40.body.getD .skip) = some (erase rc40) := by kernel_rfl
theorem rv40_ok : compRes Try.prog Try.f40.results.toList = some rv40 := by kernel_rfl

/-- baseboard/baseboardref36.next [3] -/
def rc41 : RC :=
  (.seq
   (.region [
     ⟨(some 2), .mov (.c (.int .i64 0)), none, []⟩] false)
   (.seq
    (.region [
      ⟨(some 3), .mov (.t 0), none, []⟩,
      ⟨(some 4), .arith .rem (.t 3) (.c (.int .i64 15)), none, [0]⟩,
      ⟨(some 5), .arith .add (.t 4) (.c (.int .i64 1)), none, [1]⟩,
      ⟨(some 2), .mov (.t 5), none, [2, 0, 1, 2]⟩] false)
    .ret))
def rv41 : List RV := [.t 2]
theorem rc41_ok : comp Try.prog Try.f41.ntmps (Try.f41.body.getD .skip) = some (erase rc41) := by kernel_rfl
theorem rv41_ok : compRes Try.prog Try.f41.results.toList = some rv41 := by kernel_rfl

/-- (baseboard/console.number).right [64] -/
def rc42 : RC :=
  (.seq
   (.region [
     ⟨(some 2), .mov (.c (.bool false)), none, []⟩] false)
   (.seq
    (.region [
      ⟨(some 3), .mov (.t 0), none, []⟩,
      ⟨(some 4), .cmp .geq 0 (.t 3) (.c (.int .i64 0)), none, [0]⟩,
      ⟨(some 5), .mov (.t 4), none, [1]⟩,
      ⟨(some 6), .mov (.t 0), (some (5, true)), [2]⟩,
      ⟨(some 7), .cmp .leq 0 (.t 6) (.c (.int .i64 15)), (some (5, true)), [3, 2]⟩,
      ⟨(some 8), .pick (.t 5) (.t 7) (.c (.bool false)), none, [2, 4]⟩,
      ⟨(some 2), .mov (.t 8), none, [5, 2, 0, 1, 2, 3, 4, 5]⟩] false)
    .ret))
def rv42 : List RV := [.t 2]
theorem rc42_ok : comp Try.prog Try.f42.ntmps (Try.f42.body.getD .skip) = some (erase rc42) := by kernel_rfl
theorem rv42_ok : compRes Try.prog Try.f42.results.toList = some rv42 := by kernel_rfl

/-- baseboard/baseboardref36.in [3, 3, 3] -/
def rc43 : RC :=
  (.seq
   (.region [
     ⟨(some 6), .mov (.c (.bool false)), none, []⟩] false)
   (.seq
    (.region [
      ⟨(some 7), .mov (.t 0), none, []⟩,
      ⟨(some 8), .mov (.t 1), none, []⟩,
      ⟨(some 9), .cmp .geq 0 (.t 7) (.t 8), none, [0, 1]⟩,
      ⟨(some 10), .mov (.t 9), none, [2]⟩,
      ⟨(some 11), .mov (.t 0), (some (10, true)), [3]⟩,
      ⟨(some 12), .mov (.t 2), (some (10, true)), [3]⟩,
      ⟨(some 13), .cmp .leq 0 (.t 11) (.t 12), (some (10, true)), [4, 5, 3]⟩,
      ⟨(some 14), .pick (.t 10) (.t 13) (.c (.bool false)), none, [3, 6]⟩,
      ⟨(some 6), .mov (.t 14), none, [7, 3, 0, 1, 2, 3, 4, 5, 6, 7]⟩] false)
    .ret))
def rv43 : List RV := [.t 6]
theorem rc43_ok : comp Try.prog Try.f43.ntmps (Try.f43.body.getD .skip) = some (erase rc43) := by kernel_rfl
theorem rv43_ok : compRes Try.prog Try.f43.results.toList = some rv43 := by kernel_rfl

end Go.Proofs.Ytknapnleecepaaa

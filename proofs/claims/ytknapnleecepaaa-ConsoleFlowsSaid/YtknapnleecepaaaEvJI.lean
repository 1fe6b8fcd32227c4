/- A part of the proof: symbolic evaluation of the program's functions, proved sound against the model; no condition. -/
import Derived.Test.YtknapnleecepaaaEvJG
namespace Go.Proofs.Ytknapnleecepaaa
open Go Go.RowKit Go.Ev
set_option linter.unusedSimpArgs false
set_option linter.unusedVariables false
set_option maxRecDepth 20000
/-- baseboard/baseboardlaw36.ConsoleTexts [24, 22, 5, 5, 5, 4, 22] -/
def rc3 : RC :=
  (.seq
   (.region [
     ⟨(some 7), .box 5 (.t 0), none, []⟩,
     ⟨(some 14), .mov (.c (.bool false)), none, []⟩] false)
   (.seq
    (.seq
     (.region [
       ⟨(some 30), .call 8 [], none, []⟩,
       ⟨(some 31), .not (.t 30), none, [0]⟩] false)
     (.cond (.t 31)
      (.seq
       (.region [
         ⟨(some 14), .mov (.c (.bool false)), none, []⟩] false)
       .ret)
      .skip))
    (.seq
     (.seq
      (.region [
        ⟨(some 32), .faddr 4 (.t 7), none, []⟩,
        ⟨(some 33), .load 1 false (.t 32), none, [0]⟩,
        ⟨(some 34), .len 0 (.t 33), none, [1]⟩,
        ⟨(some 35), .cmp .gtr 0 (.t 34) (.c (.int .i64 300)), none, [2]⟩,
        ⟨(some 36), .mov (.t 35), none, [3]⟩,
        ⟨(some 37), .mov (.t 1), (some (36, false)), [4]⟩,
        ⟨(some 38), .len 0 (.t 37), (some (36, false)), [5, 4]⟩,
        ⟨(some 39), .cmp .gtr 0 (.t 38) (.c (.int .i64 300)), (some (36, false)), [6, 4]⟩,
        ⟨(some 40), .pick (.t 36) (.c (.bool true)) (.t 39), none, [4, 7]⟩,
        ⟨(some 41), .mov (.t 40), none, [8, 4]⟩,
        ⟨(some 42), .mov (.t 6), (some (41, false)), [9]⟩,
        ⟨(some 43), .len 0 (.t 42), (some (41, false)), [10, 9]⟩,
        ⟨(some 44), .cmp .gtr 0 (.t 43) (.c (.int .i64 300)), (some (41, false)), [11, 9]⟩,
        ⟨(some 45), .pick (.t 41) (.c (.bool true)) (.t 44), none, [9, 12]⟩] false)
      (.cond (.t 45)
       (.seq
        (.region [
          ⟨(some 14), .mov (.c (.bool true)), none, []⟩] false)
        .ret)
       .skip))
     (.seq
      (.region [
        ⟨(some 46), .mov (.t 2), none, []⟩,
        ⟨(some 47), .arith .rem (.t 46) (.c (.int .u8 17)), none, [0]⟩,
        ⟨(some 48), .conv .i64 (.t 47), none, [1]⟩,
        ⟨(some 49), .mov (.t 3), none, []⟩,
        ⟨(some 50), .arith .rem (.t 49) (.c (.int .u8 17)), none, [3]⟩,
        ⟨(some 51), .conv .i64 (.t 50), none, [4]⟩,
        ⟨(some 52), .mov (.t 4), none, []⟩,
        ⟨(some 53), .arith .rem (.t 52) (.c (.int .u8 66)), none, [6]⟩,
        ⟨(some 54), .conv .i64 (.t 53), none, [7]⟩,
        ⟨(some 55), .mov (.t 5), none, []⟩,
        ⟨(some 56), .mov (.t 6), none, []⟩,
        ⟨(some 57), .build [.int .i64 0, .int .i64 0, .int .i64 0, .bool false, .nil] [(0, 1, (.t 48)), (1, 1, (.t 51)), (2, 1, (.t 54)), (3, 1, (.t 55)), (4, 1, (.t 56))], none, [2, 5, 8, 9, 10]⟩,
        ⟨(some 15), .alloc [.int .i64 0, .int .i64 0, .int .i64 0, .bool false, .nil], none, []⟩,
        ⟨none, .store 5 (.t 15) (.t 57), none, [12, 11, 0, 1, 2, 3, 4, 5, 6, 7, 8, 9, 10, 11, 12]⟩] false)
      (.seq
       (.seq
        (.region [
          ⟨(some 58), .load 5 true (.t 7), none, []⟩,
          ⟨(some 59), .load 5 true (.t 15), none, []⟩,
          ⟨(some 60), .bsliceO 24 2 [.int .i64 0, .int .i64 0, .int .i64 0, .bool false, .nil] [(0, (.t 58)), (1, (.t 59))], none, [0, 1]⟩,
          ⟨(some 61), .len 0 (.t 60), none, [2]⟩,
          ⟨(some 62), .mov (.c (.int .i64 0)), none, []⟩] false)
        (.block 0
         (.loop 0
          (.seq
           (.region [
             ⟨(some 63), .cmp .lss 0 (.t 62) (.t 61), none, []⟩] false)
           (.seq
            (.cond (.t 63)
             .skip
             (.exit 0))
            (.seq
             (.block 1
              (.seq
               (.region [
                 ⟨(some 64), .iaddrS [.int .i64 0, .int .i64 0, .int .i64 0, .bool false, .nil] (.t 60) (.t 62), none, []⟩,
                 ⟨(some 65), .load 5 true (.t 64), none, [0]⟩,
                 ⟨(some 17), .alloc [.int .i64 0, .int .i64 0, .int .i64 0, .bool false, .nil], none, []⟩,
                 ⟨none, .store 5 (.t 17) (.t 65), none, [2, 1, 0, 1, 2]⟩] false)
               (.seq
                (.region [
                  ⟨(some 67), .load 5 true (.t 17), none, []⟩,
                  ⟨(some 68), .call 9 [(.t 67)], none, [0]⟩,
                  ⟨(some 66), .mov (.t 68), none, [1]⟩,
                  ⟨(some 69), .extract 0 (.t 66), none, [2]⟩,
                  ⟨(some 70), .extract 1 (.t 66), none, [2]⟩,
                  ⟨(some 18), .mov (.t 69), none, [3, 1, 0, 1, 2, 3]⟩,
                  ⟨(some 19), .mov (.t 70), none, [4, 5, 0, 1, 2, 3, 4, 5]⟩] false)
                (.seq
                 (.region [
                   ⟨(some 72), .load 5 true (.t 17), none, []⟩,
                   ⟨(some 73), .call 10 [(.t 72)], none, [0]⟩,
                   ⟨(some 71), .mov (.t 73), none, [1]⟩,
                   ⟨(some 74), .extract 0 (.t 71), none, [2]⟩,
                   ⟨(some 75), .extract 1 (.t 71), none, [2]⟩,
                   ⟨(some 20), .mov (.t 74), none, [3, 1, 0, 1, 2, 3]⟩,
                   ⟨(some 21), .mov (.t 75), none, [4, 5, 0, 1, 2, 3, 4, 5]⟩] false)
                 (.seq
                  (.seq
                   (.region [
                     ⟨(some 76), .mov (.t 19), none, []⟩,
                     ⟨(some 77), .mov (.t 21), none, []⟩,
                     ⟨(some 78), .cmp .neq 0 (.t 76) (.t 77), none, [0, 1]⟩,
                     ⟨(some 79), .mov (.t 78), none, [2]⟩,
                     ⟨(some 80), .mov (.t 18), (some (79, false)), [3]⟩,
                     ⟨(some 81), .b2s (.t 80), (some (79, false)), [4, 3]⟩,
                     ⟨(some 82), .mov (.t 20), (some (79, false)), [3]⟩,
                     ⟨(some 83), .b2s (.t 82), (some (79, false)), [6, 3]⟩,
                     ⟨(some 84), .cmp .neq 2 (.t 81) (.t 83), (some (79, false)), [5, 7, 3]⟩,
                     ⟨(some 85), .pick (.t 79) (.c (.bool true)) (.t 84), none, [3, 8]⟩] false)
                   (.cond (.t 85)
                    (.seq
                     (.region [
                       ⟨(some 14), .mov (.c (.bool false)), none, []⟩] false)
                     .ret)
                    .skip))
                  (.seq
                   (.region [
                     ⟨(some 86), .mov (.t 19), none, []⟩,
                     ⟨(some 87), .cmp .eql 0 (.t 86) (.c (.int .i64 0)), none, [0]⟩] false)
                   (.cond (.t 87)
                    (.seq
                     (.region [
                       ⟨(some 89), .mov (.t 18), none, []⟩,
                       ⟨(some 90), .call 11 [(.t 89)], none, [0]⟩,
                       ⟨(some 88), .mov (.t 90), none, [1]⟩,
                       ⟨(some 91), .extract 0 (.t 88), none, [2]⟩,
                       ⟨(some 92), .extract 1 (.t 88), none, [2]⟩,
                       ⟨(some 22), .alloc [.int .i64 0, .int .i64 0, .int .i64 0, .bool false, .nil], none, []⟩,
                       ⟨none, .store 5 (.t 22) (.t 91), none, [5, 3, 1, 0, 1, 2, 3, 5]⟩,
                       ⟨(some 23), .mov (.t 92), none, [4, 6, 0, 1, 2, 3, 4, 5, 6]⟩] false)
                     (.seq
                      (.region [
                        ⟨(some 93), .mov (.t 23), none, []⟩,
                        ⟨(some 94), .cmp .neq 0 (.t 93) (.c (.int .i64 0)), none, [0]⟩,
                        ⟨(some 95), .mov (.t 94), none, [1]⟩,
                        ⟨(some 96), .load 5 true (.t 22), (some (95, false)), [2]⟩,
                        ⟨(some 97), .load 5 true (.t 17), (some (95, false)), [2]⟩,
                        ⟨(some 98), .call 12 [(.t 96), (.t 97)], (some (95, false)), [3, 4, 2, 2]⟩,
                        ⟨(some 99), .not (.t 98), (some (95, false)), [5, 2]⟩,
                        ⟨(some 100), .pick (.t 95) (.c (.bool true)) (.t 99), none, [2, 6]⟩] false)
                      (.cond (.t 100)
                       (.seq
                        (.region [
                          ⟨(some 14), .mov (.c (.bool false)), none, []⟩] false)
                        .ret)
                       .skip)))
                    .skip)))))))
             (.region [
               ⟨(some 101), .arith .add (.t 62) (.c (.int .i64 1)), none, []⟩,
               ⟨(some 62), .mov (.t 101), none, [0]⟩] false)))))))
       (.seq
        (.seq
         (.region [
           ⟨(some 102), .mov (.t 1), none, []⟩,
           ⟨(some 103), .mov (.t 2), none, []⟩,
           ⟨(some 104), .arith .rem (.t 103) (.c (.int .u8 17)), none, [1]⟩,
           ⟨(some 105), .mov (.t 3), none, []⟩,
           ⟨(some 106), .arith .rem (.t 105) (.c (.int .u8 17)), none, [3]⟩,
           ⟨(some 107), .mov (.t 4), none, []⟩,
           ⟨(some 108), .arith .rem (.t 107) (.c (.int .u8 66)), none, [5]⟩,
           ⟨(some 109), .mov (.t 1), none, []⟩,
           ⟨(some 110), .len 0 (.t 109), none, [7]⟩,
           ⟨(some 111), .arith .rem (.t 110) (.c (.int .i64 3)), none, [8]⟩,
           ⟨(some 112), .conv .u8 (.t 111), none, [9]⟩,
           ⟨(some 113), .bsliceO 5 4 [.int .u8 0] [(0, (.t 104)), (1, (.t 106)), (2, (.t 108)), (3, (.t 112))], none, [2, 4, 6, 10]⟩,
           ⟨(some 114), .mov (.t 6), none, []⟩,
           ⟨(some 115), .append 5 1 [.int .u8 0] (.t 113) (.t 114), none, [11, 12]⟩,
           ⟨(some 116), .bsliceO 22 2 [.nil] [(0, (.t 102)), (1, (.t 115))], none, [0, 13]⟩,
           ⟨(some 117), .len 0 (.t 116), none, [14]⟩,
           ⟨(some 118), .mov (.c (.int .i64 0)), none, []⟩] false)
         (.block 2
          (.loop 1
           (.seq
            (.region [
              ⟨(some 119), .cmp .lss 0 (.t 118) (.t 117), none, []⟩] false)
            (.seq
             (.cond (.t 119)
              .skip
              (.exit 2))
             (.seq
              (.block 3
               (.seq
                (.region [
                  ⟨(some 120), .iaddrS [.nil] (.t 116) (.t 118), none, []⟩,
                  ⟨(some 121), .load 1 false (.t 120), none, [0]⟩,
                  ⟨(some 25), .mov (.t 121), none, [1, 0, 1]⟩] false)
                (.seq
                 (.region [
                   ⟨(some 123), .mov (.t 25), none, []⟩,
                   ⟨(some 124), .call 11 [(.t 123)], none, [0]⟩,
                   ⟨(some 122), .mov (.t 124), none, [1]⟩,
                   ⟨(some 125), .extract 0 (.t 122), none, [2]⟩,
                   ⟨(some 126), .extract 1 (.t 122), none, [2]⟩,
                   ⟨(some 26), .alloc [.int .i64 0, .int .i64 0, .int .i64 0, .bool false, .nil], none, []⟩,
                   ⟨none, .store 5 (.t 26) (.t 125), none, [5, 3, 1, 0, 1, 2, 3, 5]⟩,
                   ⟨(some 27), .mov (.t 126), none, [4, 6, 0, 1, 2, 3, 4, 5, 6]⟩] false)
                 (.seq
                  (.region [
                    ⟨(some 128), .mov (.t 25), none, []⟩,
                    ⟨(some 129), .call 13 [(.t 128)], none, [0]⟩,
                    ⟨(some 127), .mov (.t 129), none, [1]⟩,
                    ⟨(some 130), .extract 0 (.t 127), none, [2]⟩,
                    ⟨(some 131), .extract 1 (.t 127), none, [2]⟩,
                    ⟨(some 28), .alloc [.int .i64 0, .int .i64 0, .int .i64 0, .bool false, .nil], none, []⟩,
                    ⟨none, .store 5 (.t 28) (.t 130), none, [5, 3, 1, 0, 1, 2, 3, 5]⟩,
                    ⟨(some 29), .mov (.t 131), none, [4, 6, 0, 1, 2, 3, 4, 5, 6]⟩] false)
                  (.seq
                   (.region [
                     ⟨(some 132), .mov (.t 27), none, []⟩,
                     ⟨(some 133), .mov (.t 29), none, []⟩,
                     ⟨(some 134), .cmp .neq 0 (.t 132) (.t 133), none, [0, 1]⟩,
                     ⟨(some 135), .mov (.t 134), none, [2]⟩,
                     ⟨(some 136), .load 5 true (.t 26), (some (135, false)), [3]⟩,
                     ⟨(some 137), .load 5 true (.t 28), (some (135, false)), [3]⟩,
                     ⟨(some 138), .call 12 [(.t 136), (.t 137)], (some (135, false)), [4, 5, 3, 3]⟩,
                     ⟨(some 139), .not (.t 138), (some (135, false)), [6, 3]⟩,
                     ⟨(some 140), .pick (.t 135) (.c (.bool true)) (.t 139), none, [3, 7]⟩] false)
                   (.cond (.t 140)
                    (.seq
                     (.region [
                       ⟨(some 14), .mov (.c (.bool false)), none, []⟩] false)
                     .ret)
                    .skip))))))
              (.region [
                ⟨(some 141), .arith .add (.t 118) (.c (.int .i64 1)), none, []⟩,
                ⟨(some 118), .mov (.t 141), none, [0]⟩] false)))))))
        (.seq
         (.region [
           ⟨(some 14), .mov (.c (.bool true)), none, []⟩] false)
         .ret)))))))
def rv3 : List RV := [.t 14]
theorem rc3_ok : comp Try.prog Try.f3.ntmps (Try.f3.body.getD .skip) = some (erase rc3) := by kernel_rfl
theorem rv3_ok : compRes Try.prog Try.f3.results.toList = some rv3 := by kernel_rfl
def DAw : Ctr := .mk false fun _ xs => match xs with
  | [] => some (True, .bool true, [])
  | _ => none
def pkc (i : Nat) (a b : Ck) : Ck := if i = 0 then a else b
theorem getE_ck2 (a b : Ck) (i : Nat) (h : decide ((i : Int) < 2) = true) : getE [.int .i64 0, .int .i64 0, .int .i64 0, .bool false, .nil] [[.int .i64 a.sq, .int .i64 a.ak, .int .i64 a.ct, .bool a.bk, .lst [.int .u8 0] (u8s a.d)], [.int .i64 b.sq, .int .i64 b.ak, .int .i64 b.ct, .bool b.bk, .lst [.int .u8 0] (u8s b.d)]] i =
    [.int .i64 (pkc i a b).sq, .int .i64 (pkc i a b).ak, .int .i64 (pkc i a b).ct, .bool (pkc i a b).bk, .lst [.int .u8 0] (u8s (pkc i a b).d)] := by
  have h := of_decide_eq_true h
  have : i = 0 ∨ i = 1 := by omega
  rcases this with rfl | rfl <;> rfl
def pkl (i : Nat) (a b : List Int) : List Int := if i = 0 then a else b
theorem getE_by2 (a b : List Int) (i : Nat) (h : decide ((i : Int) < 2) = true) : getE [.nil] [[.lst [.int .u8 0] (u8s a)], [.lst [.int .u8 0] (u8s b)]] i = [.lst [.int .u8 0] (u8s (pkl i a b))] := by
  have h := of_decide_eq_true h
  have : i = 0 ∨ i = 1 := by omega
  rcases this with rfl | rfl <;> rfl
theorem pkl_p {p : List Int → Prop} {a b : List Int} (ha : p a) (hb : p b) (i : Nat) : p (pkl i a b) := by unfold pkl; split <;> assumption
theorem pkc_p {p : Ck → Prop} {a b : Ck} (ha : p a) (hb : p b) (i : Nat) : p (pkc i a b) := by unfold pkc; split <;> assumption
theorem Okb.drop {l : List Int} (h : Okb l) (n : Nat) : Okb (l.drop n) := fun k hk => h k (List.mem_of_mem_drop hk)
theorem Okb.take {l : List Int} (h : Okb l) (n : Nat) : Okb (l.take n) := fun k hk => h k (List.mem_of_mem_take hk)
theorem enB_ok {c : Ck} (h : Okb c.d) : Okb (enB c) := by
  unfold enB
  split
  · rename_i hP
    obtain ⟨⟨_, _⟩, ⟨_, _⟩, ⟨_, _⟩, _⟩ := hP
    refine .app (.cons (by omega) (.cons (by omega) (.cons (by omega) (.cons ?_ .nil)))) h
    split <;> decide
  · exact .nil
theorem enB_len (c : Ck) : (enB c).length ≤ 68 := by
  unfold enB
  split
  · rename_i hP
    obtain ⟨_, _, _, h, _⟩ := hP
    simp only [List.length_append, List.length_cons, List.length_nil]; omega
  · simp
/-- What is encoded comes back. -/
theorem de_en {c : Ck} (h : ckP c) : deE (enB c) = 0 ∧ deC (enB c) = c := by
  have e : enB c = [c.sq, c.ak, c.ct, if c.bk then 1 else 0] ++ c.d := if_pos h
  have hl := enB_len c
  have hr : rwC (enB c) = c := by
    rw [e]
    obtain ⟨sq, ak, ct, bk, d⟩ := c
    cases bk <;> rfl
  have h3 : (enB c).getD 3 0 ≤ 1 := by
    rw [e]
    show (if c.bk then (1 : Int) else 0) ≤ 1
    split <;> decide
  have h4 : 4 ≤ (enB c).length := by rw [e]; simp
  have h0 : deE (enB c) = 0 := de_0 (by omega) (by omega) (by rw [hr]; rintro (h5 | h5); exact absurd h5 (by omega); exact h5 h)
  exact ⟨h0, by rw [deC, if_pos h0, hr]⟩
structure K3a (x : Ck) (b : List Int) (sq ak ct : Int) (d : List Int) where
  i : Nat
  y : Ck
  hi : i ≤ 2
  hy : y.d.length ≤ 300 ∧ Okb y.d
def S3a (x : Ck) (b : List Int) (sq ak ct : Int) (d : List Int) (p : K3a x b sq ak ct d) : SL := ⟨[(1, .lst [.int .u8 0] (u8s b)), (2, .int .u8 sq), (3, .int .u8 ak), (4, .int .u8 ct), (6, .lst [.int .u8 0] (u8s d)), (60, .lst [.int .i64 0, .int .i64 0, .int .i64 0, .bool false, .nil] [[.int .i64 x.sq, .int .i64 x.ak, .int .i64 x.ct, .bool x.bk, .lst [.int .u8 0] (u8s x.d)], [.int .i64 p.y.sq, .int .i64 p.y.ak, .int .i64 p.y.ct, .bool p.y.bk, .lst [.int .u8 0] (u8s p.y.d)]]), (61, .int .i64 2), (62, .int .i64 p.i)], []⟩
abbrev L3a (x : Ck) (b : List Int) (sq ak ct : Int) (d : List Int) : LI := ⟨K3a x b sq ak ct d, S3a x b sq ak ct d, fun p => 2 - p.i, fun p q => True⟩
theorem L3aS (x : Ck) (b : List Int) (sq ak ct : Int) (d : List Int) : (L3a x b sq ak ct d).S = S3a x b sq ak ct d := rfl
theorem L3aM (x : Ck) (b : List Int) (sq ak ct : Int) (d : List Int) (p : K3a x b sq ak ct d) : (L3a x b sq ak ct d).μ p = 2 - p.i := rfl
theorem L3aR (x : Ck) (b : List Int) (sq ak ct : Int) (d : List Int) (p q : K3a x b sq ak ct d) : (L3a x b sq ak ct d).R p q = (True) := rfl
structure K3b (x : Ck) (b : List Int) (sq ak ct : Int) (d : List Int) where
  i : Nat
  q : List Int
  hi : i ≤ 2
  hq : q.length ≤ 1000 ∧ Okb q
def S3b (x : Ck) (b : List Int) (sq ak ct : Int) (d : List Int) (p : K3b x b sq ak ct d) : SL := ⟨[(116, .lst [.nil] [[.lst [.int .u8 0] (u8s b)], [.lst [.int .u8 0] (u8s p.q)]]), (117, .int .i64 2), (118, .int .i64 p.i)], []⟩
abbrev L3b (x : Ck) (b : List Int) (sq ak ct : Int) (d : List Int) : LI := ⟨K3b x b sq ak ct d, S3b x b sq ak ct d, fun p => 2 - p.i, fun p q => True⟩
theorem L3bS (x : Ck) (b : List Int) (sq ak ct : Int) (d : List Int) : (L3b x b sq ak ct d).S = S3b x b sq ak ct d := rfl
theorem L3bM (x : Ck) (b : List Int) (sq ak ct : Int) (d : List Int) (p : K3b x b sq ak ct d) : (L3b x b sq ak ct d).μ p = 2 - p.i := rfl
theorem L3bR (x : Ck) (b : List Int) (sq ak ct : Int) (d : List Int) (p q : K3b x b sq ak ct d) : (L3b x b sq ak ct d).R p q = (True) := rfl
def I3 (x : Ck) (b : List Int) (sq ak ct : Int) (d : List Int) : Nat → LI := fun n => if n = 0 then L3a x b sq ak ct d else L3b x b sq ak ct d
theorem I3_0 (x : Ck) (b : List Int) (sq ak ct : Int) (d : List Int) : I3 x b sq ak ct d 0 = L3a x b sq ak ct d := rfl
theorem I3_1 (x : Ck) (b : List Int) (sq ak ct : Int) (d : List Int) : I3 x b sq ak ct d 1 = L3b x b sq ak ct d := rfl
set_option maxHeartbeats 4000000 in
theorem walk3 {Phi : Nat → Option Ctr} (P8 : Phi 8 = some DAw) (P9 : Phi 9 = some DEn) (P10 : Phi 10 = some DEn) (P11 : Phi 11 = some DDe) (P12 : Phi 12 = some DSc) (P13 : Phi 13 = some DDe) (x : Ck) (b : List Int) (sq ak ct : Int) (bk : Bool) (d : List Int) (hx : Okb x.d) (hb : Okb b) (hd : Okb d) (h1 : 0 ≤ sq ∧ sq ≤ 255) (h2 : 0 ≤ ak ∧ ak ≤ 255) (h3 : 0 ≤ ct ∧ ct ≤ 255) : evC Phi (I3 x b sq ak ct d) rc3 ⟨initS [x.av, .lst [.int .u8 0] (u8s b), .int .u8 sq, .int .u8 ak, .int .u8 ct, .bool bk, .lst [.int .u8 0] (u8s d)], initM false []⟩ (kRet rv3 (.bool true) false []) := by
  simp (config := {maxSteps := 2000000, contextual := true}) only [rc3, Ck.av, initM_f, rv3, evC_seq, evC_region, eo_box, evG_no, Option.getD_some, ev_box, av_t, initS_at, List.getD_cons_zero, gv_agg, bind1_some', boxR_eq, cells_agg, List.length_cons, List.length_nil, Nat.zero_add, Nat.reduceAdd, ↓reduceIte, bxO_some, Nat.reduceMul, goOp_some, put_n, killB_cells, List.map_cons, kill0_int, kill0_bool, kill0_lst, List.map_nil, eo_mov, ev_mov, av_c, gv_bool, un1_mov, put_q, evOps_nil, kEnd_at, hasG_no, hasG_nil, kEndB_f, kSeq_n, eo_call, P8, DAw, evCl_mk, ev_call, avs_nil, clE_some, callE_pure, lends_nil, callN_some, callP_some, List.nil_append, c2_bool, flat2_bool, backOK_nil, Bool.and_self, clQ_t, eo_not, ev_not, upd_at, un1_not, Bool.not_true, evC_cond, evC_ret, kSeq_r, kRet_r, retOK_eq, retL_cons, retV_t, retL_nil, consO_some, lkR_one, lk1_bool, lkT_f, applyL_nil, retOK_f, rtO_some, resV_one, leV1_bool, and_true, knowL_nil, askL_nil, evC_skip, eo_faddr, ev_faddr, Nat.reduceEqDiff, gv_ptr, faddr_ptr, eo_load, ev_load, load_ptr, updM_at, ldB_cells, valOf_one, List.getElem?_cons_succ, List.getElem?_cons_zero, ldV_some, eo_len, ev_len, gv_lst, len_lst, u8s_len, eo_cmp, ev_cmp, gv_int, cmp2_some, cmp_gtr, toR_some', evG_yes, pathG_bool, gG_some, killS_at, List.getD_cons_succ, kill3_lst, guardR_q, guardL_nil, gv_gd, List.contains_cons, List.contains_nil, Bool.or_false, List.all_cons, beq_self_eq_true, List.all_nil, gvB_true, eo_pick, ev_pick, pick3_some, pickV_bool, Bool.cond_true_left, hasG_yes, kEndB_t, and_self, ungdS_at, kill3_int, ungd_int, eo_arith, ev_arith, bind2_some', arith_rem, eo_conv, ev_conv, un1_conv, kill3_bool, ungd_bool, ungd_lst, eo_build, ev_build, fillA_cons, faK_some, cells_int, faC_some, Nat.reduceLeDiff, setC_cons, List.set_cons_zero, setC_nil, List.set_cons_succ, cells_bool, cells_lst, fillA_nil, blO_some, eo_alloc, ev_alloc, kill0_nil, eo_store, ar_t, kill3_agg, vwsT_ptr, frzL_nil, goF_eq, Option.getD_none, ev_store, store_ptr, stB_cells, decide_true, stC_true, put_s, liveB_cells, ungd_ptr, kill3_ptr, killM_at, killO_some, valOf_agg, valB_true, List.drop_zero, List.take_succ_cons, List.take_zero, eo_bsliceO, vwsG_cons, vws1_agg, vwsL_cons, vws0_int, vws0_bool, vws0_lst, vwsL_nil, vwsG_nil, ev_bsliceO, List.replicate_succ, List.replicate_zero, fillS_cons, fsK_some, fsC_some, Nat.reduceLT, c0_int, c0_bool, c0_lst, fillS_nil, blO2_some, killB_buf, gv_vw, len_vw, lenV_buf, evC_block, evC_loop, I3_0, L3aS, S3a, SL_ge, lkL_cons, lkS_lst, lkS_int, lkS_vw_lst, lkL_nil, List.cons_append, lkM_nil, applyL_frz, frzQ_buf, frzP_t, SL_ge0, leL_cons, frzSl_at, frz3_lst, leV1_lst, frz3_int, leV1_int, frz3_vw, leL_nil, true_and, leM_nil, L3aR, SL_st, lookL_cons, cmp_lss, eo_iaddrS, ev_iaddrS, iaddrS_lst, iasB_true, Int.toNat_natCast, gv_ep, load_ep, knowL_cons, true_imp_iff, askL_cons, evC_exit, kSeq_e, kLoop_e, kBlk_e, kBlkB_t, vws1_int, eo_append, ev_append, appR_vw, ysOf_lst, appV_buf, appK_some, Nat.mul_one, vws1_lst, vws1_vw, frzL_cons, I3_1, L3bS, S3b, L3bR, condK_bool, getE_by2, P11, DDe, avs_cons, lends_cons, lend1_lst, consL_some', decU_u8s, c2_tup, c1_agg, c1_int, flat2_tup, flat1_agg, flat0_int, flat0_bool, flat0_lst, Bool.and_true, Bool.true_and, flat1_int, gv_tup, eo_extract, ev_extract, un1_extract, P13, cmp_neq, eo_call_g, P12, DSc, lend1_agg, lendC_cons, lendA_int, lendA_bool, lendA_lst, lendC_nil, aggL_some, guardL_cons, pathP_cons, boolOf_bool, pathP_nil, imp_self, Bool.cond_false_right, kBlk_r, kLoop_r, kBlk_n, arith_add, kLoop_n, Bool.false_eq_true, false_imp_iff, implies_true, getE_ck2, P9, DEn, Ck.eta, c1_lst, flat1_lst, P10, eo_b2s, ev_b2s, b2s_lst, ByteE_u8s, bytesOf_u8s, cmp_neqS, cmp_eql]
  intro _ h
  simp only [Bool.or_eq_false_iff, decide_eq_false_iff_not] at h
  obtain ⟨⟨l1, l2⟩, l3⟩ := h
  have e17 : ∀ n : Int, 0 ≤ n ∧ n ≤ 255 → 0 ≤ n.tmod 17 ∧ n.tmod 17 ≤ 255 := fun n h => by rw [tmod_nn n 17 h.1]; omega
  have e66 : 0 ≤ ct.tmod 66 ∧ ct.tmod 66 ≤ 255 := by rw [tmod_nn ct 66 h3.1]; omega
  refine ⟨by decide, by decide, by decide, ⟨0, ⟨IntKind.i64.wrap (sq.tmod 17), IntKind.i64.wrap (ak.tmod 17), IntKind.i64.wrap (ct.tmod 66), bk, d⟩, by omega, by dsimp only; omega, hd⟩, ⟨rfl, rfl, rfl⟩, ?_⟩
  rintro ⟨i, y, hi, hy⟩
  dsimp only
  have hp : (pkc i x y).d.length ≤ 300 ∧ Okb (pkc i x y).d := pkc_p (p := fun c => c.d.length ≤ 300 ∧ Okb c.d) ⟨by omega, hx⟩ hy i
  refine ⟨fun hc => ?_, fun hc => ?_⟩
  · have hc := of_decide_eq_true hc
    refine ⟨⟨by omega, by omega⟩, by omega, by omega, fun he => ?_, fun _ => ⟨⟨i + 1, y, by omega, hy⟩, ⟨rfl, AV.int_inj' (wr_succ i (by omega))⟩, by dsimp only; omega⟩⟩
    have hl := enB_len (pkc i x y)
    have hP : ckP (pkc i x y) := by
      have he := of_decide_eq_true he
      by_cases hP : ckP (pkc i x y)
      · exact hP
      · rw [enE, if_neg hP] at he; exact absurd he (by decide)
    obtain ⟨e1, e2⟩ := de_en hP
    rw [e1, e2]
    exact ⟨⟨by omega, enB_ok hp.2⟩, fun hk => (by simp at hk), fun _ => ⟨⟨i + 1, y, by omega, hy⟩, ⟨rfl, AV.int_inj' (wr_succ i (by omega))⟩, by dsimp only; omega⟩⟩
  · refine ⟨by decide, by decide, by decide, fun _ => ⟨by decide, by omega, by omega, ⟨0, [sq.tmod 17, ak.tmod 17, ct.tmod 66, IntKind.u8.wrap ((b.length : Int).tmod 3)] ++ d, by omega, ?_, ?_⟩, ⟨rfl, rfl, rfl⟩, ?_⟩⟩
    · simp only [List.length_append, List.length_cons, List.length_nil]; omega
    · exact .app (.cons (e17 sq h1) (.cons (e17 ak h2) (.cons e66 (.cons (by rw [IntKind.wrap_u8]; omega) .nil)))) hd
    · rintro ⟨i2, q, hi2, hq⟩
      dsimp only
      intro hc2
      have hc2 := of_decide_eq_true hc2
      have hp2 : (pkl i2 b q).length ≤ 1000 ∧ Okb (pkl i2 b q) := pkl_p (p := fun l => l.length ≤ 1000 ∧ Okb l) ⟨by omega, hb⟩ hq i2
      exact ⟨⟨by omega, by omega⟩, ⟨by omega, hp2.2⟩, ⟨by omega, hp2.2⟩, ⟨i2 + 1, q, by omega, hq⟩, ⟨rfl, AV.int_inj' (wr_succ i2 (by omega))⟩, by dsimp only; omega⟩
end Go.Proofs.Ytknapnleecepaaa

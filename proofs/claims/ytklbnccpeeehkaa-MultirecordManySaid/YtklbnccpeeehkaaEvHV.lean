/- A part of the proof: symbolic evaluation of the program's functions, proved sound against the model; no condition. -/
import Derived.Test.YtklbnccpeeehkaaEvHU
namespace Go.Proofs.Ytklbnccpeeehkaa
open Go Go.RowKit Go.Ev
set_option linter.unusedSimpArgs false
set_option linter.unusedVariables false
set_option maxRecDepth 20000
/-- baseboard/baseboardlaw18.MultirecordMany [3, 3] -/
def rc7 : RC :=
  (.seq
   (.region [
     ⟨(some 4), .mov (.c (.bool false)), none, []⟩] false)
   (.seq
    (.region [
      ⟨(some 18), .mov (.t 0), none, []⟩,
      ⟨(some 19), .call 16 [(.t 18), (.c (.int .i64 4))], none, [0]⟩,
      ⟨(some 20), .arith .add (.c (.int .i64 15)) (.t 19), none, [1]⟩,
      ⟨(some 5), .mov (.t 20), none, [2, 1, 0, 1, 2]⟩] false)
    (.seq
     (.region [
       ⟨(some 21), .mov (.t 1), none, []⟩,
       ⟨(some 22), .call 16 [(.t 21), (.c (.int .i64 260))], none, [0]⟩,
       ⟨(some 6), .mov (.t 22), none, [1, 1, 0, 1]⟩] false)
     (.seq
      (.region [
        ⟨(some 7), .mov (.c (.nil)), none, []⟩] false)
      (.seq
       (.region [
         ⟨(some 8), .mov (.c (.nil)), none, []⟩] false)
       (.seq
        (.seq
         (.region [
           ⟨(some 9), .mov (.c (.int .i64 0)), none, []⟩] false)
         (.block 0
          (.loop 0
           (.seq
            (.seq
             (.region [
               ⟨(some 23), .mov (.t 9), none, []⟩,
               ⟨(some 24), .mov (.t 5), none, []⟩,
               ⟨(some 25), .cmp .lss 0 (.t 23) (.t 24), none, [0, 1]⟩] false)
             (.cond (.t 25)
              .skip
              (.exit 0)))
            (.seq
             (.block 1
              (.seq
               (.region [
                 ⟨(some 28), .mov (.t 7), none, []⟩,
                 ⟨(some 29), .mov (.t 6), none, []⟩,
                 ⟨(some 30), .mkF 1 [.int .u8 0] (.t 29) (.t 29), none, [1, 1]⟩,
                 ⟨(some 31), .build [.int .u8 0, .nil] [(0, 1, (.c (.int .u8 1))), (1, 1, (.t 30))], none, [2]⟩,
                 ⟨(some 32), .bsliceO 32 1 [.int .u8 0, .nil] [(0, (.t 31))], none, [3]⟩,
                 ⟨(some 33), .append 32 32 [.int .u8 0, .nil] (.t 28) (.t 32), none, [0, 4]⟩,
                 ⟨(some 7), .mov (.t 33), none, [5, 5, 0, 1, 2, 3, 4, 5]⟩] false)
               (.seq
                (.region [
                  ⟨(some 10), .mov (.c (.int .u8 2)), none, []⟩] false)
                (.seq
                 (.seq
                  (.region [
                    ⟨(some 34), .mov (.t 9), none, []⟩,
                    ⟨(some 35), .mov (.t 5), none, []⟩,
                    ⟨(some 36), .arith .sub (.t 35) (.c (.int .i64 1)), none, [1]⟩,
                    ⟨(some 37), .cmp .eql 0 (.t 34) (.t 36), none, [0, 2]⟩] false)
                  (.cond (.t 37)
                   (.region [
                     ⟨(some 10), .mov (.c (.int .u8 130)), none, []⟩] false)
                   .skip))
                 (.seq
                  (.region [
                    ⟨(some 38), .mov (.t 10), none, []⟩,
                    ⟨(some 39), .mov (.t 6), none, []⟩,
                    ⟨(some 40), .conv .u8 (.t 39), none, [1]⟩,
                    ⟨(some 41), .bsliceO 5 4 [.int .u8 0] [(0, (.c (.int .u8 1))), (1, (.t 38)), (2, (.t 40)), (3, (.c (.int .u8 0)))], none, [0, 2]⟩,
                    ⟨(some 11), .mov (.t 41), none, [3, 0, 1, 2, 3]⟩] false)
                  (.ghost 11 (.region [
                    ⟨(some 42), .mov (.t 8), none, []⟩,
                    ⟨(some 43), .mov (.t 11), none, []⟩,
                    ⟨(some 44), .call 32 [(.t 43)], none, [1]⟩,
                    ⟨(some 45), .append 5 1 [.int .u8 0] (.t 42) (.t 44), none, [0, 2, 2]⟩,
                    ⟨(some 46), .mov (.t 6), none, []⟩,
                    ⟨(some 47), .appZ 5 1 [.int .u8 0] (.t 45) (.t 46), none, [3, 4, 3]⟩,
                    ⟨(some 8), .mov (.t 47), none, [5, 5, 0, 1, 2, 3, 4, 5]⟩] false)))))))
             (.region [
               ⟨(some 26), .mov (.t 9), none, []⟩,
               ⟨(some 27), .arith .add (.t 26) (.c (.int .i64 1)), none, [0]⟩,
               ⟨(some 9), .mov (.t 27), none, [1, 0, 1]⟩] false))))))
        (.seq
         (.region [
           ⟨(some 48), .mov (.t 5), none, []⟩,
           ⟨(some 49), .cmp .leq 0 (.t 48) (.c (.int .i64 16)), none, [0]⟩,
           ⟨(some 50), .mov (.t 49), none, [1]⟩,
           ⟨(some 51), .mov (.t 6), (some (50, true)), [2]⟩,
           ⟨(some 52), .cmp .leq 0 (.t 51) (.c (.int .i64 255)), (some (50, true)), [3, 2]⟩,
           ⟨(some 53), .pick (.t 50) (.t 52) (.c (.bool false)), none, [2, 4]⟩,
           ⟨(some 54), .mov (.t 53), none, [5, 2]⟩,
           ⟨(some 55), .mov (.t 5), (some (54, true)), [6]⟩,
           ⟨(some 56), .mov (.t 6), (some (54, true)), [6]⟩,
           ⟨(some 57), .arith .add (.c (.int .i64 5)) (.t 56), (some (54, true)), [8, 6]⟩,
           ⟨(some 58), .arith .mul (.t 55) (.t 57), (some (54, true)), [7, 9, 6]⟩,
           ⟨(some 59), .cmp .leq 0 (.t 58) (.c (.int .i64 2048)), (some (54, true)), [10, 6]⟩,
           ⟨(some 60), .pick (.t 54) (.t 59) (.c (.bool false)), none, [6, 11]⟩,
           ⟨(some 12), .mov (.t 60), none, [12, 6, 0, 1, 2, 3, 4, 5, 6, 7, 8, 9, 10, 11, 12]⟩] false)
         (.seq
          (.ghost 7 (.region [
            ⟨(some 62), .mov (.t 7), none, []⟩,
            ⟨(some 63), .call 24 [(.t 62)], none, [0]⟩,
            ⟨(some 61), .mov (.t 63), none, [1]⟩,
            ⟨(some 64), .extract 0 (.t 61), none, [2]⟩,
            ⟨(some 65), .extract 1 (.t 61), none, [2]⟩,
            ⟨(some 13), .mov (.t 64), none, [3, 1, 0, 1, 2, 3]⟩,
            ⟨(some 14), .mov (.t 65), none, [4, 5, 0, 1, 2, 3, 4, 5]⟩] false))
          (.seq
           (.seq
            (.region [
              ⟨(some 66), .mov (.t 7), none, []⟩,
              ⟨(some 67), .call 26 [(.t 66)], none, [0]⟩,
              ⟨(some 68), .mov (.t 12), none, []⟩,
              ⟨(some 69), .cmp .neq 1 (.t 67) (.t 68), none, [1, 2]⟩,
              ⟨(some 70), .mov (.t 69), none, [3, 1]⟩,
              ⟨(some 71), .mov (.t 14), (some (70, false)), [4]⟩,
              ⟨(some 72), .cmp .eql 0 (.t 71) (.c (.int .i64 0)), (some (70, false)), [5, 4]⟩,
              ⟨(some 73), .mov (.t 12), (some (70, false)), [4]⟩,
              ⟨(some 74), .cmp .neq 1 (.t 72) (.t 73), (some (70, false)), [6, 7, 4]⟩,
              ⟨(some 75), .pick (.t 70) (.c (.bool true)) (.t 74), none, [4, 8]⟩,
              ⟨(some 76), .mov (.t 75), none, [9, 4]⟩,
              ⟨(some 77), .mov (.t 12), (some (76, false)), [10]⟩,
              ⟨(some 78), .mov (.t 77), (some (76, false)), [11, 10, 10]⟩,
              ⟨(some 79), .mov (.t 13), (some (78, true)), [12]⟩,
              ⟨(some 80), .mov (.t 8), (some (78, true)), [12]⟩,
              ⟨(some 81), .call 23 [(.t 79), (.t 80)], (some (78, true)), [13, 14, 12, 12]⟩,
              ⟨(some 82), .not (.t 81), (some (78, true)), [15, 12]⟩,
              ⟨(some 83), .pick (.t 78) (.t 82) (.c (.bool false)), (some (76, false)), [12, 16, 10]⟩,
              ⟨(some 84), .pick (.t 76) (.c (.bool true)) (.t 83), none, [10, 17]⟩] false)
            (.cond (.t 84)
             (.seq
              (.region [
                ⟨(some 4), .mov (.c (.bool false)), none, []⟩] false)
              .ret)
             .skip))
           (.seq
            (.seq
             (.region [
               ⟨(some 85), .mov (.t 6), none, []⟩,
               ⟨(some 86), .cmp .gtr 0 (.t 85) (.c (.int .i64 255)), none, [0]⟩] false)
             (.cond (.t 86)
              (.seq
               (.region [
                 ⟨(some 87), .call 10 [], none, []⟩,
                 ⟨(some 4), .mov (.t 87), none, [0, 0, 0]⟩] false)
               .ret)
              .skip))
            (.seq
             (.ghost 8 (.region [
               ⟨(some 89), .mov (.t 8), none, []⟩,
               ⟨(some 90), .call 30 [(.t 89)], none, [0]⟩,
               ⟨(some 88), .mov (.t 90), none, [1]⟩,
               ⟨(some 91), .extract 0 (.t 88), none, [2]⟩,
               ⟨(some 92), .extract 1 (.t 88), none, [2]⟩,
               ⟨(some 93), .extract 2 (.t 88), none, [2]⟩,
               ⟨(some 15), .mov (.t 91), none, [3, 1, 0, 1, 2, 3]⟩,
               ⟨(some 16), .mov (.t 92), none, [4, 6, 0, 1, 2, 3, 4, 6]⟩,
               ⟨(some 17), .mov (.t 93), none, [5, 7, 0, 1, 2, 3, 4, 5, 6, 7]⟩] false))
             (.seq
              (.block 2
               (.seq
                (.region [
                  ⟨(some 95), .mov (.t 5), none, []⟩,
                  ⟨(some 96), .cmp .gtr 0 (.t 95) (.c (.int .i64 16)), none, [0]⟩,
                  ⟨(some 94), .mov (.t 96), none, [1]⟩] false)
                (.cond (.t 94)
                 (.seq
                  (.region [
                    ⟨(some 97), .mov (.t 17), none, []⟩,
                    ⟨(some 98), .cmp .eql 0 (.t 97) (.c (.int .i64 3)), none, [0]⟩,
                    ⟨(some 99), .mov (.t 98), none, [1]⟩,
                    ⟨(some 100), .mov (.t 16), (some (99, true)), [2]⟩,
                    ⟨(some 101), .cmp .eql 0 (.t 100) (.c (.int .i64 0)), (some (99, true)), [3, 2]⟩,
                    ⟨(some 102), .pick (.t 99) (.t 101) (.c (.bool false)), none, [2, 4]⟩,
                    ⟨(some 103), .mov (.t 102), none, [5, 2]⟩,
                    ⟨(some 104), .call 10 [], (some (103, true)), [6, 6]⟩,
                    ⟨(some 105), .pick (.t 103) (.t 104) (.c (.bool false)), none, [6, 7]⟩,
                    ⟨(some 4), .mov (.t 105), none, [8, 7, 0, 1, 2, 3, 4, 5, 6, 7, 8]⟩] false)
                  .ret)
                 (.seq
                  (.region [
                    ⟨(some 107), .mov (.t 12), none, []⟩,
                    ⟨(some 108), .not (.t 107), none, [0]⟩,
                    ⟨(some 106), .mov (.t 108), none, [1]⟩] false)
                  (.cond (.t 106)
                   (.seq
                    (.region [
                      ⟨(some 109), .mov (.t 17), none, []⟩,
                      ⟨(some 110), .cmp .eql 0 (.t 109) (.c (.int .i64 1)), none, [0]⟩,
                      ⟨(some 111), .mov (.t 110), none, [1]⟩,
                      ⟨(some 112), .mov (.t 16), (some (111, true)), [2]⟩,
                      ⟨(some 113), .cmp .eql 0 (.t 112) (.c (.int .i64 0)), (some (111, true)), [3, 2]⟩,
                      ⟨(some 114), .pick (.t 111) (.t 113) (.c (.bool false)), none, [2, 4]⟩,
                      ⟨(some 115), .mov (.t 114), none, [5, 2]⟩,
                      ⟨(some 116), .mov (.t 15), (some (115, true)), [6]⟩,
                      ⟨(some 117), .len 0 (.t 116), (some (115, true)), [7, 6]⟩,
                      ⟨(some 118), .cmp .eql 0 (.t 117) (.c (.int .i64 0)), (some (115, true)), [8, 6]⟩,
                      ⟨(some 119), .pick (.t 115) (.t 118) (.c (.bool false)), none, [6, 9]⟩,
                      ⟨(some 120), .mov (.t 119), none, [10, 6]⟩,
                      ⟨(some 121), .call 10 [], (some (120, true)), [11, 11]⟩,
                      ⟨(some 122), .pick (.t 120) (.t 121) (.c (.bool false)), none, [11, 12]⟩,
                      ⟨(some 4), .mov (.t 122), none, [13, 12, 0, 1, 2, 3, 4, 5, 6, 7, 8, 9, 10, 11, 12, 13]⟩] false)
                    .ret)
                   .skip)))))
              (.seq
               (.region [
                 ⟨(some 123), .mov (.t 17), none, []⟩,
                 ⟨(some 124), .cmp .eql 0 (.t 123) (.c (.int .i64 0)), none, [0]⟩,
                 ⟨(some 125), .mov (.t 124), none, [1]⟩,
                 ⟨(some 126), .mov (.t 16), (some (125, true)), [2]⟩,
                 ⟨(some 127), .mov (.t 8), (some (125, true)), [2]⟩,
                 ⟨(some 128), .len 0 (.t 127), (some (125, true)), [4, 2]⟩,
                 ⟨(some 129), .cmp .eql 0 (.t 126) (.t 128), (some (125, true)), [3, 5, 2]⟩,
                 ⟨(some 130), .pick (.t 125) (.t 129) (.c (.bool false)), none, [2, 6]⟩,
                 ⟨(some 131), .mov (.t 130), none, [7, 2]⟩,
                 ⟨(some 132), .mov (.t 15), (some (131, true)), [8]⟩,
                 ⟨(some 133), .len 0 (.t 132), (some (131, true)), [9, 8]⟩,
                 ⟨(some 134), .mov (.t 5), (some (131, true)), [8]⟩,
                 ⟨(some 135), .cmp .eql 0 (.t 133) (.t 134), (some (131, true)), [10, 11, 8]⟩,
                 ⟨(some 136), .pick (.t 131) (.t 135) (.c (.bool false)), none, [8, 12]⟩,
                 ⟨(some 137), .mov (.t 136), none, [13, 8]⟩,
                 ⟨(some 138), .call 10 [], (some (137, true)), [14, 14]⟩,
                 ⟨(some 139), .pick (.t 137) (.t 138) (.c (.bool false)), none, [14, 15]⟩,
                 ⟨(some 4), .mov (.t 139), none, [16, 15, 0, 1, 2, 3, 4, 5, 6, 7, 8, 9, 10, 11, 12, 13, 14, 15, 16]⟩] false)
               .ret)))))))))))))
def rv7 : List RV := [.t 4]
theorem rc7_ok : comp Try.prog Try.f7.ntmps (Try.f7.body.getD .skip) = some (erase rc7) := by kernel_rfl
theorem rv7_ok : compRes Try.prog Try.f7.results.toList = some rv7 := by kernel_rfl
/-! Records of equal length, all of zeros. -/
def zX (n k : Nat) : List Rc := List.replicate n ⟨1, List.replicate k 0⟩
def nM (a : Int) : Nat := (15 + modI a 4).toNat
def kM (b : Int) : Nat := (modI b 260).toNat
theorem nM_eq (a : Int) : IntKind.i64.wrap (15 + modI a 4) = nM a ∧ 15 ≤ nM a ∧ nM a ≤ 18 := by
  have b := modI_bd (n := a) (m := 4) (by omega) (by omega)
  rw [wr_in _ (by omega) (by omega), nM]; omega
theorem kM_eq (b : Int) : modI b 260 = kM b ∧ kM b ≤ 259 := by
  have b := modI_bd (n := b) (m := 260) (by omega) (by omega)
  rw [kM]; omega
theorem zX_len (n k : Nat) : (zX n k).length = n := by simp [zX]
theorem zX_mem {n k : Nat} {r : Rc} (h : r ∈ zX n k) : r = ⟨1, List.replicate k 0⟩ := (List.mem_replicate.1 h).2
theorem zX_get {n k i : Nat} (h : i < n) : (zX n k).getD i r0 = ⟨1, List.replicate k 0⟩ := zX_mem (getD_mem _ i (by rw [zX_len]; exact h))
theorem zX_snoc (n k : Nat) : zX n k ++ [⟨1, List.replicate k 0⟩] = zX (n + 1) k := by rw [zX, zX, List.replicate_succ']
theorem zeros_ok (k : Nat) : Okb (List.replicate k 0) := fun x hx => by rw [(List.mem_replicate.1 hx).2]; decide
theorem zX_ok (n k : Nat) : Okr (zX n k) := fun r hr => by rw [zX_mem hr]; exact ⟨⟨by show (0 : Int) ≤ 1; decide, by show (1 : Int) ≤ 255; decide⟩, zeros_ok k⟩
theorem zeros_sum : ∀ k : Nat, (List.replicate k (0 : Int)).sum = 0
  | 0 => rfl
  | k + 1 => by rw [List.replicate_succ, List.sum_cons, zeros_sum k]; rfl
theorem c8_zeros (k : Nat) : c8 (List.replicate k 0) = 0 := by rw [c8_eq, zeros_sum]; rfl
theorem szR_zX (k : Nat) : ∀ n, szR (zX n k) = (n : Int) * (5 + k)
  | 0 => by simp [zX, szR]
  | n + 1 => by rw [← zX_snoc, szR_app, szR_one, szR_zX k n]; simp only [List.length_replicate]; rw [show ((n + 1 : Nat) : Int) = n + 1 by omega, Int.add_mul]; omega
theorem vlR_zX {n k : Nat} (h : 0 < n) : vlR (zX n k) = (decide (n ≤ 16) && (decide (k ≤ 255) && decide ((n : Int) * (5 + k) ≤ 2048))) := by
  have e : (zX n k).all (fun r => decide (r.d.length ≤ 255)) = decide (k ≤ 255) := by
    by_cases hk : k ≤ 255
    · rw [decide_eq_true hk]; exact List.all_eq_true.2 fun r hr => by rw [zX_mem hr]; exact decide_eq_true (by rw [List.length_replicate]; exact hk)
    · rw [decide_eq_false hk]
      refine Bool.eq_false_iff.2 fun h2 => hk ?_
      have := of_decide_eq_true (List.all_eq_true.1 h2 ⟨1, List.replicate k 0⟩ (List.mem_replicate.2 ⟨by omega, rfl⟩))
      rw [List.length_replicate] at this; exact this
  rw [vlR, e, szR_zX, zX_len]
theorem enO_z {n k i : Nat} (h : i < n) : enO (zX n k) i = ([1, if i + 1 = n then 130 else 2, IntKind.u8.wrap (k : Int), 0] ++ [c8 [1, if i + 1 = n then 130 else 2, IntKind.u8.wrap (k : Int), 0]]) ++ List.replicate k 0 := by
  simp only [enO, hdR, zX_get h, zX_len, c8_zeros, List.length_replicate]
theorem enP_zlen {n k : Nat} : ∀ i, i ≤ n → (enP (zX n k) i).length = (5 + k) * i
  | 0, _ => rfl
  | i + 1, h => by rw [enP, List.length_append, enP_zlen i (by omega), enO_z (by omega)]; simp only [List.length_append, List.length_cons, List.length_nil, List.length_replicate]; rw [Nat.mul_add]; omega
theorem dc_zX {n k : Nat} (h0 : 0 < n) (hk : k ≤ 255) : dcR (enP (zX n k) n) = if 16 < n then ([], 0, 3) else if vlR (zX n k) = true then (zX n k, ((enP (zX n k) n).length : Int), 0) else ([], 0, 1) := by
  have := dc_all (zX n k) (fun r hr => by rw [zX_mem hr]; simpa using hk) (by rw [zX_len]; exact h0)
  rwa [zX_len] at this
theorem vlR_zY {n k : Nat} (h : 0 < n) : vlR (zX n k) = (decide ((n : Int) ≤ 16) && decide ((k : Int) ≤ 255) && decide ((n : Int) * (5 + (k : Int)) ≤ 2048)) := by
  rw [vlR_zX h, Bool.and_assoc]
  congr 1
  · exact decide_eq_decide.2 (by omega)
  · congr 1
    exact decide_eq_decide.2 (by omega)
end Go.Proofs.Ytklbnccpeeehkaa

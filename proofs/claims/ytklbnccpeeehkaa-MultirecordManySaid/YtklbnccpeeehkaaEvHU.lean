/- A part of the proof: symbolic evaluation of the program's functions, proved sound against the model; no condition. -/
import Derived.Test.YtklbnccpeeehkaaEvHP
namespace Go.Proofs.Ytklbnccpeeehkaa
open Go Go.RowKit Go.Ev
set_option linter.unusedSimpArgs false
set_option linter.unusedVariables false
theorem dc_prf (X : List Rc) (v2 : ∀ r ∈ X, r.d.length ≤ 255) : ∀ (i : Nat), i < X.length → i ≤ 16 → ∀ (Y : List Int), ∃ f, (enP X i ++ Y).length < (enP X i).length + f ∧ dcR (enP X i ++ Y) = dcF (enP X i ++ Y) f (X.take i) (enP X i).length
  | 0, _, _, Y => ⟨Y.length + 1, by simp [enP], by simp [dcR, enP]⟩
  | i + 1, h, h16, Y => by
    obtain ⟨f, h1, h2⟩ := dc_prf X v2 i (by omega) (by omega) (enO X i ++ Y)
    have e : enP X (i + 1) ++ Y = enP X i ++ (enO X i ++ Y) := by rw [enP, List.append_assoc]
    have el : (enP X (i + 1)).length = (enP X i).length + (enO X i).length := by rw [enP, List.length_append]
    have eo : 5 ≤ (enO X i).length := by rw [enO_eq, List.length_append, hsR_len]; omega
    obtain ⟨f, rfl⟩ : ∃ g, f = g + 1 := ⟨f - 1, by simp only [List.length_append] at h1; omega⟩
    refine ⟨f, by rw [e, el]; omega, ?_⟩
    rw [e, h2, dc_step X v2 i _ Y _ f (by rw [List.length_take]; omega), if_neg (by omega), el, ← take_snoc X r0 i (by omega)]
theorem dc_lim (X : List Rc) (hx : ∀ r ∈ X, r.d.length ≤ 255) (i : Nat) (A T : List Int) (l : List Rc) (f : Nat) (hl : l.length = 16) :
    dcF (A ++ (enO X i ++ T)) (f + 1) l A.length =
      ([], 0, 3) := by
  have hd := getD_le hx i
  have e : A ++ (enO X i ++ T) = A ++ (hsR X i ++ ((X.getD i r0).d ++ T)) := by rw [enO_eq, List.append_assoc]
  have el : (enO X i).length = 5 + (X.getD i r0).d.length := by rw [enO_eq, List.length_append, hsR_len]
  rw [e]
  have w2 : IntKind.u8.wrap ((X.getD i r0).d.length : Int) = (X.getD i r0).d.length := by rw [IntKind.wrap_u8]; omega
  have hH := cut5 A (hsR X i) ((X.getD i r0).d ++ T) (hsR_len X i)
  have hD := cutD A (hsR X i) (X.getD i r0).d T (hsR_len X i)
  have g0 : (hsR X i).getD 0 0 = (X.getD i r0).ty := rfl
  have g1 : (hsR X i).getD 1 0 = if i + 1 = X.length then 130 else 2 := rfl
  have g2 : ((hsR X i).getD 2 0).toNat = (X.getD i r0).d.length := by
    show (IntKind.u8.wrap ((X.getD i r0).d.length : Int)).toNat = _
    rw [w2]; omega
  have g3 : (hsR X i).getD 3 0 = c8 (X.getD i r0).d := rfl
  have hlen : (A ++ (hsR X i ++ ((X.getD i r0).d ++ T))).length = A.length + (5 + ((X.getD i r0).d.length + T.length)) := by simp only [List.length_append, hsR_len]
  simp only [dcF]
  rw [hH, g2, hD, g0, g1, g3, hlen]
  rw [if_neg (by omega), if_neg (fun h => h (hsR_c8 X i))]
  rw [if_neg (fun h => h (by split <;> rfl)), if_neg (by omega), if_neg (fun h => h rfl), if_pos hl]
theorem dc_all (X : List Rc) (v2 : ∀ r ∈ X, r.d.length ≤ 255) (h0 : 0 < X.length) : dcR (enP X X.length) = if 16 < X.length then ([], 0, 3) else if vlR X = true then (X, ((enP X X.length).length : Int), 0) else ([], 0, 1) := by
  by_cases h16 : 16 < X.length
  · obtain ⟨T, hT⟩ := enP_split X X.length 16 h16
    obtain ⟨f, h1, h2⟩ := dc_prf X v2 16 h16 (by omega) (enO X 16 ++ T)
    have eo : 5 ≤ (enO X 16).length := by rw [enO_eq, List.length_append, hsR_len]; omega
    obtain ⟨f, rfl⟩ : ∃ g, f = g + 1 := ⟨f - 1, by simp only [List.length_append] at h1; omega⟩
    rw [hT, h2, if_pos h16, dc_lim X v2 16 _ T _ f (by rw [List.length_take]; omega)]
  · obtain ⟨m, hm⟩ : ∃ m, X.length = m + 1 := ⟨X.length - 1, by omega⟩
    have e : enP X X.length = enP X m ++ (enO X m ++ []) := by rw [hm, enP, List.append_nil]
    obtain ⟨f, h1, h2⟩ := dc_prf X v2 m (by omega) (by omega) (enO X m ++ [])
    have eo : 5 ≤ (enO X m).length := by rw [enO_eq, List.length_append, hsR_len]; omega
    obtain ⟨f, rfl⟩ : ∃ g, f = g + 1 := ⟨f - 1, by simp only [List.length_append] at h1; omega⟩
    have hx : X.take m ++ [X.getD m r0] = X := by rw [← take_snoc X r0 m (by omega), ← hm, List.take_length]
    rw [e, h2, if_neg h16, dc_step X v2 m _ [] _ f (by rw [List.length_take]; omega), if_pos hm.symm, hx, List.append_nil, List.length_append]
end Go.Proofs.Ytklbnccpeeehkaa

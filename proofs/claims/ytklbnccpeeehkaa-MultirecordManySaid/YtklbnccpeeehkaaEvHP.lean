/- A part of the proof: symbolic evaluation of the program's functions, proved sound against the model; no condition. -/
import Derived.Test.YtklbnccpeeehkaaEvHK
namespace Go.Proofs.Ytklbnccpeeehkaa
open Go Go.RowKit Go.Ev
set_option linter.unusedSimpArgs false
set_option linter.unusedVariables false
set_option maxRecDepth 20000
/-! What a list's bytes read back as. -/
theorem m8_sum (l : List Int) : ∀ (a : Int), l.foldl (fun a c => IntKind.u8.wrap (a + c)) (a % 256) = (a + l.sum) % 256 := by
  induction l with
  | nil => intro a; simp
  | cons c l ih =>
    intro a
    simp only [List.foldl_cons, List.sum_cons]
    rw [show IntKind.u8.wrap (a % 256 + c) = (a + c) % 256 by rw [IntKind.wrap_u8]; omega, ih]
    rw [Int.add_assoc]
theorem m8_eq (l : List Int) : m8 l = l.sum % 256 := by
  have := m8_sum l 0
  simpa [m8] using this
theorem c8_eq (l : List Int) : c8 l = (-l.sum) % 256 := by rw [c8, m8_eq, IntKind.wrap_u8]; omega
theorem c8_seal (l : List Int) : c8 (l ++ [c8 l]) = 0 := by
  rw [c8_eq (l ++ _), c8_eq l, List.sum_append]
  simp only [List.sum_cons, List.sum_nil]
  omega
theorem sum_set : ∀ (l : List Int) (i : Nat) (v : Int), i < l.length → (l.set i v).sum = l.sum - l.getD i 0 + v
  | [], i, v, h => by simp at h
  | c :: l, 0, v, h => by simp; omega
  | c :: l, i + 1, v, h => by
    simp only [List.set_cons_succ, List.sum_cons, List.getD_cons_succ]
    rw [sum_set l i v (by simpa using h)]; omega
theorem c8_flip {l : List Int} (hl : Okb l) {i : Nat} (h : i < l.length) {v : Int} (hv : 0 ≤ v ∧ v ≤ 255) (hne : v ≠ l.getD i 0) : c8 (l.set i v) ≠ c8 l := by
  rw [c8_eq, c8_eq, sum_set l i v h]
  have := hl.getD i
  omega
def hsR (l : List Rc) (i : Nat) : List Int := hdR l i ++ [c8 (hdR l i)]
theorem hsR_len (l : List Rc) (i : Nat) : (hsR l i).length = 5 := rfl
theorem hsR_c8 (l : List Rc) (i : Nat) : c8 (hsR l i) = 0 := c8_seal _
theorem enO_eq (l : List Rc) (i : Nat) : enO l i = hsR l i ++ (l.getD i r0).d := rfl
theorem cut5 (A H T : List Int) (h : H.length = 5) : ((A ++ (H ++ T)).drop A.length).take 5 = H := by
  rw [List.drop_left, ← h, List.take_left]
theorem cutD (A H D T : List Int) (h : H.length = 5) : ((A ++ (H ++ (D ++ T))).drop (A.length + 5)).take D.length = D := by
  rw [← List.append_assoc, show A.length + 5 = (A ++ H).length by rw [List.length_append, h], List.drop_left, List.take_left]
/-- One record read. -/
theorem dc_step (X : List Rc) (hx : ∀ r ∈ X, r.d.length ≤ 255) (i : Nat) (A T : List Int) (l : List Rc) (f : Nat) (hl : l.length < 16) :
    dcF (A ++ (enO X i ++ T)) (f + 1) l A.length =
      if i + 1 = X.length then (if vlR (l ++ [X.getD i r0]) = true then (l ++ [X.getD i r0], ((A.length + (enO X i).length : Nat) : Int), 0) else ([], 0, 1))
      else dcF (A ++ (enO X i ++ T)) f (l ++ [X.getD i r0]) (A.length + (enO X i).length) := by
  have hd := getD_le hx i
  have e : A ++ (enO X i ++ T) = A ++ (hsR X i ++ ((X.getD i r0).d ++ T)) := by rw [enO_eq, List.append_assoc]
  have el : (enO X i).length = 5 + (X.getD i r0).d.length := by rw [enO_eq, List.length_append, hsR_len]
  rw [e, el]
  have w2 : IntKind.u8.wrap ((X.getD i r0).d.length : Int) = (X.getD i r0).d.length := by rw [IntKind.wrap_u8]; omega
  have hH := cut5 A (hsR X i) ((X.getD i r0).d ++ T) (hsR_len X i)
  have hD := cutD A (hsR X i) (X.getD i r0).d T (hsR_len X i)
  have g0 : (hsR X i).getD 0 0 = (X.getD i r0).ty := rfl
  have g1 : (hsR X i).getD 1 0 = if i + 1 = X.length then 130 else 2 := rfl
  have g2 : ((hsR X i).getD 2 0).toNat = (X.getD i r0).d.length := by
    show (IntKind.u8.wrap ((X.getD i r0).d.length : Int)).toNat = _
    rw [w2]; omega
  have g3 : (hsR X i).getD 3 0 = c8 (X.getD i r0).d := rfl
  have hlen : (A ++ (hsR X i ++ ((X.getD i r0).d ++ T))).length = A.length + (5 + ((X.getD i r0).d.length + T.length)) := by simp only [List.length_append, hsR_len]
  simp only [dcF]
  rw [hH, g2, hD, g0, g1, g3, hlen]
  rw [if_neg (by omega), if_neg (fun h => h (hsR_c8 X i))]
  rw [if_neg (fun h => h (by split <;> rfl)), if_neg (by omega), if_neg (fun h => h rfl), if_neg (by omega)]
  by_cases hi : i + 1 = X.length
  · rw [if_pos hi, if_neg (by decide), if_pos hi]
    simp only [Nat.add_assoc]
  · rw [if_neg hi, if_pos (by decide), if_neg hi]
    simp only [Nat.add_assoc]
/-- The records ahead read. -/
theorem dc_pre (X : List Rc) (hv : vlR X = true) : ∀ (i : Nat), i < X.length → ∀ (Y : List Int), ∃ f, (enP X i ++ Y).length < (enP X i).length + f ∧ dcR (enP X i ++ Y) = dcF (enP X i ++ Y) f (X.take i) (enP X i).length
  | 0, _, Y => ⟨Y.length + 1, by simp [enP], by simp [dcR, enP]⟩
  | i + 1, h, Y => by
    obtain ⟨v1, v2, _⟩ := vlR_iff hv
    obtain ⟨f, h1, h2⟩ := dc_pre X hv i (by omega) (enO X i ++ Y)
    have e : enP X (i + 1) ++ Y = enP X i ++ (enO X i ++ Y) := by rw [enP, List.append_assoc]
    have el : (enP X (i + 1)).length = (enP X i).length + (enO X i).length := by rw [enP, List.length_append]
    have eo : 5 ≤ (enO X i).length := by rw [enO_eq, List.length_append, hsR_len]; omega
    obtain ⟨f, rfl⟩ : ∃ g, f = g + 1 := ⟨f - 1, by simp only [List.length_append] at h1; omega⟩
    refine ⟨f, by rw [e, el]; omega, ?_⟩
    rw [e, h2, dc_step X v2 i _ Y _ f (by rw [List.length_take]; omega), if_neg (by omega), el, ← take_snoc X r0 i (by omega)]
theorem dc_full (X : List Rc) (hv : vlR X = true) (h0 : 0 < X.length) (T : List Int) : dcR (enL X ++ T) = (X, ((enL X).length : Int), 0) := by
  obtain ⟨v1, v2, _⟩ := vlR_iff hv
  obtain ⟨m, hm⟩ : ∃ m, X.length = m + 1 := ⟨X.length - 1, by omega⟩
  have e : enL X = enP X m ++ enO X m := by rw [enL, if_pos hv, hm, enP]
  rw [e, List.append_assoc]
  obtain ⟨f, h1, h2⟩ := dc_pre X hv m (by omega) (enO X m ++ T)
  obtain ⟨f, rfl⟩ : ∃ g, f = g + 1 := ⟨f - 1, by simp only [List.length_append] at h1; omega⟩
  have hx : X.take m ++ [X.getD m r0] = X := by rw [← take_snoc X r0 m (by omega), ← hm, List.take_length]
  rw [h2, dc_step X v2 m _ T _ f (by rw [List.length_take]; omega), if_pos hm.symm, hx, if_pos hv, List.length_append]
/-- The record that a place lies in. -/
theorem dc_in (X : List Rc) : ∀ (n k : Nat), k < (enP X n).length → ∃ i, i < n ∧ (enP X i).length ≤ k ∧ k < (enP X i).length + (enO X i).length
  | 0, k, h => by simp [enP] at h
  | n + 1, k, h => by
    by_cases h2 : k < (enP X n).length
    · obtain ⟨i, h3, h4⟩ := dc_in X n k h2
      exact ⟨i, by omega, h4⟩
    · exact ⟨n, by omega, by omega, by simpa only [enP, List.length_append] using h⟩
theorem enP_split (X : List Rc) : ∀ (n i : Nat), i < n → ∃ T, enP X n = enP X i ++ (enO X i ++ T)
  | n + 1, i, h => by
    by_cases h2 : i = n
    · subst h2; exact ⟨[], by rw [enP, List.append_nil]⟩
    · obtain ⟨T, hT⟩ := enP_split X n i (by omega)
      exact ⟨T ++ enO X n, by rw [enP, hT]; simp only [List.append_assoc]⟩
theorem getD_apr {A B : List Int} {n : Nat} (h : A.length ≤ n) : (A ++ B).getD n 0 = B.getD (n - A.length) 0 := by
  rw [List.getD_eq_getElem?_getD, List.getElem?_append_right h, ← List.getD_eq_getElem?_getD]
theorem getD_apl {A B : List Int} {n : Nat} (h : n < A.length) : (A ++ B).getD n 0 = A.getD n 0 := by
  rw [List.getD_eq_getElem?_getD, List.getElem?_append_left h, ← List.getD_eq_getElem?_getD]
theorem enL_eq {X : List Rc} (hv : vlR X = true) : enL X = enP X X.length := by rw [enL, if_pos hv]
theorem dc_cut (X : List Rc) (hv : vlR X = true) (k : Nat) (hk : k < (enL X).length) : dcR ((enL X).take k) = ([], 0, 4) := by
  obtain ⟨v1, v2, _⟩ := vlR_iff hv
  rw [enL_eq hv] at hk ⊢
  obtain ⟨i, hi, k1, k2⟩ := dc_in X X.length k hk
  obtain ⟨T, hT⟩ := enP_split X X.length i hi
  have e : (enP X X.length).take k = enP X i ++ (enO X i).take (k - (enP X i).length) := by
    rw [hT, List.take_append, List.take_of_length_le k1, List.take_append_of_le_length (by omega)]
  rw [e]
  generalize hq : k - (enP X i).length = q at e ⊢
  have hq2 : q < (enO X i).length := by omega
  have el : (enO X i).length = 5 + (X.getD i r0).d.length := by rw [enO_eq, List.length_append, hsR_len]
  have hc : ((enO X i).take q).length = q := by rw [List.length_take]; omega
  obtain ⟨f, h1, h2⟩ := dc_pre X hv i hi ((enO X i).take q)
  obtain ⟨f, rfl⟩ : ∃ g, f = g + 1 := ⟨f - 1, by simp only [List.length_append] at h1; omega⟩
  rw [h2]
  have hlen : (enP X i ++ (enO X i).take q).length = (enP X i).length + q := by rw [List.length_append, hc]
  by_cases h5 : q < 5
  · simp only [dcF]
    rw [hlen, if_pos (by omega)]
  · have eC : (enO X i).take q = hsR X i ++ (X.getD i r0).d.take (q - 5) := by
      rw [enO_eq, List.take_append, hsR_len, List.take_of_length_le (by rw [hsR_len]; omega)]
    have hd := getD_le v2 i
    have hH := cut5 (enP X i) (hsR X i) ((X.getD i r0).d.take (q - 5)) (hsR_len X i)
    rw [eC] at hlen ⊢
    have w2 : IntKind.u8.wrap ((X.getD i r0).d.length : Int) = (X.getD i r0).d.length := by rw [IntKind.wrap_u8]; omega
    have g1 : (hsR X i).getD 1 0 = if i + 1 = X.length then 130 else 2 := rfl
    have g2 : ((hsR X i).getD 2 0).toNat = (X.getD i r0).d.length := by
      show (IntKind.u8.wrap ((X.getD i r0).d.length : Int)).toNat = _
      rw [w2]; omega
    simp only [dcF]
    rw [hH, g2, g1, hlen, if_neg (by omega), if_neg (fun h => h (hsR_c8 X i)), if_neg (fun h => h (by split <;> rfl)), if_pos (by omega)]
theorem dc_flip (X : List Rc) (hv : vlR X = true) (ho : Okr X) (p : Nat) (hp : p < (enL X).length) (v : Int) (hvv : 0 ≤ v ∧ v ≤ 255) (hne : v ≠ (enL X).getD p 0) : dcR ((enL X).set p v) = ([], 0, 5) := by
  obtain ⟨v1, v2, _⟩ := vlR_iff hv
  rw [enL_eq hv] at hp hne ⊢
  obtain ⟨i, hi, k1, k2⟩ := dc_in X X.length p hp
  obtain ⟨T, hT⟩ := enP_split X X.length i hi
  rw [hT, List.set_append_right _ _ k1, List.set_append_left _ _ (by omega)]
  rw [hT, getD_apr k1, getD_apl (by omega)] at hne
  generalize hq : p - (enP X i).length = q at hne ⊢
  have hq2 : q < (enO X i).length := by omega
  have el : (enO X i).length = 5 + (X.getD i r0).d.length := by rw [enO_eq, List.length_append, hsR_len]
  obtain ⟨f, h1, h2⟩ := dc_pre X hv i hi ((enO X i).set q v ++ T)
  obtain ⟨f, rfl⟩ : ∃ g, f = g + 1 := ⟨f - 1, by simp only [List.length_append, List.length_set] at h1; omega⟩
  rw [h2]
  have hlen : (enP X i ++ ((enO X i).set q v ++ T)).length = (enP X i).length + ((enO X i).length + T.length) := by simp only [List.length_append, List.length_set]
  have hHo : Okb (hsR X i) := .app (hdR_ok ho i) (.cons (c8_bd _) .nil)
  by_cases h5 : q < 5
  · rw [enO_eq, List.set_append_left _ _ (by rw [hsR_len]; exact h5), List.append_assoc] at hlen ⊢
    rw [enO_eq, getD_apl (by rw [hsR_len]; exact h5)] at hne
    have hH := cut5 (enP X i) ((hsR X i).set q v) ((X.getD i r0).d ++ T) (by rw [List.length_set, hsR_len])
    have hc := c8_flip hHo (i := q) (by rw [hsR_len]; exact h5) hvv hne
    rw [hsR_c8] at hc
    simp only [dcF]
    rw [hH, hlen, if_neg (by rw [List.length_append, hsR_len]; omega), if_pos hc]
  · rw [enO_eq, List.set_append_right _ _ (by rw [hsR_len]; omega), hsR_len, List.append_assoc] at hlen ⊢
    rw [enO_eq, getD_apr (by rw [hsR_len]; omega), hsR_len] at hne
    have hd := getD_le v2 i
    have hH := cut5 (enP X i) (hsR X i) ((X.getD i r0).d.set (q - 5) v ++ T) (hsR_len X i)
    have hD := cutD (enP X i) (hsR X i) ((X.getD i r0).d.set (q - 5) v) T (hsR_len X i)
    rw [List.length_set] at hD
    have hc := c8_flip (ho.getD i).2 (i := q - 5) (by omega) hvv hne
    have w2 : IntKind.u8.wrap ((X.getD i r0).d.length : Int) = (X.getD i r0).d.length := by rw [IntKind.wrap_u8]; omega
    have g1 : (hsR X i).getD 1 0 = if i + 1 = X.length then 130 else 2 := rfl
    have g2 : ((hsR X i).getD 2 0).toNat = (X.getD i r0).d.length := by
      show (IntKind.u8.wrap ((X.getD i r0).d.length : Int)).toNat = _
      rw [w2]; omega
    have g3 : (hsR X i).getD 3 0 = c8 (X.getD i r0).d := rfl
    simp only [dcF]
    rw [hH, g2, hD, g1, g3, hlen, List.length_append, hsR_len]
    rw [if_neg (by omega), if_neg (fun h => h (hsR_c8 X i)), if_neg (fun h => h (by split <;> rfl)), if_neg (by omega), if_pos hc]
end Go.Proofs.Ytklbnccpeeehkaa

/- A part of the proof: symbolic evaluation of the program's functions, proved sound against the model; no condition. -/
import Derived.Test.YteakklbbdfgbdaaEvRR
namespace Go.Proofs.Yteakklbbdfgbdaa
open Go Go.RowKit Go.Ev
set_option linter.unusedSimpArgs false
set_option linter.unusedVariables false
set_option maxRecDepth 20000
/-- A row of buses. -/
def lnB (k : Nat) : List Br := (List.range k).map fun (j : Nat) => (⟨20 + (j : Int), (j : Int) + 1, (j : Int)⟩ : Br)
theorem lnB_len (k : Nat) : (lnB k).length = k := by simp [lnB]
theorem lnB_snoc (k : Nat) : lnB k ++ [⟨20 + (k : Int), (k : Int) + 1, (k : Int)⟩] = lnB (k + 1) := by simp [lnB, List.range_succ]
theorem IsD.tri {bs : List Br} {x y z d e f : Int} (h : IsD bs x y d) (g : IsD bs y z e) (k : IsD bs x z f) (hd : 0 ≤ d) (he : 0 ≤ e) : 0 ≤ f ∧ f ≤ d + e := by
  rcases h with ⟨h1, _⟩ | ⟨i, h1, h2, _⟩
  · omega
  rcases g with ⟨g1, _⟩ | ⟨j, g1, g2, _⟩
  · omega
  rcases k with ⟨_, k2⟩ | ⟨l, k1, _, k3⟩
  · exact absurd (h2.trans g2) (k2 _)
  · have := k3 _ (h2.trans g2); omega
theorem IsD.mono {bs cs : List Br} (hs : ∀ b ∈ bs, b ∈ cs) {x y d e : Int} (h : IsD bs x y d) (g : IsD cs x y e) (hd : 0 ≤ d) : 0 ≤ e ∧ e ≤ d := by
  rcases h with ⟨h1, _⟩ | ⟨i, h1, h2, _⟩
  · omega
  rcases g with ⟨_, g2⟩ | ⟨j, g1, _, g3⟩
  · exact absurd (h2.mono hs) (g2 _)
  · have := g3 _ (h2.mono hs); omega
theorem far_0 {d : Int} : far d = 0 ↔ 0 ≤ d ∧ d ≤ 7 := by
  unfold far
  split
  · exact ⟨fun h => (by cases h), fun h => by omega⟩
  · split
    · exact ⟨fun h => (by cases h), fun h => by omega⟩
    · exact ⟨fun _ => by omega, fun _ => rfl⟩
theorem far_40 {d : Int} (h : 7 < d) : far d = 40 := by rw [far, if_neg (by omega), if_pos h]
theorem ds_eq {m : Nt} (hv : vl m = 0) {a b : Int} (ha : 0 ≤ a ∧ a < m.N) (hb : 0 ≤ b ∧ b < m.N) : ∃ d, IsD m.bs a b d ∧ dsE m a b = far d ∧ dsV m a b = if far d = 0 then d else 0 := by
  have O := vl_ok hv
  have oN := O.N
  have e : dsE m a b = far (nat (ds m.N.toNat m.bs a) b) := by rw [dsE, if_neg (by rw [hv]; simp), if_neg (by omega)]
  exact ⟨_, ds_isD O.v ⟨by omega, by omega⟩ ⟨by omega, by omega⟩, e, by rw [dsV, e]⟩
/-! A row -/
theorem lnB_getD {k i : Nat} (h : i < k) : (lnB k).getD i b0 = ⟨20 + (i : Int), (i : Int) + 1, (i : Int)⟩ := by
  simp [lnB, List.getD_eq_getElem?_getD, h]
theorem lnB_take {k i : Nat} (h : i ≤ k) : (lnB k).take i = lnB i := by
  simp [lnB, ← List.map_take, List.take_range, Nat.min_eq_left h]
theorem tk_ln {i : Nat} {x a : Int} (h : 20 + (i : Int) ≤ a) : tk (lnB i) x a = false := by
  unfold tk
  rw [List.any_eq_false]
  intro b hb
  simp only [lnB, List.mem_map, List.mem_range] at hb
  obtain ⟨j, hj, rfl⟩ := hb
  simp only [tk1, Bool.and_eq_true, decide_eq_true_eq, not_and]
  intro h2; omega
theorem brF_ln {k : Nat} (hk : k ≤ 15) : ∀ (f i : Nat), i + f = k → brF ((k : Int) + 1) (lnB k) f i = 0
  | 0, _, _ => rfl
  | f + 1, i, h => by
    have hi : i < k := by omega
    have e : brE1 ((k : Int) + 1) ((lnB k).take i) ((lnB k).getD i b0) = 0 := by
      rw [lnB_getD hi, lnB_take (by omega)]
      refine brE1_0 (by simp only; omega) (by simp only; omega) ?_
      simp only
      rw [tk_ln (by omega), tk_ln (by omega)]
      rintro (h | h | h | h)
      · omega
      · omega
      · cases h
      · cases h
    rw [brF_next e]
    exact brF_ln hk f (i + 1) (by omega)
theorem vl_ln {k : Nat} (h1 : 1 ≤ k) (hk : k ≤ 15) : vl ⟨(k : Int) + 1, lnB k, []⟩ = 0 := by
  have hb : brE ((k : Int) + 1) (lnB k) = 0 := by
    unfold brE
    rw [lnB_len]
    exact brF_ln hk k 0 (by omega)
  unfold vl
  simp only [lnB_len, hb]
  rw [if_neg (by omega), if_neg (by simp; omega), if_neg (by simp)]
  rfl
theorem adj_ln {k : Nat} {x y : Int} (h : Adj (lnB k) x y) : y = x + 1 ∨ y = x - 1 := by
  obtain ⟨b, hb, hs⟩ := h
  simp only [lnB, List.mem_map, List.mem_range] at hb
  obtain ⟨j, hj, rfl⟩ := hb
  unfold sd at hs
  simp only at hs
  split at hs
  · cases hs
  · split at hs
    · simp only [Option.some.injEq] at hs; omega
    · split at hs
      · simp only [Option.some.injEq] at hs; omega
      · cases hs
theorem wk_ln {k n : Nat} {x y : Int} (h : Wk (lnB k) n x y) : x - y ≤ n ∧ y - x ≤ n := by
  induction h with
  | refl x => omega
  | step _ a ih => have := adj_ln a; omega
theorem up_ln {k : Nat} : ∀ (n : Nat) {x : Int}, 0 ≤ x → x + n ≤ k → Wk (lnB k) n x (x + n)
  | 0, x, _, _ => by simpa using Wk.refl x
  | n + 1, x, h0, h => by
    refine .step (up_ln n h0 (by omega)) ⟨⟨20 + (x + n), x + n + 1, x + n⟩, ?_, ?_⟩
    · simp only [lnB, List.mem_map, List.mem_range]
      refine ⟨(x + n).toNat, by omega, ?_⟩
      have : (((x + n).toNat : Nat) : Int) = x + n := by omega
      rw [this]
    · unfold sd
      simp only
      rw [if_neg (by omega), if_neg (by omega)]
      simp
      omega
theorem isD_ln {k : Nat} {x y : Int} (hx : 0 ≤ x ∧ x ≤ k) (hy : 0 ≤ y ∧ y ≤ k) : IsD (lnB k) x y (max (x - y) (y - x)) := by
  rcases Int.le_total x y with h | h
  · refine .inr ⟨(y - x).toNat, by omega, ?_, fun j hj => ?_⟩
    · have := up_ln (k := k) (y - x).toNat hx.1 (by omega)
      rwa [show x + ((y - x).toNat : Nat) = y by omega] at this
    · have := wk_ln hj; omega
  · refine .inr ⟨(x - y).toNat, by omega, ?_, fun j hj => ?_⟩
    · have := (up_ln (k := k) (x - y).toNat hy.1 (by omega)).symm
      rwa [show y + ((x - y).toNat : Nat) = x by omega] at this
    · have := wk_ln hj; omega
end Go.Proofs.Yteakklbbdfgbdaa

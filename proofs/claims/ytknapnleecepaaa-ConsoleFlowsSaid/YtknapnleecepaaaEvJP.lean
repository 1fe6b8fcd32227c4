/- A part of the proof: symbolic evaluation of the program's functions, proved sound against the model; no condition. -/
import Derived.Test.YtknapnleecepaaaEvJO
namespace Go.Proofs.Ytknapnleecepaaa
open Go Go.RowKit Go.Ev
set_option linter.unusedSimpArgs false
set_option linter.unusedVariables false
set_option maxRecDepth 20000
/-! Lists of packets; lines in order -/
def wrs (W : List (List Int)) : List (List AV) := W.map fun p => [.lst [.int .u8 0] (u8s p)]
theorem wrs_len (W : List (List Int)) : (wrs W).length = W.length := by simp [wrs]
theorem wrs_nil : wrs [] = [] := by rfl
theorem wrs_snoc (W : List (List Int)) (p : List Int) : wrs W ++ [[AV.lst [.int .u8 0] (u8s p)]] = wrs (W ++ [p]) := by simp [wrs]
theorem getE_wr' (W : List (List Int)) (i : Nat) (h : i < W.length) : getE [.nil] (wrs W) i = [.lst [.int .u8 0] (u8s (W.getD i []))] := by
  simp only [getE, wrs, List.getD_eq_getElem?_getD, List.getElem?_map, List.getElem?_eq_getElem h]
  rfl
structure OkL (l : Ln) : Prop where
  P : lnP l
  w : Okb l.w
  s : Okb l.s
structure OkQ (p : List Int) : Prop where
  b : Okb p
  n : 4 ≤ p.length ∧ p.length ≤ 68
def OkW (W : List (List Int)) : Prop := ∀ p ∈ W, OkQ p
theorem OkL.bd {l : Ln} (h : OkL l) : Bd l := ⟨by have := h.P.1.1; omega, by have := h.P.1.1; omega⟩
theorem OkL.nil : OkL l0 := ⟨by decide +kernel, .nil, .nil⟩
theorem OkL.new {n : Int} (h : 0 ≤ n ∧ n ≤ 1024) : OkL { l0 with ro := n } := by
  have := nil_len
  exact ⟨⟨⟨by dsimp only [l0]; omega, by dsimp only [l0]; omega⟩, by dsimp only [l0]; omega, by dsimp only [l0]; omega, h, .inl rfl, by dsimp only [l0]; omega, fun h => (by cases h), fun _ => ⟨rfl, rfl⟩⟩, .nil, .nil⟩
theorem OkL.wr {l : Ln} {b : List Int} (h : OkL l) (hb : Okb b) : OkL (wrL l b) := by
  have hP := h.P
  obtain ⟨⟨h1, h2⟩, h3⟩ := id hP
  rw [wrL, if_pos hP]
  have hN : (b.take (wrN l b)).length ≤ 1024 - l.w.length - l.s.length := by
    rw [List.length_take, wrN, if_pos hP]; omega
  exact ⟨⟨⟨by dsimp only; rw [List.length_append]; omega, h2⟩, h3⟩, h.w.app (hb.take _), h.s⟩
theorem OkL.br {l : Ln} (h : OkL l) : OkL (brL l) := by
  rw [brL, if_pos h.P]; exact ⟨h.P, h.w, h.s⟩
theorem OkL.gr {l : Ln} (h : OkL l) (n : Int) : OkL (grL l n) := by
  unfold grL
  split
  · rename_i hn
    obtain ⟨h1, h2, h3, h4, h5⟩ := h.P
    exact ⟨⟨h1, h2, h3, by dsimp only; omega, h5⟩, h.w, h.s⟩
  · exact h
theorem OkL.poM {l : Ln} (h : OkL l) : OkL (poM l) := by
  unfold Ytknapnleecepaaa.poM
  split
  · obtain ⟨⟨h1, h2⟩, h3, h4, h5, h6, h7, _⟩ := h.P
    have hx := nx_bd h3
    refine ⟨⟨⟨?_, tk_len l.w⟩, by dsimp only; omega, h4, h5, h6, h7, fun _ => by dsimp only; omega, fun h => by cases h⟩, h.w.drop 64, h.w.take 64⟩
    dsimp only
    rw [List.length_drop, List.length_take]; omega
  · exact h
theorem OkL.po {l : Ln} (h : OkL l) : OkL (poL l) := by
  rw [poL, if_pos h.P]
  obtain ⟨⟨h1, h2, h3, h4, h5, h6⟩, h7, h8⟩ := h.poM
  exact ⟨⟨h1, h2, h3, h4, .inl rfl, h6⟩, h7, h8⟩
theorem poC_P {l : Ln} (h : lnP l) : ckP (poC l) := by
  obtain ⟨⟨h1, h2⟩, h3, h4, h5, h6, h7, h8, h9⟩ := h
  unfold poC
  cases hb : l.bu with
  | true =>
    have h8 := h8 hb
    refine ⟨by simp only [if_true]; omega, by dsimp only; omega, ?_, by simp only [if_true]; omega, fun e => by dsimp only at e ⊢; rw [if_neg (fun h => h e)], fun e => ?_⟩
    · dsimp only; split <;> omega
    · simp only [if_true] at e; omega
  | false =>
    refine ⟨by simp, by dsimp only; omega, ?_, by simp, fun e => by dsimp only at e ⊢; rw [if_neg (fun h => h e)], fun _ => by simp⟩
    dsimp only; split <;> omega
theorem enB_q {c : Ck} (hP : ckP c) (h : Okb c.d) : OkQ (enB c) := by
  refine ⟨enB_ok h, ?_, enB_len c⟩
  rw [enB, if_pos hP]; simp
theorem OkL.pq {l : Ln} (h : OkL l) (hk : poK l = true) : OkQ (poB l) := by
  rw [poB, hk]
  refine enB_q (poC_P h.poM.P) ?_
  unfold poC
  dsimp only
  split
  · exact h.poM.s
  · exact .nil
theorem OkL.pb {l : Ln} (h : OkL l) : Okb (poB l) ∧ (poB l).length ≤ 68 := by
  cases hk : poK l with
  | true => have := h.pq hk; exact ⟨this.b, this.n.2⟩
  | false => rw [poB, hk]; exact ⟨.nil, by simp⟩
theorem OkL.reA {l : Ln} (h : OkL l) (c : Ck) : OkL (reA l c) := by
  unfold Ytknapnleecepaaa.reA
  split
  · obtain ⟨⟨h1, h2⟩, h3, h4, h5, h6, h7, _⟩ := h.P
    have := nil_len
    refine ⟨⟨⟨?_, by dsimp only; omega⟩, h3, h4, h5, h6, h7, fun h => (by cases h), fun _ => ⟨rfl, rfl⟩⟩, (h.s.drop _).app h.w, .nil⟩
    dsimp only
    rw [List.length_append, List.length_drop]; omega
  · exact h
theorem OkL.reL {l : Ln} (h : OkL l) {c : Ck} (hc : ckP c) : OkL (reL l c) := by
  obtain ⟨h1, h3, h4, h5, h6, h7, h8, h9⟩ := id h.P
  obtain ⟨⟨k1, k2⟩, _, _, k3, _⟩ := hc
  have hN : (reN l c : Int) ≤ l.ro ∧ (reN l c : Int) ≤ 64 := by rw [reN]; omega
  unfold Ytknapnleecepaaa.reL
  split
  · exact h
  · split
    · rename_i e
      exact ⟨⟨h1, h3, h4, h5, .inr e, h7, h8, h9⟩, h.w, h.s⟩
    · split
      · exact ⟨⟨h1, h3, by dsimp only; omega, by dsimp only; omega, .inr rfl, by dsimp only; omega, h8, h9⟩, h.w, h.s⟩
      · exact h
theorem OkL.re {l : Ln} (h : OkL l) (b : List Int) : OkL (reR l b) := by
  unfold reR
  split
  · rename_i e
    have he : deE b = 0 := by rw [reE, if_pos h.P] at e; exact e
    obtain ⟨hc, hP, _⟩ := de_ok he
    rw [← hc]
    exact (h.reA _).reL hP
  · exact .nil
theorem OkW.snoc {W : List (List Int)} (h : OkW W) {p : List Int} (hp : OkQ p) : OkW (W ++ [p]) := fun q hq => (List.mem_append.1 hq).elim (h q) fun e => by rw [List.mem_singleton.1 e]; exact hp
def DPl : Ctr := .ext true (Ln × Ln × List (List Int) × Int) fun cs xs => match cs, xs with
  | [.lst zz es, .int .i64 a], [.int .i64 n] => some (((zz = [.int .u8 0] ∧ es = u8s (decU es)) ∧ es.length ≤ 100000) ∧ (0 ≤ a ∧ 0 ≤ n ∧ n ≤ 200) ∧ Okb (decU es),
      fun q => ((OkL q.1 ∧ OkL q.2.1) ∧ (OkW q.2.2.1 ∧ q.2.2.1.length ≤ 256) ∧ 0 ≤ q.2.2.2, .tup [q.1.av, q.2.1.av, .lst [.nil] (wrs q.2.2.1)], [.lst [.int .u8 0] (u8s (decU es)), .int .i64 q.2.2.2]))
  | _, _ => none
end Go.Proofs.Ytknapnleecepaaa

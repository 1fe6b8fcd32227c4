/- A part of the proof: symbolic evaluation of the program's functions, proved sound against the model; no condition. -/
import Derived.Test.YtofldhooanikcaaEvFB
namespace Go.Proofs.Ytofldhooanikcaa
open Go Go.RowKit Go.Ev
set_option linter.unusedSimpArgs false
set_option linter.unusedVariables false
set_option maxRecDepth 20000
theorem flr_eq {v : Int} (h0 : -9223372036854775808 ≤ v) (h1 : v ≤ 9223372036854775807) : flr v = v / 1000 := by
  simp only [flr, W]
  by_cases h : 0 ≤ v
  · rw [Int.tmod_eq_emod_of_nonneg h, Int.tdiv_eq_ediv_of_nonneg h, if_neg (by omega), wr_in _ (by omega) (by omega)]
  · obtain ⟨n, rfl⟩ : ∃ n : Int, v = -n := ⟨-v, by omega⟩
    rw [Int.neg_tmod, Int.neg_tdiv, Int.tmod_eq_emod_of_nonneg (by omega), Int.tdiv_eq_ediv_of_nonneg (by omega), wr_in (-(n / 1000)) (by omega) (by omega)]
    split
    · rw [wr_in _ (by omega) (by omega)]; omega
    · omega
theorem sd_iff (z : Zn) (s : Sp) : sd z s = true ↔ VZ z ∧ (z.least ≤ s.out ∧ s.out ≤ z.most) ∧ 0 ≤ s.sum ∧ s.sum ≤ topz z := by
  simp only [sd, wi, Bool.and_eq_true, decide_eq_true_eq, vz_iff]
theorem topz_eq {z : Zn} (h : VZ z) : topz z = 1000 * (z.most - z.least) := by
  simp only [VZ] at h
  simp only [topz, W]
  rw [wr_in (z.most - z.least) (by omega) (by omega), wr_in _ (by omega) (by omega)]
theorem mv_eq {z : Zn} (h : VZ z) {o : Int} (ho : 0 ≤ o ∧ o ≤ 1000) (t : Int) : mv z.slew o t = max (o - z.slew) (min t (o + z.slew)) := by
  simp only [VZ] at h
  simp only [mv, lim, W]
  rw [wr_in (o - z.slew) (by omega) (by omega), wr_in (o + z.slew) (by omega) (by omega)]
theorem wnt_bd {z : Zn} (h : VZ z) (u e : Int) : z.least ≤ wnt z u e ∧ wnt z u e ≤ z.most := by
  simp only [VZ] at h
  exact lim_bd _ _ _ (by omega)
theorem mul_bd {a e A E : Int} (ha : 0 ≤ a ∧ a ≤ A) (he : -E ≤ e ∧ e ≤ E) : -(A * E) ≤ a * e ∧ a * e ≤ A * E := by
  have h0 : 0 ≤ E := by omega
  have h1 : a * e ≤ a * E := Int.mul_le_mul_of_nonneg_left he.2 ha.1
  have h2 : a * E ≤ A * E := Int.mul_le_mul_of_nonneg_right ha.2 h0
  have h3 : a * (-E) ≤ a * e := Int.mul_le_mul_of_nonneg_left he.1 ha.1
  have h4 : a * (-E) = -(a * E) := Int.mul_neg _ _
  omega
theorem wnt_eq {z : Zn} (h : VZ z) {u e : Int} (hu : 0 ≤ u ∧ u ≤ 1000000) (he : -100000 ≤ e ∧ e ≤ 100000) : wnt z u e = lim (z.least + (z.gain * e + u) / 1000) z.least z.most := by
  simp only [VZ] at h
  have hb := mul_bd (a := z.gain) (A := 10000) (e := e) (E := 100000) h.2.2.1 he
  simp only [wnt, W]
  generalize z.gain * e = p at hb ⊢
  rw [wr_in p (by omega) (by omega), wr_in (p + u) (by omega) (by omega), flr_eq (by omega) (by omega), wr_in _ (by omega) (by omega)]
theorem sum_eq {z : Zn} (h : VZ z) {u e : Int} (hu : 0 ≤ u ∧ u ≤ 1000000) (he : -100000 ≤ e ∧ e ≤ 100000) : lim (W (u + W (z.intg * e))) 0 (topz z) = max 0 (min (u + z.intg * e) (1000 * (z.most - z.least))) := by
  rw [topz_eq h]
  simp only [VZ] at h
  have hb := mul_bd (a := z.intg) (A := 10000) (e := e) (E := 100000) h.2.2.2.1 he
  simp only [lim, W]
  generalize z.intg * e = p at hb ⊢
  rw [wr_in p (by omega) (by omega), wr_in (u + p) (by omega) (by omega)]
theorem sd_bd {z : Zn} {s : Sp} (h : sd z s = true) : VZ z ∧ (z.least ≤ s.out ∧ s.out ≤ z.most) ∧ 0 ≤ s.sum ∧ s.sum ≤ 1000 * (z.most - z.least) := by
  have := (sd_iff z s).mp h
  rw [topz_eq this.1] at this
  exact this
theorem sd_of {z : Zn} {s : Sp} (h : VZ z) (h1 : z.least ≤ s.out ∧ s.out ≤ z.most) (h2 : 0 ≤ s.sum ∧ s.sum ≤ 1000 * (z.most - z.least)) : sd z s = true := by
  rw [sd_iff, topz_eq h]
  exact ⟨h, h1, h2⟩
theorem stt_sd {z : Zn} (h : vz z = true) : sd z (stt z) = true := by
  have hv := (vz_iff z).mp h
  have hv2 := hv
  simp only [VZ] at hv2
  refine sd_of hv ?_ ?_ <;> simp only [stt, h, if_true] <;> omega
/-- What a step with a sensor that is not known does. -/
theorem stp_unk {z : Zn} {s : Sp} {rs : List Int} {ks : List Bool} (h : sd z s = true) (hl : lenOK z rs ks = true) (hx : exOK z rs ks = false) :
    (stp z s rs ks).out = min z.most (s.out + z.slew) ∧ (stp z s rs ks).sum = s.sum ∧ stpE z s rs ks = 0 := by
  have hb := sd_bd h
  have hv := hb.1
  simp only [VZ] at hv
  simp only [stp, stpE, h, hl, hx, Bool.and_self, if_true]
  refine ⟨?_, by simp, trivial⟩
  simp only [Bool.false_eq_true, if_false]
  rw [mv_eq hb.1 (by omega)]
  omega
theorem ctl_eq {z : Zn} {s : Sp} {e : Int} (h : VZ z) (h1 : z.least ≤ s.out ∧ s.out ≤ z.most) (h2 : 0 ≤ s.sum ∧ s.sum ≤ 1000 * (z.most - z.least)) (he : -100000 ≤ e ∧ e ≤ 100000) :
    (ctl z s e).sum = max 0 (min (s.sum + z.intg * e) (1000 * (z.most - z.least))) ∧
    (ctl z s e).out = max (s.out - z.slew) (min (max z.least (min (z.least + (z.gain * e + (ctl z s e).sum) / 1000) z.most)) (s.out + z.slew)) := by
  have hv := h
  simp only [VZ] at hv
  have e1 : (ctl z s e).sum = max 0 (min (s.sum + z.intg * e) (1000 * (z.most - z.least))) := sum_eq h ⟨h2.1, by omega⟩ he
  refine ⟨e1, ?_⟩
  have e2 : (ctl z s e).out = mv z.slew s.out (wnt z (ctl z s e).sum e) := rfl
  rw [e2, mv_eq h (by omega), wnt_eq h (by omega) he]
  simp only [lim]
theorem stp_ok {z : Zn} {s : Sp} {rs : List Int} {ks : List Bool} (h : sd z s = true) (hx : exOK z rs ks = true) :
    stp z s rs ks = ctl z s (exV z rs) ∧ stpE z s rs ks = 0 := by
  have e2 : lenOK z rs ks = true := by have := exOK_iff.mp hx; simp [lenOK, this.2.1, this.2.2.1]
  simp only [stp, stpE, h, hx, e2, Bool.and_self, if_true, and_self]
theorem step_bd {z : Zn} {s : Sp} {rs : List Int} {ks : List Bool} (h : sd z s = true) (hl : lenOK z rs ks = true) :
    stpE z s rs ks = 0 ∧ sd z (stp z s rs ks) = true ∧ (stp z s rs ks).out - s.out ≤ z.slew ∧ s.out - (stp z s rs ks).out ≤ z.slew := by
  have hb := sd_bd h
  have hv := hb.1
  simp only [VZ] at hv
  cases hx : exOK z rs ks with
  | false =>
    obtain ⟨e1, e2, e3⟩ := stp_unk h hl hx
    refine ⟨e3, sd_of hb.1 (by omega) (by omega), by omega, by omega⟩
  | true =>
    obtain ⟨e1, e3⟩ := stp_ok h hx
    obtain ⟨e4, e5⟩ := ctl_eq hb.1 hb.2.1 hb.2.2 (exV_bd z rs)
    rw [e1]
    refine ⟨e3, sd_of hb.1 (by omega) (by omega), by omega, by omega⟩
end Go.Proofs.Ytofldhooanikcaa

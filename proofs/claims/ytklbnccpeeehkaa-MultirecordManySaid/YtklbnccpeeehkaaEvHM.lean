/- A part of the proof: symbolic evaluation of the program's functions, proved sound against the model; no condition. -/
import Derived.Test.YtklbnccpeeehkaaEvHH
import Derived.Test.YtklbnccpeeehkaaEvHK
namespace Go.Proofs.Ytklbnccpeeehkaa
open Go Go.RowKit Go.Ev
set_option linter.unusedSimpArgs false
set_option linter.unusedVariables false
set_option maxRecDepth 20000
theorem s29 : Sound Try.prog 29 CSo := sound_pureI (by kernel_rfl) h0 Try.func29 rfl rc29_ok rv29_ok (by
  intro xs q r cs' h hq
  split at h
  · rename_i zz es
    cases h
    obtain ⟨⟨⟨rfl, he⟩, hn⟩, ho⟩ := hq
    obtain ⟨L, rfl⟩ : ∃ L, es = u8s L := ⟨_, he⟩
    simp only [decR_recs, recs_len, decU_u8s, u8s_len, decI_i64s] at *
    exact ⟨I29 L, rfl, Nat.le_of_ble_eq_true rfl, walk29 L hn ho⟩
  · cases h)
theorem s34z : Sound Try.prog 34 CCz := soundX_pureI (by kernel_rfl) h0 Try.func34 rfl rc34_ok rv34_ok (by
  intro xs q g h hq
  split at h
  · rename_i zz es
    cases h
    obtain ⟨⟨rfl, he⟩, hn⟩ := hq
    obtain ⟨L, rfl⟩ : ∃ L, es = u8s L := ⟨_, he⟩
    simp only [decR_recs, recs_len, decU_u8s, u8s_len, decI_i64s] at *
    exact ⟨I34 L, Nat.le_of_ble_eq_true rfl, walk34x L hn⟩
  · cases h)
theorem hC : ∀ f C, Phis [(34, CCz), (29, CSo)] f = some C → Sound Try.prog f C := (phis_cons s34z (phis_cons s29 phis_nil))
theorem s32 : Sound Try.prog 32 CSp := sound_pureI (by kernel_rfl) hC Try.func32 rfl rc32_ok rv32_ok (by
  intro xs q r cs' h hq
  split at h
  · rename_i zz es
    cases h
    obtain ⟨⟨⟨rfl, he⟩, hn⟩, ho⟩ := hq
    obtain ⟨L, rfl⟩ : ∃ L, es = u8s L := ⟨_, he⟩
    simp only [decR_recs, recs_len, decU_u8s, u8s_len, decI_i64s] at *
    exact ⟨noI, rfl, Nat.le_of_ble_eq_true rfl, walk32 rfl rfl L hn ho⟩
  · cases h)
theorem hD : ∀ f C, Phis [(27, CVl), (34, CCl), (29, CSo), (32, CSp), (26, CVl), (33, CCl), (35, CSu)] f = some C → Sound Try.prog f C := (phis_cons s27 (phis_cons s34 (phis_cons s29 (phis_cons s32 (phis_cons s26 (phis_cons s33 (phis_cons s35 phis_nil)))))))
theorem s25 : Sound Try.prog 25 CEo := sound_pureI (by kernel_rfl) hD Try.func25 rfl rc25_ok rv25_ok (by
  intro xs q r cs' h hq
  split at h
  · rename_i zz es
    cases h
    obtain ⟨⟨rfl, he⟩, ho⟩ := hq
    obtain ⟨l, rfl⟩ : ∃ l, es = recs l := ⟨_, he⟩
    simp only [decR_recs, recs_len, decU_u8s, u8s_len, decI_i64s] at *
    exact ⟨I25 l, rfl, Nat.le_of_ble_eq_true rfl, walk25 rfl rfl rfl l ho⟩
  · cases h)
theorem s30 : Sound Try.prog 30 CDc := sound_pureI (by kernel_rfl) hD Try.func30 rfl rc30_ok rv30_ok (by
  intro xs q r cs' h hq
  split at h
  · rename_i zz es
    cases h
    obtain ⟨⟨⟨rfl, he⟩, hn⟩, ho⟩ := hq
    obtain ⟨L, rfl⟩ : ∃ L, es = u8s L := ⟨_, he⟩
    simp only [decR_recs, recs_len, decU_u8s, u8s_len, decI_i64s] at *
    exact ⟨I30 L, rfl, Nat.le_of_ble_eq_true rfl, walk30 rfl rfl rfl L hn ho⟩
  · cases h)
theorem s31 : Sound Try.prog 31 CDc := sound_pureI (by kernel_rfl) hD Try.func31 rfl rc31_ok rv31_ok (by
  intro xs q r cs' h hq
  split at h
  · rename_i zz es
    cases h
    obtain ⟨⟨⟨rfl, he⟩, hn⟩, ho⟩ := hq
    obtain ⟨L, rfl⟩ : ∃ L, es = u8s L := ⟨_, he⟩
    simp only [decR_recs, recs_len, decU_u8s, u8s_len, decI_i64s] at *
    exact ⟨I31 L, rfl, Nat.le_of_ble_eq_true rfl, walk31 rfl rfl rfl L hn ho⟩
  · cases h)
theorem s12o : Sound Try.prog 12 CDBo := soundX_stateI (by kernel_rfl) h4 Try.func12 rfl rc12_ok rv12_ok (by
  intro cs xs q g h hq
  split at h
  · rename_i zz es a n
    cases h
    obtain ⟨⟨rfl, he⟩, ha, hn⟩ := hq
    obtain ⟨L, rfl⟩ : ∃ L, es = i64s L := ⟨_, he⟩
    simp only [decR_recs, recs_len, decU_u8s, u8s_len, decI_i64s] at *
    exact ⟨I12o L n, fun _ _ => rfl, Nat.le_of_ble_eq_true rfl, walk12o rfl rfl L a n ha hn⟩
  · cases h)
theorem hE : ∀ f C, Phis [(12, CDBo), (13, CDb), (14, CDx)] f = some C → Sound Try.prog f C := (phis_cons s12o (phis_cons s13 (phis_cons s14 phis_nil)))
theorem s15o : Sound Try.prog 15 CDRo := soundX_stateI (by kernel_rfl) hE Try.func15 rfl rc15_ok rv15_ok (by
  intro cs xs q g h hq
  split at h
  · rename_i zz es a n
    cases h
    obtain ⟨⟨rfl, he⟩, ha, hn⟩ := hq
    obtain ⟨L, rfl⟩ : ∃ L, es = i64s L := ⟨_, he⟩
    simp only [decR_recs, recs_len, decU_u8s, u8s_len, decI_i64s] at *
    exact ⟨I15o L n, fun _ _ => rfl, Nat.le_of_ble_eq_true rfl, walk15o rfl rfl rfl L a n ha hn⟩
  · cases h)
theorem hF : ∀ f C, Phis [(8, CLg), (9, CDl), (10, CAw), (11, CRl), (13, CDb), (14, CDx), (15, CDRo), (19, CSm), (23, CSb), (24, CEn), (25, CEo), (26, CVl), (27, CVl), (28, CDy), (29, CSo), (30, CDc), (31, CDc)] f = some C → Sound Try.prog f C := (phis_cons s8 (phis_cons s9 (phis_cons s10 (phis_cons s11 (phis_cons s13 (phis_cons s14 (phis_cons s15o (phis_cons s19 (phis_cons s23 (phis_cons s24 (phis_cons s25 (phis_cons s26 (phis_cons s27 (phis_cons s28 (phis_cons s29 (phis_cons s30 (phis_cons s31 phis_nil)))))))))))))))))
theorem ex_recso {es : List (List AV)} (h : ∀ r ∈ es, okAs [.int .u8, .sl [.int .u8]] r) : ∃ l : List Rc, es = recs l ∧ Okr l := by
  have key : ∀ r ∈ es, ∃ x : Rc, r = x.cs ∧ ((0 ≤ x.ty ∧ x.ty ≤ 255) ∧ Okb x.d) := by
    intro r hr
    obtain ⟨n, _, rfl, hn, k⟩ := un_int (h r hr)
    obtain ⟨ds, _, rfl, _, hds, k2⟩ := un_sl k
    obtain rfl := okAs_unnil k2
    obtain ⟨D, rfl, hD⟩ := ex_u8s hds
    exact ⟨⟨n, D⟩, rfl, bounds_u8 hn, hD⟩
  obtain ⟨l, hl, ho⟩ := ex_map key
  exact ⟨l, hl, ho⟩
end Go.Proofs.Ytklbnccpeeehkaa

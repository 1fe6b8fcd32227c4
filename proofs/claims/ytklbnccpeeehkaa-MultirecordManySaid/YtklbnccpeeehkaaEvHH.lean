/- A part of the proof: symbolic evaluation of the program's functions, proved sound against the model; no condition. -/
import Derived.Test.YtklbnccpeeehkaaEvHE
namespace Go.Proofs.Ytklbnccpeeehkaa
open Go Go.RowKit Go.Ev
set_option linter.unusedSimpArgs false
set_option linter.unusedVariables false
set_option maxRecDepth 20000
theorem walk19 {Phi : Nat → Option Ctr} (P23 : Phi 23 = some CSb) (a b : List Rc) : evC Phi (I19 a b) rc19 ⟨initS [.lst [.int .u8 0, .nil] (recs a), .lst [.int .u8 0, .nil] (recs b)], initM false []⟩ (kRet rv19 (.bool (decide (a = b))) false []) := by
  by_cases hl : a.length = b.length
  · exact walk19e P23 a b hl
  · exact walk19n P23 a b hl
theorem h0 : ∀ f C, Phis [] f = some C → Sound Try.prog f C := phis_nil
theorem s26 : Sound Try.prog 26 CVl := sound_pureI (by kernel_rfl) h0 Try.func26 rfl rc26_ok rv26_ok (by
  intro xs q r cs' h hq
  split at h
  · rename_i zz es
    cases h
    obtain ⟨rfl, he⟩ := hq
    obtain ⟨l, rfl⟩ : ∃ l, es = recs l := ⟨_, he⟩
    simp only [decR_recs, recs_len, decU_u8s, u8s_len, decI_i64s] at *
    exact ⟨I26 l, rfl, Nat.le_of_ble_eq_true rfl, walk26 l⟩
  · cases h)
theorem s27 : Sound Try.prog 27 CVl := sound_pureI (by kernel_rfl) h0 Try.func27 rfl rc27_ok rv27_ok (by
  intro xs q r cs' h hq
  split at h
  · rename_i zz es
    cases h
    obtain ⟨rfl, he⟩ := hq
    obtain ⟨l, rfl⟩ : ∃ l, es = recs l := ⟨_, he⟩
    simp only [decR_recs, recs_len, decU_u8s, u8s_len, decI_i64s] at *
    exact ⟨I27 l, rfl, Nat.le_of_ble_eq_true rfl, walk27 l⟩
  · cases h)
theorem s8 : Sound Try.prog 8 CLg := sound_pureI (by kernel_rfl) h0 Try.func8 rfl rc8_ok rv8_ok (by
  intro xs q r cs' h hq
  split at h
  · rename_i zz es
    cases h
    obtain ⟨rfl, he⟩ := hq
    obtain ⟨l, rfl⟩ : ∃ l, es = recs l := ⟨_, he⟩
    simp only [decR_recs, recs_len, decU_u8s, u8s_len, decI_i64s] at *
    exact ⟨I8 l, rfl, Nat.le_of_ble_eq_true rfl, walk8 l⟩
  · cases h)
theorem s34 : Sound Try.prog 34 CCl := sound_pureI (by kernel_rfl) h0 Try.func34 rfl rc34_ok rv34_ok (by
  intro xs q r cs' h hq
  split at h
  · rename_i zz es
    cases h
    obtain ⟨⟨rfl, he⟩, hn⟩ := hq
    obtain ⟨L, rfl⟩ : ∃ L, es = u8s L := ⟨_, he⟩
    simp only [decR_recs, recs_len, decU_u8s, u8s_len, decI_i64s] at *
    exact ⟨I34 L, rfl, Nat.le_of_ble_eq_true rfl, walk34 L hn⟩
  · cases h)
theorem s33 : Sound Try.prog 33 CCl := sound_pureI (by kernel_rfl) h0 Try.func33 rfl rc33_ok rv33_ok (by
  intro xs q r cs' h hq
  split at h
  · rename_i zz es
    cases h
    obtain ⟨⟨rfl, he⟩, hn⟩ := hq
    obtain ⟨L, rfl⟩ : ∃ L, es = u8s L := ⟨_, he⟩
    simp only [decR_recs, recs_len, decU_u8s, u8s_len, decI_i64s] at *
    exact ⟨noI, rfl, Nat.le_of_ble_eq_true rfl, walk33 L hn⟩
  · cases h)
theorem s35 : Sound Try.prog 35 CSu := sound_pureI (by kernel_rfl) h0 Try.func35 rfl rc35_ok rv35_ok (by
  intro xs q r cs' h hq
  split at h
  · rename_i zz es
    cases h
    obtain ⟨⟨rfl, he⟩, hn⟩ := hq
    obtain ⟨L, rfl⟩ : ∃ L, es = u8s L := ⟨_, he⟩
    simp only [decR_recs, recs_len, decU_u8s, u8s_len, decI_i64s] at *
    exact ⟨I35 L, rfl, Nat.le_of_ble_eq_true rfl, walk35 L hn⟩
  · cases h)
theorem s33x : Sound Try.prog 33 CCx := soundX_pureI (by kernel_rfl) h0 Try.func33 rfl rc33_ok rv33_ok (by
  intro xs q g h hq
  split at h
  · rename_i zz es
    cases h
    obtain ⟨⟨rfl, he⟩, hn⟩ := hq
    obtain ⟨L, rfl⟩ : ∃ L, es = u8s L := ⟨_, he⟩
    simp only [decR_recs, recs_len, decU_u8s, u8s_len, decI_i64s] at *
    exact ⟨noI, Nat.le_of_ble_eq_true rfl, walk33x L hn⟩
  · cases h)
theorem s23 : Sound Try.prog 23 CSb := sound_pureI (by kernel_rfl) h0 Try.func23 rfl rc23_ok rv23_ok (by
  intro xs q r cs' h hq
  split at h
  · cases h
    rename_i z1 e1 z2 e2
    obtain ⟨⟨rfl, ha⟩, rfl, hb⟩ := hq
    obtain ⟨A, rfl⟩ : ∃ L, e1 = u8s L := ⟨_, ha⟩
    obtain ⟨B, rfl⟩ : ∃ L, e2 = u8s L := ⟨_, hb⟩
    simp only [decR_recs, recs_len, decU_u8s, u8s_len, decI_i64s] at *
    exact ⟨I23 A B, rfl, Nat.le_of_ble_eq_true rfl, walk23 A B⟩
  · cases h
    rename_i z1 e1
    obtain ⟨rfl, ha⟩ := hq
    obtain ⟨A, rfl⟩ : ∃ L, e1 = u8s L := ⟨_, ha⟩
    simp only [decU_u8s] at *
    exact ⟨I23 A [], rfl, Nat.le_of_ble_eq_true rfl, walk23n A⟩
  · cases h)
theorem s20 : Sound Try.prog 20 CFi := sound_pureI (by kernel_rfl) h0 Try.func20 rfl rc20_ok rv20_ok (by
  intro xs q r cs' h hq
  split at h
  · rename_i zz es k a
    cases h
    obtain ⟨⟨rfl, he⟩, hn⟩ := hq
    obtain ⟨l, rfl⟩ : ∃ l, es = recs l := ⟨_, he⟩
    simp only [decR_recs, recs_len, decU_u8s, u8s_len, decI_i64s] at *
    exact ⟨I20 l k a, rfl, Nat.le_of_ble_eq_true rfl, walk20 l k a hn⟩
  · cases h)
theorem s21 : Sound Try.prog 21 CFi := sound_pureI (by kernel_rfl) h0 Try.func21 rfl rc21_ok rv21_ok (by
  intro xs q r cs' h hq
  split at h
  · rename_i zz es k a
    cases h
    obtain ⟨⟨rfl, he⟩, hn⟩ := hq
    obtain ⟨l, rfl⟩ : ∃ l, es = recs l := ⟨_, he⟩
    simp only [decR_recs, recs_len, decU_u8s, u8s_len, decI_i64s] at *
    exact ⟨I21 l k a, rfl, Nat.le_of_ble_eq_true rfl, walk21 l k a hn⟩
  · cases h)
theorem s9 : Sound Try.prog 9 CDl := sound_pureI (by kernel_rfl) h0 Try.func9 rfl rc9_ok rv9_ok (by
  intro xs q r cs' h hq
  split at h
  · rename_i zz es
    cases h
    obtain ⟨rfl, he⟩ := hq
    obtain ⟨L, rfl⟩ : ∃ L, es = i64s L := ⟨_, he⟩
    simp only [decR_recs, recs_len, decU_u8s, u8s_len, decI_i64s] at *
    exact ⟨noI, rfl, Nat.le_of_ble_eq_true rfl, walk9 L⟩
  · cases h)
theorem s11 : Sound Try.prog 11 CRl := soundX_pureI (by kernel_rfl) h0 Try.func11 rfl rc11_ok rv11_ok (by
  intro xs q g h hq
  split at h
  · rename_i zz es
    cases h
    obtain ⟨rfl, he⟩ := hq
    obtain ⟨L, rfl⟩ : ∃ L, es = i64s L := ⟨_, he⟩
    simp only [decR_recs, recs_len, decU_u8s, u8s_len, decI_i64s] at *
    exact ⟨noI, Nat.le_of_ble_eq_true rfl, walk11 L⟩
  · cases h)
theorem s16 : Sound Try.prog 16 CMd := sound_pureI (by kernel_rfl) h0 Try.func16 rfl rc16_ok rv16_ok (by
  intro xs q r cs' h hq
  split at h
  · cases h
    exact ⟨noI, rfl, Nat.le_of_ble_eq_true rfl, walk16 _ _ hq⟩
  · cases h)
theorem h1 : ∀ f C, Phis [(26, CVl), (27, CVl), (8, CLg), (34, CCl), (33, CCl), (35, CSu), (23, CSb), (20, CFi), (21, CFi), (9, CDl), (11, CRl), (16, CMd)] f = some C → Sound Try.prog f C := (phis_cons s26 (phis_cons s27 (phis_cons s8 (phis_cons s34 (phis_cons s33 (phis_cons s35 (phis_cons s23 (phis_cons s20 (phis_cons s21 (phis_cons s9 (phis_cons s11 (phis_cons s16 phis_nil))))))))))))
theorem hA : ∀ f C, Phis [(33, CCx), (35, CSu)] f = some C → Sound Try.prog f C := (phis_cons s33x (phis_cons s35 phis_nil))
theorem s36 : Sound Try.prog 36 CSe := sound_pureI (by kernel_rfl) hA Try.func36 rfl rc36_ok rv36_ok (by
  intro xs q r cs' h hq
  split at h
  · rename_i zz es
    cases h
    obtain ⟨⟨rfl, he⟩, hn⟩ := hq
    obtain ⟨L, rfl⟩ : ∃ L, es = u8s L := ⟨_, he⟩
    simp only [decR_recs, recs_len, decU_u8s, u8s_len, decI_i64s] at *
    exact ⟨noI, rfl, Nat.le_of_ble_eq_true rfl, walk36 rfl rfl L hn⟩
  · cases h)
theorem s19 : Sound Try.prog 19 CSm := sound_pureI (by kernel_rfl) h1 Try.func19 rfl rc19_ok rv19_ok (by
  intro xs q r cs' h hq
  split at h
  · rename_i z1 e1 z2 e2
    cases h
    obtain ⟨⟨rfl, ha⟩, rfl, hb⟩ := hq
    obtain ⟨A, rfl⟩ : ∃ L, e1 = recs L := ⟨_, ha⟩
    obtain ⟨B, rfl⟩ : ∃ L, e2 = recs L := ⟨_, hb⟩
    simp only [decR_recs, recs_len, decU_u8s, u8s_len, decI_i64s] at *
    exact ⟨I19 A B, rfl, Nat.le_of_ble_eq_true rfl, walk19 rfl A B⟩
  · cases h)
theorem s22 : Sound Try.prog 22 CCp := sound_pureI (by kernel_rfl) h1 Try.func22 rfl rc22_ok rv22_ok (by
  intro xs q r cs' h hq
  split at h
  · rename_i zz es
    cases h
    obtain ⟨⟨⟨rfl, he⟩, hb⟩, hn⟩ := hq
    obtain ⟨l, rfl⟩ : ∃ l, es = recs l := ⟨_, he⟩
    simp only [decR_recs, recs_len, decU_u8s, u8s_len, decI_i64s] at *
    exact ⟨I22 l, rfl, Nat.le_of_ble_eq_true rfl, walk22 rfl l hb hn⟩
  · cases h)
theorem s22y : Sound Try.prog 22 CCy := soundX_pureI (by kernel_rfl) h1 Try.func22 rfl rc22_ok rv22_ok (by
  intro xs q g h hq
  split at h
  · rename_i zz es
    cases h
    obtain ⟨⟨⟨rfl, he⟩, hb⟩, hn⟩ := hq
    obtain ⟨l, rfl⟩ : ∃ l, es = recs l := ⟨_, he⟩
    simp only [decR_recs, recs_len, decU_u8s, u8s_len, decI_i64s] at *
    exact ⟨I22 l, Nat.le_of_ble_eq_true rfl, walk22x rfl l hb hn⟩
  · cases h)
theorem s14 : Sound Try.prog 14 CDx := sound_stateI (by kernel_rfl) h1 Try.func14 rfl rc14_ok rv14_ok (by
  intro cs xs q r cs' h hq
  split at h
  · rename_i zz es a n
    cases h
    obtain ⟨⟨rfl, he⟩, ha, hn⟩ := hq
    obtain ⟨L, rfl⟩ : ∃ L, es = i64s L := ⟨_, he⟩
    simp only [decR_recs, recs_len, decU_u8s, u8s_len, decI_i64s] at *
    exact ⟨noI, rfl, rfl, Nat.le_of_ble_eq_true rfl, walk14 rfl L a n ha hn⟩
  · cases h)
theorem s17 : Sound Try.prog 17 CRp := sound_pureI (by kernel_rfl) h1 Try.func17 rfl rc17_ok rv17_ok (by
  intro xs q r cs' h hq
  split at h
  · rename_i zz es i t z2 ds
    cases h
    obtain ⟨⟨⟨⟨rfl, he⟩, rfl, hd⟩, hb⟩, hn, hm⟩ := hq
    obtain ⟨l, rfl⟩ : ∃ l, es = recs l := ⟨_, he⟩
    obtain ⟨D, rfl⟩ : ∃ D, ds = u8s D := ⟨_, hd⟩
    simp only [decR_recs, recs_len, decU_u8s, u8s_len, decI_i64s] at *
    exact ⟨I17 l i t D, rfl, Nat.le_of_ble_eq_true rfl, walk17 rfl rfl l i t D hb hn hm⟩
  · cases h)
theorem hB : ∀ f C, Phis [(22, CCy), (27, CVl), (34, CCl)] f = some C → Sound Try.prog f C := (phis_cons s22y (phis_cons s27 (phis_cons s34 phis_nil)))
theorem s18 : Sound Try.prog 18 CRp := sound_pureI (by kernel_rfl) hB Try.func18 rfl rc18_ok rv18_ok (by
  intro xs q r cs' h hq
  split at h
  · rename_i zz es i t z2 ds
    cases h
    obtain ⟨⟨⟨⟨rfl, he⟩, rfl, hd⟩, hb⟩, hn, hm⟩ := hq
    obtain ⟨l, rfl⟩ : ∃ l, es = recs l := ⟨_, he⟩
    obtain ⟨D, rfl⟩ : ∃ D, ds = u8s D := ⟨_, hd⟩
    simp only [decR_recs, recs_len, decU_u8s, u8s_len, decI_i64s] at *
    exact ⟨noI, rfl, Nat.le_of_ble_eq_true rfl, walk18 rfl rfl rfl l i t D hb hn hm⟩
  · cases h)
theorem h2 : ∀ f C, Phis [(36, CSe), (19, CSm), (22, CCp), (14, CDx), (17, CRp), (18, CRp), (26, CVl), (27, CVl), (8, CLg), (34, CCl), (33, CCl), (35, CSu), (23, CSb), (20, CFi), (21, CFi), (9, CDl), (11, CRl), (16, CMd)] f = some C → Sound Try.prog f C := (phis_cons s36 (phis_cons s19 (phis_cons s22 (phis_cons s14 (phis_cons s17 (phis_cons s18 (phis_cons s26 (phis_cons s27 (phis_cons s8 (phis_cons s34 (phis_cons s33 (phis_cons s35 (phis_cons s23 (phis_cons s20 (phis_cons s21 (phis_cons s9 (phis_cons s11 (phis_cons s16 phis_nil))))))))))))))))))
theorem s24 : Sound Try.prog 24 CEn := sound_pureI (by kernel_rfl) h2 Try.func24 rfl rc24_ok rv24_ok (by
  intro xs q r cs' h hq
  split at h
  · rename_i zz es
    cases h
    obtain ⟨rfl, he⟩ := hq
    obtain ⟨l, rfl⟩ : ∃ l, es = recs l := ⟨_, he⟩
    simp only [decR_recs, recs_len, decU_u8s, u8s_len, decI_i64s] at *
    exact ⟨I24 l, rfl, Nat.le_of_ble_eq_true rfl, walk24 rfl rfl rfl l⟩
  · cases h)
theorem s13 : Sound Try.prog 13 CDb := sound_stateI (by kernel_rfl) h2 Try.func13 rfl rc13_ok rv13_ok (by
  intro cs xs q r cs' h hq
  split at h
  · rename_i zz es a n
    cases h
    obtain ⟨⟨rfl, he⟩, ha, hn⟩ := hq
    obtain ⟨L, rfl⟩ : ∃ L, es = i64s L := ⟨_, he⟩
    simp only [decR_recs, recs_len, decU_u8s, u8s_len, decI_i64s] at *
    exact ⟨noI, rfl, rfl, Nat.le_of_ble_eq_true rfl, walk13 rfl L a n ha hn⟩
  · cases h)
theorem h3 : ∀ f C, Phis [(24, CEn), (13, CDb), (36, CSe), (19, CSm), (22, CCp), (14, CDx), (17, CRp), (18, CRp), (26, CVl), (27, CVl), (8, CLg), (34, CCl), (33, CCl), (35, CSu), (23, CSb), (20, CFi), (21, CFi), (9, CDl), (11, CRl), (16, CMd)] f = some C → Sound Try.prog f C := (phis_cons s24 (phis_cons s13 (phis_cons s36 (phis_cons s19 (phis_cons s22 (phis_cons s14 (phis_cons s17 (phis_cons s18 (phis_cons s26 (phis_cons s27 (phis_cons s8 (phis_cons s34 (phis_cons s33 (phis_cons s35 (phis_cons s23 (phis_cons s20 (phis_cons s21 (phis_cons s9 (phis_cons s11 (phis_cons s16 phis_nil))))))))))))))))))))
theorem s10 : Sound Try.prog 10 CAw := sound_pureI (by kernel_rfl) h3 Try.func10 rfl rc10_ok rv10_ok (by
  intro xs q r cs' h hq
  split at h
  · cases h
    exact ⟨noI, rfl, Nat.le_of_ble_eq_true rfl, walk10 rfl rfl⟩
  · cases h)
theorem s28 : Sound Try.prog 28 CDy := sound_stateI (by kernel_rfl) h3 Try.func28 rfl rc28_ok rv28_ok (by
  intro cs xs q r cs' h hq
  split at h
  · rename_i zz es a
    cases h
    obtain ⟨⟨rfl, he⟩, ha⟩ := hq
    obtain ⟨L, rfl⟩ : ∃ L, es = i64s L := ⟨_, he⟩
    simp only [decR_recs, recs_len, decU_u8s, u8s_len, decI_i64s] at *
    exact ⟨noI, rfl, rfl, Nat.le_of_ble_eq_true rfl, walk28 rfl rfl L a ha⟩
  · cases h)
theorem h4 : ∀ f C, Phis [(10, CAw), (28, CDy), (24, CEn), (13, CDb), (36, CSe), (19, CSm), (22, CCp), (14, CDx), (17, CRp), (18, CRp), (26, CVl), (27, CVl), (8, CLg), (34, CCl), (33, CCl), (35, CSu), (23, CSb), (20, CFi), (21, CFi), (9, CDl), (11, CRl), (16, CMd)] f = some C → Sound Try.prog f C := (phis_cons s10 (phis_cons s28 (phis_cons s24 (phis_cons s13 (phis_cons s36 (phis_cons s19 (phis_cons s22 (phis_cons s14 (phis_cons s17 (phis_cons s18 (phis_cons s26 (phis_cons s27 (phis_cons s8 (phis_cons s34 (phis_cons s33 (phis_cons s35 (phis_cons s23 (phis_cons s20 (phis_cons s21 (phis_cons s9 (phis_cons s11 (phis_cons s16 phis_nil))))))))))))))))))))))
theorem s12 : Sound Try.prog 12 CDB := soundX_stateI (by kernel_rfl) h4 Try.func12 rfl rc12_ok rv12_ok (by
  intro cs xs q g h hq
  split at h
  · rename_i zz es a n
    cases h
    obtain ⟨⟨rfl, he⟩, ha, hn⟩ := hq
    obtain ⟨L, rfl⟩ : ∃ L, es = i64s L := ⟨_, he⟩
    simp only [decR_recs, recs_len, decU_u8s, u8s_len, decI_i64s] at *
    exact ⟨I12 L n, fun _ _ => rfl, Nat.le_of_ble_eq_true rfl, walk12 rfl rfl L a n ha hn⟩
  · cases h)
theorem h5 : ∀ f C, Phis [(12, CDB), (10, CAw), (28, CDy), (24, CEn), (13, CDb), (36, CSe), (19, CSm), (22, CCp), (14, CDx), (17, CRp), (18, CRp), (26, CVl), (27, CVl), (8, CLg), (34, CCl), (33, CCl), (35, CSu), (23, CSb), (20, CFi), (21, CFi), (9, CDl), (11, CRl), (16, CMd)] f = some C → Sound Try.prog f C := (phis_cons s12 (phis_cons s10 (phis_cons s28 (phis_cons s24 (phis_cons s13 (phis_cons s36 (phis_cons s19 (phis_cons s22 (phis_cons s14 (phis_cons s17 (phis_cons s18 (phis_cons s26 (phis_cons s27 (phis_cons s8 (phis_cons s34 (phis_cons s33 (phis_cons s35 (phis_cons s23 (phis_cons s20 (phis_cons s21 (phis_cons s9 (phis_cons s11 (phis_cons s16 phis_nil)))))))))))))))))))))))
theorem s15 : Sound Try.prog 15 CDR := soundX_stateI (by kernel_rfl) h5 Try.func15 rfl rc15_ok rv15_ok (by
  intro cs xs q g h hq
  split at h
  · rename_i zz es a n
    cases h
    obtain ⟨⟨rfl, he⟩, ha, hn⟩ := hq
    obtain ⟨L, rfl⟩ : ∃ L, es = i64s L := ⟨_, he⟩
    simp only [decR_recs, recs_len, decU_u8s, u8s_len, decI_i64s] at *
    exact ⟨I15 L n, fun _ _ => rfl, Nat.le_of_ble_eq_true rfl, walk15 rfl rfl rfl L a n ha hn⟩
  · cases h)
theorem h6 : ∀ f C, Phis [(15, CDR), (12, CDB), (10, CAw), (28, CDy), (24, CEn), (13, CDb), (36, CSe), (19, CSm), (22, CCp), (14, CDx), (17, CRp), (18, CRp), (26, CVl), (27, CVl), (8, CLg), (34, CCl), (33, CCl), (35, CSu), (23, CSb), (20, CFi), (21, CFi), (9, CDl), (11, CRl), (16, CMd)] f = some C → Sound Try.prog f C := (phis_cons s15 (phis_cons s12 (phis_cons s10 (phis_cons s28 (phis_cons s24 (phis_cons s13 (phis_cons s36 (phis_cons s19 (phis_cons s22 (phis_cons s14 (phis_cons s17 (phis_cons s18 (phis_cons s26 (phis_cons s27 (phis_cons s8 (phis_cons s34 (phis_cons s33 (phis_cons s35 (phis_cons s23 (phis_cons s20 (phis_cons s21 (phis_cons s9 (phis_cons s11 (phis_cons s16 phis_nil))))))))))))))))))))))))
theorem ex_recs {es : List (List AV)} (h : ∀ r ∈ es, okAs [.int .u8, .sl [.int .u8]] r) : ∃ l : List Rc, es = recs l := by
  have key : ∀ r ∈ es, ∃ x : Rc, r = x.cs ∧ True := by
    intro r hr
    obtain ⟨n, _, rfl, _, k⟩ := un_int (h r hr)
    obtain ⟨ds, _, rfl, _, hds, k2⟩ := un_sl k
    obtain rfl := okAs_unnil k2
    obtain ⟨D, rfl, _⟩ := ex_u8s hds
    exact ⟨⟨n, D⟩, rfl, trivial⟩
  obtain ⟨l, hl, _⟩ := ex_map key
  exact ⟨l, hl⟩
end Go.Proofs.Ytklbnccpeeehkaa

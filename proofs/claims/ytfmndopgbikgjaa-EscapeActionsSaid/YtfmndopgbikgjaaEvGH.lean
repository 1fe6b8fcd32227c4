/- A part of the proof: symbolic evaluation of the program's functions, proved sound against the model; no condition. -/
import Derived.Test.YtfmndopgbikgjaaEvGE
namespace Go.Proofs.Ytfmndopgbikgjaa
open Go Go.RowKit Go.Ev
set_option linter.unusedSimpArgs false
set_option linter.unusedVariables false
set_option maxRecDepth 20000
theorem h0 : ∀ f C, Phis [] f = some C → Sound Try.prog f C := phis_nil
theorem s22 : Sound Try.prog 22 CEn := sound_pureI (by kernel_rfl) h0 Try.func22 rfl rc22_ok rv22_ok (by
  intro xs q r cs' h hq
  split at h
  · rename_i c
    cases h
    exact ⟨noI, rfl, Nat.le_of_ble_eq_true rfl, walk22 c⟩
  · cases h)
theorem s25 : Sound Try.prog 25 CEn := sound_pureI (by kernel_rfl) h0 Try.func25 rfl rc25_ok rv25_ok (by
  intro xs q r cs' h hq
  split at h
  · rename_i c
    cases h
    exact ⟨noI, rfl, Nat.le_of_ble_eq_true rfl, walk25 c⟩
  · cases h)
theorem s23 : Sound Try.prog 23 CAc := sound_pureI (by kernel_rfl) h0 Try.func23 rfl rc23_ok rv23_ok (by
  intro xs q r cs' h hq
  split at h
  · rename_i c
    cases h
    exact ⟨noI, rfl, Nat.le_of_ble_eq_true rfl, walk23 c⟩
  · cases h)
theorem s26 : Sound Try.prog 26 CAc := sound_pureI (by kernel_rfl) h0 Try.func26 rfl rc26_ok rv26_ok (by
  intro xs q r cs' h hq
  split at h
  · rename_i c
    cases h
    exact ⟨noI, rfl, Nat.le_of_ble_eq_true rfl, walk26 c⟩
  · cases h)
theorem s24 : Sound Try.prog 24 CTx := sound_pureI (by kernel_rfl) h0 Try.func24 rfl rc24_ok rv24_ok (by
  intro xs q r cs' h hq
  split at h
  · rename_i c
    cases h
    exact ⟨noI, rfl, Nat.le_of_ble_eq_true rfl, walk24 c⟩
  · cases h)
theorem s15 : Sound Try.prog 15 CNw := sound_pureI (by kernel_rfl) h0 Try.func15 rfl rc15_ok rv15_ok (by
  intro xs q r cs' h hq
  split at h
  · cases h
    exact ⟨noI, rfl, Nat.le_of_ble_eq_true rfl, walk15 ⟩
  · cases h)
theorem s16 : Sound Try.prog 16 CNw := sound_pureI (by kernel_rfl) h0 Try.func16 rfl rc16_ok rv16_ok (by
  intro xs q r cs' h hq
  split at h
  · cases h
    exact ⟨noI, rfl, Nat.le_of_ble_eq_true rfl, walk16 ⟩
  · cases h)
theorem s10 : Sound Try.prog 10 CSh := sound_pureI (by kernel_rfl) h0 Try.func10 rfl rc10_ok rv10_ok (by
  intro xs q r cs' h hq
  split at h
  · rename_i zz es
    cases h
    obtain ⟨⟨⟨rfl, he⟩, hb⟩, hn⟩ := hq
    obtain ⟨L, rfl⟩ : ∃ L, es = u8s L := ⟨_, he⟩
    simp only [decU_u8s, u8s_len] at *
    exact ⟨I10 L, rfl, Nat.le_of_ble_eq_true rfl, walk10 L (by omega) hb⟩
  · cases h)
theorem s13 : Sound Try.prog 13 CIn := sound_pureI (by kernel_rfl) h0 Try.func13 rfl rc13_ok rv13_ok (by
  intro xs q r cs' h hq
  split at h
  · rename_i z1 e1 z2 e2
    cases h
    obtain ⟨⟨rfl, ha⟩, rfl, hb⟩ := hq
    obtain ⟨A, rfl⟩ : ∃ L, e1 = i64s L := ⟨_, ha⟩
    obtain ⟨B, rfl⟩ : ∃ L, e2 = i64s L := ⟨_, hb⟩
    simp only [decI_i64s] at *
    exact ⟨I13 A B, rfl, Nat.le_of_ble_eq_true rfl, walk13 A B⟩
  · cases h)
theorem s27 : Sound Try.prog 27 CSq := sound_pureI (by kernel_rfl) h0 Try.func27 rfl rc27_ok rv27_ok (by
  intro xs q r cs' h hq
  split at h
  · rename_i zz es a
    cases h
    obtain ⟨⟨rfl, he⟩, ⟨ha0, ha⟩, hn⟩ := hq
    obtain ⟨L, rfl⟩ : ∃ L, es = u8s L := ⟨_, he⟩
    obtain ⟨a, rfl⟩ : ∃ n : Nat, a = n := ⟨a.toNat, by omega⟩
    simp only [decU_u8s, u8s_len, Int.toNat_natCast] at *
    exact ⟨I27 L a, rfl, Nat.le_of_ble_eq_true rfl, walk27 L hn a (by omega)⟩
  · cases h)
theorem h1 : ∀ f C, Phis [(22, CEn), (25, CEn), (23, CAc), (26, CAc), (15, CNw), (16, CNw), (10, CSh), (13, CIn), (24, CTx), (27, CSq)] f = some C → Sound Try.prog f C := (phis_cons s22 (phis_cons s25 (phis_cons s23 (phis_cons s26 (phis_cons s15 (phis_cons s16 (phis_cons s10 (phis_cons s13 (phis_cons s24 (phis_cons s27 phis_nil))))))))))
theorem s12 : Sound Try.prog 12 CSt := sound_pureI (by kernel_rfl) h1 Try.func12 rfl rc12_ok rv12_ok (by
  intro xs q r cs' h hq
  split at h
  · rename_i b e c
    cases h
    exact ⟨noI, rfl, Nat.le_of_ble_eq_true rfl, walk12 rfl rfl ⟨b, e⟩ c⟩
  · cases h)
theorem s17 : Sound Try.prog 17 CSt := sound_pureI (by kernel_rfl) h1 Try.func17 rfl rc17_ok rv17_ok (by
  intro xs q r cs' h hq
  split at h
  · rename_i b e c
    cases h
    exact ⟨noI, rfl, Nat.le_of_ble_eq_true rfl, walk17 rfl rfl ⟨b, e⟩ c⟩
  · cases h)
theorem s19 : Sound Try.prog 19 CQt := sound_pureI (by kernel_rfl) h1 Try.func19 rfl rc19_ok rv19_ok (by
  intro xs q r cs' h hq
  split at h
  · rename_i zz es
    cases h
    obtain ⟨⟨rfl, he⟩, hn⟩ := hq
    obtain ⟨L, rfl⟩ : ∃ L, es = u8s L := ⟨_, he⟩
    simp only [decU_u8s, u8s_len] at *
    exact ⟨I19 L, rfl, Nat.le_of_ble_eq_true rfl, walk19 rfl L hn⟩
  · cases h)
theorem s20 : Sound Try.prog 20 CQt := sound_pureI (by kernel_rfl) h1 Try.func20 rfl rc20_ok rv20_ok (by
  intro xs q r cs' h hq
  split at h
  · rename_i zz es
    cases h
    obtain ⟨⟨rfl, he⟩, hn⟩ := hq
    obtain ⟨L, rfl⟩ : ∃ L, es = u8s L := ⟨_, he⟩
    simp only [decU_u8s, u8s_len] at *
    exact ⟨I20 L, rfl, Nat.le_of_ble_eq_true rfl, walk20 rfl L hn⟩
  · cases h)
theorem s28 : Sound Try.prog 28 CBe := sound_pureI (by kernel_rfl) h1 Try.func28 rfl rc28_ok rv28_ok (by
  intro xs q r cs' h hq
  split at h
  · rename_i c
    cases h
    exact ⟨noI, rfl, Nat.le_of_ble_eq_true rfl, walk28 rfl c⟩
  · cases h)
theorem s30 : Sound Try.prog 30 CIm := sound_pureI (by kernel_rfl) h1 Try.func30 rfl rc30_ok rv30_ok (by
  intro xs q r cs' h hq
  split at h
  · rename_i c
    cases h
    exact ⟨noI, rfl, Nat.le_of_ble_eq_true rfl, walk30 rfl c⟩
  · cases h)
theorem s21 : Sound Try.prog 21 CSp := sound_pureI (by kernel_rfl) h1 Try.func21 rfl rc21_ok rv21_ok (by
  intro xs q r cs' h hq
  split at h
  · rename_i zz es
    cases h
    obtain ⟨⟨rfl, he⟩, hn⟩ := hq
    obtain ⟨L, rfl⟩ : ∃ L, es = u8s L := ⟨_, he⟩
    simp only [decU_u8s, u8s_len] at *
    exact ⟨I21 L, rfl, Nat.le_of_ble_eq_true rfl, walk21 rfl L hn⟩
  · cases h)
theorem h2 : ∀ f C, Phis [(12, CSt), (17, CSt), (19, CQt), (20, CQt), (28, CBe), (30, CIm), (21, CSp), (22, CEn), (25, CEn), (23, CAc), (26, CAc), (15, CNw), (16, CNw), (10, CSh), (13, CIn), (24, CTx), (27, CSq)] f = some C → Sound Try.prog f C := (phis_cons s12 (phis_cons s17 (phis_cons s19 (phis_cons s20 (phis_cons s28 (phis_cons s30 (phis_cons s21 (phis_cons s22 (phis_cons s25 (phis_cons s23 (phis_cons s26 (phis_cons s15 (phis_cons s16 (phis_cons s10 (phis_cons s13 (phis_cons s24 (phis_cons s27 phis_nil)))))))))))))))))
theorem s11 : Sound Try.prog 11 CFd := sound_pureI (by kernel_rfl) h2 Try.func11 rfl rc11_ok rv11_ok (by
  intro xs q r cs' h hq
  split at h
  · rename_i b e zz es
    cases h
    obtain ⟨⟨rfl, he⟩, hn⟩ := hq
    obtain ⟨L, rfl⟩ : ∃ L, es = u8s L := ⟨_, he⟩
    simp only [decU_u8s, u8s_len] at *
    exact ⟨I11 ⟨b, e⟩ L, rfl, Nat.le_of_ble_eq_true rfl, walk11 rfl ⟨b, e⟩ L hn⟩
  · cases h)
theorem s18 : Sound Try.prog 18 CFd := sound_pureI (by kernel_rfl) h2 Try.func18 rfl rc18_ok rv18_ok (by
  intro xs q r cs' h hq
  split at h
  · rename_i b e zz es
    cases h
    obtain ⟨⟨rfl, he⟩, hn⟩ := hq
    obtain ⟨L, rfl⟩ : ∃ L, es = u8s L := ⟨_, he⟩
    simp only [decU_u8s, u8s_len] at *
    exact ⟨I18 ⟨b, e⟩ L, rfl, Nat.le_of_ble_eq_true rfl, walk18 rfl ⟨b, e⟩ L hn⟩
  · cases h)
theorem s29 : Sound Try.prog 29 CPa := sound_pureI (by kernel_rfl) h2 Try.func29 rfl rc29_ok rv29_ok (by
  intro xs q r cs' h hq
  split at h
  · rename_i c
    cases h
    exact ⟨noI, rfl, Nat.le_of_ble_eq_true rfl, walk29 rfl c⟩
  · cases h)
theorem h3 : ∀ f C, Phis [(11, CFd), (18, CFd), (29, CPa), (12, CSt), (17, CSt), (19, CQt), (20, CQt), (28, CBe), (30, CIm), (21, CSp), (22, CEn), (25, CEn), (23, CAc), (26, CAc), (15, CNw), (16, CNw), (10, CSh), (13, CIn), (24, CTx), (27, CSq)] f = some C → Sound Try.prog f C := (phis_cons s11 (phis_cons s18 (phis_cons s29 (phis_cons s12 (phis_cons s17 (phis_cons s19 (phis_cons s20 (phis_cons s28 (phis_cons s30 (phis_cons s21 (phis_cons s22 (phis_cons s25 (phis_cons s23 (phis_cons s26 (phis_cons s15 (phis_cons s16 (phis_cons s10 (phis_cons s13 (phis_cons s24 (phis_cons s27 phis_nil))))))))))))))))))))
theorem s14 : Sound Try.prog 14 CSp := sound_pureI (by kernel_rfl) h3 Try.func14 rfl rc14_ok rv14_ok (by
  intro xs q r cs' h hq
  split at h
  · rename_i zz es
    cases h
    obtain ⟨⟨rfl, he⟩, hn⟩ := hq
    obtain ⟨L, rfl⟩ : ∃ L, es = u8s L := ⟨_, he⟩
    simp only [decU_u8s, u8s_len] at *
    exact ⟨I14 L, rfl, Nat.le_of_ble_eq_true rfl, walk14 rfl rfl rfl rfl L hn⟩
  · cases h)
theorem h4 : ∀ f C, Phis [(14, CSp), (11, CFd), (18, CFd), (29, CPa), (12, CSt), (17, CSt), (19, CQt), (20, CQt), (28, CBe), (30, CIm), (21, CSp), (22, CEn), (25, CEn), (23, CAc), (26, CAc), (15, CNw), (16, CNw), (10, CSh), (13, CIn), (24, CTx), (27, CSq)] f = some C → Sound Try.prog f C := (phis_cons s14 (phis_cons s11 (phis_cons s18 (phis_cons s29 (phis_cons s12 (phis_cons s17 (phis_cons s19 (phis_cons s20 (phis_cons s28 (phis_cons s30 (phis_cons s21 (phis_cons s22 (phis_cons s25 (phis_cons s23 (phis_cons s26 (phis_cons s15 (phis_cons s16 (phis_cons s10 (phis_cons s13 (phis_cons s24 (phis_cons s27 phis_nil)))))))))))))))))))))
theorem s9 : Sound Try.prog 9 CAw := sound_pureI (by kernel_rfl) h4 Try.func9 rfl rc9_ok rv9_ok (by
  intro xs q r cs' h hq
  split at h
  · cases h
    exact ⟨noI, rfl, Nat.le_of_ble_eq_true rfl, walk9 rfl rfl rfl⟩
  · cases h)
theorem h5 : ∀ f C, Phis [(9, CAw), (14, CSp), (11, CFd), (18, CFd), (29, CPa), (12, CSt), (17, CSt), (19, CQt), (20, CQt), (28, CBe), (30, CIm), (21, CSp), (22, CEn), (25, CEn), (23, CAc), (26, CAc), (15, CNw), (16, CNw), (10, CSh), (13, CIn), (24, CTx), (27, CSq)] f = some C → Sound Try.prog f C := (phis_cons s9 (phis_cons s14 (phis_cons s11 (phis_cons s18 (phis_cons s29 (phis_cons s12 (phis_cons s17 (phis_cons s19 (phis_cons s20 (phis_cons s28 (phis_cons s30 (phis_cons s21 (phis_cons s22 (phis_cons s25 (phis_cons s23 (phis_cons s26 (phis_cons s15 (phis_cons s16 (phis_cons s10 (phis_cons s13 (phis_cons s24 (phis_cons s27 phis_nil))))))))))))))))))))))
theorem es_of {ys : List AV} (h : okAs [.bool, .bool] ys) : ∃ s : Es, AV.agg ys = s.av := by
  obtain ⟨a, _, rfl, k0⟩ := un_bool h
  obtain ⟨b, _, rfl, k1⟩ := un_bool k0
  obtain rfl := okAs_unnil k1
  exact ⟨⟨a, b⟩, rfl⟩
end Go.Proofs.Ytfmndopgbikgjaa

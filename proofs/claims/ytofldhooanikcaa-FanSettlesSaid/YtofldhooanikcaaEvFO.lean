/- A part of the proof: symbolic evaluation of the program's functions, proved sound against the model; no condition. -/
import Derived.Test.YtofldhooanikcaaEvFC
import Derived.Test.YtofldhooanikcaaEvFE
import Derived.Test.YtofldhooanikcaaEvFF
import Derived.Test.YtofldhooanikcaaEvFG
import Derived.Test.YtofldhooanikcaaEvFH
import Derived.Test.YtofldhooanikcaaEvY
namespace Go.Proofs.Ytofldhooanikcaa
open Go Go.RowKit Go.Ev
set_option linter.unusedSimpArgs false
set_option linter.unusedVariables false
set_option maxRecDepth 20000
theorem h0 : ∀ f C, Phis [] f = some C → Sound Try.prog f C := phis_nil
theorem s31 : Sound Try.prog 31 CWi := sound_pureI (by kernel_rfl) h0 Try.func31 rfl rc31_ok rv31_ok (by
  intro xs q r cs' h hq
  split at h
  · rename_i v a b
    cases h
    exact ⟨noI, rfl, Nat.le_of_ble_eq_true rfl, walk31 v a b⟩
  · cases h)
theorem s32 : Sound Try.prog 32 CWi := sound_pureI (by kernel_rfl) h0 Try.func32 rfl rc32_ok rv32_ok (by
  intro xs q r cs' h hq
  split at h
  · rename_i v a b
    cases h
    exact ⟨noI, rfl, Nat.le_of_ble_eq_true rfl, walk32 v a b⟩
  · cases h)
theorem s37 : Sound Try.prog 37 CLim := sound_pureI (by kernel_rfl) h0 Try.func37 rfl rc37_ok rv37_ok (by
  intro xs q r cs' h hq
  split at h
  · rename_i v a b
    cases h
    exact ⟨noI, rfl, Nat.le_of_ble_eq_true rfl, walk37 v a b⟩
  · cases h)
theorem s39 : Sound Try.prog 39 CLim := sound_pureI (by kernel_rfl) h0 Try.func39 rfl rc39_ok rv39_ok (by
  intro xs q r cs' h hq
  split at h
  · rename_i v a b
    cases h
    exact ⟨noI, rfl, Nat.le_of_ble_eq_true rfl, walk39 v a b⟩
  · cases h)
theorem s41 : Sound Try.prog 41 CLim := sound_pureI (by kernel_rfl) h0 Try.func41 rfl rc41_ok rv41_ok (by
  intro xs q r cs' h hq
  split at h
  · rename_i v a b
    cases h
    exact ⟨noI, rfl, Nat.le_of_ble_eq_true rfl, walk41 v a b⟩
  · cases h)
theorem s36 : Sound Try.prog 36 CFlr := sound_pureI (by kernel_rfl) h0 Try.func36 rfl rc36_ok rv36_ok (by
  intro xs q r cs' h hq
  split at h
  · rename_i v
    cases h
    exact ⟨noI, rfl, Nat.le_of_ble_eq_true rfl, walk36 v⟩
  · cases h)
theorem s42 : Sound Try.prog 42 CDwn := sound_pureI (by kernel_rfl) h0 Try.func42 rfl rc42_ok rv42_ok (by
  intro xs q r cs' h hq
  split at h
  · rename_i a b
    cases h
    exact ⟨noI, rfl, Nat.le_of_ble_eq_true rfl, walk42 a b hq⟩
  · cases h)
theorem s28 : Sound Try.prog 28 CV := sound_pureI (by kernel_rfl) h0 Try.func28 rfl rc28_ok rv28_ok (by
  intro xs q r cs' h hq
  split at h
  · rename_i zz es t g i l m s
    cases h
    have HZ := hq
    obtain ⟨rfl, he⟩ := HZ
    obtain ⟨L, rfl⟩ : ∃ L, es = u8s L := ⟨_, he⟩
    simp only [decU_u8s, decI_i64s, decB_bls] at *
    exact ⟨I28 ⟨L, t, g, i, l, m, s⟩, rfl, Nat.le_of_ble_eq_true rfl, walk28 ⟨L, t, g, i, l, m, s⟩⟩
  · cases h)
theorem s35 : Sound Try.prog 35 CTop := sound_pureI (by kernel_rfl) h0 Try.func35 rfl rc35_ok rv35_ok (by
  intro xs q r cs' h hq
  split at h
  · rename_i zz es t g i l m s
    cases h
    have HZ := hq
    obtain ⟨rfl, he⟩ := HZ
    obtain ⟨L, rfl⟩ : ∃ L, es = u8s L := ⟨_, he⟩
    simp only [decU_u8s, decI_i64s, decB_bls] at *
    exact ⟨noI, rfl, Nat.le_of_ble_eq_true rfl, walk35 ⟨L, t, g, i, l, m, s⟩⟩
  · cases h)
theorem s44 : Sound Try.prog 44 CTop := sound_pureI (by kernel_rfl) h0 Try.func44 rfl rc44_ok rv44_ok (by
  intro xs q r cs' h hq
  split at h
  · rename_i zz es t g i l m s
    cases h
    have HZ := hq
    obtain ⟨rfl, he⟩ := HZ
    obtain ⟨L, rfl⟩ : ∃ L, es = u8s L := ⟨_, he⟩
    simp only [decU_u8s, decI_i64s, decB_bls] at *
    exact ⟨noI, rfl, Nat.le_of_ble_eq_true rfl, walk44 ⟨L, t, g, i, l, m, s⟩⟩
  · cases h)
theorem s43 : Sound Try.prog 43 CTw := sound_pureI (by kernel_rfl) h0 Try.func43 rfl rc43_ok rv43_ok (by
  intro xs q r cs' h hq
  split at h
  · rename_i o e s
    cases h
    exact ⟨noI, rfl, Nat.le_of_ble_eq_true rfl, walk43 o e s⟩
  · cases h)
theorem s24 : Sound Try.prog 24 CLf := sound_stateI (by kernel_rfl) h0 Try.func24 rfl rc24_ok rv24_ok (by
  intro cs xs q r cs' h hq
  split at h
  · rename_i zz0 es0 a
    cases h
    have HC := hq
    obtain ⟨rfl, hec⟩ := HC
    obtain ⟨L0, rfl⟩ : ∃ L, es0 = u8s L := ⟨_, hec⟩
    simp only [decU_u8s, decI_i64s, decB_bls] at *
    exact ⟨noI, rfl, rfl, Nat.le_of_ble_eq_true rfl, walk24 L0 a⟩
  · cases h)
theorem s10 : Sound Try.prog 10 CNw := soundX_pureI (by kernel_rfl) h0 Try.func10 rfl rc10_ok rv10_ok (by
  intro xs q g h hq
  split at h
  · rename_i zz0 es0 n
    cases h
    have HC := hq.1
    have hn := hq.2
    obtain ⟨rfl, hec⟩ := HC
    obtain ⟨L0, rfl⟩ : ∃ L, es0 = u8s L := ⟨_, hec⟩
    simp only [decU_u8s, decI_i64s, decB_bls] at *
    exact ⟨noI, Nat.le_of_ble_eq_true rfl, walk10 L0 n hn⟩
  · cases h)
theorem h1 : ∀ f C, Phis [(31, CWi), (32, CWi), (37, CLim), (39, CLim), (41, CLim), (36, CFlr), (42, CDwn), (28, CV), (35, CTop), (44, CTop), (43, CTw), (24, CLf), (10, CNw)] f = some C → Sound Try.prog f C := (phis_cons s31 (phis_cons s32 (phis_cons s37 (phis_cons s39 (phis_cons s41 (phis_cons s36 (phis_cons s42 (phis_cons s28 (phis_cons s35 (phis_cons s44 (phis_cons s43 (phis_cons s24 (phis_cons s10 phis_nil)))))))))))))
theorem s17 : Sound Try.prog 17 CV := sound_pureI (by kernel_rfl) h1 Try.func17 rfl rc17_ok rv17_ok (by
  intro xs q r cs' h hq
  split at h
  · rename_i zz es t g i l m s
    cases h
    have HZ := hq
    obtain ⟨rfl, he⟩ := HZ
    obtain ⟨L, rfl⟩ : ∃ L, es = u8s L := ⟨_, he⟩
    simp only [decU_u8s, decI_i64s, decB_bls] at *
    exact ⟨I17 ⟨L, t, g, i, l, m, s⟩, rfl, Nat.le_of_ble_eq_true rfl, walk17 rfl rfl ⟨L, t, g, i, l, m, s⟩⟩
  · cases h)
theorem s34 : Sound Try.prog 34 CMv := sound_pureI (by kernel_rfl) h1 Try.func34 rfl rc34_ok rv34_ok (by
  intro xs q r cs' h hq
  split at h
  · rename_i zz es t g i l m s o e
    cases h
    have HZ := hq
    obtain ⟨rfl, he⟩ := HZ
    obtain ⟨L, rfl⟩ : ∃ L, es = u8s L := ⟨_, he⟩
    simp only [decU_u8s, decI_i64s, decB_bls] at *
    exact ⟨noI, rfl, Nat.le_of_ble_eq_true rfl, walk34 rfl ⟨L, t, g, i, l, m, s⟩ o e⟩
  · cases h)
theorem s14 : Sound Try.prog 14 CNx := sound_stateI (by kernel_rfl) h1 Try.func14 rfl rc14_ok rv14_ok (by
  intro cs xs q r cs' h hq
  split at h
  · rename_i zz0 es0 a n
    cases h
    have HC := hq.1
    have ha := hq.2
    obtain ⟨rfl, hec⟩ := HC
    obtain ⟨L0, rfl⟩ : ∃ L, es0 = u8s L := ⟨_, hec⟩
    simp only [decU_u8s, decI_i64s, decB_bls] at *
    exact ⟨noI, rfl, rfl, Nat.le_of_ble_eq_true rfl, walk14 rfl L0 a n ha⟩
  · cases h)
theorem s25 : Sound Try.prog 25 CSt := sound_pureI (by kernel_rfl) h1 Try.func25 rfl rc25_ok rv25_ok (by
  intro xs q r cs' h hq
  split at h
  · rename_i zz es t g i l m s
    cases h
    have HZ := hq
    obtain ⟨rfl, he⟩ := HZ
    obtain ⟨L, rfl⟩ : ∃ L, es = u8s L := ⟨_, he⟩
    simp only [decU_u8s, decI_i64s, decB_bls] at *
    exact ⟨noI, rfl, Nat.le_of_ble_eq_true rfl, walk25 rfl ⟨L, t, g, i, l, m, s⟩⟩
  · cases h)
theorem s29 : Sound Try.prog 29 CSd := sound_pureI (by kernel_rfl) h1 Try.func29 rfl rc29_ok rv29_ok (by
  intro xs q r cs' h hq
  split at h
  · rename_i zz es t g i l m s o u
    cases h
    have HZ := hq
    obtain ⟨rfl, he⟩ := HZ
    obtain ⟨L, rfl⟩ : ∃ L, es = u8s L := ⟨_, he⟩
    simp only [decU_u8s, decI_i64s, decB_bls] at *
    exact ⟨noI, rfl, Nat.le_of_ble_eq_true rfl, walk29 rfl rfl ⟨L, t, g, i, l, m, s⟩ ⟨o, u⟩⟩
  · cases h)
theorem s38 : Sound Try.prog 38 CWn := sound_pureI (by kernel_rfl) h1 Try.func38 rfl rc38_ok rv38_ok (by
  intro xs q r cs' h hq
  split at h
  · rename_i zz es t g i l m s u e
    cases h
    have HZ := hq.1
    have hv := hq.2.1
    have hb := hq.2.2
    obtain ⟨rfl, he⟩ := HZ
    obtain ⟨L, rfl⟩ : ∃ L, es = u8s L := ⟨_, he⟩
    simp only [decU_u8s, decI_i64s, decB_bls] at *
    exact ⟨noI, rfl, Nat.le_of_ble_eq_true rfl, walk38 rfl rfl ⟨L, t, g, i, l, m, s⟩ u e hv hb⟩
  · cases h)
theorem h2 : ∀ f C, Phis [(17, CV), (34, CMv), (14, CNx), (25, CSt), (29, CSd), (38, CWn), (31, CWi), (32, CWi), (37, CLim), (39, CLim), (41, CLim), (36, CFlr), (42, CDwn), (28, CV), (35, CTop), (44, CTop), (43, CTw), (24, CLf), (10, CNw)] f = some C → Sound Try.prog f C := (phis_cons s17 (phis_cons s34 (phis_cons s14 (phis_cons s25 (phis_cons s29 (phis_cons s38 (phis_cons s31 (phis_cons s32 (phis_cons s37 (phis_cons s39 (phis_cons s41 (phis_cons s36 (phis_cons s42 (phis_cons s28 (phis_cons s35 (phis_cons s44 (phis_cons s43 (phis_cons s24 (phis_cons s10 phis_nil)))))))))))))))))))
theorem s19 : Sound Try.prog 19 CSd := sound_pureI (by kernel_rfl) h2 Try.func19 rfl rc19_ok rv19_ok (by
  intro xs q r cs' h hq
  split at h
  · rename_i zz es t g i l m s o u
    cases h
    have HZ := hq
    obtain ⟨rfl, he⟩ := HZ
    obtain ⟨L, rfl⟩ : ∃ L, es = u8s L := ⟨_, he⟩
    simp only [decU_u8s, decI_i64s, decB_bls] at *
    exact ⟨noI, rfl, Nat.le_of_ble_eq_true rfl, walk19 rfl rfl rfl rfl ⟨L, t, g, i, l, m, s⟩ ⟨o, u⟩⟩
  · cases h)
theorem s16 : Sound Try.prog 16 CSt := sound_pureI (by kernel_rfl) h2 Try.func16 rfl rc16_ok rv16_ok (by
  intro xs q r cs' h hq
  split at h
  · rename_i zz es t g i l m s
    cases h
    have HZ := hq
    obtain ⟨rfl, he⟩ := HZ
    obtain ⟨L, rfl⟩ : ∃ L, es = u8s L := ⟨_, he⟩
    simp only [decU_u8s, decI_i64s, decB_bls] at *
    exact ⟨noI, rfl, Nat.le_of_ble_eq_true rfl, walk16 rfl ⟨L, t, g, i, l, m, s⟩⟩
  · cases h)
theorem s20 : Sound Try.prog 20 CEx := sound_pureI (by kernel_rfl) h2 Try.func20 rfl rc20_ok rv20_ok (by
  intro xs q r cs' h hq
  split at h
  · rename_i zz es t g i l m s z1 rs z2 ks
    cases h
    have HZ := hq.1
    have HR := hq.2.1
    have HK := hq.2.2
    obtain ⟨rfl, he⟩ := HZ
    obtain ⟨L, rfl⟩ : ∃ L, es = u8s L := ⟨_, he⟩
    obtain ⟨rfl, hr⟩ := HR
    obtain ⟨RS, rfl⟩ : ∃ L, rs = i64s L := ⟨_, hr⟩
    obtain ⟨rfl, hk⟩ := HK
    obtain ⟨KS, rfl⟩ : ∃ L, ks = bls L := ⟨_, hk⟩
    simp only [decU_u8s, decI_i64s, decB_bls] at *
    exact ⟨I20 ⟨L, t, g, i, l, m, s⟩ RS KS, rfl, Nat.le_of_ble_eq_true rfl, walk20 rfl rfl rfl ⟨L, t, g, i, l, m, s⟩ RS KS⟩
  · cases h)
theorem s26 : Sound Try.prog 26 CEx := sound_pureI (by kernel_rfl) h2 Try.func26 rfl rc26_ok rv26_ok (by
  intro xs q r cs' h hq
  split at h
  · rename_i zz es t g i l m s z1 rs z2 ks
    cases h
    have HZ := hq.1
    have HR := hq.2.1
    have HK := hq.2.2
    obtain ⟨rfl, he⟩ := HZ
    obtain ⟨L, rfl⟩ : ∃ L, es = u8s L := ⟨_, he⟩
    obtain ⟨rfl, hr⟩ := HR
    obtain ⟨RS, rfl⟩ : ∃ L, rs = i64s L := ⟨_, hr⟩
    obtain ⟨rfl, hk⟩ := HK
    obtain ⟨KS, rfl⟩ : ∃ L, ks = bls L := ⟨_, hk⟩
    simp only [decU_u8s, decI_i64s, decB_bls] at *
    exact ⟨I26 ⟨L, t, g, i, l, m, s⟩ RS KS, rfl, Nat.le_of_ble_eq_true rfl, walk26 rfl rfl rfl ⟨L, t, g, i, l, m, s⟩ RS KS⟩
  · cases h)
theorem s30 : Sound Try.prog 30 CDe := sound_pureI (by kernel_rfl) h2 Try.func30 rfl rc30_ok rv30_ok (by
  intro xs q r cs' h hq
  split at h
  · rename_i zz es t g i l m s o u e
    cases h
    have HZ := hq.1
    have hb := hq.2
    obtain ⟨rfl, he⟩ := HZ
    obtain ⟨L, rfl⟩ : ∃ L, es = u8s L := ⟨_, he⟩
    simp only [decU_u8s, decI_i64s, decB_bls] at *
    exact ⟨noI, rfl, Nat.le_of_ble_eq_true rfl, walk30 rfl rfl rfl ⟨L, t, g, i, l, m, s⟩ ⟨o, u⟩ e hb⟩
  · cases h)
theorem s33 : Sound Try.prog 33 CCt := sound_pureI (by kernel_rfl) h2 Try.func33 rfl rc33_ok rv33_ok (by
  intro xs q r cs' h hq
  split at h
  · rename_i zz es t g i l m s o u e
    cases h
    have HZ := hq.1
    have hs := hq.2.1
    have hb := hq.2.2
    obtain ⟨rfl, he⟩ := HZ
    obtain ⟨L, rfl⟩ : ∃ L, es = u8s L := ⟨_, he⟩
    simp only [decU_u8s, decI_i64s, decB_bls] at *
    exact ⟨noI, rfl, Nat.le_of_ble_eq_true rfl, walk33 rfl rfl rfl rfl ⟨L, t, g, i, l, m, s⟩ ⟨o, u⟩ e hs hb⟩
  · cases h)
theorem s11 : Sound Try.prog 11 CZo := soundX_stateI (by kernel_rfl) h2 Try.func11 rfl rc11_ok rv11_ok (by
  intro cs xs q g h hq
  split at h
  · rename_i zz0 es0 a
    cases h
    have HC := hq.1.1
    have hO := hq.1.2
    have ha := hq.2
    obtain ⟨rfl, hec⟩ := HC
    obtain ⟨L0, rfl⟩ : ∃ L, es0 = u8s L := ⟨_, hec⟩
    simp only [decU_u8s, decI_i64s, decB_bls] at *
    exact ⟨I11 L0, fun _ _ => rfl, Nat.le_of_ble_eq_true rfl, walk11 rfl L0 a ha hO⟩
  · cases h)
theorem s12 : Sound Try.prog 12 CSpd := soundX_stateI (by kernel_rfl) h2 Try.func12 rfl rc12_ok rv12_ok (by
  intro cs xs q g h hq
  split at h
  · rename_i zz0 es0 a z1 e1 t g i l m s
    cases h
    have HC := hq.1.1.1
    have hO := hq.1.1.2
    have ha := hq.1.2
    have HZ := hq.2.1
    have hgz := hq.2.2
    obtain ⟨rfl, hec⟩ := HC
    obtain ⟨L0, rfl⟩ : ∃ L, es0 = u8s L := ⟨_, hec⟩
    obtain ⟨rfl, he⟩ := HZ
    obtain ⟨L, rfl⟩ : ∃ L, e1 = u8s L := ⟨_, he⟩
    simp only [decU_u8s, decI_i64s, decB_bls] at *
    exact ⟨noI, fun _ _ => rfl, Nat.le_of_ble_eq_true rfl, walk12 rfl L0 a ha hO ⟨L, t, g, i, l, m, s⟩ hgz⟩
  · cases h)
theorem s13 : Sound Try.prog 13 CRd := soundX_stateI (by kernel_rfl) h2 Try.func13 rfl rc13_ok rv13_ok (by
  intro cs xs q g h hq
  split at h
  · rename_i zz0 es0 a z1 e1 t g i l m s
    cases h
    have HC := hq.1.1.1
    have hO := hq.1.1.2
    have ha := hq.1.2
    have HZ := hq.2.1
    have hgz := hq.2.2
    obtain ⟨rfl, hec⟩ := HC
    obtain ⟨L0, rfl⟩ : ∃ L, es0 = u8s L := ⟨_, hec⟩
    obtain ⟨rfl, he⟩ := HZ
    obtain ⟨L, rfl⟩ : ∃ L, e1 = u8s L := ⟨_, he⟩
    simp only [decU_u8s, decI_i64s, decB_bls] at *
    exact ⟨I13 L0 ⟨L, t, g, i, l, m, s⟩, fun _ _ => rfl, Nat.le_of_ble_eq_true rfl, walk13 rfl L0 a ha hO ⟨L, t, g, i, l, m, s⟩ hgz⟩
  · cases h)
theorem h3 : ∀ f C, Phis [(19, CSd), (16, CSt), (20, CEx), (26, CEx), (30, CDe), (33, CCt), (11, CZo), (12, CSpd), (13, CRd), (17, CV), (34, CMv), (14, CNx), (25, CSt), (29, CSd), (38, CWn), (31, CWi), (32, CWi), (37, CLim), (39, CLim), (41, CLim), (36, CFlr), (42, CDwn), (28, CV), (35, CTop), (44, CTop), (43, CTw), (24, CLf), (10, CNw)] f = some C → Sound Try.prog f C := (phis_cons s19 (phis_cons s16 (phis_cons s20 (phis_cons s26 (phis_cons s30 (phis_cons s33 (phis_cons s11 (phis_cons s12 (phis_cons s13 (phis_cons s17 (phis_cons s34 (phis_cons s14 (phis_cons s25 (phis_cons s29 (phis_cons s38 (phis_cons s31 (phis_cons s32 (phis_cons s37 (phis_cons s39 (phis_cons s41 (phis_cons s36 (phis_cons s42 (phis_cons s28 (phis_cons s35 (phis_cons s44 (phis_cons s43 (phis_cons s24 (phis_cons s10 phis_nil))))))))))))))))))))))))))))
theorem s21 : Sound Try.prog 21 CDe := sound_pureI (by kernel_rfl) h3 Try.func21 rfl rc21_ok rv21_ok (by
  intro xs q r cs' h hq
  split at h
  · rename_i zz es t g i l m s o u e
    cases h
    have HZ := hq.1
    obtain ⟨rfl, he⟩ := HZ
    obtain ⟨L, rfl⟩ : ∃ L, es = u8s L := ⟨_, he⟩
    simp only [decU_u8s, decI_i64s, decB_bls] at *
    exact ⟨noI, rfl, Nat.le_of_ble_eq_true rfl, walk21 rfl rfl rfl ⟨L, t, g, i, l, m, s⟩ ⟨o, u⟩ e⟩
  · cases h)
theorem s40 : Sound Try.prog 40 CCt := sound_pureI (by kernel_rfl) h3 Try.func40 rfl rc40_ok rv40_ok (by
  intro xs q r cs' h hq
  split at h
  · rename_i zz es t g i l m s o u e
    cases h
    have HZ := hq.1
    have hs := hq.2.1
    have hb := hq.2.2
    obtain ⟨rfl, he⟩ := HZ
    obtain ⟨L, rfl⟩ : ∃ L, es = u8s L := ⟨_, he⟩
    simp only [decU_u8s, decI_i64s, decB_bls] at *
    exact ⟨noI, rfl, Nat.le_of_ble_eq_true rfl, walk40 rfl rfl rfl rfl ⟨L, t, g, i, l, m, s⟩ ⟨o, u⟩ e hs hb⟩
  · cases h)
theorem s18 : Sound Try.prog 18 CSp := sound_pureI (by kernel_rfl) h3 Try.func18 rfl rc18_ok rv18_ok (by
  intro xs q r cs' h hq
  split at h
  · rename_i zz es t g i l m s o u z1 rs z2 ks
    cases h
    have HZ := hq.1
    have HR := hq.2.1
    have HK := hq.2.2
    obtain ⟨rfl, he⟩ := HZ
    obtain ⟨L, rfl⟩ : ∃ L, es = u8s L := ⟨_, he⟩
    obtain ⟨rfl, hr⟩ := HR
    obtain ⟨RS, rfl⟩ : ∃ L, rs = i64s L := ⟨_, hr⟩
    obtain ⟨rfl, hk⟩ := HK
    obtain ⟨KS, rfl⟩ : ∃ L, ks = bls L := ⟨_, hk⟩
    simp only [decU_u8s, decI_i64s, decB_bls] at *
    exact ⟨noI, rfl, Nat.le_of_ble_eq_true rfl, walk18 rfl rfl rfl rfl ⟨L, t, g, i, l, m, s⟩ ⟨o, u⟩ RS KS⟩
  · cases h)
theorem h4 : ∀ f C, Phis [(21, CDe), (40, CCt), (18, CSp), (19, CSd), (16, CSt), (20, CEx), (26, CEx), (30, CDe), (33, CCt), (11, CZo), (12, CSpd), (13, CRd), (17, CV), (34, CMv), (14, CNx), (25, CSt), (29, CSd), (38, CWn), (31, CWi), (32, CWi), (37, CLim), (39, CLim), (41, CLim), (36, CFlr), (42, CDwn), (28, CV), (35, CTop), (44, CTop), (43, CTw), (24, CLf), (10, CNw)] f = some C → Sound Try.prog f C := (phis_cons s21 (phis_cons s40 (phis_cons s18 (phis_cons s19 (phis_cons s16 (phis_cons s20 (phis_cons s26 (phis_cons s30 (phis_cons s33 (phis_cons s11 (phis_cons s12 (phis_cons s13 (phis_cons s17 (phis_cons s34 (phis_cons s14 (phis_cons s25 (phis_cons s29 (phis_cons s38 (phis_cons s31 (phis_cons s32 (phis_cons s37 (phis_cons s39 (phis_cons s41 (phis_cons s36 (phis_cons s42 (phis_cons s28 (phis_cons s35 (phis_cons s44 (phis_cons s43 (phis_cons s24 (phis_cons s10 phis_nil)))))))))))))))))))))))))))))))
theorem s27 : Sound Try.prog 27 CSp := sound_pureI (by kernel_rfl) h4 Try.func27 rfl rc27_ok rv27_ok (by
  intro xs q r cs' h hq
  split at h
  · rename_i zz es t g i l m s o u z1 rs z2 ks
    cases h
    have HZ := hq.1
    have HR := hq.2.1
    have HK := hq.2.2
    obtain ⟨rfl, he⟩ := HZ
    obtain ⟨L, rfl⟩ : ∃ L, es = u8s L := ⟨_, he⟩
    obtain ⟨rfl, hr⟩ := HR
    obtain ⟨RS, rfl⟩ : ∃ L, rs = i64s L := ⟨_, hr⟩
    obtain ⟨rfl, hk⟩ := HK
    obtain ⟨KS, rfl⟩ : ∃ L, ks = bls L := ⟨_, hk⟩
    simp only [decU_u8s, decI_i64s, decB_bls] at *
    exact ⟨noI, rfl, Nat.le_of_ble_eq_true rfl, walk27 rfl rfl rfl rfl ⟨L, t, g, i, l, m, s⟩ ⟨o, u⟩ RS KS⟩
  · cases h)
theorem s9 : Sound Try.prog 9 CAwake := sound_pureI (by kernel_rfl) h4 Try.func9 rfl rc9_ok rv9_ok (by
  intro xs q r cs' h hq
  split at h
  · cases h
    exact ⟨noI, rfl, Nat.le_of_ble_eq_true rfl, walk9 rfl rfl rfl⟩
  · cases h)
theorem h5 : ∀ f C, Phis [(27, CSp), (9, CAwake), (21, CDe), (40, CCt), (18, CSp), (19, CSd), (16, CSt), (20, CEx), (26, CEx), (30, CDe), (33, CCt), (11, CZo), (12, CSpd), (13, CRd), (17, CV), (34, CMv), (14, CNx), (25, CSt), (29, CSd), (38, CWn), (31, CWi), (32, CWi), (37, CLim), (39, CLim), (41, CLim), (36, CFlr), (42, CDwn), (28, CV), (35, CTop), (44, CTop), (43, CTw), (24, CLf), (10, CNw)] f = some C → Sound Try.prog f C := (phis_cons s27 (phis_cons s9 (phis_cons s21 (phis_cons s40 (phis_cons s18 (phis_cons s19 (phis_cons s16 (phis_cons s20 (phis_cons s26 (phis_cons s30 (phis_cons s33 (phis_cons s11 (phis_cons s12 (phis_cons s13 (phis_cons s17 (phis_cons s34 (phis_cons s14 (phis_cons s25 (phis_cons s29 (phis_cons s38 (phis_cons s31 (phis_cons s32 (phis_cons s37 (phis_cons s39 (phis_cons s41 (phis_cons s36 (phis_cons s42 (phis_cons s28 (phis_cons s35 (phis_cons s44 (phis_cons s43 (phis_cons s24 (phis_cons s10 phis_nil)))))))))))))))))))))))))))))))))
theorem s15 : Sound Try.prog 15 CSame := sound_pureI (by kernel_rfl) h5 Try.func15 rfl rc15_ok rv15_ok (by
  intro xs q r cs' h hq
  split at h
  · rename_i zz es t g i l m s o u z1 rs z2 ks e
    cases h
    have HZ := hq.1
    have HR := hq.2.1
    have HK := hq.2.2.1
    have hb := hq.2.2.2
    obtain ⟨rfl, he⟩ := HZ
    obtain ⟨L, rfl⟩ : ∃ L, es = u8s L := ⟨_, he⟩
    obtain ⟨rfl, hr⟩ := HR
    obtain ⟨RS, rfl⟩ : ∃ L, rs = i64s L := ⟨_, hr⟩
    obtain ⟨rfl, hk⟩ := HK
    obtain ⟨KS, rfl⟩ : ∃ L, ks = bls L := ⟨_, hk⟩
    simp only [decU_u8s, decI_i64s, decB_bls] at *
    exact ⟨noI, rfl, Nat.le_of_ble_eq_true rfl, walk15 rfl rfl rfl rfl rfl rfl rfl rfl rfl rfl rfl rfl ⟨L, t, g, i, l, m, s⟩ ⟨o, u⟩ RS KS e hb⟩
  · cases h)
theorem h6 : ∀ f C, Phis [(15, CSame), (27, CSp), (9, CAwake), (21, CDe), (40, CCt), (18, CSp), (19, CSd), (16, CSt), (20, CEx), (26, CEx), (30, CDe), (33, CCt), (11, CZo), (12, CSpd), (13, CRd), (17, CV), (34, CMv), (14, CNx), (25, CSt), (29, CSd), (38, CWn), (31, CWi), (32, CWi), (37, CLim), (39, CLim), (41, CLim), (36, CFlr), (42, CDwn), (28, CV), (35, CTop), (44, CTop), (43, CTw), (24, CLf), (10, CNw)] f = some C → Sound Try.prog f C := (phis_cons s15 (phis_cons s27 (phis_cons s9 (phis_cons s21 (phis_cons s40 (phis_cons s18 (phis_cons s19 (phis_cons s16 (phis_cons s20 (phis_cons s26 (phis_cons s30 (phis_cons s33 (phis_cons s11 (phis_cons s12 (phis_cons s13 (phis_cons s17 (phis_cons s34 (phis_cons s14 (phis_cons s25 (phis_cons s29 (phis_cons s38 (phis_cons s31 (phis_cons s32 (phis_cons s37 (phis_cons s39 (phis_cons s41 (phis_cons s36 (phis_cons s42 (phis_cons s28 (phis_cons s35 (phis_cons s44 (phis_cons s43 (phis_cons s24 (phis_cons s10 phis_nil))))))))))))))))))))))))))))))))))
end Go.Proofs.Ytofldhooanikcaa

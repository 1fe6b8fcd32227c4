/- A part of the proof: symbolic evaluation of the program's functions, proved sound against the model; no condition. -/
import Derived.Test.YtknapnleecepaaaEvJH
import Derived.Test.YtknapnleecepaaaEvJI
namespace Go.Proofs.Ytknapnleecepaaa
open Go Go.RowKit Go.Ev
set_option linter.unusedSimpArgs false
set_option linter.unusedVariables false
set_option maxRecDepth 20000
theorem h0 : ∀ f C, Phis [] f = some C → Sound Try.prog f C := phis_nil
theorem s39 : Sound Try.prog 39 DNx := sound_pureI (by kernel_rfl) h0 Try.func39 rfl rc39_ok rv39_ok (by
  intro xs q r cs' h hq
  split at h
  · rename_i n
    cases h
    exact ⟨noI, rfl, Nat.le_of_ble_eq_true rfl, walk39 n⟩
  · cases h)
theorem s41 : Sound Try.prog 41 DNx := sound_pureI (by kernel_rfl) h0 Try.func41 rfl rc41_ok rv41_ok (by
  intro xs q r cs' h hq
  split at h
  · rename_i n
    cases h
    exact ⟨noI, rfl, Nat.le_of_ble_eq_true rfl, walk41 n⟩
  · cases h)
theorem s42 : Sound Try.prog 42 DRt := sound_pureI (by kernel_rfl) h0 Try.func42 rfl rc42_ok rv42_ok (by
  intro xs q r cs' h hq
  split at h
  · rename_i n
    cases h
    exact ⟨noI, rfl, Nat.le_of_ble_eq_true rfl, walk42 n⟩
  · cases h)
theorem s43 : Sound Try.prog 43 DIn := sound_pureI (by kernel_rfl) h0 Try.func43 rfl rc43_ok rv43_ok (by
  intro xs q r cs' h hq
  split at h
  · rename_i n a b
    cases h
    exact ⟨noI, rfl, Nat.le_of_ble_eq_true rfl, walk43 n a b⟩
  · cases h)
def DCx : Ctr := .ext false Unit fun _ xs => match xs with
  | [.lst zz es] => some ((zz = [.int .u8 0] ∧ es = u8s (decU es)) ∧ es.length ≤ 100000, fun _ => (True, .fr 0 5 [.int .u8 0] (u8s (decU es)), []))
  | _ => none
theorem s36x : Sound Try.prog 36 DCx := soundX_pureI (by kernel_rfl) h0 Try.func36 rfl rc36_ok rv36_ok (by
  intro xs q g h hq
  split at h
  · rename_i zz es
    cases h
    obtain ⟨⟨rfl, g1⟩, gl⟩ := hq
    obtain ⟨L, rfl⟩ : ∃ L, es = u8s L := ⟨_, g1⟩
    simp only [decU_u8s, u8s_len] at *
    exact ⟨noI, Nat.le_of_ble_eq_true rfl, walk36x L gl⟩
  · cases h)
theorem s36 : Sound Try.prog 36 DCl := own_of_ext s36x (by
  intro xs q es h
  split at h
  · cases h
    exact ⟨_, rfl, rfl⟩
  · cases h)
theorem s36f : Sound Try.prog 36 DCf := sound_pureI (by kernel_rfl) h0 Try.func36 rfl rc36_ok rv36_ok (by
  intro xs q r cs' h hq
  split at h
  · rename_i zz es
    cases h
    obtain ⟨⟨rfl, g1⟩, gl⟩ := hq
    obtain ⟨L, rfl⟩ : ∃ L, es = u8s L := ⟨_, g1⟩
    simp only [decU_u8s, u8s_len] at *
    exact ⟨noI, rfl, Nat.le_of_ble_eq_true rfl, walk36 L gl⟩
  · cases h)
theorem hA : ∀ f C, Phis [(36, DCl)] f = some C → Sound Try.prog f C := phis_cons s36 phis_nil
theorem s38 : Sound Try.prog 38 DCn := soundX_pureI (by kernel_rfl) hA Try.func38 rfl rc38_ok rv38_ok (by
  intro xs q g h hq
  split at h
  · rename_i z1 e1 b1 z2 e2 b2 b3 n1 n2 n3 n4 n5
    cases h
    obtain ⟨⟨⟨rfl, g1⟩, rfl, g2⟩, gl⟩ := hq
    obtain ⟨A, rfl⟩ : ∃ L, e1 = u8s L := ⟨_, g1⟩
    obtain ⟨B, rfl⟩ : ∃ L, e2 = u8s L := ⟨_, g2⟩
    simp only [decU_u8s, u8s_len] at *
    exact ⟨noI, Nat.le_of_ble_eq_true rfl, walk38 rfl ⟨A, b1, B, b2, b3, n1, n2, n3, n4, n5⟩ gl⟩
  · cases h)
theorem s40 : Sound Try.prog 40 DCn := soundX_pureI (by kernel_rfl) h0 Try.func40 rfl rc40_ok rv40_ok (by
  intro xs q g h hq
  split at h
  · rename_i z1 e1 b1 z2 e2 b2 b3 n1 n2 n3 n4 n5
    cases h
    obtain ⟨⟨⟨rfl, g1⟩, rfl, g2⟩, gl⟩ := hq
    obtain ⟨A, rfl⟩ : ∃ L, e1 = u8s L := ⟨_, g1⟩
    obtain ⟨B, rfl⟩ : ∃ L, e2 = u8s L := ⟨_, g2⟩
    simp only [decU_u8s, u8s_len] at *
    exact ⟨noI, Nat.le_of_ble_eq_true rfl, walk40 ⟨A, b1, B, b2, b3, n1, n2, n3, n4, n5⟩ gl⟩
  · cases h)
theorem hB : ∀ f C, Phis [(42, DRt)] f = some C → Sound Try.prog f C := phis_cons s42 phis_nil
theorem hC : ∀ f C, Phis [(43, DIn)] f = some C → Sound Try.prog f C := phis_cons s43 phis_nil
theorem s25 : Sound Try.prog 25 DVa := sound_pureI (by kernel_rfl) hB Try.func25 rfl rc25_ok rv25_ok (by
  intro xs q r cs' h hq
  split at h
  · rename_i z1 e1 b1 z2 e2 b2 b3 n1 n2 n3 n4 n5
    cases h
    obtain ⟨⟨⟨rfl, g1⟩, rfl, g2⟩, gl⟩ := hq
    obtain ⟨A, rfl⟩ : ∃ L, e1 = u8s L := ⟨_, g1⟩
    obtain ⟨B, rfl⟩ : ∃ L, e2 = u8s L := ⟨_, g2⟩
    simp only [decU_u8s, u8s_len] at *
    exact ⟨noI, rfl, Nat.le_of_ble_eq_true rfl, walk25 rfl ⟨A, b1, B, b2, b3, n1, n2, n3, n4, n5⟩ gl⟩
  · cases h)
theorem s26 : Sound Try.prog 26 DVa := sound_pureI (by kernel_rfl) hC Try.func26 rfl rc26_ok rv26_ok (by
  intro xs q r cs' h hq
  split at h
  · rename_i z1 e1 b1 z2 e2 b2 b3 n1 n2 n3 n4 n5
    cases h
    obtain ⟨⟨⟨rfl, g1⟩, rfl, g2⟩, gl⟩ := hq
    obtain ⟨A, rfl⟩ : ∃ L, e1 = u8s L := ⟨_, g1⟩
    obtain ⟨B, rfl⟩ : ∃ L, e2 = u8s L := ⟨_, g2⟩
    simp only [decU_u8s, u8s_len] at *
    exact ⟨noI, rfl, Nat.le_of_ble_eq_true rfl, walk26 rfl ⟨A, b1, B, b2, b3, n1, n2, n3, n4, n5⟩ gl⟩
  · cases h)
theorem s34 : Sound Try.prog 34 DVc := sound_pureI (by kernel_rfl) hB Try.func34 rfl rc34_ok rv34_ok (by
  intro xs q r cs' h hq
  split at h
  · rename_i a b c k zz es
    cases h
    obtain ⟨⟨rfl, g1⟩, gl⟩ := hq
    obtain ⟨L, rfl⟩ : ∃ L, es = u8s L := ⟨_, g1⟩
    simp only [decU_u8s, u8s_len] at *
    exact ⟨noI, rfl, Nat.le_of_ble_eq_true rfl, walk34 rfl ⟨a, b, c, k, L⟩ gl⟩
  · cases h)
theorem s35 : Sound Try.prog 35 DVc := sound_pureI (by kernel_rfl) hC Try.func35 rfl rc35_ok rv35_ok (by
  intro xs q r cs' h hq
  split at h
  · rename_i a b c k zz es
    cases h
    obtain ⟨⟨rfl, g1⟩, gl⟩ := hq
    obtain ⟨L, rfl⟩ : ∃ L, es = u8s L := ⟨_, g1⟩
    simp only [decU_u8s, u8s_len] at *
    exact ⟨noI, rfl, Nat.le_of_ble_eq_true rfl, walk35 rfl ⟨a, b, c, k, L⟩ gl⟩
  · cases h)
theorem hD : ∀ f C, Phis [(34, DVc)] f = some C → Sound Try.prog f C := phis_cons s34 phis_nil
theorem hE : ∀ f C, Phis [(35, DVc)] f = some C → Sound Try.prog f C := phis_cons s35 phis_nil
def DEn0 : Ctr := .mk false fun _ xs => match xs with
  | [.agg [.int .i64 a, .int .i64 b, .int .i64 c, .bool k, .lst zz es]] => some ((zz = [.int .u8 0] ∧ es = u8s (decU es)) ∧ es.length ≤ 100000, .tup [.lst [.int .u8 0] (u8s (enB ⟨a, b, c, k, decU es⟩)), .int .i64 (enE ⟨a, b, c, k, decU es⟩)], [])
  | _ => none
theorem rep_agg_nil {Z : Nat → Prop} {w : World} {θ : Nat → Value} {cs : List AV} {i : Nat} {z : List AV} {v : Value} (h : Rep Z w θ (.agg cs) v) (hi : cs[i]? = some .nil) : Rep Z w θ (.agg (cs.set i (.lst z []))) v := by
  cases h with
  | agg _ _ vs hl ha h1 h =>
    refine .agg _ _ vs (by simpa using hl) (fun c hc => (List.mem_or_eq_of_mem_set hc).elim (ha c) fun e => by rw [e]; rfl) h1 fun j c u hc hu => ?_
    by_cases e : j = i
    · subst e
      have hlt : j < cs.length := (List.getElem?_eq_some_iff.1 hi).1
      rw [List.getElem?_set_self hlt] at hc
      cases hc
      have h3 := h j _ u hi hu
      cases h3
      exact rep_empty Z w θ z none (Nat.zero_le _)
    · rw [List.getElem?_set_ne (fun e' => e e'.symm)] at hc
      exact h j c u hc hu
theorem en_nil {f : FuncId} (h : Sound Try.prog f DEn0) : Sound Try.prog f DEn := by
  intro Z w xs vs q r cs' hz hr hf hq
  dsimp only at hf
  split at hf
  · cases hf
    exact h Z w _ vs _ _ _ hz hr rfl hq
  · cases hf
    rename_i a b c k
    refine h Z w [.agg [.int .i64 a, .int .i64 b, .int .i64 c, .bool k, .lst [.int .u8 0] []]] vs _ _ _ hz ⟨hr.len, fun i x v hx hv => ?_⟩ rfl ⟨⟨rfl, rfl⟩, Nat.zero_le _⟩
    match i with
    | 0 =>
      simp only [List.getElem?_cons_zero, Option.some.injEq] at hx
      subst hx
      exact rep_agg_nil (i := 4) (z := [.int .u8 0]) (hr.rep 0 _ v rfl hv) rfl
    | i + 1 => simp at hx
  · cases hf
theorem s9a : Sound Try.prog 9 DEn0 := sound_pureI (by kernel_rfl) hD Try.func9 rfl rc9_ok rv9_ok (by
  intro xs q r cs' h hq
  split at h
  · rename_i a b c k zz es
    cases h
    obtain ⟨⟨rfl, g1⟩, gl⟩ := hq
    obtain ⟨L, rfl⟩ : ∃ L, es = u8s L := ⟨_, g1⟩
    simp only [decU_u8s, u8s_len] at *
    exact ⟨noI, rfl, Nat.le_of_ble_eq_true rfl, walk9 rfl ⟨a, b, c, k, L⟩ gl⟩
  · cases h)
theorem s9 : Sound Try.prog 9 DEn := en_nil s9a
theorem s10a : Sound Try.prog 10 DEn0 := sound_pureI (by kernel_rfl) hE Try.func10 rfl rc10_ok rv10_ok (by
  intro xs q r cs' h hq
  split at h
  · rename_i a b c k zz es
    cases h
    obtain ⟨⟨rfl, g1⟩, gl⟩ := hq
    obtain ⟨L, rfl⟩ : ∃ L, es = u8s L := ⟨_, g1⟩
    simp only [decU_u8s, u8s_len] at *
    exact ⟨noI, rfl, Nat.le_of_ble_eq_true rfl, walk10 rfl ⟨a, b, c, k, L⟩ gl⟩
  · cases h)
theorem s10 : Sound Try.prog 10 DEn := en_nil s10a
theorem hF : ∀ f C, Phis [(34, DVc), (36, DCf)] f = some C → Sound Try.prog f C := phis_cons s34 (phis_cons s36f phis_nil)
theorem s11 : Sound Try.prog 11 DDe := sound_pureI (by kernel_rfl) hF Try.func11 rfl rc11_ok rv11_ok (by
  intro xs q r cs' h hq
  split at h
  · rename_i zz es
    cases h
    obtain ⟨⟨rfl, g1⟩, gl, go⟩ := hq
    obtain ⟨L, rfl⟩ : ∃ L, es = u8s L := ⟨_, g1⟩
    simp only [decU_u8s, u8s_len] at *
    exact ⟨noI, rfl, Nat.le_of_ble_eq_true rfl, walk11 rfl rfl L gl go⟩
  · cases h)
theorem s13 : Sound Try.prog 13 DDe := sound_pureI (by kernel_rfl) hE Try.func13 rfl rc13_ok rv13_ok (by
  intro xs q r cs' h hq
  split at h
  · rename_i zz es
    cases h
    obtain ⟨⟨rfl, g1⟩, gl, go⟩ := hq
    obtain ⟨L, rfl⟩ : ∃ L, es = u8s L := ⟨_, g1⟩
    simp only [decU_u8s, u8s_len] at *
    exact ⟨noI, rfl, Nat.le_of_ble_eq_true rfl, walk13 rfl L gl go⟩
  · cases h)
theorem s12 : Sound Try.prog 12 DSc := sound_pureI (by kernel_rfl) h0 Try.func12 rfl rc12_ok rv12_ok (by
  intro xs q r cs' h hq
  split at h
  · rename_i a b c k zz es a2 b2 c2 k2 z2 e2
    cases h
    obtain ⟨⟨rfl, g1⟩, rfl, g2⟩ := hq
    obtain ⟨A, rfl⟩ : ∃ L, es = u8s L := ⟨_, g1⟩
    obtain ⟨B, rfl⟩ : ∃ L, e2 = u8s L := ⟨_, g2⟩
    simp only [decU_u8s]
    exact ⟨noI, rfl, Nat.le_of_ble_eq_true rfl, walk12 ⟨a, b, c, k, A⟩ ⟨a2, b2, c2, k2, B⟩⟩
  · cases h)
theorem s32 : Sound Try.prog 32 DNw := sound_pureI (by kernel_rfl) h0 Try.func32 rfl rc32_ok rv32_ok (by
  intro xs q r cs' h hq
  split at h
  · cases h
    exact ⟨noI, rfl, Nat.le_of_ble_eq_true rfl, walk32 ⟩
  · cases h)
theorem s37 : Sound Try.prog 37 DNw := sound_pureI (by kernel_rfl) h0 Try.func37 rfl rc37_ok rv37_ok (by
  intro xs q r cs' h hq
  split at h
  · cases h
    exact ⟨noI, rfl, Nat.le_of_ble_eq_true rfl, walk37 ⟩
  · cases h)
theorem hG : ∀ f C, Phis [(25, DVa), (38, DCn)] f = some C → Sound Try.prog f C := phis_cons s25 (phis_cons s38 phis_nil)
theorem hH : ∀ f C, Phis [(26, DVa), (40, DCn)] f = some C → Sound Try.prog f C := phis_cons s26 (phis_cons s40 phis_nil)
theorem s21 : Sound Try.prog 21 DWr := sound_pureI (by kernel_rfl) hG Try.func21 rfl rc21_ok rv21_ok (by
  intro xs q r cs' h hq
  split at h
  · rename_i z1 e1 b1 z2 e2 b2 b3 n1 n2 n3 n4 n5 z3 e3
    cases h
    obtain ⟨⟨⟨rfl, g1⟩, ⟨rfl, g2⟩, rfl, g3⟩, gl, gm⟩ := hq
    obtain ⟨A, rfl⟩ : ∃ L, e1 = u8s L := ⟨_, g1⟩
    obtain ⟨B, rfl⟩ : ∃ L, e2 = u8s L := ⟨_, g2⟩
    obtain ⟨D, rfl⟩ : ∃ L, e3 = u8s L := ⟨_, g3⟩
    simp only [decU_u8s, u8s_len] at *
    exact ⟨noI, rfl, Nat.le_of_ble_eq_true rfl, walk21 rfl rfl ⟨A, b1, B, b2, b3, n1, n2, n3, n4, n5⟩ D gl gm⟩
  · cases h)
theorem s22 : Sound Try.prog 22 DWr := sound_pureI (by kernel_rfl) hH Try.func22 rfl rc22_ok rv22_ok (by
  intro xs q r cs' h hq
  split at h
  · rename_i z1 e1 b1 z2 e2 b2 b3 n1 n2 n3 n4 n5 z3 e3
    cases h
    obtain ⟨⟨⟨rfl, g1⟩, ⟨rfl, g2⟩, rfl, g3⟩, gl, gm⟩ := hq
    obtain ⟨A, rfl⟩ : ∃ L, e1 = u8s L := ⟨_, g1⟩
    obtain ⟨B, rfl⟩ : ∃ L, e2 = u8s L := ⟨_, g2⟩
    obtain ⟨D, rfl⟩ : ∃ L, e3 = u8s L := ⟨_, g3⟩
    simp only [decU_u8s, u8s_len] at *
    exact ⟨noI, rfl, Nat.le_of_ble_eq_true rfl, walk22 rfl rfl ⟨A, b1, B, b2, b3, n1, n2, n3, n4, n5⟩ D gl gm⟩
  · cases h)
theorem s29 : Sound Try.prog 29 DBr := sound_pureI (by kernel_rfl) hG Try.func29 rfl rc29_ok rv29_ok (by
  intro xs q r cs' h hq
  split at h
  · rename_i z1 e1 b1 z2 e2 b2 b3 n1 n2 n3 n4 n5
    cases h
    obtain ⟨⟨⟨rfl, g1⟩, rfl, g2⟩, gl⟩ := hq
    obtain ⟨A, rfl⟩ : ∃ L, e1 = u8s L := ⟨_, g1⟩
    obtain ⟨B, rfl⟩ : ∃ L, e2 = u8s L := ⟨_, g2⟩
    simp only [decU_u8s, u8s_len] at *
    exact ⟨noI, rfl, Nat.le_of_ble_eq_true rfl, walk29 rfl rfl ⟨A, b1, B, b2, b3, n1, n2, n3, n4, n5⟩ gl⟩
  · cases h)
theorem s30 : Sound Try.prog 30 DBr := sound_pureI (by kernel_rfl) hH Try.func30 rfl rc30_ok rv30_ok (by
  intro xs q r cs' h hq
  split at h
  · rename_i z1 e1 b1 z2 e2 b2 b3 n1 n2 n3 n4 n5
    cases h
    obtain ⟨⟨⟨rfl, g1⟩, rfl, g2⟩, gl⟩ := hq
    obtain ⟨A, rfl⟩ : ∃ L, e1 = u8s L := ⟨_, g1⟩
    obtain ⟨B, rfl⟩ : ∃ L, e2 = u8s L := ⟨_, g2⟩
    simp only [decU_u8s, u8s_len] at *
    exact ⟨noI, rfl, Nat.le_of_ble_eq_true rfl, walk30 rfl rfl ⟨A, b1, B, b2, b3, n1, n2, n3, n4, n5⟩ gl⟩
  · cases h)
theorem s16 : Sound Try.prog 16 DGr := sound_pureI (by kernel_rfl) hG Try.func16 rfl rc16_ok rv16_ok (by
  intro xs q r cs' h hq
  split at h
  · rename_i z1 e1 b1 z2 e2 b2 b3 n1 n2 n3 n4 n5 n
    cases h
    obtain ⟨⟨⟨rfl, g1⟩, rfl, g2⟩, gl⟩ := hq
    obtain ⟨A, rfl⟩ : ∃ L, e1 = u8s L := ⟨_, g1⟩
    obtain ⟨B, rfl⟩ : ∃ L, e2 = u8s L := ⟨_, g2⟩
    simp only [decU_u8s, u8s_len] at *
    exact ⟨noI, rfl, Nat.le_of_ble_eq_true rfl, walk16 rfl rfl ⟨A, b1, B, b2, b3, n1, n2, n3, n4, n5⟩ n gl⟩
  · cases h)
theorem s31 : Sound Try.prog 31 DGr := sound_pureI (by kernel_rfl) hH Try.func31 rfl rc31_ok rv31_ok (by
  intro xs q r cs' h hq
  split at h
  · rename_i z1 e1 b1 z2 e2 b2 b3 n1 n2 n3 n4 n5 n
    cases h
    obtain ⟨⟨⟨rfl, g1⟩, rfl, g2⟩, gl⟩ := hq
    obtain ⟨A, rfl⟩ : ∃ L, e1 = u8s L := ⟨_, g1⟩
    obtain ⟨B, rfl⟩ : ∃ L, e2 = u8s L := ⟨_, g2⟩
    simp only [decU_u8s, u8s_len] at *
    exact ⟨noI, rfl, Nat.le_of_ble_eq_true rfl, walk31 rfl rfl ⟨A, b1, B, b2, b3, n1, n2, n3, n4, n5⟩ n gl⟩
  · cases h)
theorem hI : ∀ f C, Phis [(25, DVa), (38, DCn), (39, DNx), (9, DEn)] f = some C → Sound Try.prog f C := (phis_cons s25 (phis_cons s38 (phis_cons s39 (phis_cons s9 phis_nil))))
theorem hJ : ∀ f C, Phis [(26, DVa), (40, DCn), (41, DNx), (10, DEn)] f = some C → Sound Try.prog f C := (phis_cons s26 (phis_cons s40 (phis_cons s41 (phis_cons s10 phis_nil))))
theorem s23 : Sound Try.prog 23 DPo := sound_pureI (by kernel_rfl) hI Try.func23 rfl rc23_ok rv23_ok (by
  intro xs q r cs' h hq
  split at h
  · rename_i z1 e1 b1 z2 e2 b2 b3 n1 n2 n3 n4 n5
    cases h
    obtain ⟨⟨⟨rfl, g1⟩, rfl, g2⟩, gl⟩ := hq
    obtain ⟨A, rfl⟩ : ∃ L, e1 = u8s L := ⟨_, g1⟩
    obtain ⟨B, rfl⟩ : ∃ L, e2 = u8s L := ⟨_, g2⟩
    simp only [decU_u8s, u8s_len] at *
    exact ⟨noI, rfl, Nat.le_of_ble_eq_true rfl, walk23 rfl rfl rfl rfl ⟨A, b1, B, b2, b3, n1, n2, n3, n4, n5⟩ gl⟩
  · cases h)
theorem s24 : Sound Try.prog 24 DPo := sound_pureI (by kernel_rfl) hJ Try.func24 rfl rc24_ok rv24_ok (by
  intro xs q r cs' h hq
  split at h
  · rename_i z1 e1 b1 z2 e2 b2 b3 n1 n2 n3 n4 n5
    cases h
    obtain ⟨⟨⟨rfl, g1⟩, rfl, g2⟩, gl⟩ := hq
    obtain ⟨A, rfl⟩ : ∃ L, e1 = u8s L := ⟨_, g1⟩
    obtain ⟨B, rfl⟩ : ∃ L, e2 = u8s L := ⟨_, g2⟩
    simp only [decU_u8s, u8s_len] at *
    exact ⟨noI, rfl, Nat.le_of_ble_eq_true rfl, walk24 rfl rfl rfl rfl ⟨A, b1, B, b2, b3, n1, n2, n3, n4, n5⟩ gl⟩
  · cases h)
theorem hK : ∀ f C, Phis [(25, DVa), (11, DDe), (38, DCn), (39, DNx), (36, DCf)] f = some C → Sound Try.prog f C := (phis_cons s25 (phis_cons s11 (phis_cons s38 (phis_cons s39 (phis_cons s36f phis_nil)))))
theorem hL : ∀ f C, Phis [(26, DVa), (13, DDe), (40, DCn), (41, DNx)] f = some C → Sound Try.prog f C := (phis_cons s26 (phis_cons s13 (phis_cons s40 (phis_cons s41 phis_nil))))
theorem s18 : Sound Try.prog 18 DRe := sound_pureI (by kernel_rfl) hK Try.func18 rfl rc18_ok rv18_ok (by
  intro xs q r cs' h hq
  split at h
  · rename_i z1 e1 b1 z2 e2 b2 b3 n1 n2 n3 n4 n5 z3 e3
    cases h
    obtain ⟨⟨⟨rfl, g1⟩, ⟨rfl, g2⟩, rfl, g3⟩, gl, gm, go⟩ := hq
    obtain ⟨A, rfl⟩ : ∃ L, e1 = u8s L := ⟨_, g1⟩
    obtain ⟨B, rfl⟩ : ∃ L, e2 = u8s L := ⟨_, g2⟩
    obtain ⟨D, rfl⟩ : ∃ L, e3 = u8s L := ⟨_, g3⟩
    simp only [decU_u8s, u8s_len] at *
    exact ⟨noI, rfl, Nat.le_of_ble_eq_true rfl, walk18 rfl rfl rfl rfl rfl ⟨A, b1, B, b2, b3, n1, n2, n3, n4, n5⟩ D gl gm go⟩
  · cases h)
theorem s28 : Sound Try.prog 28 DRe := sound_pureI (by kernel_rfl) hL Try.func28 rfl rc28_ok rv28_ok (by
  intro xs q r cs' h hq
  split at h
  · rename_i z1 e1 b1 z2 e2 b2 b3 n1 n2 n3 n4 n5 z3 e3
    cases h
    obtain ⟨⟨⟨rfl, g1⟩, ⟨rfl, g2⟩, rfl, g3⟩, gl, gm, go⟩ := hq
    obtain ⟨A, rfl⟩ : ∃ L, e1 = u8s L := ⟨_, g1⟩
    obtain ⟨B, rfl⟩ : ∃ L, e2 = u8s L := ⟨_, g2⟩
    obtain ⟨D, rfl⟩ : ∃ L, e3 = u8s L := ⟨_, g3⟩
    simp only [decU_u8s, u8s_len] at *
    exact ⟨noI, rfl, Nat.le_of_ble_eq_true rfl, walk28 rfl rfl rfl rfl ⟨A, b1, B, b2, b3, n1, n2, n3, n4, n5⟩ D gl gm go⟩
  · cases h)
theorem s27 : Sound Try.prog 27 DSa := sound_pureI (by kernel_rfl) h0 Try.func27 rfl rc27_ok rv27_ok (by
  intro xs q r cs' h hq
  split at h
  · cases h
    rename_i z1 e1 b1 z2 e2 b2 b3 n1 n2 n3 n4 n5 z3 e3 c1 z4 e4 c2 c3 m1 m2 m3 m4 m5
    obtain ⟨⟨rfl, g1⟩, ⟨rfl, g2⟩, ⟨rfl, g3⟩, rfl, g4⟩ := hq
    obtain ⟨A, rfl⟩ : ∃ L, e1 = u8s L := ⟨_, g1⟩
    obtain ⟨B, rfl⟩ : ∃ L, e2 = u8s L := ⟨_, g2⟩
    obtain ⟨D, rfl⟩ : ∃ L, e3 = u8s L := ⟨_, g3⟩
    obtain ⟨E, rfl⟩ : ∃ L, e4 = u8s L := ⟨_, g4⟩
    simp only [decU_u8s]
    exact ⟨noI, rfl, Nat.le_of_ble_eq_true rfl, walk27 ⟨A, b1, B, b2, b3, n1, n2, n3, n4, n5⟩ ⟨D, c1, E, c2, c3, m1, m2, m3, m4, m5⟩⟩
  · cases h)
theorem hM : ∀ f C, Phis [(32, DNw), (21, DWr), (23, DPo), (18, DRe), (11, DDe)] f = some C → Sound Try.prog f C := (phis_cons s32 (phis_cons s21 (phis_cons s23 (phis_cons s18 (phis_cons s11 phis_nil)))))
theorem s8 : Sound Try.prog 8 DAw := sound_pureI (by kernel_rfl) hM Try.func8 rfl rc8_ok rv8_ok (by
  intro xs q r cs' h hq
  split at h
  · cases h
    exact ⟨noI, rfl, Nat.le_of_ble_eq_true rfl, walk8 rfl rfl rfl rfl rfl⟩
  · cases h)
theorem hN : ∀ f C, Phis [(8, DAw), (9, DEn), (10, DEn), (11, DDe), (12, DSc), (13, DDe)] f = some C → Sound Try.prog f C := (phis_cons s8 (phis_cons s9 (phis_cons s10 (phis_cons s11 (phis_cons s12 (phis_cons s13 phis_nil))))))
end Go.Proofs.Ytknapnleecepaaa

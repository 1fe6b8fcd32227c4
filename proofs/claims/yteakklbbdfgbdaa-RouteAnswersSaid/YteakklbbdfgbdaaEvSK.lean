/- A part of the proof: symbolic evaluation of the program's functions, proved sound against the model; no condition. -/
import Derived.Test.YteakklbbdfgbdaaEvRW
import Derived.Test.YteakklbbdfgbdaaEvSI
import Derived.Test.YteakklbbdfgbdaaEvSJ
namespace Go.Proofs.Yteakklbbdfgbdaa
open Go Go.RowKit Go.Ev
set_option linter.unusedSimpArgs false
set_option linter.unusedVariables false
set_option maxRecDepth 20000
theorem s12 : Sound Try.prog 12 DOd := sound_stateI (by kernel_rfl) hN Try.func12 rfl rc12_ok rv12_ok (by
  intro cs xs q r cs' h hq
  split at h
  · rename_i zz es a n z1 e1 z2 e2
    cases h
    obtain ⟨⟨⟨⟨rfl, g1⟩, gl⟩, ga, go⟩, ⟨⟨rfl, g2⟩, rfl, g3⟩, gb, ge⟩ := hq
    obtain ⟨L, rfl⟩ : ∃ L, es = u8s L := ⟨_, g1⟩
    obtain ⟨A, rfl⟩ : ∃ L, e1 = brs L := ⟨_, g2⟩
    obtain ⟨B, rfl⟩ : ∃ L, e2 = eps L := ⟨_, g3⟩
    simp only [decU_u8s, u8s_len, decBr_brs, decEp_eps, brs_len, eps_len] at *
    exact ⟨noI, rfl, rfl, Nat.le_of_ble_eq_true rfl, walk12 rfl L a ⟨n, A, B⟩ gl ga go gb ge⟩
  · cases h)
theorem s13f : Sound Try.prog 13 DNf := sound_stateI (by kernel_rfl) hP Try.func13 rfl rc13_ok rv13_ok (by
  intro cs xs q r cs' h hq
  split at h
  · rename_i zz es a n
    cases h
    obtain ⟨⟨⟨rfl, g1⟩, gl⟩, ga, go⟩ := hq
    obtain ⟨L, rfl⟩ : ∃ L, es = u8s L := ⟨_, g1⟩
    simp only [decU_u8s, u8s_len] at *
    exact ⟨noI, rfl, rfl, Nat.le_of_ble_eq_true rfl, walk13f rfl L a n gl ga go⟩
  · cases h)
theorem h3 : ∀ f C, Phis [(9, CAw), (10, DCo), (11, DNw), (12, DOd), (13, DNf), (14, CDi), (15, CDi), (16, CVl), (17, CVl), (18, CNx), (19, CNx), (20, CPt), (21, CPt), (22, CIn), (23, CSd), (24, CSd)] f = some C → Sound Try.prog f C := (phis_cons s9 (phis_cons s10 (phis_cons s11 (phis_cons s12 (phis_cons s13f (phis_cons s14 (phis_cons s15 (phis_cons s16 (phis_cons s17 (phis_cons s18 (phis_cons s19 (phis_cons s20 (phis_cons s21 (phis_cons s22 (phis_cons s23 (phis_cons s24 phis_nil))))))))))))))))
theorem ex_brs {es : List (List AV)} (h : ∀ r ∈ es, okAs [.int .u8, .int .i64, .int .i64] r) : ∃ l : List Br, es = brs l := by
  obtain ⟨l, rfl, _⟩ := ex_map (f := Br.cs) (p := fun _ => True) (es := es) (fun r hr => by
    obtain ⟨a, _, rfl, _, x1⟩ := un_int (h r hr)
    obtain ⟨b, _, rfl, _, x2⟩ := un_int x1
    obtain ⟨c, _, rfl, _, x3⟩ := un_int x2
    obtain rfl := okAs_unnil x3
    exact ⟨⟨a, b, c⟩, rfl, trivial⟩)
  exact ⟨l, rfl⟩
theorem ex_eps {es : List (List AV)} (h : ∀ r ∈ es, okAs [.int .u8, .int .u8, .int .i64] r) : ∃ l : List Ep, es = eps l := by
  obtain ⟨l, rfl, _⟩ := ex_map (f := Ep.cs) (p := fun _ => True) (es := es) (fun r hr => by
    obtain ⟨a, _, rfl, _, x1⟩ := un_int (h r hr)
    obtain ⟨b, _, rfl, _, x2⟩ := un_int x1
    obtain ⟨c, _, rfl, _, x3⟩ := un_int x2
    obtain rfl := okAs_unnil x3
    exact ⟨⟨a, b, c⟩, rfl, trivial⟩)
  exact ⟨l, rfl⟩
end Go.Proofs.Yteakklbbdfgbdaa

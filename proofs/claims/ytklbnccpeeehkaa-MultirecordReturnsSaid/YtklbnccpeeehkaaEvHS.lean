/- A part of the proof: symbolic evaluation of the program's functions, proved sound against the model; no condition. -/
import Derived.Test.YtklbnccpeeehkaaEvHM
import Derived.Test.YtklbnccpeeehkaaEvHR
namespace Go.Proofs.Ytklbnccpeeehkaa
open Go Go.RowKit Go.Ev
set_option linter.unusedSimpArgs false
set_option linter.unusedVariables false
set_option maxRecDepth 20000
theorem s24x : Sound Try.prog 24 CEx := soundX_pureI (by kernel_rfl) h2 Try.func24 rfl rc24_ok rv24_ok (by
  intro xs q g h hq
  split at h
  · rename_i zz es
    cases h
    obtain ⟨rfl, he⟩ := hq
    obtain ⟨l, rfl⟩ : ∃ l, es = recs l := ⟨_, he⟩
    simp only [decR_recs, recs_len, decU_u8s, u8s_len, decI_i64s] at *
    exact ⟨I24 l, Nat.le_of_ble_eq_true rfl, walk24x rfl rfl rfl l⟩
  · cases h)
theorem s15f : Sound Try.prog 15 CDRf := soundX_stateI (by kernel_rfl) hE Try.func15 rfl rc15_ok rv15_ok (by
  intro cs xs q g h hq
  split at h
  · rename_i zz es a n
    cases h
    obtain ⟨⟨rfl, he⟩, ha, hn⟩ := hq
    obtain ⟨L, rfl⟩ : ∃ L, es = i64s L := ⟨_, he⟩
    simp only [decR_recs, recs_len, decU_u8s, u8s_len, decI_i64s] at *
    exact ⟨I15o L n, fun _ _ => rfl, Nat.le_of_ble_eq_true rfl, walk15f rfl rfl rfl L a n ha hn⟩
  · cases h)
theorem s30v : Sound Try.prog 30 CDv := sound_pureI (by kernel_rfl) hD Try.func30 rfl rc30_ok rv30_ok (by
  intro xs q r cs' h hq
  split at h
  · cases h
    rename_i zz es
    obtain ⟨⟨⟨rfl, he⟩, hn⟩, ho⟩ := hq
    obtain ⟨L, rfl⟩ : ∃ L, es = u8s L := ⟨_, he⟩
    simp only [decR_recs, recs_len, decU_u8s, u8s_len, decI_i64s] at *
    by_cases h0 : (dcR L).2.2 = 0
    · rw [show dcV L = .tup [.lst [.int .u8 0, .nil] (recs (dcR L).1), .int .i64 (dcR L).2.1, .int .i64 (dcR L).2.2] from if_pos h0]
      exact ⟨I30 L, rfl, Nat.le_of_ble_eq_true rfl, walk30 rfl rfl rfl L hn ho⟩
    · rw [show dcV L = .tup [.nil, .int .i64 (dcR L).2.1, .int .i64 (dcR L).2.2] from if_neg h0]
      exact ⟨I30 L, rfl, Nat.le_of_ble_eq_true rfl, walk30n rfl rfl rfl L hn ho h0⟩
  · cases h)
theorem s30w : Sound Try.prog 30 CDw := ext_of_mk s30v (by
  intro xs q g h
  split at h
  · cases h
    refine ⟨_, _, rfl, rfl, ?_, ?_⟩ <;> (unfold dcV; split <;> rfl)
  · cases h)
theorem hG : ∀ f C, Phis [(9, CDl), (10, CAw), (11, CRl), (12, CDBo), (15, CDRf), (16, CMd), (19, CSm), (24, CEx), (26, CVl), (28, CDy), (30, CDw)] f = some C → Sound Try.prog f C := (phis_cons s9 (phis_cons s10 (phis_cons s11 (phis_cons s12o (phis_cons s15f (phis_cons s16 (phis_cons s19 (phis_cons s24x (phis_cons s26 (phis_cons s28 (phis_cons s30w phis_nil)))))))))))
end Go.Proofs.Ytklbnccpeeehkaa

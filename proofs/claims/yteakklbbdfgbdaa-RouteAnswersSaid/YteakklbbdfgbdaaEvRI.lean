/- A part of the proof: symbolic evaluation of the program's functions, proved sound against the model; no condition. -/
import Derived.Test.YteakklbbdfgbdaaEvRD
namespace Go.Proofs.Yteakklbbdfgbdaa
open Go Go.RowKit Go.Ev
set_option linter.unusedSimpArgs false
set_option linter.unusedVariables false
set_option maxRecDepth 20000
structure K18a (m : Nt) (u id : Int) where
  i : Nat
  hi : i ≤ m.bs.length
  hn : ∀ j, j < i → hopP (nxO m id) u (m.bs.getD j b0) = false
def S18a (m : Nt) (u id : Int) (p : K18a m u id) : SL := ⟨[(1, .int .i64 u), (12, .lst [.int .i64 0] (i64s (nxO m id))), (59, .lst [.int .u8 0, .int .i64 0, .int .i64 0] (brs m.bs)), (60, .int .i64 m.bs.length), (61, .int .i64 p.i)], []⟩
abbrev L18a (m : Nt) (u id : Int) : LI := ⟨K18a m u id, S18a m u id, fun p => m.bs.length - p.i, fun p q => True⟩
theorem L18aS (m : Nt) (u id : Int) : (L18a m u id).S = S18a m u id := rfl
theorem L18aM (m : Nt) (u id : Int) (p : K18a m u id) : (L18a m u id).μ p = m.bs.length - p.i := rfl
theorem L18aR (m : Nt) (u id : Int) (p q : K18a m u id) : (L18a m u id).R p q = (True) := rfl
def I18 (m : Nt) (u id : Int) : Nat → LI := fun n => L18a m u id
theorem I18_0 (m : Nt) (u id : Int) : I18 m u id 0 = L18a m u id := rfl
set_option maxHeartbeats 4000000 in
theorem walk18 {Phi : Nat → Option Ctr} (P16 : Phi 16 = some CVl) (P33 : Phi 33 = some CEp) (P26 : Phi 26 = some CFr) (P27 : Phi 27 = some CFa) (P23 : Phi 23 = some CSd) (m : Nt) (u id : Int) : evC Phi (I18 m u id) rc18 ⟨initS [m.av, .int .i64 u, .int .u8 id], initM false []⟩ (kRet rv18 (.tup [.int .u8 (nxA m u id), .int .i64 (nxI m u id), .int .i64 (nxE m u id)]) false []) := by
  simp (config := {maxSteps := 2000000, contextual := true}) only [rc18, Nt.av, initM_f, rv18, evC_seq, evC_region, eo_box, evG_no, Option.getD_some, ev_box, av_t, initS_at, List.getD_cons_zero, gv_agg, bind1_some', boxR_eq, cells_agg, List.length_cons, List.length_nil, Nat.zero_add, Nat.reduceAdd, ↓reduceIte, bxO_some, Nat.reduceMul, goOp_some, put_n, killB_cells, List.map_cons, kill0_int, kill0_lst, List.map_nil, eo_mov, ev_mov, av_c, gv_int, un1_mov, put_q, evOps_nil, kEnd_at, hasG_no, hasG_nil, kEndB_f, kSeq_n, eo_load, ev_load, upd_at, Nat.reduceEqDiff, gv_ptr, load_ptr, updM_at, ldB_cells, valOf_agg, Nat.reduceLeDiff, decide_true, valB_true, List.drop_zero, List.take_succ_cons, List.take_zero, ldV_some, eo_call, P16, CVl, evCl_mk, ev_call, avs_cons, avs_nil, consO_some, clE_some, callE_pure, lends_cons, lend1_agg, lendC_cons, lendA_int, lendA_lst, lendC_nil, consL_some', List.nil_append, aggL_some, lends_nil, callN_some, decBr_brs, and_self, decEp_eps, Nt.eta, callP_some, c2_int, flat2_int, backOK_nil, Bool.and_self, clQ_t, eo_cmp, ev_cmp, cmp2_some, cmp_neq, toR_some', evC_cond, evC_ret, kSeq_r, kRet_r, retOK_eq, retL_cons, retV_t, retL_nil, lkR_two, lkVs_cons, lk1_int, lkVs_nil, lkT_f, applyL_nil, retOK_f, rtO_some, resV_two, leVs_cons, leV1_int, leVs_nil, and_true, knowL_nil, askL_nil, evC_skip, killS_at, List.getD_cons_succ, kill3_int, cmp_lss, gv_bool, evG_yes, pathG_bool, gG_some, guardR_q, guardL_nil, eo_faddr, ev_faddr, faddr_ptr, Nat.add_zero, gv_gd, List.contains_cons, List.contains_nil, Bool.or_false, List.all_cons, beq_self_eq_true, List.all_nil, gvB_true, valOf_one, List.getElem?_cons_zero, cmp_geq, eo_pick, ev_pick, pick3_some, pickV_bool, Bool.cond_true_left, hasG_yes, kEndB_t, ungdS_at, ungd_ptr, ungd_int, P33, CEp, Ep.av, lend1_int, eps_len, true_and, c2_tup, c1_agg, c0_int, c1_bool, flat2_tup, flat1_agg, flat0_int, flat1_bool, gv_tup, eo_extract, ev_extract, un1_extract, List.getElem?_cons_succ, eo_alloc, ev_alloc, eo_store, ar_t, kill3_agg, vwsT_ptr, frzL_nil, goF_eq, Option.getD_none, ev_store, bind2_some', store_ptr, stB_cells, stC_true, setC_cons, List.set_cons_zero, List.set_cons_succ, setC_nil, put_s, liveB_cells, kill3_bool, eo_not, ev_not, un1_not, kill3_ptr, killM_at, killO_some, P26, CFr, brs_len, c2_lst, flat2_lst, gv_lst, eo_iaddrS, ev_iaddrS, iaddrS_lst, iasB_true, i64s_len, gv_ep, load_ep, getE_i64, P27, CFa, cmp_eql, eo_len, ev_len, len_lst, evC_block, evC_loop, I18_0, L18aS, S18a, SL_ge, lkL_cons, lkS_int, lkS_lst, lkL_nil, lkM_nil, SL_ge0, leL_cons, leV1_lst, leL_nil, leM_nil, L18aR, SL_st, lookL_cons, Int.toNat_natCast, getE_br, P23, CSd, Br.eta, c1_int, flat1_int, evC_draw, preK_some, needD_mov, preB_f, needD_iaddrS, needD_load, needD_arith, needD_cmp, needD_pick, preK_nil, evD_cons, evDk_some, newOK_none, kill3_lst, guardL_cons, pathP_cons, boolOf_bool, pathP_nil, ev_arith, arith_sub, Bool.cond_false_right, evD_nil, kBlk_r, kLoop_r, kBlk_n, eo_arith, arith_add, kLoop_n, ungd_lst, ungd_bool, condK_bool, knowD_cons, knowD_nil, pairD_cons, pairOK_eq, newMen_none, Nat.reduceBEq, Bool.or_true, pairB_t, pairD_nil, pairB_f, chkR_eq, pslots_gd, optN_some, disjN_cons, Bool.not_false, disjN_nil, newI_none, askL_cons, knowL_cons, evC_exit, kSeq_e, kLoop_e, kBlk_e, kBlkB_t, true_imp_iff]
  have E : ∀ {e : Int}, nxE m u id = e → e ≠ 0 → AV.int .u8 0 = AV.int .u8 (nxA m u id) ∧ AV.int .i64 0 = AV.int .i64 (nxI m u id) ∧ AV.int .i64 e = AV.int .i64 (nxE m u id) := fun h h0 => by
    rw [nxA, nxI, if_pos (by rw [h]; exact h0), if_pos (by rw [h]; exact h0), h]; exact ⟨rfl, rfl, rfl⟩
  refine ⟨fun h => ?_, fun h => ⟨fun h1 => ?_, fun h1 => ⟨?_, fun h2 => ?_, fun h2 => ?_⟩⟩⟩
  · have h : vl m ≠ 0 := by simpa using h
    exact E (if_pos h) h
  all_goals have h : vl m = 0 := by simpa using h
  all_goals have nv : ¬ vl m ≠ 0 := by rw [h]; simp
  · have h1 : u < 0 ∨ m.N ≤ u := by simpa only [Bool.or_eq_true, decide_eq_true_eq] using h1
    exact E (by rw [nxE, if_neg nv, if_pos h1]) (by decide)
  all_goals have n1 : ¬ (u < 0 ∨ m.N ≤ u) := by simp only [Bool.or_eq_false_iff, decide_eq_false_iff_not] at h1; omega
  all_goals have O := vl_ok h
  · have := O.e; omega
  · exact E (by rw [nxE, if_neg nv, if_neg n1, if_pos (by simpa using h2)]) (by decide)
  have k : epK m.es id = true := by simpa using h2
  have oN := O.N
  have ob := O.b
  have hu : In m.N.toNat u := ⟨by omega, by omega⟩
  have ht := O.x _ (epF_mem k)
  have hl := ds_len O.v ht
  have e : nxE m u id = far (nat (nxO m id) u) := by rw [nxE, if_neg nv, if_neg n1, if_neg (by rw [k]; decide)]
  refine ⟨⟨by omega, O.v, by omega, ht⟩, ⟨hu.1, by rw [hl]; exact hu.2⟩, fun _ => ⟨fun h3 => ?_, fun h3 => ⟨⟨hu.1, by rw [hl]; exact hu.2⟩, fun h4 => ?_, fun h4 _ => ?_⟩⟩⟩
  · have h3 : (!decide (far (nat (nxO m id) u) = 0)) = true := h3
    exact E e (fun (e : far (nat (nxO m id) u) = 0) => by rw [e] at h3; exact absurd h3 (by decide))
  all_goals have h3 : (!decide (far (nat (nxO m id) u) = 0)) = false := h3
  all_goals have f : far (nat (nxO m id) u) = 0 := of_decide_eq_true (by rw [Bool.not_eq_false'] at h3; exact h3)
  all_goals have e' : ¬ nxE m u id ≠ 0 := by rw [e, f]; simp
  · have h4 : nat (nxO m id) u = 0 := of_decide_eq_true h4
    rw [nxA, nxI, if_neg e', if_neg e', if_pos h4, if_pos h4, e, f]; exact ⟨rfl, rfl, rfl⟩
  have h4 : ¬ nat (nxO m id) u = 0 := of_decide_eq_false h4
  have hr : 0 < nat (nxO m id) u ∧ nat (nxO m id) u ≤ 7 := by
    unfold far at f
    split at f
    · cases f
    · split at f
      · cases f
      · omega
  have A1 : nxA m u id = (m.bs.getD (hop m.bs (nxO m id) u) b0).ad := by rw [nxA, if_neg e', if_neg h4]
  have A2 : nxI m u id = hop m.bs (nxO m id) u := by rw [nxI, if_neg e', if_neg h4]
  have hwr : IntKind.i64.wrap ((nxO m id).getD u.toNat 0 - 1) = nat (nxO m id) u - 1 := wr_in _ (by show -9223372036854775808 ≤ nat (nxO m id) u - 1; omega) (by show nat (nxO m id) u - 1 ≤ 9223372036854775807; omega)
  have hl' : (nxO m id).length = m.N.toNat := hl
  refine ⟨⟨0, Nat.zero_le _, fun j hj => absurd hj (Nat.not_lt_zero j)⟩, ⟨rfl, rfl⟩, ?_⟩
  rintro ⟨i, hi, hn⟩
  dsimp only
  rw [hwr]
  refine ⟨fun hc => ?_, fun hc => ?_⟩
  · have hc := of_decide_eq_true hc
    have hb := br_mem (l := m.bs) (k := i) (by omega)
    have hin : sdK (m.bs.getD i b0) u = true → In m.N.toNat (sdV (m.bs.getD i b0) u) := fun c => sd_in O.v hb (sd_of c)
    refine ⟨⟨by omega, by omega⟩, fun c => ?_, fun _ => ⟨hu.1, by rw [hl']; exact hu.2⟩, fun c => ?_, fun c => ⟨⟨i + 1, by omega, fun j hj => ?_⟩, AV.int_inj' (wr_succ i (by omega)), by dsimp only; omega⟩⟩
    · have := hin (by simpa using c); exact ⟨this.1, by rw [hl']; exact this.2⟩
    · have hp := idx_pre (hopP (nxO m id) u) m.bs i b0 hn (by omega) c
      rw [A1, A2, hop, hp, e, f]; exact ⟨rfl, rfl, rfl⟩
    · by_cases e : j = i
      · subst e; exact c
      · exact hn j (by omega)
  · have hc := of_decide_eq_false hc
    obtain ⟨b, hb, hp⟩ := hop_ex O.v ht hu hr.1
    have := any_not (hopP (nxO m id) u) m.bs b0 (fun j hj => hn j (by omega))
    rw [List.any_eq_false] at this
    exact absurd hp (this b hb)
end Go.Proofs.Yteakklbbdfgbdaa

/- A part of the proof: symbolic evaluation of the program's functions, proved sound against the model; no condition. -/
import Derived.Test.YteakklbbdfgbdaaEvRD
namespace Go.Proofs.Yteakklbbdfgbdaa
open Go Go.RowKit Go.Ev
set_option linter.unusedSimpArgs false
set_option linter.unusedVariables false
set_option maxRecDepth 20000
structure K19a (m : Nt) (u id : Int) where
  i : Nat
  x : Int
  hi : i ≤ m.es.length
  hx : (x = -1 ∧ ∀ j, j < i → decide ((m.es.getD j e0).id = id) = false) ∨ ((0 ≤ x ∧ x < i) ∧ decide ((m.es.getD x.toNat e0).id = id) = true)
def S19a (m : Nt) (u id : Int) (p : K19a m u id) : SL := ⟨[(1, .int .i64 u), (2, .int .u8 id), (3, .ptr 256 0), (10, .int .i64 p.x), (11, .int .i64 p.i)], [(256, .cells [.int .i64 m.N, .lst [.int .u8 0, .int .i64 0, .int .i64 0] (brs m.bs), .lst [.int .u8 0, .int .u8 0, .int .i64 0] (eps m.es)])]⟩
abbrev L19a (m : Nt) (u id : Int) : LI := ⟨K19a m u id, S19a m u id, fun p => m.es.length - p.i, fun p q => True⟩
theorem L19aS (m : Nt) (u id : Int) : (L19a m u id).S = S19a m u id := rfl
theorem L19aM (m : Nt) (u id : Int) (p : K19a m u id) : (L19a m u id).μ p = m.es.length - p.i := rfl
theorem L19aR (m : Nt) (u id : Int) (p q : K19a m u id) : (L19a m u id).R p q = (True) := rfl
structure K19b (m : Nt) (u id : Int) where
  i : Nat
  x : Int
  hi : i ≤ m.bs.length
  hx : epK m.es id = true ∧ 0 ≤ x ∧ x < m.es.length ∧ m.es.getD x.toNat e0 = epF m.es id
  he : nxE m u id = 0 ∧ vl m = 0 ∧ (0 ≤ u ∧ u < m.N) ∧ 0 < nat (nxO m id) u ∧ nat (nxO m id) u ≤ 7
  hn : ∀ j, j < i → hopP (nxO m id) u (m.bs.getD j b0) = false
def S19b (m : Nt) (u id : Int) (p : K19b m u id) : SL := ⟨[(1, .int .i64 u), (2, .int .u8 id), (3, .ptr 256 0), (10, .int .i64 p.x), (12, .int .i64 (nat (nxO m id) u)), (14, .lst [.int .i64 0] (i64s (nxO m id))), (15, .int .i64 p.i)], [(256, .cells [.int .i64 m.N, .lst [.int .u8 0, .int .i64 0, .int .i64 0] (brs m.bs), .lst [.int .u8 0, .int .u8 0, .int .i64 0] (eps m.es)])]⟩
abbrev L19b (m : Nt) (u id : Int) : LI := ⟨K19b m u id, S19b m u id, fun p => m.bs.length - p.i, fun p q => True⟩
theorem L19bS (m : Nt) (u id : Int) : (L19b m u id).S = S19b m u id := rfl
theorem L19bM (m : Nt) (u id : Int) (p : K19b m u id) : (L19b m u id).μ p = m.bs.length - p.i := rfl
theorem L19bR (m : Nt) (u id : Int) (p q : K19b m u id) : (L19b m u id).R p q = (True) := rfl
def I19 (m : Nt) (u id : Int) : Nat → LI := fun n => if n = 0 then L19a m u id else L19b m u id
theorem I19_0 (m : Nt) (u id : Int) : I19 m u id 0 = L19a m u id := rfl
theorem I19_1 (m : Nt) (u id : Int) : I19 m u id 1 = L19b m u id := rfl
set_option maxHeartbeats 4000000 in
theorem walk19 {Phi : Nat → Option Ctr} (P17 : Phi 17 = some CVl) (P15 : Phi 15 = some CDi) (P28 : Phi 28 = some CFr) (P24 : Phi 24 = some CSd) (m : Nt) (u id : Int) : evC Phi (I19 m u id) rc19 ⟨initS [m.av, .int .i64 u, .int .u8 id], initM false []⟩ (kRet rv19 (.tup [.int .u8 (nxA m u id), .int .i64 (nxI m u id), .int .i64 (nxE m u id)]) false []) := by
  simp (config := {maxSteps := 2000000, contextual := true}) only [rc19, Nt.av, initM_f, rv19, evC_seq, evC_region, eo_box, evG_no, Option.getD_some, ev_box, av_t, initS_at, List.getD_cons_zero, gv_agg, bind1_some', boxR_eq, cells_agg, List.length_cons, List.length_nil, Nat.zero_add, Nat.reduceAdd, ↓reduceIte, bxO_some, Nat.reduceMul, goOp_some, put_n, killB_cells, List.map_cons, kill0_int, kill0_lst, List.map_nil, eo_mov, ev_mov, av_c, gv_int, un1_mov, put_q, evOps_nil, kEnd_at, hasG_no, hasG_nil, kEndB_f, kSeq_n, eo_load, ev_load, upd_at, Nat.reduceEqDiff, gv_ptr, load_ptr, updM_at, ldB_cells, valOf_agg, Nat.reduceLeDiff, decide_true, valB_true, List.drop_zero, List.take_succ_cons, List.take_zero, ldV_some, eo_call, P17, CVl, evCl_mk, ev_call, avs_cons, avs_nil, consO_some, clE_some, callE_pure, lends_cons, lend1_agg, lendC_cons, lendA_int, lendA_lst, lendC_nil, consL_some', List.nil_append, aggL_some, lends_nil, callN_some, decBr_brs, and_self, decEp_eps, Nt.eta, callP_some, c2_int, flat2_int, backOK_nil, Bool.and_self, clQ_t, eo_cmp, ev_cmp, cmp2_some, cmp_neq, toR_some', evC_cond, evC_ret, kSeq_r, kRet_r, retOK_eq, retL_cons, retV_t, retL_nil, lkR_two, lkVs_cons, lk1_int, lkVs_nil, lkT_f, applyL_nil, retOK_f, rtO_some, resV_two, leVs_cons, leV1_int, leVs_nil, and_true, knowL_nil, askL_nil, evC_skip, killS_at, List.getD_cons_succ, kill3_int, cmp_lss, gv_bool, evG_yes, pathG_bool, gG_some, guardR_q, guardL_nil, eo_faddr, ev_faddr, faddr_ptr, Nat.add_zero, gv_gd, List.contains_cons, List.contains_nil, Bool.or_false, List.all_cons, beq_self_eq_true, List.all_nil, gvB_true, valOf_one, List.getElem?_cons_zero, cmp_geq, eo_pick, ev_pick, pick3_some, pickV_bool, Bool.cond_true_left, hasG_yes, kEndB_t, evC_block, evC_loop, I19_0, L19aS, S19a, SL_ge, lkL_cons, ungdS_at, ungd_int, lkS_int, ungd_ptr, lkS_ptr, lkL_nil, lkM_cons, lkB_cells, lkC_cons, lkC0_int, lkC0_lst, lkC_nil, lkM_nil, SL_ge0, leL_cons, leV1_ptr, leL_nil, true_and, leM_cons, leB_cells, leAs_cons, leA_int, leA_lst, leAs_nil, leM_nil, L19aR, SL_st, lookL_cons, lookM_cons, List.getElem?_cons_succ, eo_len, ev_len, gv_lst, len_lst, eps_len, eo_iaddrS, ev_iaddrS, bind2_some', iaddrS_lst, iasB_true, Int.toNat_natCast, gv_ep, faddr_ep, load_ep, getE_ep, cmp_eql, kBlk_n, eo_arith, ev_arith, arith_add, kLoop_n, ar_t, condK_bool, knowL_cons, askL_cons, evC_exit, kSeq_e, kLoop_e, kBlk_e, kBlkB_t, evC_draw, preK_some, needD_load, preB_f, needD_mov, needD_faddr, needD_iaddrS, needD_call, preB_t, needD_extract, preK_nil, evD_cons, kill3_ptr, killM_at, killO_some, evDk_some, newOK_none, P15, CDi, lend1_int, c2_tup, c1_int, flat2_tup, flat1_int, gv_tup, ev_extract, un1_extract, evD_nil, P28, CFr, brs_len, c2_lst, flat2_lst, I19_1, L19bS, S19b, lkS_lst, leV1_lst, L19bR, getE_br, P24, CSd, Br.eta, c1_bool, flat1_bool, eo_extract, i64s_len, guardL_cons, pathP_cons, boolOf_bool, pathP_nil, getE_i64, arith_sub, Bool.cond_false_right, Nat.reduceBEq, kBlkB_f, ungd_lst, ungd_bool, true_imp_iff, knowD_cons, knowD_nil, pairD_cons, pairOK_eq, newMen_none, Bool.or_true, pairB_t, pairD_nil, pairB_f, chkR_eq, pslots_int, optN_some, disjN_nil, pslots_agg, newI_none, pslots_ep, pslots_lst, pslots_ptr, List.cons_append]
  have E : ∀ {e : Int}, nxE m u id = e → e ≠ 0 → AV.int .u8 0 = AV.int .u8 (nxA m u id) ∧ AV.int .i64 0 = AV.int .i64 (nxI m u id) ∧ AV.int .i64 e = AV.int .i64 (nxE m u id) := fun h h0 => by
    rw [nxA, nxI, if_pos (by rw [h]; exact h0), if_pos (by rw [h]; exact h0), h]; exact ⟨rfl, rfl, rfl⟩
  refine ⟨fun h => ?_, fun h => ⟨fun h1 => ?_, fun h1 => ?_⟩⟩
  · have h : vl m ≠ 0 := by simpa using h
    exact E (if_pos h) h
  all_goals have h : vl m = 0 := by simpa using h
  all_goals have nv : ¬ vl m ≠ 0 := by rw [h]; simp
  · have h1 : u < 0 ∨ m.N ≤ u := by simpa only [Bool.or_eq_true, decide_eq_true_eq] using h1
    exact E (by rw [nxE, if_neg nv, if_pos h1]) (by decide)
  have n1 : ¬ (u < 0 ∨ m.N ≤ u) := by simp only [Bool.or_eq_false_iff, decide_eq_false_iff_not] at h1; omega
  have O := vl_ok h
  have oN := O.N
  have ob := O.b
  have oe := O.e
  have hu : In m.N.toNat u := ⟨by omega, by omega⟩
  refine ⟨⟨0, -1, Nat.zero_le _, .inl ⟨rfl, fun j hj => absurd hj (Nat.not_lt_zero j)⟩⟩, ⟨rfl, rfl⟩, ?_⟩
  rintro ⟨i, x, hi, hx⟩
  dsimp only
  intro _
  refine ⟨fun hc => ?_, fun hc => ?_⟩
  · have hc := of_decide_eq_true hc
    refine ⟨⟨by omega, by omega⟩, fun h2 => ⟨⟨i + 1, i, by omega, .inr ⟨⟨by omega, by omega⟩, by rw [Int.toNat_natCast]; exact h2⟩⟩, ⟨rfl, AV.int_inj' (wr_succ i (by omega))⟩, by dsimp only; omega⟩, fun h2 => ⟨⟨i + 1, x, by omega, ?_⟩, ⟨rfl, AV.int_inj' (wr_succ i (by omega))⟩, by dsimp only; omega⟩⟩
    rcases hx with ⟨a, b⟩ | ⟨⟨a, b⟩, c⟩
    · refine .inl ⟨a, fun j hj => ?_⟩
      by_cases e : j = i
      · subst e; exact h2
      · exact b j (by omega)
    · exact .inr ⟨⟨a, by omega⟩, c⟩
  have hc := of_decide_eq_false hc
  refine ⟨fun h2 => ?_, fun h2 => ?_⟩
  · have h2 := of_decide_eq_true h2
    rcases hx with ⟨a, b⟩ | ⟨⟨a, b⟩, c⟩
    · have k : epK m.es id = false := any_not (fun e : Ep => decide (e.id = id)) m.es e0 (fun j hj => b j (by omega))
      exact E (by rw [nxE, if_neg nv, if_neg n1, if_pos k]) (by decide)
    · omega
  have h2 := of_decide_eq_false h2
  obtain ⟨⟨x0, x1⟩, hid⟩ := hx.resolve_left (fun e => by omega)
  obtain ⟨ee, k⟩ := ep_eq O (x := x.toNat) (by omega) hid
  rw [ee]
  have ht := O.x _ (epF_mem k)
  have hl' : (nxO m id).length = m.N.toNat := ds_len O.v ht
  have e : nxE m u id = far (nat (nxO m id) u) := by rw [nxE, if_neg nv, if_neg n1, if_neg (by rw [k]; decide)]
  have D : dsE m u (epF m.es id).bu = nxE m u id := by
    have hb := ht.1
    have hb2 := ht.2
    rw [e, dsE, if_neg nv, if_neg (by omega), ds_symm O.v hu ht]; rfl
  rw [D]
  refine ⟨⟨by omega, by omega⟩, fun h3 => E rfl (by simpa using h3), fun h3 => ?_⟩
  have z : nxE m u id = 0 := by simpa using h3
  have V2 : dsV m u (epF m.es id).bu = nat (nxO m id) u := by
    rw [dsV, D, if_pos z, ds_symm O.v hu ht]; rfl
  rw [V2]
  have f : far (nat (nxO m id) u) = 0 := by rw [← e]; exact z
  have e' : ¬ nxE m u id ≠ 0 := by rw [z]; simp
  have hr : 0 ≤ nat (nxO m id) u ∧ nat (nxO m id) u ≤ 7 := by
    unfold far at f
    split at f
    · cases f
    · split at f
      · cases f
      · omega
  refine ⟨fun h4 => ?_, fun h4 => ?_⟩
  · have h4 := of_decide_eq_true h4
    refine ⟨⟨by omega, by omega⟩, ?_⟩
    rw [nxA, nxI, if_neg e', if_neg e', if_pos h4, if_pos h4, z]; exact ⟨rfl, rfl, rfl⟩
  have h4 := of_decide_eq_false h4
  have A1 : nxA m u id = (m.bs.getD (hop m.bs (nxO m id) u) b0).ad := by rw [nxA, if_neg e', if_neg h4]
  have A2 : nxI m u id = hop m.bs (nxO m id) u := by rw [nxI, if_neg e', if_neg h4]
  refine ⟨⟨by omega, by omega⟩, ⟨by omega, O.v, by omega, ht⟩, ⟨0, x, Nat.zero_le _, ⟨k, by omega, by omega, ee⟩, ⟨z, h, ⟨by omega, by omega⟩, by omega, by omega⟩, fun j hj => absurd hj (Nat.not_lt_zero j)⟩, ⟨rfl, rfl, rfl, rfl⟩, ?_⟩
  rintro ⟨i2, x2, hi2, hx2, he2, hn2⟩
  dsimp only
  intro _
  have hwr : IntKind.i64.wrap (nat (nxO m id) u - 1) = nat (nxO m id) u - 1 := wr_in _ (by omega) (by omega)
  rw [hwr]
  refine ⟨fun hc => ?_, fun hc => ?_⟩
  · have hc := of_decide_eq_true hc
    have hb := br_mem (l := m.bs) (k := i2) (by omega)
    have hin : sdK (m.bs.getD i2 b0) u = true → In m.N.toNat (sdV (m.bs.getD i2 b0) u) := fun c => sd_in O.v hb (sd_of c)
    refine ⟨⟨by omega, by omega⟩, fun c => ?_, fun c => ?_, fun c => ⟨⟨i2 + 1, x2, by omega, hx2, he2, fun j hj => ?_⟩, ⟨rfl, AV.int_inj' (wr_succ i2 (by omega))⟩, by dsimp only; omega⟩⟩
    · have := hin (by simpa using c); exact ⟨this.1, by rw [hl']; exact this.2⟩
    · have hp := idx_pre (hopP (nxO m id) u) m.bs i2 b0 hn2 (by omega) c
      refine ⟨⟨by omega, by omega⟩, ?_⟩
      rw [A1, A2, hop, hp, z]; exact ⟨rfl, rfl, rfl⟩
    · by_cases e : j = i2
      · subst e; exact c
      · exact hn2 j (by omega)
  · have hc := of_decide_eq_false hc
    obtain ⟨b, hb, hp⟩ := hop_ex O.v ht hu (show 0 < nat (nxO m id) u by omega)
    have := any_not (hopP (nxO m id) u) m.bs b0 (fun j hj => hn2 j (by omega))
    rw [List.any_eq_false] at this
    exact absurd hp (this b hb)
end Go.Proofs.Yteakklbbdfgbdaa

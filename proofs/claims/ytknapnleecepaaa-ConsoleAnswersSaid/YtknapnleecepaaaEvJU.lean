/- A part of the proof: symbolic evaluation of the program's functions, proved sound against the model; no condition. -/
import Derived.Test.YtknapnleecepaaaEvJP
namespace Go.Proofs.Ytknapnleecepaaa
open Go Go.RowKit Go.Ev
set_option linter.unusedSimpArgs false
set_option linter.unusedVariables false
set_option maxRecDepth 20000
theorem getE_i3 (a b c : Int) (i : Nat) : getE [.int .i64 0] [[.int .i64 a], [.int .i64 b], [.int .i64 c]] i = [.int .i64 (([a, b, c] : List Int).getD i 0)] := getE_i64 [a, b, c] i
theorem getE_i4 (a b c d : Int) (i : Nat) : getE [.int .i64 0] [[.int .i64 a], [.int .i64 b], [.int .i64 c], [.int .i64 d]] i = [.int .i64 (([a, b, c, d] : List Int).getD i 0)] := getE_i64 [a, b, c, d] i
theorem zeros_u8 (n : Nat) : List.replicate n [AV.int .u8 0] = u8s (List.replicate n 0) := by simp [u8s]
theorem zeros_okb (k : Nat) : Okb (List.replicate k 0) := fun x hx => by rw [(List.mem_replicate.1 hx).2]; decide
/-- A line with one thing changed. -/
def odN (k : Int) : Int := if k = 0 then 3 else if k = 1 then 3 else if k = 2 then 4 else if k = 3 then 3 else if k = 4 then 3 else 2
def odL (L : List Int) (a : Int) (l : Ln) : Ln :=
  let k := cnV L a 8
  let t := cnA L a 8
  if k = 0 then { l with sq := ([-1, 0, 16] : List Int).getD (cnV L t 3).toNat 0 } else
  if k = 1 then { l with rc := ([-1, 15, 16] : List Int).getD (cnV L t 3).toNat 0 } else
  if k = 2 then { l with ro := ([-1, 0, 1024, 1025] : List Int).getD (cnV L t 4).toNat 0 } else
  if k = 3 then { l with ak := ([1, 16, l.rc] : List Int).getD (cnV L t 3).toNat 0 } else
  if k = 4 then { l with ct := ([-1, 64, 65] : List Int).getD (cnV L t 3).toNat 0 } else
  if k = 5 then { l with bu := !l.bu } else
  if k = 6 then { l with w := List.replicate (1024 - l.s.length + cnV L t 2).toNat 0 } else
  if k = 7 then { l with s := List.replicate (64 + cnV L t 2).toNat 0 } else l
def odA (L : List Int) (a : Int) : Int := if cnV L a 8 = 5 then cnA L a 8 else cnA L (cnA L a 8) (odN (cnV L a 8))
def DOd : Ctr := .mk true fun cs xs => match cs, xs with
  | [.lst zz es, .int .i64 a], [.agg [.lst z1 e1, .bool b1, .lst z2 e2, .bool b2, .bool b3, .int .i64 n1, .int .i64 n2, .int .i64 n3, .int .i64 n4, .int .i64 n5]] =>
    some ((((zz = [.int .u8 0] ∧ es = u8s (decU es)) ∧ es.length ≤ 100000) ∧ 0 ≤ a ∧ Okb (decU es)) ∧ ((z1 = [.int .u8 0] ∧ e1 = u8s (decU e1)) ∧ (z2 = [.int .u8 0] ∧ e2 = u8s (decU e2))) ∧ e1.length ≤ 100000 ∧ e2.length ≤ 1024,
      (odL (decU es) a ⟨decU e1, b1, decU e2, b2, b3, n1, n2, n3, n4, n5⟩).av, [.lst [.int .u8 0] (u8s (decU es)), .int .i64 (odA (decU es) a)])
  | _, _ => none
theorem odL_bd {L : List Int} (h : Okb L) (a : Int) {l : Ln} (hl : OkL l) : Bd (odL L a l) ∧ Okb (odL L a l).w ∧ Okb (odL L a l).s := by
  have v2 := cn_bd h (a := cnA L a 8) (n := 2) (by omega)
  have hb := hl.bd
  have hs := hl.P.1
  have h0 : Bd l ∧ Okb l.w ∧ Okb l.s := ⟨hb, hl.w, hl.s⟩
  simp only [odL]
  split
  · exact h0
  · split
    · exact h0
    · split
      · exact h0
      · split
        · exact h0
        · split
          · exact h0
          · split
            · exact h0
            · split
              · exact ⟨⟨by dsimp only; rw [List.length_replicate]; omega, hb.2⟩, zeros_okb _, hl.s⟩
              · split
                · exact ⟨⟨hb.1, by dsimp only; rw [List.length_replicate]; omega⟩, hl.w, zeros_okb _⟩
                · exact h0
theorem odA_nn {L : List Int} {a : Int} (h : 0 ≤ a) : 0 ≤ odA L a := by
  unfold odA
  split
  · exact cnA_nn h _
  · exact cnA_nn (cnA_nn h _) _
set_option maxHeartbeats 4000000 in
theorem walk19 {Phi : Nat → Option Ctr} (P40 : Phi 40 = some DCn) (P20 : Phi 20 = some DNe) (L : List Int) (a : Int) (l : Ln) (hl : L.length ≤ 100000) (ha : 0 ≤ a) (hL : Okb L) (hb : l.w.length ≤ 100000 ∧ l.s.length ≤ 1024) : evC Phi (noI) rc19 ⟨initS (.ptr 0 0 :: [l.av]), initM true [.lst [.int .u8 0] (u8s L), .int .i64 a]⟩ (kRet rv19 ((odL L a l).av) true [.lst [.int .u8 0] (u8s L), .int .i64 (odA L a)]) := by
  simp (config := {maxSteps := 2000000}) only [rc19, Ln.av, initM_t, rv19, evC_seq, evC_region, eo_box, evG_no, Option.getD_some, ev_box, av_t, initS_at, List.getD_cons_succ, List.getD_cons_zero, gv_agg, bind1_some', boxR_eq, cells_agg, List.length_cons, List.length_nil, Nat.zero_add, Nat.reduceAdd, ↓reduceIte, bxO_some, Nat.reduceMul, goOp_some, put_n, killB_cells, List.map_cons, kill0_lst, kill0_bool, kill0_int, List.map_nil, eo_alloc, ev_alloc, kill0_nil, evOps_nil, kEnd_at, hasG_no, hasG_nil, kEndB_f, kSeq_n, eo_load, ev_load, upd_at, Nat.reduceEqDiff, killS_at, kill3_ptr, gv_ptr, load_ptr, updM_at, killM_at, killO_some, ldB_cells, valOf_agg, Nat.reduceLeDiff, decide_true, valB_true, List.drop_zero, List.take_succ_cons, List.take_zero, ldV_some, put_q, eo_call, P40, DCn, evCl_ext, avs_cons, avs_nil, consO_some, evXV_some, evX_f, lends_cons, lend1_agg, lendC_cons, lendA_lst, lendA_bool, lendA_int, lendC_nil, consL_some', List.nil_append, aggL_some, lends_nil, evXA_some, decU_u8s, and_self, u8s_len, true_and, evXN_some, evXP_eq, wfX2_agg, List.all_cons, wfX0_fr, Nat.reduceLT, wfX0_bool, wfX0_int, List.all_nil, Bool.and_self, frs2_agg, frsL_cons, frs0_fr, frs0_bool, frs0_int, frsL_nil, List.cons_append, idsOK_eq, nodupN_cons, List.contains_cons, Nat.reduceBEq, List.contains_nil, Bool.or_false, Bool.not_false, nodupN_nil, flatX2_agg, flatX0_fr, flatC_int, flatX0_bool, flatX0_int, flatL_buf, flatL_nil, and_true, evOpsk_at, eo_store, backX_nil, putX_eq, unfr2_agg, unfr0_fr, Nat.add_zero, unfr0_bool, unfr0_int, addF_cons, addF_nil, putY_eq, ar_t, vwsT_ptr, frzL_nil, goF_eq, Option.getD_none, ev_store, bind2_some', store_ptr, stB_cells, stC_true, setC_cons, List.set_cons_zero, List.set_cons_succ, setC_nil, put_s, liveB_cells, eo_mov, ev_mov, un1_mov, P20, DNe, evCl_mk, ev_call, av_c, gv_int, clE_some, callE_state, callC_cells, lend1_int, callB_some, c0_lst, c0_int, Int.reduceLE, callD_t, callS_some, c2_int, flat2_int, flat0_lst, flat0_int, Bool.and_true, Bool.true_and, backOK_nil, clU_t, put_u, evC_block, eo_cmp, ev_cmp, cmp2_some, cmp_eql, toR_some', gv_bool, evC_cond, eo_bsliceO, vwsG_cons, ar_c, vws1_int, vwsG_nil, ev_bsliceO, List.replicate_succ, List.replicate_zero, fillS_cons, fsK_some, cells_int, fsC_some, fillS_nil, blO2_some, killB_buf, eo_iaddrS, ev_iaddrS, gv_vw, iaddrS_vw, iasV_buf, beq_self_eq_true, iasW_t, gv_bp, load_bp, ldP_buf, getE_i3, valOf_one, List.getElem?_cons_zero, ldQ_t, eo_faddr, ev_faddr, faddr_ptr, kill0_vw, kBlk_n, evC_ret, kRet_r, retOK_eq, retL_cons, retV_c, rvP_ptr, rvB_cells, retL_nil, lkR_one, lk1_agg, lkAs_cons, lk0_vw_lst, lk0_bool, lk0_int, lkAs_nil, lkT_t, lkB_cells, lkC_cons, lkC0_lst, lkC0_int, lkC_nil, applyL_frz, frzQ_buf, frzP_t, frzM_at, frzO_some, frzB_buf, applyL_nil, retOK_t, frzSl_at, frz3_ptr, frzB_cells, frz0_vw, frz0_bool, frz0_int, frz0_lst, rtO_some, resV_one, leV1_agg, leAs_cons, leA_lst, leA_bool, leA_int, leAs_nil, rtM_cells, knowL_nil, askL_nil, askL_cons, knowL_cons, true_imp_iff, getE_i4, evC_draw, preK_some, needD_faddr, preB_f, needD_load, needD_bsliceO, preB_t, needD_mov, needD_call, needD_iaddrS, preK_none, preK_nil, evD_cons, evDk_some, newOK_none, List.getElem?_cons_succ, newOK_some, deadL_nil, liveB_buf, evD_nil, knowD_cons, knowD_nil, pairD_cons, pairOK_eq, newMen_none, Bool.or_true, pairB_t, pairD_nil, pairB_f, chkR_eq, pslots_int, optN_some, disjN_nil, pslots_vw, newI_some, newI_none, disjN_cons, newMen_some, noMen_eq, kill3_int, noB_none, pslots_ptr, eo_not, ev_not, un1_not, cells_bool, needD_len, needD_arith, needD_mkslice, ev_len, len_vw, lenV_buf, ev_arith, arith_sub, arith_add, ev_mkslice, mk_int, zeros_u8, cells_vw, kill3_vw, eo_arith, eo_mkslice, evC_skip, condK_bool]
  have v := cn_bd hL (a := a) (n := 8) (by omega)
  have v2 := cn_bd hL (a := cnA L a 8) (n := 2) (by omega)
  have v3 := cn_bd hL (a := cnA L a 8) (n := 3) (by omega)
  have v4 := cn_bd hL (a := cnA L a 8) (n := 4) (by omega)
  have hA := cnA_nn (L := L) ha 8
  refine ⟨⟨hb.1, by omega⟩, fun _ => ⟨⟨hl, ha, hL⟩, fun hk => (by
    have hk := of_decide_eq_true hk
    exact ⟨⟨hl, hA, hL⟩, ⟨v3.1, v3.2⟩, by omega, ln_eqs (by simp only [odL, hk]; rfl), by simp only [odA, hk]; rfl⟩), fun _ => ⟨fun hk => (by
    have hk := of_decide_eq_true hk
    exact ⟨⟨hl, hA, hL⟩, ⟨v3.1, v3.2⟩, by omega, ln_eqs (by simp only [odL, hk]; rfl), by simp only [odA, hk]; rfl⟩), fun _ => ⟨fun hk => (by
    have hk := of_decide_eq_true hk
    exact ⟨⟨hl, hA, hL⟩, ⟨v4.1, v4.2⟩, by omega, ln_eqs (by simp only [odL, hk]; rfl), by simp only [odA, hk]; rfl⟩), fun _ => ⟨fun hk => (by
    have hk := of_decide_eq_true hk
    exact ⟨⟨hl, hA, hL⟩, ⟨v3.1, v3.2⟩, by omega, ln_eqs (by simp only [odL, hk]; rfl), by simp only [odA, hk]; rfl⟩), fun _ => ⟨fun hk => (by
    have hk := of_decide_eq_true hk
    exact ⟨⟨hl, hA, hL⟩, ⟨v3.1, v3.2⟩, by omega, ln_eqs (by simp only [odL, hk]; rfl), by simp only [odA, hk]; rfl⟩), fun _ => ⟨fun hk => ?_, fun h5 => ⟨fun hk => ?_, fun h6 => ⟨fun hk => ?_, fun hk => ?_⟩⟩⟩⟩⟩⟩⟩⟩⟩
  · have hk := of_decide_eq_true hk
    exact ⟨ln_eqs (by simp only [odL, hk]; rfl), by simp only [odA, hk]; rfl⟩
  · have hk := of_decide_eq_true hk
    rw [wr_in (1024 - (l.s.length : Int)) (by omega) (by omega), wr_in (1024 - (l.s.length : Int) + cnV L (cnA L a 8) 2) (by omega) (by omega)]
    exact ⟨⟨hl, hA, hL⟩, ⟨by omega, by omega, by omega, by omega⟩, fun _ => ⟨ln_eqs (by simp only [odL, hk]; rfl), by simp only [odA, hk]; rfl⟩⟩
  · have hk := of_decide_eq_true hk
    rw [wr_in (64 + cnV L (cnA L a 8) 2) (by omega) (by omega)]
    exact ⟨⟨hl, hA, hL⟩, ⟨by omega, by omega, by omega, by omega⟩, ln_eqs (by simp only [odL, hk]; rfl), by simp only [odA, hk]; rfl⟩
  · have hk := of_decide_eq_false hk
    have h6 := of_decide_eq_false h6
    have h5 := of_decide_eq_false h5
    simp only [decide_eq_false_iff_not] at *
    omega
end Go.Proofs.Ytknapnleecepaaa

/- A part of the proof: symbolic evaluation of the program's functions, proved sound against the model; no condition. -/
import Derived.Test.YtofldhooanikcaaEvFL
namespace Go.Proofs.Ytofldhooanikcaa
open Go Go.RowKit Go.Ev
set_option linter.unusedSimpArgs false
set_option linter.unusedVariables false
set_option maxRecDepth 20000
def hot (bs : List Int) : Int := bs.foldl max 0
def padI (bs : List Int) (n : Nat) : List Int := bs ++ List.replicate (n - bs.length) 0
def padB (i n : Nat) : List Bool := List.replicate i true ++ List.replicate (n - i) false
def shf (t : Int) (bs : List Int) (i : Nat) : List Int := (bs.take i).map (· + t) ++ bs.drop i
theorem padI_len {bs : List Int} {n : Nat} (h : bs.length ≤ n) : (padI bs n).length = n := by simp [padI]; omega
theorem padB_len {i n : Nat} (h : i ≤ n) : (padB i n).length = n := by simp [padB]; omega
theorem set_len {α} (a : List α) (x y : α) (b : List α) : (a ++ x :: b).set a.length y = a ++ y :: b := by
  rw [List.set_append_right _ _ (Nat.le_refl _), Nat.sub_self]; rfl
theorem padI_snoc {bs : List Int} {n : Nat} (h : bs.length < n) : padI bs n = padI (bs ++ [0]) n := by
  simp only [padI, List.length_append, List.length_singleton, List.append_assoc]
  rw [show n - bs.length = (n - (bs.length + 1)) + 1 by omega, List.replicate_succ]
  rfl
theorem padI_set {bs : List Int} {n : Nat} (h : bs.length < n) (x : Int) : (padI bs n).set bs.length x = padI (bs ++ [x]) n := by
  simp only [padI, List.length_append, List.length_singleton, List.append_assoc]
  rw [show n - bs.length = (n - (bs.length + 1)) + 1 by omega, List.replicate_succ, set_len]
  rfl
theorem padI_get {bs : List Int} {n : Nat} (h : bs.length < n) (x : Int) : (padI (bs ++ [x]) n).getD bs.length 0 = x := by
  simp [padI, List.getD_eq_getElem?_getD]
theorem padB_set {i n : Nat} (h : i < n) : (padB i n).set i true = padB (i + 1) n := by
  simp only [padB]
  rw [show n - i = (n - (i + 1)) + 1 by omega, List.replicate_succ]
  have := set_len (List.replicate i true) false true (List.replicate (n - (i + 1)) false)
  rw [List.length_replicate] at this
  rw [this, List.replicate_succ' (n := i), List.append_assoc]
  rfl
theorem padI_nil (n : Nat) : padI [] n = List.replicate n 0 := by simp [padI]
theorem padI_full (bs : List Int) : padI bs bs.length = bs := by simp [padI]
theorem padB_0 (n : Nat) : padB 0 n = List.replicate n false := by simp [padB]
theorem padB_full (n : Nat) : padB n n = List.replicate n true := by simp [padB]
theorem shf_len (t : Int) (bs : List Int) {i : Nat} (h : i ≤ bs.length) : (shf t bs i).length = bs.length := by simp [shf]; omega
theorem shf_0 (t : Int) (bs : List Int) : shf t bs 0 = bs := by simp [shf]
theorem shf_full (t : Int) (bs : List Int) : shf t bs bs.length = bs.map (· + t) := by simp [shf]
theorem shf_get (t : Int) {bs : List Int} {i : Nat} (h : i < bs.length) : (shf t bs i).getD i 0 = bs.getD i 0 := by
  simp only [shf, List.getD_eq_getElem?_getD]
  rw [List.getElem?_append_right (by simp; omega)]
  simp [Nat.min_eq_left (Nat.le_of_lt h)]
theorem shf_set (t : Int) {bs : List Int} {i : Nat} (h : i < bs.length) : (shf t bs i).set i (bs.getD i 0 + t) = shf t bs (i + 1) := by
  have e : bs.drop i = bs.getD i 0 :: bs.drop (i + 1) := by
    rw [List.getD_eq_getElem?_getD, List.getElem?_eq_getElem h]; exact List.drop_eq_getElem_cons h
  have e2 : bs.take (i + 1) = bs.take i ++ [bs.getD i 0] := by
    rw [List.take_add_one, List.getD_eq_getElem?_getD, List.getElem?_eq_getElem h]; rfl
  simp only [shf]
  rw [e, e2, List.map_append, List.append_assoc]
  have := set_len ((bs.take i).map (· + t)) (bs.getD i 0) (bs.getD i 0 + t) (bs.drop (i + 1))
  rw [List.length_map, List.length_take, Nat.min_eq_left (Nat.le_of_lt h)] at this
  exact this
theorem hot_snoc (bs : List Int) (x : Int) : hot (bs ++ [x]) = max (hot bs) x := by simp [hot]
/-- FanTargets: the loop that fills the readings. -/
structure K7 where
  z : Zn
  bs : List Int
  hz : GZ z
  hv : vz z = true
  hi : bs.length ≤ z.sens.length
  hr : ∀ x ∈ bs, 0 ≤ x ∧ x ≤ 65535000
def S7 (X : List Int) (p : K7) : SL := ⟨[(1, .lst [.int .u16 0] (u16s X)), (6, .ptr 448 0), (7, .vw 1920 0 0 0), (8, .vw 2176 0 0 0), (9, .int .i64 (hot p.bs)), (35, .int .i64 p.z.sens.length), (36, .int .i64 p.bs.length)], [(448, .cells p.z.cs), (1920, .buf 2 [.int .i64 0] (i64s (padI p.bs p.z.sens.length))), (2176, .buf 4 [.bool false] (bls (padB p.bs.length p.z.sens.length)))]⟩
def L7 (X : List Int) : LI := ⟨K7, S7 X, fun p => p.z.sens.length - p.bs.length, fun _ _ => True⟩
/-- FanTargets: the loop that adds the target. -/
structure K7b where
  z : Zn
  i : Nat
  bs : List Int
  hz : GZ z
  hv : vz z = true
  hi : i ≤ z.sens.length
  hb : bs.length = z.sens.length
  hr : ∀ x ∈ bs, 0 ≤ x ∧ x ≤ 65535000
def S7b (p : K7b) : SL := ⟨[(6, .ptr 448 0), (7, .vw 1920 0 0 0), (8, .vw 2176 0 0 0), (9, .int .i64 (hot p.bs)), (63, .int .i64 p.z.sens.length), (64, .int .i64 p.i)], [(448, .cells p.z.cs), (1920, .buf 2 [.int .i64 0] (i64s (shf p.z.tgt p.bs p.i))), (2176, .buf 4 [.bool false] (bls (List.replicate p.z.sens.length true)))]⟩
def L7b : LI := ⟨K7b, S7b, fun p => p.z.sens.length - p.i, fun _ _ => True⟩
def I7 (X : List Int) : Nat → LI := fun n => if n = 0 then L7 X else L7b
theorem I7a (X : List Int) : I7 X 0 = L7 X := rfl
theorem I7b (X : List Int) : I7 X 1 = L7b := rfl
theorem L7S (X : List Int) : (L7 X).S = S7 X := rfl
theorem L7R (X : List Int) (p q) : (L7 X).R p q = True := rfl
theorem L7bS : L7b.S = S7b := rfl
theorem L7bR (p q) : L7b.R p q = True := rfl
theorem ex1_hot {z : Zn} (hz : GZ z) {x : Int} (h : 0 ≤ x ∧ x ≤ 65535000) : ex1 z (x + z.tgt) = x / 1000 := by
  have ht := hz.t
  simp only [ex1, lim, W]
  rw [show max (-1000000000000) (min (x + z.tgt) 1000000000000) - z.tgt = x by omega, wr_in _ (by omega) (by omega), flr_eq (by omega) (by omega)]
  omega
theorem hot_bd {bs : List Int} (h : ∀ x ∈ bs, 0 ≤ x ∧ x ≤ 65535000) : 0 ≤ hot bs ∧ hot bs ≤ 65535000 := by
  have key : ∀ (bs : List Int) (o : Int), 0 ≤ o ∧ o ≤ 65535000 → (∀ x ∈ bs, 0 ≤ x ∧ x ≤ 65535000) → 0 ≤ bs.foldl max o ∧ bs.foldl max o ≤ 65535000 := by
    intro bs
    induction bs with
    | nil => intro o h _; exact h
    | cons x bs ih => intro o h1 h2; have := h2 x (by simp); exact ih _ (by omega) (fun y hy => h2 y (by simp [hy]))
  exact key bs 0 (by omega) h
theorem exV_hot {z : Zn} (hz : GZ z) {bs : List Int} (hn : bs ≠ []) (h : ∀ x ∈ bs, 0 ≤ x ∧ x ≤ 65535000) : exV z (bs.map (· + z.tgt)) = hot bs / 1000 := by
  have key : ∀ (bs : List Int) (o : Int), 0 ≤ o → (∀ x ∈ bs, 0 ≤ x ∧ x ≤ 65535000) → (bs.map (· + z.tgt)).foldl (fun o r => max o (ex1 z r)) (o / 1000) = (bs.foldl max o) / 1000 := by
    intro bs
    induction bs with
    | nil => intro o h _; rfl
    | cons x bs ih =>
      intro o h1 h2
      have h3 := h2 x (by simp)
      simp only [List.map_cons, List.foldl_cons]
      rw [ex1_hot hz h3, show max (o / 1000) (x / 1000) = (max o x) / 1000 by omega]
      exact ih _ (by omega) (fun y hy => h2 y (by simp [hy]))
  cases bs with
  | nil => exact absurd rfl hn
  | cons x bs =>
    have h3 := h x (by simp)
    have := key bs x h3.1 (fun y hy => h y (by simp [hy]))
    simp only [exV, hot, List.map_cons, List.foldl_cons]
    rw [ex1_hot hz h3, show max (-100000) (x / 1000) = x / 1000 by omega, show max 0 x = x by omega]
    exact this
set_option maxHeartbeats 4000000 in
theorem walk7 {Phi : Nat → Option Ctr} (P9 : Phi 9 = some CAwake) (P10 : Phi 10 = some CNw) (P11 : Phi 11 = some CZo) (P17 : Phi 17 = some CV) (P20 : Phi 20 = some CEx) (P21 : Phi 21 = some CDe) (L : List Int) (hL : Okb L) (X : List Int) (hX : ∀ x ∈ X, 0 ≤ x ∧ x ≤ 65535) : evC Phi (I7 X) rc7 ⟨initS [.lst [.int .u8 0] (u8s L), .lst [.int .u16 0] (u16s X)], initM false []⟩ (kRet rv7 (.bool true) false []) := by
  simp (config := {maxSteps := 2000000}) only [rc7, initM_f, rv7, evC_seq, evC_region, eo_mov, evG_no, Option.getD_some, ev_mov, av_c, gv_bool, bind1_some', un1_mov, goOp_some, put_q, evOps_nil, kEnd_at, hasG_no, hasG_nil, kEndB_f, kSeq_n, eo_call, P9, CAwake, evCl_mk, ev_call, avs_nil, clO_some, call_pure, lends_nil, callN_some, callP_some, List.nil_append, c2_bool, flat2_bool, backOK_nil, Bool.and_self, clQ_t, eo_not, ev_not, av_t, upd_at, Nat.reduceEqDiff, initS_at, List.getD_cons_succ, if_false, if_true, un1_not, Bool.not_true, evC_cond, evC_ret, kSeq_r, kRet_r, retOK_eq, retL_cons, retV_t, retL_nil, consO_some, lkR_one, lk1_bool, lkT_f, applyL_nil, retOK_f, rtO_some, resV_one, leV1_bool, and_true, knowL_nil, askL_nil, evC_skip, List.getD_cons_zero, gv_lst, P10, CNw, evCl_ext, avs_cons, gv_int, evXV_some, evX_f, lends_cons, lend1_lst, lend1_int, consL_some', evXA_some, decU_u8s, and_self, Int.reduceLE, Int.reduceToNat, evXN_some, evXP_eq, wfX2_fp, List.all_cons, c0_lst, c0_int, List.all_nil, frs2_fp, idsOK_eq, List.map_cons, List.map_nil, nodupN_cons, List.contains_nil, Bool.not_false, nodupN_nil, Nat.reduceLT, decide_true, flatX2_fp, flat0_lst, flat0_int, Bool.and_true, flatL_cells, flatL_nil, backX_nil, putX_eq, unfr2_fp, Nat.reduceMul, Nat.reduceAdd, Nat.add_zero, addF_cons, addF_nil, putY_eq, killS_at, gv_ptr, P11, CZo, Zn.av, eo_alloc, ev_alloc, eo_store, evX_t, updM_at, killM_at, killO_none, evXC_cells, evXB_some, true_and, evXM_some, evXS_eq, wfX2_agg, wfX0_lst, wfX0_int, frs2_agg, frsL_cons, frs0_lst, frs0_int, frsL_nil, flatX2_agg, flatX0_lst, flatX0_int, setB_eq, unfr2_agg, unfr0_lst, unfr0_int, put_n, killB_cells, kill0_nil, kill0_int, ar_t, kill3_agg, kill0_lst, vwsT_ptr, frzL_nil, goF_eq, Option.getD_none, ev_store, gv_agg, bind2_some', store_ptr, cells_agg, List.length_cons, List.length_nil, Nat.zero_add, stB_cells, Nat.reduceLeDiff, stC_true, setC_cons, List.set_cons_zero, List.set_cons_succ, setC_nil, put_s, eo_load, ev_load, load_ptr, ldB_cells, valOf_agg, valB_true, List.drop_zero, List.take_succ_cons, List.take_zero, ldV_some, P17, CV, lend1_agg, lendC_cons, lendA_lst, lendA_int, lendC_nil, aggL_some, Zn.eta, kill3_bool, evC_draw, preK_some, needD_faddr, preB_f, needD_load, needD_len, needD_mkslice, preB_t, needD_mov, preK_nil, evD_cons, ev_faddr, kill3_ptr, faddr_ptr, evDk_some, newOK_none, killO_some, valOf_one, List.getElem?_cons_zero, ev_len, len_lst, u8s_len, ev_mkslice, mk_int, Int.toNat_natCast, i64s_rep, newOK_some, killB_buf, bls_rep, kill3_vw, gv_vw, evD_nil, eo_len, len_vw, lenV_buf, i64s_len, List.length_replicate, evC_block, evC_loop, I7a, L7S, S7, Zn.cs, SL_ge, lkL_cons, kill3_lst, lkS_lst, lkS_ptr, lkS_vw_vw, beq_self_eq_true, renK_t, lkS_int, lkL_nil, lkM_cons, lkB_cells, lkC_cons, lkC0_lst, lkC0_int, lkC_nil, lkB_buf, lkM_nil, SL_ge0, leL_cons, leV1_lst, leV1_ptr, leV1_vw, leV1_int, leL_nil, leM_cons, leB_cells, leAs_cons, leA_lst, leA_int, leAs_nil, leB_buf, leM_nil, L7R, SL_st, eo_cmp, ev_cmp, lookL_cons, lookL_nil, cmp2_some, cmp_lss, toR_some', eo_iaddrS, ev_iaddrS, iaddrS_vw, lookM_cons, lookM_nil, iasV_buf, iasW_t, bls_len, ar_c, vwsT_bp, vws1_bool, gv_bp, store_bp, cells_bool, stP_buf, c0_bool, stQ_t, getE_bl, bls_set, u16s_len, iaddrS_lst, iasB_true, gv_ep, load_ep, getE_u16, eo_conv, ev_conv, un1_conv, eo_arith, ev_arith, arith_mul, vws1_int, cells_int, getE_i64, i64s_set, List.length_set, load_bp, ldP_buf, ldQ_t, eo_minmax, ev_minmax, mmO_some, mm_max, mm_nil, kBlk_n, arith_add, kLoop_n, askL_cons, knowL_cons, condK_bool, evC_exit, kSeq_e, kLoop_e, kBlk_e, kBlkB_t, I7b, L7bS, S7b, L7bR, needD_iaddrS, needD_arith, preK_none, List.getElem?_cons_succ, knowD_cons, knowD_nil, pairD_cons, pairOK_eq, newMen_none, List.contains_cons, Nat.reduceBEq, Bool.or_false, Bool.or_true, pairB_t, pairD_nil, pairB_f, chkR_eq, pslots_int, optN_some, disjN_nil, newI_none, List.cons_append, pslots_bp, pslots_vw, pslots_ptr, P20, CEx, lend1_vw, lendB_buf, decI_i64s, decB_bls, c2_tup, c1_int, c1_bool, flat2_tup, flat1_int, flat1_bool, backOK_cons, gv_tup, eo_extract, ev_extract, un1_extract, kill3_junk, eo_faddr, eo_slice, ev_slice, boundA_none, boundA_some, optS_some, sliceO_some, slice_lst, loOf_none, hiOf_int, slL_some, u8s_take, cells_lst, kill3_int, eo_bsliceO, vwsG_cons, vwsG_nil, ev_bsliceO, List.replicate_succ, List.replicate_zero, fillS_cons, fsK_some, fsC_some, fillS_nil, blO2_some, needD_pick, needD_cmp, needD_build, needD_call, evG_yes, pathG_bool, gG_some, guardR_q, guardL_nil, ev_pick, gv_gd, gvB_true, pick3_some, pickV_bool, Bool.cond_false_right, cmp_eql, arith_quo, guardL_cons, pathP_cons, boolOf_bool, pathP_nil, ev_build, fillA_cons, faK_some, faC_some, fillA_nil, blO_some, P21, CDe, c2_int, flat2_int, implies_true, hasG_yes, kEndB_t, ungdS_at, ungd_bool, pslots_gd, disjN_cons, true_imp_iff, newI_some, newMen_some, noMen_eq, noB_none, pslots_lst, noB_some, Bool.false_eq_true, false_imp_iff]
  intro _
  have hT := okb_take hL 60
  refine ⟨hT, fun q ⟨hz, ha⟩ hvv => ?_⟩
  have hv : vz q.1 = true := by simpa using hvv
  have h8 := hz.s8
  have h1 := hz.s1
  refine ⟨⟨by omega, by omega, by omega, by omega⟩, ⟨by omega, by omega, by omega, by omega⟩, fun _ _ _ => ?_⟩
  refine ⟨⟨q.1, [], hz, hv, by simp, by intro x hx; cases hx⟩, ⟨⟨rfl, rfl, rfl⟩, ⟨rfl, rfl, rfl, rfl, rfl, rfl, rfl⟩, by rw [padI_nil], by simp only [List.length_nil]; rw [padB_0]⟩, ?_⟩
  rintro ⟨z, bs, hz, hv, hi, hr⟩
  dsimp only
  have h8 := hz.s8
  have h1 := hz.s1
  have ht := hz.t
  have lI := padI_len hi
  have lB := padB_len hi
  rw [lI, lB]
  have hn1 : IntKind.i64.wrap ((bs.length : Int) + 1) = ((bs.length + 1 : Nat) : Int) := by rw [wr_in _ (by omega) (by omega)]; omega
  rw [hn1]
  refine ⟨fun hc => ?_, fun hc _ => ?_⟩
  · have hc := of_decide_eq_true hc
    have hc2 : bs.length < z.sens.length := by omega
    refine ⟨⟨by omega, by omega⟩, fun _ => ⟨hc2, fun _ => ⟨fun hX1 => ?_, fun hX1 => ?_⟩⟩⟩
    · have hX1 := of_decide_eq_true hX1
      have hg : 0 ≤ X.getD bs.length 0 ∧ X.getD bs.length 0 ≤ 65535 := getD_all (p := fun x => 0 ≤ x ∧ x ≤ 65535) hX (by decide) _
      have hw : IntKind.i64.wrap (IntKind.i64.wrap (X.getD bs.length 0) * 1000) = X.getD bs.length 0 * 1000 := by
        rw [wr_in (X.getD bs.length 0) (by omega) (by omega), wr_in _ (by omega) (by omega)]
      rw [hw]
      have hx : 0 ≤ X.getD bs.length 0 * 1000 ∧ X.getD bs.length 0 * 1000 ≤ 65535000 := by omega
      generalize X.getD bs.length 0 * 1000 = x at hx ⊢
      clear hw hg
      refine ⟨⟨by omega, hX1⟩, fun _ => ⟨⟨by omega, by omega⟩, fun _ => ⟨hc2, ⟨by omega, by omega⟩, fun _ => ⟨hc2, ⟨z, bs ++ [x], hz, hv, by simp; omega, ?_⟩, ⟨⟨?_, rfl, by simp⟩, ⟨rfl, rfl, rfl, rfl, rfl, rfl, rfl⟩, ?_, ?_⟩, by simp only [L7, List.length_append, List.length_singleton]; omega⟩⟩⟩⟩
      · intro y hy
        rcases List.mem_append.1 hy with hy | hy
        · exact hr y hy
        · simp only [List.mem_singleton] at hy; subst hy; omega
      · rw [padI_set hc2, padI_get hc2, hot_snoc]
      · rw [padI_set hc2]
      · rw [padB_set hc2]; simp
    · refine ⟨⟨by omega, by omega⟩, fun _ => ⟨hc2, ⟨z, bs ++ [0], hz, hv, by simp; omega, ?_⟩, ⟨⟨?_, rfl, by simp⟩, ⟨rfl, rfl, rfl, rfl, rfl, rfl, rfl⟩, ?_, ?_⟩, by simp only [L7, List.length_append, List.length_singleton]; omega⟩⟩
      · intro y hy
        rcases List.mem_append.1 hy with hy | hy
        · exact hr y hy
        · simp only [List.mem_singleton] at hy; subst hy; omega
      · rw [padI_snoc hc2, padI_get hc2, hot_snoc]
      · rw [padI_snoc hc2]
      · rw [padB_set hc2]; simp
  have hc := of_decide_eq_false hc
  have hl : bs.length = z.sens.length := by omega
  refine ⟨⟨z, 0, bs, hz, hv, by omega, hl, hr⟩, ⟨⟨rfl, rfl, rfl⟩, ⟨rfl, rfl, rfl, rfl, rfl, rfl, rfl⟩, ?_, ?_⟩, ?_⟩
  · have e := padI_full bs
    rw [hl] at e
    rw [shf_0]; exact congrArg i64s e
  · have e := padB_full z.sens.length
    rw [hl]; exact congrArg bls e
  clear hn1 lI lB
  rintro ⟨z, i, bs, hz, hv, hi, hb, hr⟩
  dsimp only
  have h8 := hz.s8
  have h1 := hz.s1
  have ht := hz.t
  have lS := shf_len z.tgt bs (i := i) (by omega)
  have hh := hot_bd hr
  rw [lS]
  refine ⟨fun hc => ?_, fun hc => ⟨by omega, ⟨rfl, rfl⟩, fun _ => by decide, AV.bool_inj' ?_⟩⟩
  · have hc := of_decide_eq_true hc
    have hc2 : i < bs.length := by omega
    have hg : 0 ≤ bs.getD i 0 ∧ bs.getD i 0 ≤ 65535000 := getD_all (p := fun x => 0 ≤ x ∧ x ≤ 65535000) hr (by decide) _
    refine ⟨⟨by omega, by omega⟩, hc2, ⟨by omega, by omega⟩, hc2, fun _ _ => ⟨⟨z, i + 1, bs, hz, hv, by omega, hb, hr⟩, ⟨⟨rfl, rfl, AV.int_inj' (by rw [wr_in _ (by omega) (by omega)]; rfl)⟩, ⟨rfl, rfl, rfl, rfl, rfl, rfl, rfl⟩, ?_, rfl⟩, by simp only [L7b]; omega⟩⟩
    rw [shf_get _ hc2, wr_in _ (by omega) (by omega), shf_set _ hc2]
  · have hc := of_decide_eq_false hc
    have hil : i = bs.length := by omega
    subst hil
    have hV := (vz_iff z).mp hv
    have hV2 := hV
    simp only [VZ] at hV2
    have e1 : exOK z (shf z.tgt bs bs.length) (List.replicate z.sens.length true) = true := by
      rw [exOK_iff]
      refine ⟨hv, by rw [shf_full]; simp [hb], by simp, fun j hj => ?_⟩
      simp [List.getD_eq_getElem?_getD, List.getElem?_replicate] at hj ⊢
      simp [hj]
    have hn : bs ≠ [] := by intro h; rw [h] at hb; simp at hb; omega
    have e2 : exR z (shf z.tgt bs bs.length) (List.replicate z.sens.length true) = hot bs / 1000 := by
      rw [exR, if_pos e1, shf_full, exV_hot hz hn hr]
    have ew : IntKind.i64.wrap (z.tgt + hot bs) = hot bs + z.tgt := by rw [wr_in _ (by omega) (by omega)]; omega
    have vo : vz ⟨z.sens.take (1 - 0), z.tgt, z.gain, z.intg, z.least, z.most, z.slew⟩ = true := by
      rw [vz_iff]
      have hs1 : srt (z.sens.take (1 - 0)) = true := by
        rw [srt_iff]; intro j hj; simp at hj; omega
      simp only [VZ]
      exact ⟨⟨by simp; omega, by simp; omega⟩, hV2.2.1, hV2.2.2.1, hV2.2.2.2.1, hs1, hV2.2.2.2.2.2⟩
    have ed : decU [[AV.int .i64 (hot bs + z.tgt)]] = [hot bs + z.tgt] := rfl
    have e3 : exOK ⟨z.sens.take (1 - 0), z.tgt, z.gain, z.intg, z.least, z.most, z.slew⟩ [hot bs + z.tgt] (decB [[AV.bool true]]) = true := by
      rw [exOK_iff]
      refine ⟨vo, by simp; omega, by simp [decB]; omega, fun j hj => ?_⟩
      have : j = 0 := by simp [decB] at hj; omega
      subst this; rfl
    have e4 : exR ⟨z.sens.take (1 - 0), z.tgt, z.gain, z.intg, z.least, z.most, z.slew⟩ [hot bs + z.tgt] (decB [[AV.bool true]]) = hot bs / 1000 := by
      rw [exR, if_pos e3]
      have : exV ⟨z.sens.take (1 - 0), z.tgt, z.gain, z.intg, z.least, z.most, z.slew⟩ [hot bs + z.tgt] = max (-100000) (ex1 z (hot bs + z.tgt)) := rfl
      rw [this, ex1_hot hz hh]
      omega
    have e5 : IntKind.i64.wrap ((hot bs).tdiv 1000) = hot bs / 1000 := by
      rw [Int.tdiv_eq_ediv_of_nonneg hh.1, wr_in _ (by omega) (by omega)]
    have e6 : dem z ⟨z.least, 0⟩ 0 = z.least := by
      have hs : sd z ⟨z.least, 0⟩ = true := sd_of hV (by dsimp only; omega) (by dsimp only; omega)
      simp only [dem, hs, if_true]
      have : lim 0 (-100000) 100000 = 0 := by decide
      rw [this, wnt_eq hV (by omega) (by omega)]
      simp only [lim]
      omega
    rw [ew, ed, e1, e2, e3, e4, e5, e6]
    simp
end Go.Proofs.Ytofldhooanikcaa

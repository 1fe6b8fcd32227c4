/- A part of the proof: symbolic evaluation of the program's functions, proved sound against the model; no condition. -/
import Derived.Test.YtfmndopgbikgjaaEvGD
namespace Go.Proofs.Ytfmndopgbikgjaa
open Go Go.RowKit Go.Ev
set_option linter.unusedSimpArgs false
set_option linter.unusedVariables false
set_option maxRecDepth 20000
def CAw : Ctr := .mk false fun _ xs => match xs with
  | [] => some (True, .bool true, [])
  | _ => none
/-- How many tildes begin a line. -/
def nq : Bool → List Int → Nat
  | _, [] => 0
  | b, c :: l => (if b = true ∧ c = 126 then 1 else 0) + nq (ends c) l
theorem nq_app : ∀ (b : Bool) (a c : List Int), nq b (a ++ c) = nq b a + nq (qb b a) c
  | _, [], _ => by simp [nq, qb]
  | b, x :: a, c => by
    simp only [List.cons_append, nq, nq_app _ a c]
    have : qb b (x :: a) = qb (ends x) a := rfl
    rw [this]; omega
theorem nq_one (b : Bool) (c : Int) : nq b [c] = if b = true ∧ c = 126 then 1 else 0 := by simp [nq]
theorem nq_len : ∀ (b : Bool) (l : List Int), nq b l ≤ l.length
  | _, [] => by simp [nq]
  | b, c :: l => by
    have := nq_len (ends c) l
    simp only [nq, List.length_cons]
    split <;> omega
theorem qt_nq : ∀ (b : Bool) (l : List Int), (qt b l).length = l.length + nq b l
  | _, [] => by simp [qt, nq]
  | b, c :: l => by
    have := qt_nq (ends c) l
    have h1 : (q1 b c).length = 1 + (if b = true ∧ c = 126 then 1 else 0) := by unfold q1; split <;> simp
    simp only [qt, nq, List.length_append, List.length_cons, h1, this]
    omega
/-- Quoted bytes arrive as they are. -/
theorem fd_qt : ∀ (l : List Int) (b : Bool), fdO ⟨b, false⟩ (qt b l) = l ∧ fdA ⟨b, false⟩ (qt b l) = []
  | [], b => by simp [qt, fdO, fdA]
  | c :: l, b => by
    obtain ⟨h1, h2⟩ := fd_qt l (ends c)
    by_cases hc : b = true ∧ c = 126
    · obtain ⟨rfl, rfl⟩ := hc
      have e : ends 126 = false := by decide
      rw [e] at h1 h2
      have s1 : stS ⟨true, false⟩ 126 = ⟨true, true⟩ := by decide
      have s2 : stS ⟨true, true⟩ 126 = ⟨false, false⟩ := by decide
      have o1 : stO ⟨true, false⟩ 126 = [] := by decide
      have o2 : stO ⟨true, true⟩ 126 = [126] := by decide
      have a1 : stA ⟨true, false⟩ 126 = 0 := by decide
      have a2 : stA ⟨true, true⟩ 126 = 0 := by decide
      have q : q1 true 126 = [126, 126] := by decide
      simp only [qt, q, e, List.cons_append, List.nil_append, fdO, fdA, s1, s2, o1, o2, a1, a2, h1, h2, aL, if_true]
      simp
    · have q : q1 b c = [c] := by unfold q1; rw [if_neg hc]
      have s1 : stS ⟨b, false⟩ c = ⟨ends c, false⟩ := by simp only [stS, if_true]; rw [if_neg hc]
      have o1 : stO ⟨b, false⟩ c = [c] := by simp only [stO, if_true]; rw [if_neg hc]
      have a1 : stA ⟨b, false⟩ c = 0 := rfl
      simp only [qt, q, List.cons_append, List.nil_append, fdO, fdA, s1, o1, a1, h1, h2, aL, if_true]
      simp
theorem sK_ne {q : Nat} {c : Int} (h : sK1 q c = true) : c ≠ 27 := by
  rintro rfl
  have t : txK 27 = false := by decide
  have i : imK 27 = false := by decide
  have p : paK 27 = false := by decide
  have b : beK 27 = false := by decide
  unfold sK1 at h
  rw [t, i, p, b] at h
  simp at h
theorem sO_ne : ∀ (q : Nat) (l : List Int), ∀ c ∈ sO q l, c ≠ 27
  | _, [], c, h => by simp [sO] at h
  | q, x :: l, c, h => by
    simp only [sO, List.mem_append] at h
    rcases h with h | h
    · unfold s1 at h
      split at h
      · rename_i hk
        simp only [List.mem_singleton] at h
        subst h; exact sK_ne hk
      · simp at h
    · exact sO_ne _ l c h
theorem sO_id : ∀ (l : List Int), (∀ c ∈ l, c ≠ 27) → sO 24 l = l
  | [], _ => rfl
  | c :: l, h => by
    have hc := h c (by simp)
    have ih := sO_id l (fun d hd => h d (by simp [hd]))
    have e1 : sQ1 24 c = 24 := by simp [sQ1, txQ, hc]
    have e2 : sK1 24 c = true := by simp [sK1, txK, hc]
    simp only [sO, s1, e1, e2, if_true, ih]; rfl
theorem strip2 (l : List Int) : strip (strip l) = strip l := sO_id _ (sO_ne 24 l)
theorem ct_snoc (l : List Int) (c : Int) : (l ++ [c]).contains 27 = (l.contains 27 || decide (c = 27)) := by
  rw [Bool.eq_iff_iff]
  simp only [List.contains_iff_mem, List.mem_append, List.mem_singleton, Bool.or_eq_true, decide_eq_true_eq]
  constructor
  · rintro (h | h)
    · exact .inl h
    · exact .inr h.symm
  · rintro (h | h)
    · exact .inl h
    · exact .inr h.symm
theorem getD_mem' {l : List Int} {k : Nat} (h : k < l.length) : l.getD k 0 ∈ l := by
  rw [List.getD_eq_getElem?_getD, List.getElem?_eq_getElem h]; exact List.getElem_mem h
/-- Bytes without a tilde. -/
theorem fd_plain : ∀ (l : List Int) (b : Bool), (∀ c ∈ l, c ≠ 126) → fdO ⟨b, false⟩ l = l ∧ fdA ⟨b, false⟩ l = [] ∧ fdS ⟨b, false⟩ l = ⟨qb b l, false⟩ ∧ qt b l = l
  | [], b, _ => ⟨rfl, rfl, rfl, rfl⟩
  | c :: l, b, h => by
    have hc : ¬ (b = true ∧ c = 126) := fun e => h c (by simp) e.2
    obtain ⟨h1, h2, h3, h4⟩ := fd_plain l (ends c) (fun d hd => h d (by simp [hd]))
    have s1 : stS ⟨b, false⟩ c = ⟨ends c, false⟩ := by simp only [stS, if_true]; rw [if_neg hc]
    have o1 : stO ⟨b, false⟩ c = [c] := by simp only [stO, if_true]; rw [if_neg hc]
    have a1 : stA ⟨b, false⟩ c = 0 := rfl
    have q : q1 b c = [c] := by unfold q1; rw [if_neg hc]
    refine ⟨?_, ?_, ?_, ?_⟩
    · simp only [fdO, s1, o1, h1]; rfl
    · simp only [fdA, s1, a1, h2, aL, if_true]; rfl
    · have : fdS ⟨b, false⟩ (c :: l) = fdS (stS ⟨b, false⟩ c) l := rfl
      rw [this, s1, h3]; rfl
    · simp only [qt, q, h4]; rfl
set_option maxHeartbeats 4000000 in
theorem walk9 {Phi : Nat → Option Ctr} (P11 : Phi 11 = some CFd) (P14 : Phi 14 = some CSp) (P15 : Phi 15 = some CNw)  : evC Phi (noI) rc9 ⟨initS [], initM false []⟩ (kRet rv9 (.bool true) false []) := by
  simp (config := {maxSteps := 2000000}) only [rc9, initM_f, rv9, evC_seq, evC_region, eo_mov, evG_no, Option.getD_some, ev_mov, av_c, gv_bool, bind1_some', un1_mov, goOp_some, put_q, evOps_nil, kEnd_at, hasG_no, hasG_nil, kEndB_f, kSeq_n, eo_call, P15, CNw, Es.av, evCl_mk, ev_call, avs_nil, clE_some, callE_pure, lends_nil, callN_some, callP_some, List.nil_append, c2_agg, List.all_cons, c0_bool, List.all_nil, Bool.and_self, flat2_agg, flat0_bool, backOK_nil, clQ_t, eo_bsliceO, vwsG_cons, ar_c, vws1_int, vwsG_nil, frzL_nil, goF_eq, ev_bsliceO, List.length_cons, List.length_nil, Nat.zero_add, List.replicate_succ, List.replicate_zero, fillS_cons, gv_int, fsK_some, cells_int, fsC_some, Nat.reduceAdd, Nat.reduceLT, c0_int, and_self, ↓reduceIte, List.set_cons_zero, List.set_cons_succ, fillS_nil, blO2_some, Nat.reduceMul, put_n, killB_buf, eo_mkstr, ar_t, upd_at, mkS1_vw, updM_at, mkS2_buf, Nat.reduceLeDiff, decide_true, evOpsk_at, P11, CFd, avs_cons, av_t, Nat.reduceEqDiff, frzSl_at, killS_at, kill3_agg, List.map_cons, kill0_bool, List.map_nil, frz3_agg, frz0_bool, gv_agg, gv_lst, consO_some, lends_cons, lend1_agg, lendC_cons, lendA_bool, lendC_nil, consL_some', aggL_some, lend1_lst, decU_cons, decU_nil, true_and, and_true, c2_tup, c1_agg, c1_lst, flat2_tup, flat1_agg, flat1_lst, Bool.and_true, Bool.true_and, gv_tup, eo_extract, ev_extract, un1_extract, List.getElem?_cons_zero, toR_some', List.getElem?_cons_succ, eo_alloc, ev_alloc, Nat.mul_one, killB_cells, eo_store, vwsT_ptr, Option.getD_none, ev_store, gv_ptr, bind2_some', store_ptr, cells_agg, stB_cells, stC_true, setC_cons, setC_nil, put_s, liveB_cells, kill3_lst, evC_split, evOpsS_cons, evS1_none, pickOf, evS0k_none, evOpsSk_at, eo_b2s, ev_b2s, b2s_lst, ByteE_u8s, bytesOf_u8s, eo_cmp, ev_cmp, gv_str, cmp2_some, cmp_eqlS, evS1_some, evSG_bool, eo_len, ev_len, len_lst, i64s_len, cmp_eql, evS0k_some, pickS_bool, eo_iaddrS, ev_iaddrS, iaddrS_lst, beq_self_eq_true, iasB_true, Int.reduceLE, Int.reduceToNat, eo_load, ev_load, gv_ep, load_ep, getE_i64, valOf_one, ldV_some, kill3_bool, frz3_bool, P14, CSp, c2_lst, flat2_lst, evOpsS_nil, kN_at, evC_ret, kRet_r, retOK_eq, retL_cons, retV_t, retL_nil, lkR_one, lk1_bool, lkT_f, applyL_nil, retOK_f, rtO_some, resV_one, leV1_bool, knowL_nil, askL_nil, askL_cons, Bool.not_true, Bool.false_eq_true, knowL_cons]
  try simp only [iteP, iteF]
  exact ⟨by simp, rfl, fun _ _ => ⟨fun _ => ⟨by decide, fun _ => ⟨fun _ => ⟨by simp, rfl, AV.bool_inj' (by decide +kernel)⟩, fun h => absurd h (by decide)⟩⟩, fun h => absurd h (by decide)⟩, fun h => absurd h (by decide +kernel)⟩
structure K6a (X L : List Int) (s0 : Es) where
  i : Nat
  hi : i ≤ 2
def S6a (X L : List Int) (s0 : Es) (p : K6a X L s0) : SL := ⟨[(6, .ptr 448 0), (78, .lst [.nil] [[.lst [.int .u8 0] (u8s X)], [.lst [.int .u8 0] (u8s (shp L))]]), (79, .int .i64 2), (80, .int .i64 p.i)], [(448, .cells s0.cs)]⟩
abbrev L6a (X L : List Int) (s0 : Es) : LI := ⟨K6a X L s0, S6a X L s0, fun p => 2 - p.i, fun p q => True⟩
theorem L6aS (X L : List Int) (s0 : Es) : (L6a X L s0).S = S6a X L s0 := rfl
theorem L6aM (X L : List Int) (s0 : Es) (p : K6a X L s0) : (L6a X L s0).μ p = 2 - p.i := rfl
theorem L6aR (X L : List Int) (s0 : Es) (p q : K6a X L s0) : (L6a X L s0).R p q = (True) := rfl
def I6 (X L : List Int) (s0 : Es) : Nat → LI := fun n => L6a X L s0
theorem I6_0 (X L : List Int) (s0 : Es) : I6 X L s0 0 = L6a X L s0 := rfl
structure K7a (L : List Int) where
  i : Nat
  hi : i ≤ (shp L).length
def S7a (L : List Int) (p : K7a L) : SL := ⟨[(3, .lst [.int .u8 0] (u8s (shp L))), (4, .lst [.int .u8 0] (u8s (qt true (shp L)))), (6, .lst [.int .u8 0] (u8s (fdO ⟨true, false⟩ (qt true (shp L))))), (7, .lst [.int .i64 0] (i64s (fdA ⟨true, false⟩ (qt true (shp L))))), (8, .int .i64 (nq true ((shp L).take p.i))), (27, .int .i64 (shp L).length), (28, .int .i64 p.i)], []⟩
abbrev L7a (L : List Int) : LI := ⟨K7a L, S7a L, fun p => (shp L).length - p.i, fun p q => True⟩
theorem L7aS (L : List Int) : (L7a L).S = S7a L := rfl
theorem L7aM (L : List Int) (p : K7a L) : (L7a L).μ p = (shp L).length - p.i := rfl
theorem L7aR (L : List Int) (p q : K7a L) : (L7a L).R p q = (True) := rfl
def I7 (L : List Int) : Nat → LI := fun n => L7a L
theorem I7_0 (L : List Int) : I7 L 0 = L7a L := rfl
set_option maxHeartbeats 4000000 in
theorem walk6 {Phi : Nat → Option Ctr} (P9 : Phi 9 = some CAw) (P10 : Phi 10 = some CSh) (P11 : Phi 11 = some CFd) (P12 : Phi 12 = some CSt) (P13 : Phi 13 = some CIn) (P14 : Phi 14 = some CSp) (P15 : Phi 15 = some CNw) (P16 : Phi 16 = some CNw) (P17 : Phi 17 = some CSt) (P18 : Phi 18 = some CFd) (P19 : Phi 19 = some CQt) (P20 : Phi 20 = some CQt) (P21 : Phi 21 = some CSp) (L X : List Int) (s0 : Es) (c : Int) (hL : Okb L) (hX : Okb X) (hc : 0 ≤ c ∧ c ≤ 255) : evC Phi (I6 X L s0) rc6 ⟨initS [.lst [.int .u8 0] (u8s L), .lst [.int .u8 0] (u8s X), s0.av, .int .u8 c], initM false []⟩ (kRet rv6 (.bool true) false []) := by
  simp (config := {maxSteps := 2000000}) only [rc6, Es.av, initM_f, rv6, evC_seq, evC_region, eo_box, evG_no, Option.getD_some, ev_box, av_t, initS_at, List.getD_cons_succ, List.getD_cons_zero, gv_agg, bind1_some', boxR_eq, cells_agg, List.length_cons, List.length_nil, Nat.zero_add, Nat.reduceAdd, ↓reduceIte, bxO_some, Nat.reduceMul, goOp_some, put_n, killB_cells, List.map_cons, kill0_bool, List.map_nil, eo_mov, ev_mov, av_c, gv_bool, un1_mov, put_q, evOps_nil, kEnd_at, hasG_no, hasG_nil, kEndB_f, kSeq_n, eo_call, P9, CAw, evCl_mk, ev_call, avs_nil, clE_some, callE_pure, lends_nil, callN_some, callP_some, List.nil_append, c2_bool, flat2_bool, backOK_nil, Bool.and_self, clQ_t, eo_not, ev_not, upd_at, un1_not, Bool.not_true, evC_cond, evC_ret, kSeq_r, kRet_r, retOK_eq, retL_cons, retV_t, retL_nil, consO_some, lkR_one, lk1_bool, lkT_f, applyL_nil, retOK_f, rtO_some, resV_one, leV1_bool, and_true, knowL_nil, askL_nil, evC_skip, Nat.reduceEqDiff, killS_at, kill3_lst, gv_lst, eo_len, ev_len, len_lst, u8s_len, eo_cmp, ev_cmp, gv_int, cmp2_some, cmp_gtr, toR_some', evG_yes, pathG_bool, gG_some, guardR_q, guardL_nil, gv_gd, List.contains_cons, List.contains_nil, Bool.or_false, List.all_cons, beq_self_eq_true, List.all_nil, gvB_true, eo_pick, ev_pick, pick3_some, pickV_bool, Bool.cond_true_left, eo_call_g, P15, CNw, c2_agg, c0_bool, flat2_agg, flat0_bool, guardL_cons, pathP_cons, boolOf_bool, pathP_nil, implies_true, P16, eo_eqa, ev_eqa, eqa2_some, eqaR_agg, eqC_bool, eqC_nil, andO_some, eqaB_t, Bool.cond_false_right, Bool.and_true, hasG_yes, kEndB_t, ungdS_at, ungd_lst, ungd_bool, knowL_cons, eo_load, ev_load, ungd_ptr, gv_ptr, load_ptr, updM_at, ldB_cells, valOf_agg, Nat.reduceLeDiff, decide_true, valB_true, List.drop_zero, List.take_succ_cons, List.take_zero, ldV_some, kill3_int, ungd_int, P12, CSt, avs_cons, lends_cons, lend1_agg, lendC_cons, lendA_bool, lendC_nil, consL_some', aggL_some, lend1_int, Es.eta, c2_tup, c1_agg, c1_lst, c1_int, flat2_tup, flat1_agg, flat1_lst, flat1_int, Bool.true_and, gv_tup, eo_extract, ev_extract, un1_extract, List.getElem?_cons_zero, List.getElem?_cons_succ, eo_alloc, ev_alloc, eo_store, ar_t, kill3_agg, vwsT_ptr, frzL_nil, goF_eq, Option.getD_none, ev_store, bind2_some', store_ptr, stB_cells, stC_true, setC_cons, List.set_cons_zero, List.set_cons_succ, setC_nil, put_s, liveB_cells, kill3_ptr, killM_at, killO_some, P17, eo_b2s, ev_b2s, b2s_lst, ByteE_u8s, bytesOf_u8s, and_self, imp_self, cmp_neqS, cmp_neq, P10, CSh, lend1_lst, decU_u8s, true_and, c2_lst, flat2_lst, eo_bsliceO, vwsG_cons, vws1_lst, vwsG_nil, ev_bsliceO, List.replicate_succ, List.replicate_zero, fillS_cons, fsK_some, cells_lst, fsC_some, Nat.reduceLT, c0_lst, fillS_nil, blO2_some, killB_buf, gv_vw, len_vw, lenV_buf, evC_block, evC_loop, I6_0, L6aS, S6a, Es.cs, SL_ge, lkL_cons, lkS_ptr, lkS_vw_lst, lkS_int, lkL_nil, List.cons_append, lkM_cons, lkB_cells, lkC_cons, lkC0_bool, lkC_nil, lkM_nil, applyL_frz, frzQ_buf, frzP_t, SL_ge0, leL_cons, frzSl_at, frz3_ptr, leV1_ptr, frz3_vw, leV1_lst, frz3_int, leV1_int, leL_nil, leM_cons, frzM_at, frzO_some, frzB_cells, frz0_bool, leB_cells, leAs_cons, leA_bool, leAs_nil, leM_nil, L6aR, SL_st, lookL_cons, cmp_lss, eo_iaddrS, ev_iaddrS, iaddrS_lst, iasB_true, Int.toNat_natCast, gv_ep, load_ep, valOf_one, true_imp_iff, askL_cons, evC_exit, kSeq_e, kLoop_e, kBlk_e, kBlkB_t, condK_bool, Bool.false_eq_true, false_imp_iff]
  intro _
  refine ⟨fun h _ => AV.bool_inj' h, fun h => ?_⟩
  simp only [Bool.or_eq_false_iff, decide_eq_false_iff_not] at h
  refine ⟨⟨hL, by omega⟩, ⟨0, by omega⟩, ⟨rfl, rfl⟩, ?_⟩
  rintro ⟨i, hi⟩ hlt
  have hlt := of_decide_eq_true hlt
  dsimp only at hlt ⊢
  refine ⟨⟨by omega, by omega⟩, ?_⟩
  have hi2 : i = 0 ∨ i = 1 := by omega
  rcases hi2 with rfl | rfl
  · simp (config := {maxSteps := 2000000}) only [getE_lit0, List.getElem?_cons_zero, ldV_some, goOp_some, put_q, eo_mov, evG_no, Option.getD_some, ev_mov, av_t, upd_at, ↓reduceIte, gv_lst, bind1_some', un1_mov, evOps_nil, kEnd_at, hasG_no, hasG_nil, kEndB_f, kSeq_n, evC_seq, evC_region, eo_load, ev_load, Nat.reduceEqDiff, lookL_cons, gv_ptr, load_ptr, lookM_cons, ldB_cells, valOf_agg, Nat.zero_add, List.length_cons, List.length_nil, Nat.reduceAdd, Nat.reduceLeDiff, decide_true, valB_true, List.drop_zero, List.take_succ_cons, List.take_zero, eo_call, P11, CFd, Es.av, evCl_mk, ev_call, avs_cons, gv_agg, avs_nil, consO_some, clE_some, callE_pure, lends_cons, lend1_agg, lendC_cons, lendA_bool, lendC_nil, consL_some', List.nil_append, aggL_some, lend1_lst, lends_nil, callN_some, decU_u8s, and_self, u8s_len, true_and, Es.eta, callP_some, c2_tup, List.all_cons, c1_agg, c0_bool, List.all_nil, Bool.and_self, c1_lst, flat2_tup, flat1_agg, flat0_bool, flat1_lst, Bool.and_true, Bool.true_and, backOK_nil, clQ_t, gv_tup, eo_extract, ev_extract, un1_extract, toR_some', List.getElem?_cons_succ, eo_alloc, ev_alloc, Nat.reduceMul, put_n, killB_cells, List.map_cons, kill0_bool, List.map_nil, eo_store, ar_t, killS_at, kill3_agg, vwsT_ptr, frzL_nil, goF_eq, Option.getD_none, ev_store, bind2_some', store_ptr, cells_agg, updM_at, stB_cells, stC_true, setC_cons, List.set_cons_zero, List.set_cons_succ, setC_nil, put_s, liveB_cells, kill3_lst, kill3_ptr, killM_at, killO_some, P18, evC_draw, preK_some, needD_load, preB_f, needD_eqa, needD_mov, needD_b2s, needD_cmp, needD_pick, needD_call, preB_t, needD_not, preK_nil, evD_cons, evDk_some, newOK_none, ev_eqa, eqa2_some, eqaR_agg, eqC_bool, beq_self_eq_true, eqC_nil, andO_some, eqaB_t, Bool.not_true, gv_bool, evG_yes, pathG_bool, gG_some, guardR_q, guardL_nil, ev_b2s, gv_gd, List.contains_cons, List.contains_nil, Bool.or_false, gvB_true, b2s_lst, ByteE_u8s, bytesOf_u8s, guardL_cons, pathP_cons, boolOf_bool, pathP_nil, imp_self, ev_cmp, cmp2_some, cmp_neqS, ev_pick, av_c, pick3_some, pickV_bool, Bool.cond_false_right, P13, CIn, decI_i64s, c2_bool, flat2_bool, ev_not, un1_not, P19, CQt, c2_lst, flat2_lst, true_imp_iff, P20, P14, CSp, P21, evD_nil, hasG_yes, kEndB_t, evC_cond, evC_ret, kBlk_r, kSeq_r, kLoop_r, kRet_r, retOK_eq, retL_cons, retV_t, retL_nil, lkR_one, lk1_bool, lkT_f, applyL_nil, retOK_f, rtO_some, resV_one, leV1_bool, and_true, knowL_nil, askL_nil, evC_skip, kBlk_n, eo_arith, ev_arith, ungdS_at, kill3_int, ungd_int, gv_int, arith_add, kLoop_n, S6a, Es.cs, SL_ge, lkL_cons, ungd_ptr, lkS_ptr, ungd_lst, lkS_lst, lkS_int, lkL_nil, lkM_cons, lkB_cells, lkC_cons, lkC0_bool, lkC_nil, lkM_nil, SL_ge0, leL_cons, leV1_ptr, leV1_lst, leV1_int, leL_nil, leM_cons, leB_cells, leAs_cons, leA_bool, leAs_nil, leM_nil, ungd_bool, condK_bool, Bool.false_eq_true, false_imp_iff, knowD_cons, knowD_nil, pairD_cons, pairOK_eq, newMen_none, Nat.reduceBEq, Bool.or_true, pairB_t, pairD_nil, pairB_f, chkR_eq, pslots_gd, optN_some, disjN_cons, Bool.not_false, disjN_nil, newI_none, askL_cons, pslots_agg, List.cons_append]
    exact ⟨by omega, by omega, by omega, by omega, by omega, by omega, ⟨1, by omega⟩, AV.int_inj' (wr_succ 0 (by omega)), by show 2 - 1 < 2 - 0; omega⟩
  · simp (config := {maxSteps := 2000000}) only [getE_lit1, List.getElem?_cons_zero, ldV_some, goOp_some, put_q, eo_mov, evG_no, Option.getD_some, ev_mov, av_t, upd_at, ↓reduceIte, gv_lst, bind1_some', un1_mov, evOps_nil, kEnd_at, hasG_no, hasG_nil, kEndB_f, kSeq_n, evC_seq, evC_region, eo_load, ev_load, Nat.reduceEqDiff, lookL_cons, gv_ptr, load_ptr, lookM_cons, ldB_cells, valOf_agg, Nat.zero_add, List.length_cons, List.length_nil, Nat.reduceAdd, Nat.reduceLeDiff, decide_true, valB_true, List.drop_zero, List.take_succ_cons, List.take_zero, eo_call, P11, CFd, Es.av, evCl_mk, ev_call, avs_cons, gv_agg, avs_nil, consO_some, clE_some, callE_pure, lends_cons, lend1_agg, lendC_cons, lendA_bool, lendC_nil, consL_some', List.nil_append, aggL_some, lend1_lst, lends_nil, callN_some, decU_u8s, and_self, u8s_len, true_and, Es.eta, callP_some, c2_tup, List.all_cons, c1_agg, c0_bool, List.all_nil, Bool.and_self, c1_lst, flat2_tup, flat1_agg, flat0_bool, flat1_lst, Bool.and_true, Bool.true_and, backOK_nil, clQ_t, gv_tup, eo_extract, ev_extract, un1_extract, toR_some', List.getElem?_cons_succ, eo_alloc, ev_alloc, Nat.reduceMul, put_n, killB_cells, List.map_cons, kill0_bool, List.map_nil, eo_store, ar_t, killS_at, kill3_agg, vwsT_ptr, frzL_nil, goF_eq, Option.getD_none, ev_store, bind2_some', store_ptr, cells_agg, updM_at, stB_cells, stC_true, setC_cons, List.set_cons_zero, List.set_cons_succ, setC_nil, put_s, liveB_cells, kill3_lst, kill3_ptr, killM_at, killO_some, P18, evC_draw, preK_some, needD_load, preB_f, needD_eqa, needD_mov, needD_b2s, needD_cmp, needD_pick, needD_call, preB_t, needD_not, preK_nil, evD_cons, evDk_some, newOK_none, ev_eqa, eqa2_some, eqaR_agg, eqC_bool, beq_self_eq_true, eqC_nil, andO_some, eqaB_t, Bool.not_true, gv_bool, evG_yes, pathG_bool, gG_some, guardR_q, guardL_nil, ev_b2s, gv_gd, List.contains_cons, List.contains_nil, Bool.or_false, gvB_true, b2s_lst, ByteE_u8s, bytesOf_u8s, guardL_cons, pathP_cons, boolOf_bool, pathP_nil, imp_self, ev_cmp, cmp2_some, cmp_neqS, ev_pick, av_c, pick3_some, pickV_bool, Bool.cond_false_right, P13, CIn, decI_i64s, c2_bool, flat2_bool, ev_not, un1_not, P19, CQt, c2_lst, flat2_lst, true_imp_iff, P20, P14, CSp, P21, evD_nil, hasG_yes, kEndB_t, evC_cond, evC_ret, kBlk_r, kSeq_r, kLoop_r, kRet_r, retOK_eq, retL_cons, retV_t, retL_nil, lkR_one, lk1_bool, lkT_f, applyL_nil, retOK_f, rtO_some, resV_one, leV1_bool, and_true, knowL_nil, askL_nil, evC_skip, kBlk_n, eo_arith, ev_arith, ungdS_at, kill3_int, ungd_int, gv_int, arith_add, kLoop_n, S6a, Es.cs, SL_ge, lkL_cons, ungd_ptr, lkS_ptr, ungd_lst, lkS_lst, lkS_int, lkL_nil, lkM_cons, lkB_cells, lkC_cons, lkC0_bool, lkC_nil, lkM_nil, SL_ge0, leL_cons, leV1_ptr, leV1_lst, leV1_int, leL_nil, leM_cons, leB_cells, leAs_cons, leA_bool, leAs_nil, leM_nil, ungd_bool, condK_bool, Bool.false_eq_true, false_imp_iff, knowD_cons, knowD_nil, pairD_cons, pairOK_eq, newMen_none, Nat.reduceBEq, Bool.or_true, pairB_t, pairD_nil, pairB_f, chkR_eq, pslots_gd, optN_some, disjN_cons, Bool.not_false, disjN_nil, newI_none, askL_cons, pslots_agg, List.cons_append]
    have := shp_len L
    exact ⟨by omega, by omega, by omega, by omega, by omega, by omega, ⟨2, by omega⟩, AV.int_inj' (wr_succ 1 (by omega)), by show 2 - 2 < 2 - 1; omega⟩
set_option maxHeartbeats 4000000 in
theorem walk7 {Phi : Nat → Option Ctr} (P9 : Phi 9 = some CAw) (P10 : Phi 10 = some CSh) (P11 : Phi 11 = some CFd) (P15 : Phi 15 = some CNw) (P19 : Phi 19 = some CQt) (L : List Int) (hL : Okb L) : evC Phi (I7 L) rc7 ⟨initS [.lst [.int .u8 0] (u8s L)], initM false []⟩ (kRet rv7 (.bool true) false []) := by
  simp (config := {maxSteps := 2000000}) only [rc7, initM_f, rv7, evC_seq, evC_region, eo_mov, evG_no, Option.getD_some, ev_mov, av_c, gv_bool, bind1_some', un1_mov, goOp_some, put_q, evOps_nil, kEnd_at, hasG_no, hasG_nil, kEndB_f, kSeq_n, eo_call, P9, CAw, evCl_mk, ev_call, avs_nil, clE_some, callE_pure, lends_nil, callN_some, callP_some, List.nil_append, c2_bool, flat2_bool, backOK_nil, Bool.and_self, clQ_t, eo_not, ev_not, av_t, upd_at, ↓reduceIte, un1_not, Bool.not_true, evC_cond, evC_ret, kSeq_r, kRet_r, retOK_eq, retL_cons, retV_t, retL_nil, consO_some, lkR_one, lk1_bool, lkT_f, applyL_nil, retOK_f, rtO_some, resV_one, leV1_bool, and_true, knowL_nil, askL_nil, evC_skip, Nat.reduceEqDiff, initS_at, List.getD_cons_zero, gv_lst, eo_len, ev_len, len_lst, u8s_len, eo_cmp, ev_cmp, gv_int, cmp2_some, cmp_gtr, toR_some', and_self, P10, CSh, avs_cons, lends_cons, lend1_lst, consL_some', decU_u8s, true_and, c2_lst, flat2_lst, P19, CQt, P15, CNw, Es.av, c2_agg, List.all_cons, c0_bool, List.all_nil, flat2_agg, flat0_bool, P11, CFd, gv_agg, lend1_agg, lendC_cons, lendA_bool, lendC_nil, aggL_some, c2_tup, c1_agg, c1_lst, flat2_tup, flat1_agg, flat1_lst, Bool.and_true, Bool.true_and, gv_tup, eo_extract, ev_extract, un1_extract, List.getElem?_cons_zero, List.getElem?_cons_succ, eo_alloc, ev_alloc, Nat.reduceMul, Nat.reduceAdd, put_n, killB_cells, List.map_cons, kill0_bool, List.map_nil, eo_store, ar_t, killS_at, kill3_agg, vwsT_ptr, frzL_nil, goF_eq, Option.getD_none, ev_store, gv_ptr, bind2_some', store_ptr, cells_agg, List.length_cons, List.length_nil, Nat.zero_add, updM_at, stB_cells, Nat.reduceLeDiff, decide_true, stC_true, setC_cons, List.set_cons_zero, List.set_cons_succ, setC_nil, put_s, liveB_cells, kill3_lst, evC_block, evC_loop, I7_0, L7aS, S7a, SL_ge, lkL_cons, lkS_lst, lkS_int, lkL_nil, lkM_nil, SL_ge0, leL_cons, leV1_lst, leV1_int, leL_nil, leM_nil, L7aR, SL_st, lookL_cons, cmp_lss, eo_iaddrS, ev_iaddrS, iaddrS_lst, beq_self_eq_true, iasB_true, Int.toNat_natCast, eo_load, ev_load, gv_ep, load_ep, getE_u8, valOf_one, ldV_some, cmp_eql, evG_yes, pathG_bool, gG_some, guardR_q, guardL_nil, gv_gd, List.contains_cons, List.contains_nil, Bool.or_false, gvB_true, pathG_gd, List.cons_append, eo_arith, ev_arith, Bool.true_or, Bool.or_true, arith_sub, guardL_cons, pathP_cons, boolOf_bool, boolOf_gd, pathP_nil, eo_pick, ev_pick, pick3_some, pickV_bool, Bool.cond_true_left, Bool.cond_false_right, hasG_yes, kEndB_t, ungdS_at, ungd_int, arith_add, kBlk_n, kLoop_n, ungd_lst, ungd_bool, condK_bool, askL_cons, knowL_cons, evC_exit, kSeq_e, kLoop_e, kBlk_e, kBlkB_t, eo_b2s, ev_b2s, b2s_lst, ByteE_u8s, bytesOf_u8s, gv_str, cmp_eqlS, i64s_len, true_imp_iff, implies_true, Bool.false_eq_true, false_imp_iff]
  intro _ h
  have h := of_decide_eq_false h
  have hs := shp_len L
  have h1 := qt_len true (shp L)
  have hok := shp_ok L
  refine ⟨⟨hL, by omega⟩, by omega, by omega, fun _ => ⟨⟨0, by omega⟩, ⟨rfl, rfl⟩, ?_⟩⟩
  rintro ⟨i, hi⟩
  dsimp only
  refine ⟨fun hc => ?_, fun hc => ?_⟩
  · have hc := of_decide_eq_true hc
    have e := take_snoc (shp L) 0 i (by omega)
    have eB : qb true ((shp L).take i) = (decide ((i : Int) = 0) || decide ((shp L).getD (IntKind.i64.wrap ((i : Int) - 1)).toNat 0 = 13) || decide ((shp L).getD (IntKind.i64.wrap ((i : Int) - 1)).toNat 0 = 10)) := by
      cases i with
      | zero => rfl
      | succ k =>
        rw [wr_in _ (by omega) (by omega), show (((k + 1 : Nat) : Int) - 1).toNat = k by omega, take_snoc (shp L) 0 k (by omega), qb_app, qb_one]
        have : decide (((k + 1 : Nat) : Int) = 0) = false := decide_eq_false (by omega)
        rw [this]; rfl
    have eN : nq true ((shp L).take (i + 1)) = nq true ((shp L).take i) + (if qb true ((shp L).take i) = true ∧ (shp L).getD i 0 = 126 then 1 else 0) := by rw [e, nq_app, nq_one]
    have hN := nq_len true ((shp L).take i)
    simp only [List.length_take] at hN
    rw [← eB]
    refine ⟨⟨by omega, by omega⟩, fun _ => ⟨fun hg => ?_, fun hg => ?_, fun ha => ⟨⟨i + 1, by omega⟩, ⟨AV.int_inj' ?_, AV.int_inj' (wr_succ i (by omega))⟩, by show (shp L).length - (i + 1) < (shp L).length - i; omega⟩, fun ha => ⟨⟨i + 1, by omega⟩, ⟨AV.int_inj' ?_, AV.int_inj' (wr_succ i (by omega))⟩, by show (shp L).length - (i + 1) < (shp L).length - i; omega⟩⟩⟩
    · have hg := of_decide_eq_false (Option.some.inj hg.2)
      rw [wr_in _ (by omega) (by omega)]; omega
    · have hg := Option.some.inj hg.2
      simp only [Bool.or_eq_false_iff, decide_eq_false_iff_not] at hg
      rw [wr_in _ (by omega) (by omega)]; omega
    · have ha : qb true ((shp L).take i) = true ∧ (shp L).getD i 0 = 126 := by
        simp only [Bool.and_eq_true, decide_eq_true_eq] at ha; exact ⟨ha.2, ha.1⟩
      rw [eN, if_pos ha, wr_in _ (by omega) (by omega)]; omega
    · have ha : ¬ (qb true ((shp L).take i) = true ∧ (shp L).getD i 0 = 126) := by
        rintro ⟨q1, q2⟩; rw [q1, decide_eq_true q2] at ha; cases ha
      rw [eN, if_neg ha]; rfl
  · have hc := of_decide_eq_false hc
    rw [List.take_of_length_le (by omega)]
    obtain ⟨e1, e2⟩ := fd_qt (shp L) true
    rw [e1, e2, qt_nq]
    refine AV.bool_inj' ?_
    have hN := nq_len true (shp L)
    rw [wr_in _ (by omega) (by omega)]
    simp
end Go.Proofs.Ytfmndopgbikgjaa

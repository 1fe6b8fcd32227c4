/- A part of the proof: symbolic evaluation of the program's functions, proved sound against the model; no condition. -/
import Derived.Test.YtklbnccpeeehkaaEvHB
namespace Go.Proofs.Ytklbnccpeeehkaa
open Go Go.RowKit Go.Ev
set_option linter.unusedSimpArgs false
set_option linter.unusedVariables false
set_option maxRecDepth 20000
structure K26a (l : List Rc) where
  i : Nat
  hi : i ≤ l.length
  hb : ∀ r ∈ l.take i, r.d.length ≤ 255
  hs : szR (l.take i) ≤ 260 * i
def S26a (l : List Rc) (p : K26a l) : SL := ⟨[(0, .lst [.int .u8 0, .nil] (recs l)), (3, .int .i64 (szR (l.take p.i))), (9, .lst [.int .u8 0, .nil] (recs l)), (10, .int .i64 l.length), (11, .int .i64 p.i)], []⟩
abbrev L26a (l : List Rc) : LI := ⟨K26a l, S26a l, fun p => l.length - p.i, fun p q => True⟩
theorem L26aS (l : List Rc) : (L26a l).S = S26a l := rfl
theorem L26aM (l : List Rc) (p : K26a l) : (L26a l).μ p = l.length - p.i := rfl
theorem L26aR (l : List Rc) (p q : K26a l) : (L26a l).R p q = (True) := rfl
def I26 (l : List Rc) : Nat → LI := fun n => L26a l
theorem I26_0 (l : List Rc) : I26 l 0 = L26a l := rfl
structure K27a (l : List Rc) where
  i : Nat
  hi : i ≤ l.length
  hb : ∀ r ∈ l.take i, r.d.length ≤ 255
  hs : szR (l.take i) ≤ 260 * i
def S27a (l : List Rc) (p : K27a l) : SL := ⟨[(0, .lst [.int .u8 0, .nil] (recs l)), (3, .int .i64 (szR (l.take p.i))), (4, .int .i64 p.i)], []⟩
abbrev L27a (l : List Rc) : LI := ⟨K27a l, S27a l, fun p => l.length - p.i, fun p q => True⟩
theorem L27aS (l : List Rc) : (L27a l).S = S27a l := rfl
theorem L27aM (l : List Rc) (p : K27a l) : (L27a l).μ p = l.length - p.i := rfl
theorem L27aR (l : List Rc) (p q : K27a l) : (L27a l).R p q = (True) := rfl
def I27 (l : List Rc) : Nat → LI := fun n => L27a l
theorem I27_0 (l : List Rc) : I27 l 0 = L27a l := rfl
structure K8a (l : List Rc) where
  i : Nat
  hi : i ≤ l.length
  hb : ∀ r ∈ l.take i, r.d.length ≤ 400
def S8a (l : List Rc) (p : K8a l) : SL := ⟨[(0, .lst [.int .u8 0, .nil] (recs l)), (3, .int .i64 p.i)], []⟩
abbrev L8a (l : List Rc) : LI := ⟨K8a l, S8a l, fun p => l.length - p.i, fun p q => True⟩
theorem L8aS (l : List Rc) : (L8a l).S = S8a l := rfl
theorem L8aM (l : List Rc) (p : K8a l) : (L8a l).μ p = l.length - p.i := rfl
theorem L8aR (l : List Rc) (p q : K8a l) : (L8a l).R p q = (True) := rfl
def I8 (l : List Rc) : Nat → LI := fun n => L8a l
theorem I8_0 (l : List Rc) : I8 l 0 = L8a l := rfl
structure K34a (l : List Int) where
  i : Nat
  hi : i ≤ l.length
def S34a (l : List Int) (p : K34a l) : SL := ⟨[(0, .lst [.int .u8 0] (u8s l)), (3, .vw 3200 0 0 0), (4, .int .i64 p.i)], [(3200, .buf 5 [.int .u8 0] (u8s (l.take p.i)))]⟩
abbrev L34a (l : List Int) : LI := ⟨K34a l, S34a l, fun p => l.length - p.i, fun p q => True⟩
theorem L34aS (l : List Int) : (L34a l).S = S34a l := rfl
theorem L34aM (l : List Int) (p : K34a l) : (L34a l).μ p = l.length - p.i := rfl
theorem L34aR (l : List Int) (p q : K34a l) : (L34a l).R p q = (True) := rfl
def I34 (l : List Int) : Nat → LI := fun n => L34a l
theorem I34_0 (l : List Int) : I34 l 0 = L34a l := rfl
structure K22a (l : List Rc) where
  i : Nat
  hi : i ≤ l.length
def S22a (l : List Rc) (p : K22a l) : SL := ⟨[(0, .lst [.int .u8 0, .nil] (recs l)), (3, .vw 3200 0 0 0), (4, .int .i64 p.i)], [(3200, .buf 32 [.int .u8 0, .nil] (recs (l.take p.i)))]⟩
abbrev L22a (l : List Rc) : LI := ⟨K22a l, S22a l, fun p => l.length - p.i, fun p q => True⟩
theorem L22aS (l : List Rc) : (L22a l).S = S22a l := rfl
theorem L22aM (l : List Rc) (p : K22a l) : (L22a l).μ p = l.length - p.i := rfl
theorem L22aR (l : List Rc) (p q : K22a l) : (L22a l).R p q = (True) := rfl
def I22 (l : List Rc) : Nat → LI := fun n => L22a l
theorem I22_0 (l : List Rc) : I22 l 0 = L22a l := rfl
structure K23a (a b : List Int) where
  i : Nat
  hi : i ≤ a.length
  he : ∀ j, j < i → a.getD j 0 = b.getD j 0
def S23a (a b : List Int) (p : K23a a b) : SL := ⟨[(0, .lst [.int .u8 0] (u8s a)), (1, .lst [.int .u8 0] (u8s b)), (5, .int .i64 p.i)], []⟩
abbrev L23a (a b : List Int) : LI := ⟨K23a a b, S23a a b, fun p => a.length - p.i, fun p q => True⟩
theorem L23aS (a b : List Int) : (L23a a b).S = S23a a b := rfl
theorem L23aM (a b : List Int) (p : K23a a b) : (L23a a b).μ p = a.length - p.i := rfl
theorem L23aR (a b : List Int) (p q : K23a a b) : (L23a a b).R p q = (True) := rfl
def I23 (a b : List Int) : Nat → LI := fun n => L23a a b
theorem I23_0 (a b : List Int) : I23 a b 0 = L23a a b := rfl
structure K19a (a b : List Rc) where
  i : Nat
  hi : i ≤ a.length
  he : ∀ j, j < i → a.getD j r0 = b.getD j r0
def S19a (a b : List Rc) (p : K19a a b) : SL := ⟨[(0, .lst [.int .u8 0, .nil] (recs a)), (1, .lst [.int .u8 0, .nil] (recs b)), (5, .int .i64 p.i)], []⟩
abbrev L19a (a b : List Rc) : LI := ⟨K19a a b, S19a a b, fun p => a.length - p.i, fun p q => True⟩
theorem L19aS (a b : List Rc) : (L19a a b).S = S19a a b := rfl
theorem L19aM (a b : List Rc) (p : K19a a b) : (L19a a b).μ p = a.length - p.i := rfl
theorem L19aR (a b : List Rc) (p q : K19a a b) : (L19a a b).R p q = (True) := rfl
def I19 (a b : List Rc) : Nat → LI := fun n => L19a a b
theorem I19_0 (a b : List Rc) : I19 a b 0 = L19a a b := rfl
structure K20a (l : List Rc) (k a : Int) where
  i : Nat
  hf : fdI l k a = fdN l k (l.length - i) i
def S20a (l : List Rc) (k a : Int) (p : K20a l k a) : SL := ⟨[(0, .lst [.int .u8 0, .nil] (recs l)), (1, .int .u8 k), (7, .int .i64 p.i)], []⟩
abbrev L20a (l : List Rc) (k a : Int) : LI := ⟨K20a l k a, S20a l k a, fun p => l.length - p.i, fun p q => True⟩
theorem L20aS (l : List Rc) (k a : Int) : (L20a l k a).S = S20a l k a := rfl
theorem L20aM (l : List Rc) (k a : Int) (p : K20a l k a) : (L20a l k a).μ p = l.length - p.i := rfl
theorem L20aR (l : List Rc) (k a : Int) (p q : K20a l k a) : (L20a l k a).R p q = (True) := rfl
def I20 (l : List Rc) (k a : Int) : Nat → LI := fun n => L20a l k a
theorem I20_0 (l : List Rc) (k a : Int) : I20 l k a 0 = L20a l k a := rfl
structure K21a (l : List Rc) (k a : Int) where
  i : Nat
  hi : i ≤ l.length
  hf : ∀ j : Nat, j < i → a ≤ j → ¬ (l.getD j r0).ty = k
def S21a (l : List Rc) (k a : Int) (p : K21a l k a) : SL := ⟨[(0, .lst [.int .u8 0, .nil] (recs l)), (1, .int .u8 k), (2, .int .i64 a), (7, .int .i64 p.i)], []⟩
abbrev L21a (l : List Rc) (k a : Int) : LI := ⟨K21a l k a, S21a l k a, fun p => l.length - p.i, fun p q => True⟩
theorem L21aS (l : List Rc) (k a : Int) : (L21a l k a).S = S21a l k a := rfl
theorem L21aM (l : List Rc) (k a : Int) (p : K21a l k a) : (L21a l k a).μ p = l.length - p.i := rfl
theorem L21aR (l : List Rc) (k a : Int) (p q : K21a l k a) : (L21a l k a).R p q = (True) := rfl
def I21 (l : List Rc) (k a : Int) : Nat → LI := fun n => L21a l k a
theorem I21_0 (l : List Rc) (k a : Int) : I21 l k a 0 = L21a l k a := rfl
structure K35a (l : List Int) where
  i : Nat
  hi : i ≤ l.length
def S35a (l : List Int) (p : K35a l) : SL := ⟨[(6, .lst [.int .u8 0] (u8s l)), (7, .int .i64 l.length), (8, .int .i64 p.i), (3, .int .u8 (m8 (l.take p.i)))], []⟩
abbrev L35a (l : List Int) : LI := ⟨K35a l, S35a l, fun p => l.length - p.i, fun p q => True⟩
theorem L35aS (l : List Int) : (L35a l).S = S35a l := rfl
theorem L35aM (l : List Int) (p : K35a l) : (L35a l).μ p = l.length - p.i := rfl
theorem L35aR (l : List Int) (p q : K35a l) : (L35a l).R p q = (True) := rfl
def I35 (l : List Int) : Nat → LI := fun n => L35a l
theorem I35_0 (l : List Int) : I35 l 0 = L35a l := rfl
set_option maxHeartbeats 4000000 in
theorem walk26 {Phi : Nat → Option Ctr} (l : List Rc) : evC Phi (I26 l) rc26 ⟨initS [.lst [.int .u8 0, .nil] (recs l)], initM false []⟩ (kRet rv26 (.bool (vlR l)) false []) := by
  simp (config := {maxSteps := 2000000, contextual := true}) only [rc26, initM_f, rv26, evC_seq, evC_region, eo_mov, evG_no, Option.getD_some, ev_mov, av_c, gv_bool, bind1_some', un1_mov, goOp_some, put_q, evOps_nil, kEnd_at, hasG_no, hasG_nil, kEndB_f, kSeq_n, av_t, upd_at, Nat.reduceEqDiff, ↓reduceIte, initS_at, List.getD_cons_zero, gv_lst, eo_len, ev_len, len_lst, recs_len, eo_cmp, ev_cmp, gv_int, cmp2_some, cmp_gtr, toR_some', evC_cond, evC_ret, kSeq_r, kRet_r, retOK_eq, retL_cons, retV_t, retL_nil, consO_some, lkR_one, lk1_bool, lkT_f, List.nil_append, applyL_nil, retOK_f, rtO_some, resV_one, leV1_bool, and_true, knowL_nil, askL_nil, evC_skip, evC_block, evC_loop, I26_0, L26aS, S26a, SL_ge, lkL_cons, lkS_lst, lkS_int, lkL_nil, lkM_nil, SL_ge0, leL_cons, leV1_lst, leV1_int, leL_nil, true_and, leM_nil, L26aR, SL_st, lookL_cons, cmp_lss, eo_iaddrS, ev_iaddrS, bind2_some', iaddrS_lst, List.length_cons, List.length_nil, Nat.zero_add, Nat.reduceAdd, beq_self_eq_true, iasB_true, Int.toNat_natCast, eo_load, ev_load, gv_ep, load_ep, valOf_agg, knowL_cons, askL_cons, evC_exit, kSeq_e, kLoop_e, kBlk_e, kBlkB_t, cmp_leq, ar_t, condK_bool, getE_rec, Nat.reduceLeDiff, decide_true, valB_true, List.drop_zero, List.take_succ_cons, List.take_zero, ldV_some, eo_alloc, ev_alloc, Nat.reduceMul, put_n, killB_cells, List.map_cons, kill0_int, kill0_nil, List.map_nil, eo_store, killS_at, kill3_agg, kill0_lst, vwsT_ptr, frzL_nil, goF_eq, Option.getD_none, ev_store, gv_ptr, gv_agg, store_ptr, cells_agg, updM_at, stB_cells, stC_true, setC_cons, List.set_cons_zero, List.set_cons_succ, setC_nil, put_s, liveB_cells, eo_faddr, ev_faddr, faddr_ptr, load_ptr, ldB_cells, valOf_one, List.getElem?_cons_succ, List.getElem?_cons_zero, u8s_len, kBlk_r, kLoop_r, kill3_int, eo_arith, ev_arith, arith_add, kBlk_n, kLoop_n, kill3_lst, true_imp_iff]
  intro _
  refine ⟨fun h => ?_, fun h => ⟨⟨0, by omega, by simp, by simp [szR]⟩, ⟨rfl, rfl⟩, ?_⟩⟩
  · have h := of_decide_eq_true h
    rw [vlR_len (by omega)]
  have h := of_decide_eq_false h
  rintro ⟨i, hi, hb, hs⟩
  dsimp only
  refine ⟨fun hc => ?_, fun hc => ?_⟩
  · have hc := of_decide_eq_true hc
    refine ⟨⟨by omega, by omega⟩, fun _ => ⟨fun h2 => ?_, fun h2 => ?_⟩⟩
    · have h2 := of_decide_eq_true h2
      rw [vlR_no (getD_mem l i (by omega)) (by omega)]
    · have h2 := of_decide_eq_false h2
      have hn := szR_nn (l.take i)
      have e := szR_take (l := l) (i := i) (by omega)
      refine ⟨⟨i + 1, by omega, take_all (by omega) hb (by omega), by omega⟩, ⟨AV.int_inj' ?_, AV.int_inj' (wr_succ i (by omega))⟩, by dsimp only; omega⟩
      rw [e, wr_in (5 + _) (by omega) (by omega), wr_in _ (by omega) (by omega)]
  · have hc := of_decide_eq_false hc
    rw [List.take_of_length_le (by omega)] at hb ⊢
    rw [vlR_yes (by omega) hb]
set_option maxHeartbeats 4000000 in
theorem walk27 {Phi : Nat → Option Ctr} (l : List Rc) : evC Phi (I27 l) rc27 ⟨initS [.lst [.int .u8 0, .nil] (recs l)], initM false []⟩ (kRet rv27 (.bool (vlR l)) false []) := by
  simp (config := {maxSteps := 2000000, contextual := true}) only [rc27, initM_f, rv27, evC_seq, evC_region, eo_mov, evG_no, Option.getD_some, ev_mov, av_c, gv_bool, bind1_some', un1_mov, goOp_some, put_q, evOps_nil, kEnd_at, hasG_no, hasG_nil, kEndB_f, kSeq_n, av_t, upd_at, Nat.reduceEqDiff, ↓reduceIte, initS_at, List.getD_cons_zero, gv_lst, eo_len, ev_len, len_lst, recs_len, eo_cmp, ev_cmp, gv_int, cmp2_some, cmp_gtr, toR_some', evC_cond, evC_ret, kSeq_r, kRet_r, retOK_eq, retL_cons, retV_t, retL_nil, consO_some, lkR_one, lk1_bool, lkT_f, List.nil_append, applyL_nil, retOK_f, rtO_some, resV_one, leV1_bool, and_true, knowL_nil, askL_nil, evC_skip, evC_block, evC_loop, I27_0, L27aS, S27a, SL_ge, lkL_cons, lkS_lst, lkS_int, lkL_nil, lkM_nil, SL_ge0, leL_cons, leV1_lst, leV1_int, leL_nil, true_and, leM_nil, L27aR, SL_st, lookL_cons, cmp_lss, eo_iaddrS, ev_iaddrS, bind2_some', iaddrS_lst, List.length_cons, List.length_nil, Nat.zero_add, Nat.reduceAdd, beq_self_eq_true, iasB_true, Int.toNat_natCast, eo_faddr, ev_faddr, gv_ep, faddr_ep, eo_load, ev_load, load_ep, valOf_one, knowL_cons, askL_cons, evC_exit, kSeq_e, kLoop_e, kBlk_e, kBlkB_t, cmp_leq, ar_t, condK_bool, getE_rec, List.getElem?_cons_succ, List.getElem?_cons_zero, ldV_some, u8s_len, kBlk_r, kLoop_r, eo_arith, ev_arith, arith_add, kBlk_n, kLoop_n, true_imp_iff]
  intro _
  refine ⟨fun h => ?_, fun h => ⟨⟨0, by omega, by simp, by simp [szR]⟩, ⟨rfl, rfl⟩, ?_⟩⟩
  · have h := of_decide_eq_true h
    rw [vlR_len (by omega)]
  have h := of_decide_eq_false h
  rintro ⟨i, hi, hb, hs⟩
  dsimp only
  refine ⟨fun hc => ?_, fun hc => ?_⟩
  · have hc := of_decide_eq_true hc
    refine ⟨⟨by omega, by omega⟩, fun _ => ⟨fun h2 => ?_, fun h2 => ?_⟩⟩
    · have h2 := of_decide_eq_true h2
      rw [vlR_no (getD_mem l i (by omega)) (by omega)]
    · have h2 := of_decide_eq_false h2
      have hn := szR_nn (l.take i)
      have e := szR_take (l := l) (i := i) (by omega)
      refine ⟨⟨by omega, by omega⟩, ⟨⟨i + 1, by omega, take_all (by omega) hb (by omega), by omega⟩, ⟨AV.int_inj' ?_, AV.int_inj' (wr_succ i (by omega))⟩, by dsimp only; omega⟩⟩
      rw [e, wr_in (5 + _) (by omega) (by omega), wr_in _ (by omega) (by omega)]
  · have hc := of_decide_eq_false hc
    rw [List.take_of_length_le (by omega)] at hb ⊢
    rw [vlR_yes (by omega) hb]
set_option maxHeartbeats 4000000 in
theorem walk8 {Phi : Nat → Option Ctr} (l : List Rc) : evC Phi (I8 l) rc8 ⟨initS [.lst [.int .u8 0, .nil] (recs l)], initM false []⟩ (kRet rv8 (.bool (lgR l)) false []) := by
  simp (config := {maxSteps := 2000000, contextual := true}) only [rc8, initM_f, rv8, evC_seq, evC_region, eo_mov, evG_no, Option.getD_some, ev_mov, av_c, gv_bool, bind1_some', un1_mov, goOp_some, put_q, evOps_nil, kEnd_at, hasG_no, hasG_nil, kEndB_f, kSeq_n, av_t, upd_at, Nat.reduceEqDiff, ↓reduceIte, initS_at, List.getD_cons_zero, gv_lst, eo_len, ev_len, len_lst, recs_len, eo_cmp, ev_cmp, gv_int, cmp2_some, cmp_gtr, toR_some', evC_cond, evC_ret, kSeq_r, kRet_r, retOK_eq, retL_cons, retV_t, retL_nil, consO_some, lkR_one, lk1_bool, lkT_f, List.nil_append, applyL_nil, retOK_f, rtO_some, resV_one, leV1_bool, and_true, knowL_nil, askL_nil, evC_skip, evC_block, evC_loop, I8_0, L8aS, S8a, SL_ge, lkL_cons, lkS_lst, lkS_int, lkL_nil, lkM_nil, SL_ge0, leL_cons, leV1_lst, leV1_int, leL_nil, true_and, leM_nil, L8aR, SL_st, lookL_cons, cmp_lss, eo_iaddrS, ev_iaddrS, bind2_some', iaddrS_lst, List.length_cons, List.length_nil, Nat.zero_add, Nat.reduceAdd, beq_self_eq_true, iasB_true, Int.toNat_natCast, eo_faddr, ev_faddr, gv_ep, faddr_ep, eo_load, ev_load, load_ep, valOf_one, knowL_cons, askL_cons, evC_exit, kSeq_e, kLoop_e, kBlk_e, kBlkB_t, ar_t, condK_bool, getE_rec, List.getElem?_cons_succ, List.getElem?_cons_zero, ldV_some, u8s_len, kBlk_r, kLoop_r, kBlk_n, eo_arith, ev_arith, arith_add, kLoop_n, true_imp_iff]
  intro _
  refine ⟨fun h => ?_, fun h => ⟨⟨0, by omega, by simp⟩, rfl, ?_⟩⟩
  · have h := of_decide_eq_true h
    simp only [lgR]; rw [decide_eq_false (by omega)]; rfl
  have h := of_decide_eq_false h
  rintro ⟨i, hi, hb⟩
  dsimp only
  refine ⟨fun hc => ?_, fun hc => ?_⟩
  · have hc := of_decide_eq_true hc
    refine ⟨⟨by omega, by omega⟩, fun _ => ⟨fun h2 => ?_, fun h2 => ?_⟩⟩
    · have h2 := of_decide_eq_true h2
      rw [lgR_no (getD_mem l i (by omega)) (by omega)]
    · have h2 := of_decide_eq_false h2
      exact ⟨⟨i + 1, by omega, take_all (by omega) hb (by omega)⟩, AV.int_inj' (wr_succ i (by omega)), by dsimp only; omega⟩
  · have hc := of_decide_eq_false hc
    rw [List.take_of_length_le (by omega)] at hb
    rw [lgR_yes (by omega) hb]
set_option maxHeartbeats 4000000 in
theorem walk34 {Phi : Nat → Option Ctr} (l : List Int) (hl : l.length ≤ 100000) : evC Phi (I34 l) rc34 ⟨initS [.lst [.int .u8 0] (u8s l)], initM false []⟩ (kRet rv34 (.lst [.int .u8 0] (u8s l)) false []) := by
  simp (config := {maxSteps := 2000000}) only [rc34, initM_f, rv34, evC_seq, evC_region, eo_mov, evG_no, Option.getD_some, ev_mov, av_c, gv_nil, bind1_some', un1_mov, goOp_some, put_q, evOps_nil, kEnd_at, hasG_no, hasG_nil, kEndB_f, kSeq_n, gv_int, evC_block, evC_loop, I34_0, L34aS, S34a, SL_ge, lkL_cons, upd_at, Nat.reduceEqDiff, ↓reduceIte, initS_at, List.getD_cons_zero, lkS_lst, lkS_nil_vw, lookM_cons, nlK_buf, lkS_int, lkL_nil, List.nil_append, List.cons_append, lkM_cons, lkB_buf, lkM_nil, applyL_nls, nlV_nil, Nat.reduceLeDiff, decide_true, List.length_cons, List.length_nil, Nat.zero_add, Nat.reduceLT, Bool.and_self, nlP_t, applyL_nil, SL_ge0, leL_cons, killS_at, kill3_lst, leV1_lst, leV1_vw, kill3_int, leV1_int, leL_nil, and_true, true_and, leM_cons, updM_at, leB_buf, leM_nil, L34aR, SL_st, av_t, lookL_cons, gv_lst, eo_len, ev_len, len_lst, u8s_len, eo_cmp, ev_cmp, cmp2_some, cmp_lss, toR_some', evC_cond, evC_skip, gv_vw, eo_iaddrS, ev_iaddrS, bind2_some', iaddrS_lst, beq_self_eq_true, iasB_true, Int.toNat_natCast, eo_load, ev_load, gv_ep, load_ep, getE_u8, valOf_one, List.getElem?_cons_zero, ldV_some, eo_bsliceO, vwsG_cons, ar_t, vws1_int, vwsG_nil, frzL_nil, goF_eq, ev_bsliceO, List.replicate_succ, List.replicate_zero, fillS_cons, fsK_some, cells_int, fsC_some, List.all_cons, c0_int, List.all_nil, and_self, List.set_cons_zero, fillS_nil, blO2_some, Nat.reduceMul, Nat.reduceAdd, put_n, killB_buf, eo_append, ev_append, kill3_vw, appR_vw, ysOf_vw, ysV_buf, killM_at, killO_some, appV_buf, appK_some, Nat.mul_one, u8s_snoc, kBlk_n, eo_arith, ev_arith, arith_add, kLoop_n, lkS_vw_vw, renK_t, knowL_nil, askL_nil, askL_cons, knowL_cons, evC_exit, kSeq_e, kLoop_e, kBlk_e, kBlkB_t, evC_ret, kRet_r, retOK_eq, retL_cons, retV_t, retL_nil, consO_some, lkR_one, lk1_vw_lst, lkT_f, applyL_frz, frzQ_buf, frzP_t, retOK_f, frzSl_at, frz3_vw, rtO_some, resV_one, condK_bool, true_imp_iff]
  refine ⟨⟨0, by omega⟩, ⟨rfl, rfl⟩, ?_⟩
  rintro ⟨i, hi⟩ _
  dsimp only
  refine ⟨fun hc => ?_, fun hc => ?_⟩
  · have hc := of_decide_eq_true hc
    have h1 : (l.take i).length ≤ 100000 := by rw [List.length_take]; omega
    exact ⟨⟨by omega, by omega⟩, fun _ => ⟨by omega, by omega, ⟨i + 1, by omega⟩, ⟨AV.int_inj' (wr_succ i (by omega)), by rw [take_snoc l 0 i (by omega)]⟩, by dsimp only; omega⟩⟩
  · have hc := of_decide_eq_false hc
    rw [List.take_of_length_le (by omega)]
set_option maxHeartbeats 4000000 in
theorem walk33 {Phi : Nat → Option Ctr} (l : List Int) (hl : l.length ≤ 100000) : evC Phi (noI) rc33 ⟨initS [.lst [.int .u8 0] (u8s l)], initM false []⟩ (kRet rv33 (.lst [.int .u8 0] (u8s l)) false []) := by
  simp (config := {maxSteps := 2000000}) only [rc33, initM_f, rv33, evC_seq, evC_region, eo_mov, evG_no, Option.getD_some, ev_mov, av_c, gv_nil, bind1_some', un1_mov, goOp_some, put_q, evOps_nil, kEnd_at, hasG_no, hasG_nil, kEndB_f, kSeq_n, av_t, upd_at, Nat.reduceEqDiff, ↓reduceIte, initS_at, List.getD_cons_zero, gv_lst, eo_eqnil, ev_eqnil, nil_lst, evC_cond, evC_ret, kSeq_r, kRet_r, retOK_eq, retL_cons, retV_t, retL_nil, consO_some, lkR_one, lk1_nil, lkT_f, List.nil_append, applyL_nil, retOK_f, rtO_some, resV_one, leV1_nil, leA_nil, and_true, knowL_nil, askL_nil, evC_skip, eo_bsliceO, vwsG_nil, frzL_nil, goF_eq, ev_bsliceO, List.length_cons, List.length_nil, Nat.zero_add, List.replicate_zero, fillS_nil, blO2_some, Nat.reduceMul, Nat.reduceAdd, put_n, killB_buf, killS_at, kill3_lst, eo_append, ev_append, gv_vw, bind2_some', appR_vw, ysOf_lst, updM_at, appV_buf, Nat.reduceLeDiff, and_self, appK_some, u8s_len, Nat.mul_one, List.cons_append, lk1_vw_lst, applyL_frz, frzQ_buf, decide_true, frzP_t, frzSl_at, frz3_vw, leV1_lst, askL_cons, ar_t, condK_nb]
  exact ⟨fun h => List.isEmpty_iff.1 h, by omega, by omega⟩
set_option maxHeartbeats 4000000 in
theorem walk35 {Phi : Nat → Option Ctr} (l : List Int) (hl : l.length ≤ 100000) : evC Phi (I35 l) rc35 ⟨initS [.lst [.int .u8 0] (u8s l)], initM false []⟩ (kRet rv35 (.int .u8 (c8 l)) false []) := by
  simp (config := {maxSteps := 2000000}) only [rc35, initM_f, rv35, evC_seq, evC_region, eo_mov, evG_no, Option.getD_some, ev_mov, av_c, gv_int, bind1_some', un1_mov, goOp_some, put_q, evOps_nil, kEnd_at, hasG_no, hasG_nil, kEndB_f, kSeq_n, av_t, upd_at, Nat.reduceEqDiff, ↓reduceIte, initS_at, List.getD_cons_zero, gv_lst, eo_len, ev_len, len_lst, u8s_len, evC_block, evC_loop, I35_0, L35aS, S35a, SL_ge, lkL_cons, lkS_lst, lkS_int, lkL_nil, List.nil_append, lkM_nil, applyL_nil, SL_ge0, leL_cons, leV1_lst, leV1_int, leL_nil, and_true, true_and, leM_nil, L35aR, SL_st, eo_cmp, ev_cmp, lookL_cons, cmp2_some, cmp_lss, toR_some', evC_cond, evC_skip, eo_iaddrS, ev_iaddrS, bind2_some', iaddrS_lst, List.length_cons, List.length_nil, Nat.zero_add, beq_self_eq_true, iasB_true, Int.toNat_natCast, eo_load, ev_load, gv_ep, load_ep, getE_u8, valOf_one, List.getElem?_cons_zero, ldV_some, eo_arith, ev_arith, arith_add, kBlk_n, kLoop_n, knowL_nil, askL_nil, knowL_cons, askL_cons, evC_exit, kSeq_e, kLoop_e, kBlk_e, kBlkB_t, eo_neg, ev_neg, un1_neg, evC_ret, kRet_r, retOK_eq, retL_cons, retV_t, retL_nil, consO_some, lkR_one, lk1_int, lkT_f, retOK_f, rtO_some, resV_one, ar_t, condK_bool, true_imp_iff]
  intro _
  refine ⟨⟨0, by omega⟩, ⟨rfl, rfl⟩, ?_⟩
  rintro ⟨i, hi⟩
  dsimp only
  refine ⟨fun hc => ?_, fun hc => ?_⟩
  · have hc := of_decide_eq_true hc
    exact ⟨⟨by omega, by omega⟩, fun _ => ⟨⟨i + 1, by omega⟩, ⟨AV.int_inj' (wr_succ i (by omega)), by rw [take_snoc l 0 i (by omega), m8_snoc]⟩, by dsimp only; omega⟩⟩
  · have hc := of_decide_eq_false hc
    rw [List.take_of_length_le (by omega), c8, Int.zero_sub]
set_option maxHeartbeats 4000000 in
theorem walk23n {Phi : Nat → Option Ctr} (a : List Int) : evC Phi (I23 a []) rc23 ⟨initS [.lst [.int .u8 0] (u8s a), .nil], initM false []⟩ (kRet rv23 (.bool (decide (a = []))) false []) := by
  simp (config := {maxSteps := 2000000}) only [rc23, initM_f, rv23, evC_seq, evC_region, eo_mov, evG_no, Option.getD_some, ev_mov, av_c, gv_bool, bind1_some', un1_mov, goOp_some, put_q, evOps_nil, kEnd_at, hasG_no, hasG_nil, kEndB_f, kSeq_n, av_t, upd_at, Nat.reduceEqDiff, ↓reduceIte, initS_at, List.getD_cons_zero, gv_lst, eo_len, ev_len, len_lst, u8s_len, List.getD_cons_succ, gv_nil, len_nil, eo_cmp, ev_cmp, gv_int, cmp2_some, cmp_neq, toR_some', evC_cond, evC_ret, kSeq_r, kRet_r, retOK_eq, retL_cons, retV_t, retL_nil, consO_some, lkR_one, lk1_bool, lkT_f, List.nil_append, applyL_nil, retOK_f, rtO_some, resV_one, leV1_bool, and_true, knowL_nil, askL_nil, evC_skip, evC_block, evC_loop, I23_0, L23aS, S23a, SL_ge, lkL_cons, lkS_lst, lkS_nil_lst, lkS_int, lkL_nil, lkM_nil, SL_ge0, leL_cons, leV1_lst, leV1_nil, leA_nil, leV1_int, leL_nil, true_and, leM_nil, L23aR, SL_st, lookL_cons, cmp_lss, evC_draw, preK_some, needD_mov, preB_f, needD_iaddrS, needD_load, needD_cmp, preK_nil, evD_cons, evDk_some, newOK_none, Nat.zero_add, Nat.reduceAdd, ev_iaddrS, bind2_some', iaddrS_lst, List.length_cons, List.length_nil, beq_self_eq_true, iasB_true, Int.toNat_natCast, ev_load, gv_ep, load_ep, getE_u8, valOf_one, List.getElem?_cons_zero, ldV_some, Nat.reduceLeDiff, evD_nil, kBlk_r, kLoop_r, kBlk_n, eo_arith, ev_arith, arith_add, kLoop_n, ar_t, condK_bool, knowD_cons, knowD_nil, knowL_cons, true_imp_iff, pairD_cons, pairOK_eq, newMen_none, List.contains_cons, Nat.reduceBEq, List.contains_nil, Bool.or_false, Bool.or_true, pairB_t, and_self, pairD_nil, pairB_f, chkR_eq, pslots_int, optN_some, disjN_nil, Bool.and_self, List.map_nil, newI_none, pslots_ep, pslots_lst, askL_cons, evC_exit, kSeq_e, kLoop_e, kBlk_e, kBlkB_t]
  intro _
  refine ⟨fun hc => ?_, fun hc => ⟨⟨0, by omega, fun j hj => by omega⟩, ⟨rfl, rfl⟩, ?_⟩⟩
  · have hc : ¬ (a.length : Int) = 0 := of_decide_eq_false (by simpa only [Bool.not_eq_true'] using hc)
    refine AV.bool_inj' ?_
    rw [decide_eq_false]
    rintro rfl
    exact hc rfl
  · have hc : (a.length : Int) = 0 := of_decide_eq_true (by simpa only [Bool.not_eq_false'] using hc)
    rintro ⟨i, hi, he⟩ _
    dsimp only
    refine ⟨fun h => ?_, fun _ => ?_⟩
    · have h := of_decide_eq_true h
      omega
    · have : a = [] := List.length_eq_zero_iff.1 (by omega)
      rw [this]; rfl
set_option maxHeartbeats 4000000 in
theorem walk23 {Phi : Nat → Option Ctr} (a b : List Int) : evC Phi (I23 a b) rc23 ⟨initS [.lst [.int .u8 0] (u8s a), .lst [.int .u8 0] (u8s b)], initM false []⟩ (kRet rv23 (.bool (decide (a = b))) false []) := by
  simp (config := {maxSteps := 2000000}) only [rc23, initM_f, rv23, evC_seq, evC_region, eo_mov, evG_no, Option.getD_some, ev_mov, av_c, gv_bool, bind1_some', un1_mov, goOp_some, put_q, evOps_nil, kEnd_at, hasG_no, hasG_nil, kEndB_f, kSeq_n, av_t, upd_at, Nat.reduceEqDiff, ↓reduceIte, initS_at, List.getD_cons_zero, gv_lst, eo_len, ev_len, len_lst, u8s_len, List.getD_cons_succ, eo_cmp, ev_cmp, gv_int, cmp2_some, cmp_neq, toR_some', evC_cond, evC_ret, kSeq_r, kRet_r, retOK_eq, retL_cons, retV_t, retL_nil, consO_some, lkR_one, lk1_bool, lkT_f, List.nil_append, applyL_nil, retOK_f, rtO_some, resV_one, leV1_bool, and_true, knowL_nil, askL_nil, evC_skip, evC_block, evC_loop, I23_0, L23aS, S23a, SL_ge, lkL_cons, lkS_lst, lkS_int, lkL_nil, lkM_nil, SL_ge0, leL_cons, leV1_lst, leV1_int, leL_nil, true_and, leM_nil, L23aR, SL_st, lookL_cons, cmp_lss, evC_draw, preK_some, needD_mov, preB_f, needD_iaddrS, needD_load, needD_cmp, preK_nil, evD_cons, evDk_some, newOK_none, Nat.zero_add, Nat.reduceAdd, ev_iaddrS, bind2_some', iaddrS_lst, List.length_cons, List.length_nil, beq_self_eq_true, iasB_true, Int.toNat_natCast, ev_load, gv_ep, load_ep, getE_u8, valOf_one, List.getElem?_cons_zero, ldV_some, evD_nil, kBlk_r, kLoop_r, kBlk_n, eo_arith, ev_arith, arith_add, kLoop_n, ar_t, condK_bool, knowD_cons, knowD_nil, knowL_cons, pairD_cons, pairOK_eq, newMen_none, List.contains_cons, Nat.reduceBEq, List.contains_nil, Bool.or_false, Bool.or_true, pairB_t, and_self, pairD_nil, pairB_f, chkR_eq, pslots_int, optN_some, disjN_nil, Bool.and_self, List.map_nil, newI_none, pslots_ep, pslots_lst, askL_cons, evC_exit, kSeq_e, kLoop_e, kBlk_e, kBlkB_t, true_imp_iff]
  intro h1 h2
  refine ⟨fun hc => ?_, fun hc => ?_⟩
  · have hc : ¬ (a.length : Int) = b.length := by simpa using hc
    refine AV.bool_inj' ?_
    rw [decide_eq_false (fun e => hc (by rw [e]))]
  · have hc : a.length = b.length := by
      have : (a.length : Int) = b.length := by simpa using hc
      omega
    refine ⟨⟨0, by omega, fun j hj => by omega⟩, rfl, ?_⟩
    rintro ⟨i, hi, he⟩ _
    dsimp only
    refine ⟨fun hc2 => ?_, fun hc2 => ?_⟩
    · have hc2 := of_decide_eq_true hc2
      refine ⟨⟨by omega, by omega⟩, ⟨by omega, by omega⟩, fun _ _ => ⟨fun hn => ?_, fun hn => ⟨⟨i + 1, by omega, ?_⟩, AV.int_inj' (wr_succ i (by omega)), by dsimp only; omega⟩⟩⟩
      · have hn : ¬ a.getD i 0 = b.getD i 0 := by simpa using hn
        refine AV.bool_inj' ?_
        rw [decide_eq_false (fun e => hn (by rw [e]))]
      · have hn : a.getD i 0 = b.getD i 0 := by simpa using hn
        intro j hj
        by_cases e : j = i
        · subst e; exact hn
        · exact he j (by omega)
    · have hc2 := of_decide_eq_false hc2
      refine AV.bool_inj' ?_
      have e : a = b := by
        apply List.ext_getElem hc
        intro j h1 h2
        have := he j (by omega)
        rw [List.getD_eq_getElem?_getD, List.getD_eq_getElem?_getD, List.getElem?_eq_getElem h1, List.getElem?_eq_getElem h2] at this
        exact this
      rw [decide_eq_true e]
set_option maxHeartbeats 4000000 in
theorem walk19e {Phi : Nat → Option Ctr} (P23 : Phi 23 = some CSb) (a b : List Rc) (hl : a.length = b.length) : evC Phi (I19 a b) rc19 ⟨initS [.lst [.int .u8 0, .nil] (recs a), .lst [.int .u8 0, .nil] (recs b)], initM false []⟩ (kRet rv19 (.bool (decide (a = b))) false []) := by
  simp (config := {maxSteps := 2000000, contextual := true}) only [rc19, initM_f, rv19, evC_seq, evC_region, eo_mov, evG_no, Option.getD_some, ev_mov, av_c, gv_bool, bind1_some', un1_mov, goOp_some, put_q, evOps_nil, kEnd_at, hasG_no, hasG_nil, kEndB_f, kSeq_n, av_t, upd_at, Nat.reduceEqDiff, ↓reduceIte, initS_at, List.getD_cons_zero, gv_lst, eo_len, ev_len, len_lst, recs_len, hl, List.getD_cons_succ, eo_cmp, ev_cmp, gv_int, cmp2_some, cmp_neq, decide_true, Bool.not_true, toR_some', evC_cond, evC_ret, kSeq_r, kRet_r, retOK_eq, retL_cons, retV_t, retL_nil, consO_some, lkR_one, lk1_bool, lkT_f, List.nil_append, applyL_nil, retOK_f, rtO_some, resV_one, leV1_bool, and_true, knowL_nil, askL_nil, evC_skip, evC_block, evC_loop, I19_0, L19aS, S19a, SL_ge, lkL_cons, lkS_lst, lkS_int, lkL_nil, lkM_nil, SL_ge0, leL_cons, leV1_lst, leV1_int, leL_nil, true_and, leM_nil, L19aR, SL_st, lookL_cons, cmp_lss, evC_draw, preK_some, needD_mov, preB_f, needD_iaddrS, needD_faddr, needD_load, needD_cmp, needD_call, needD_not, needD_pick, preK_nil, evD_cons, evDk_some, newOK_none, Nat.zero_add, Nat.reduceAdd, ev_iaddrS, bind2_some', iaddrS_lst, List.length_cons, List.length_nil, beq_self_eq_true, iasB_true, Int.toNat_natCast, ev_faddr, gv_ep, faddr_ep, Nat.add_zero, ev_load, load_ep, valOf_one, pairD_cons, pairOK_eq, newMen_none, List.contains_cons, Nat.reduceBEq, List.contains_nil, Bool.or_false, Bool.or_true, pairB_t, and_self, pairD_nil, askL_cons, pairB_f, chkR_eq, pslots_int, optN_some, disjN_nil, pslots_lst, Bool.and_self, List.map_nil, newI_none, evC_exit, kSeq_e, kLoop_e, kBlk_e, kBlkB_t, ar_t, condK_bool, getE_rec, List.getElem?_cons_zero, ldV_some, evG_yes, pathG_bool, gG_some, guardR_q, guardL_nil, gv_gd, List.all_cons, List.all_nil, gvB_true, guardL_cons, pathP_cons, boolOf_bool, pathP_nil, List.getElem?_cons_succ, ev_call, P23, CSb, avs_cons, avs_nil, clO_some, call_pure, lends_cons, lend1_lst, lends_nil, consL_some', callN_some, decU_u8s, callP_some, c2_bool, flat2_bool, backOK_nil, clQ_t, implies_true, ev_not, un1_not, ev_pick, pick3_some, pickV_bool, Bool.cond_true_left, evD_nil, hasG_yes, kEndB_t, kBlk_r, kLoop_r, kBlk_n, ungdS_at, ungd_int, eo_arith, ev_arith, arith_add, kLoop_n, ungd_lst, ungd_bool, knowD_cons, knowD_nil, knowL_cons, true_imp_iff, pslots_gd, List.map_cons, disjN_cons, Bool.not_false, pslots_ep, Bool.false_eq_true, false_imp_iff]
  intro _
  refine ⟨⟨0, by omega, fun j hj => by omega⟩, rfl, ?_⟩
  rintro ⟨i, hi, he⟩
  dsimp only
  refine ⟨fun hc => ?_, fun hc => ?_⟩
  · have hc := of_decide_eq_true hc
    refine ⟨⟨by omega, by omega⟩, ⟨by omega, by omega⟩, fun _ => ⟨by omega, by omega⟩, fun _ => ⟨by omega, by omega⟩, fun hn => ?_, fun hn => ⟨⟨i + 1, by omega, ?_⟩, AV.int_inj' (wr_succ i (by omega)), by dsimp only; omega⟩⟩
    · refine AV.bool_inj' ?_
      rw [decide_eq_false]
      rintro rfl
      simp at hn
    · simp only [Bool.or_eq_false_iff, Bool.not_eq_false', decide_eq_true_eq] at hn
      have hn : a.getD i r0 = b.getD i r0 := by
        cases h1 : a.getD i r0; cases h2 : b.getD i r0
        rw [h1, h2] at hn
        exact congr (congrArg Rc.mk hn.1) hn.2
      intro j hj
      by_cases e : j = i
      · subst e; exact hn
      · exact he j (by omega)
  · have hc := of_decide_eq_false hc
    refine AV.bool_inj' ?_
    have e : a = b := by
      apply List.ext_getElem hl
      intro j h1 h2
      have := he j (by omega)
      rw [List.getD_eq_getElem?_getD, List.getD_eq_getElem?_getD, List.getElem?_eq_getElem h1, List.getElem?_eq_getElem h2] at this
      exact this
    rw [decide_eq_true e]
set_option maxHeartbeats 4000000 in
theorem walk19n {Phi : Nat → Option Ctr} (P23 : Phi 23 = some CSb) (a b : List Rc) (hl : ¬ a.length = b.length) : evC Phi (I19 a b) rc19 ⟨initS [.lst [.int .u8 0, .nil] (recs a), .lst [.int .u8 0, .nil] (recs b)], initM false []⟩ (kRet rv19 (.bool (decide (a = b))) false []) := by
  simp (config := {maxSteps := 2000000}) only [rc19, initM_f, rv19, evC_seq, evC_region, eo_mov, evG_no, Option.getD_some, ev_mov, av_c, gv_bool, bind1_some', un1_mov, goOp_some, put_q, evOps_nil, kEnd_at, hasG_no, hasG_nil, kEndB_f, kSeq_n, av_t, upd_at, Nat.reduceEqDiff, ↓reduceIte, initS_at, List.getD_cons_zero, gv_lst, eo_len, ev_len, len_lst, recs_len, List.getD_cons_succ, eo_cmp, ev_cmp, gv_int, cmp2_some, cmp_neq, toR_some', evC_cond, evC_ret, kSeq_r, kRet_r, retOK_eq, retL_cons, retV_t, retL_nil, consO_some, lkR_one, lk1_bool, lkT_f, List.nil_append, applyL_nil, retOK_f, rtO_some, resV_one, leV1_bool, and_true, knowL_nil, askL_nil, evC_skip, evC_block, evC_loop, I19_0, L19aS, S19a, SL_ge, lkL_cons, lkS_lst, lkS_int, lkL_nil, lkM_nil, SL_ge0, leL_cons, leV1_lst, leV1_int, leL_nil, true_and, leM_nil, L19aR, SL_st, lookL_cons, cmp_lss, evC_draw, preK_some, needD_mov, preB_f, needD_iaddrS, needD_faddr, needD_load, needD_cmp, needD_call, needD_not, needD_pick, preK_nil, evD_cons, evDk_some, newOK_none, Nat.zero_add, Nat.reduceAdd, ev_iaddrS, bind2_some', iaddrS_lst, List.length_cons, List.length_nil, beq_self_eq_true, iasB_true, Int.toNat_natCast, ev_faddr, gv_ep, faddr_ep, Nat.add_zero, ev_load, load_ep, valOf_one, pairD_cons, pairOK_eq, newMen_none, List.contains_cons, Nat.reduceBEq, List.contains_nil, Bool.or_false, Bool.or_true, pairB_t, and_self, pairD_nil, askL_cons, pairB_f, chkR_eq, pslots_int, optN_some, disjN_nil, pslots_lst, Bool.and_self, List.map_nil, newI_none, evC_exit, kSeq_e, kLoop_e, kBlk_e, kBlkB_t, ar_t, condK_bool, knowL_cons, true_imp_iff]
  intro _ _
  refine ⟨fun _ => AV.bool_inj' (by rw [decide_eq_false (fun e => hl (by rw [e]))]), fun hc => ?_⟩
  have : (a.length : Int) = b.length := by simpa using hc
  omega
set_option maxHeartbeats 4000000 in
theorem walk20 {Phi : Nat → Option Ctr} (l : List Rc) (k a : Int) (hl : l.length ≤ 1000) : evC Phi (I20 l k a) rc20 ⟨initS [.lst [.int .u8 0, .nil] (recs l), .int .u8 k, .int .i64 a], initM false []⟩ (kRet rv20 (.int .i64 (fdI l k a)) false []) := by
  simp (config := {maxSteps := 2000000, contextual := true}) only [rc20, initM_f, rv20, evC_seq, evC_region, eo_mov, evG_no, Option.getD_some, ev_mov, av_c, gv_int, bind1_some', un1_mov, goOp_some, put_q, evOps_nil, kEnd_at, hasG_no, hasG_nil, kEndB_f, kSeq_n, av_t, upd_at, Nat.reduceEqDiff, ↓reduceIte, initS_at, List.getD_cons_succ, List.getD_cons_zero, eo_minmax, ev_minmax, avs_cons, avs_nil, consO_some, mmO_some, mm_max, mm_nil, toR_some', evC_block, evC_loop, I20_0, L20aS, S20a, SL_ge, lkL_cons, lkS_lst, lkS_int, lkL_nil, List.nil_append, lkM_nil, applyL_nil, SL_ge0, leL_cons, leV1_lst, leV1_int, leL_nil, and_true, true_and, leM_nil, L20aR, SL_st, lookL_cons, gv_lst, eo_len, ev_len, len_lst, recs_len, eo_cmp, ev_cmp, cmp2_some, cmp_lss, evC_cond, evC_skip, eo_iaddrS, ev_iaddrS, bind2_some', iaddrS_lst, List.length_cons, List.length_nil, Nat.zero_add, Nat.reduceAdd, beq_self_eq_true, iasB_true, Int.toNat_natCast, eo_faddr, ev_faddr, gv_ep, faddr_ep, Nat.add_zero, eo_load, ev_load, load_ep, valOf_one, knowL_nil, askL_nil, knowL_cons, askL_cons, evC_exit, kSeq_e, kLoop_e, kBlk_e, kBlkB_t, evC_ret, kRet_r, retOK_eq, retL_cons, retV_t, retL_nil, lkR_one, lk1_int, lkT_f, retOK_f, rtO_some, resV_one, ar_t, condK_bool, getE_rec, List.getElem?_cons_zero, ldV_some, cmp_eql, kBlk_r, kSeq_r, kLoop_r, kBlk_n, eo_arith, ev_arith, arith_add, kLoop_n, true_imp_iff]
  refine ⟨⟨a.toNat, rfl⟩, AV.int_inj' (by dsimp only; omega), ?_⟩
  rintro ⟨i, hf⟩ _
  dsimp only
  refine ⟨fun hc => ?_, fun hc => ?_⟩
  · have hc := of_decide_eq_true hc
    rw [show l.length - i = (l.length - (i + 1)) + 1 by omega] at hf
    simp only [fdN] at hf
    refine ⟨⟨by omega, by omega⟩, fun h => ?_, fun h => ⟨⟨i + 1, ?_⟩, AV.int_inj' (wr_succ i (by omega)), by dsimp only; omega⟩⟩
    · rw [hf, if_pos (of_decide_eq_true h)]
    · rw [hf, if_neg (of_decide_eq_false h)]
  · have hc := of_decide_eq_false hc
    rw [hf, show l.length - i = 0 by omega]
    rfl
set_option maxHeartbeats 4000000 in
theorem walk21 {Phi : Nat → Option Ctr} (l : List Rc) (k a : Int) (hl : l.length ≤ 1000) : evC Phi (I21 l k a) rc21 ⟨initS [.lst [.int .u8 0, .nil] (recs l), .int .u8 k, .int .i64 a], initM false []⟩ (kRet rv21 (.int .i64 (fdI l k a)) false []) := by
  simp (config := {maxSteps := 2000000, contextual := true}) only [rc21, initM_f, rv21, evC_seq, evC_region, eo_mov, evG_no, Option.getD_some, ev_mov, av_c, gv_int, bind1_some', un1_mov, goOp_some, put_q, evOps_nil, kEnd_at, hasG_no, hasG_nil, kEndB_f, kSeq_n, evC_block, evC_loop, I21_0, L21aS, S21a, SL_ge, lkL_cons, upd_at, Nat.reduceEqDiff, ↓reduceIte, initS_at, List.getD_cons_zero, lkS_lst, List.getD_cons_succ, lkS_int, lkL_nil, List.nil_append, lkM_nil, applyL_nil, SL_ge0, leL_cons, leV1_lst, leV1_int, leL_nil, and_true, true_and, leM_nil, L21aR, SL_st, av_t, lookL_cons, gv_lst, eo_len, ev_len, len_lst, recs_len, eo_cmp, ev_cmp, cmp2_some, cmp_lss, toR_some', evC_cond, evC_skip, cmp_geq, gv_bool, evG_yes, pathG_bool, gG_some, guardR_q, guardL_nil, eo_iaddrS, ev_iaddrS, gv_gd, List.contains_cons, List.contains_nil, Bool.or_false, List.all_cons, beq_self_eq_true, List.all_nil, Bool.and_self, gvB_true, bind2_some', iaddrS_lst, List.length_cons, List.length_nil, Nat.zero_add, Nat.reduceAdd, iasB_true, Int.toNat_natCast, guardL_cons, pathP_cons, boolOf_bool, pathP_nil, eo_faddr, ev_faddr, faddr_ep, Nat.add_zero, eo_load, ev_load, load_ep, valOf_one, knowL_nil, askL_nil, askL_cons, evC_exit, kSeq_e, kLoop_e, kBlk_e, kBlkB_t, evC_ret, kRet_r, retOK_eq, retL_cons, retV_t, retL_nil, consO_some, lkR_one, lk1_int, lkT_f, retOK_f, rtO_some, resV_one, ar_t, condK_bool, getE_rec, List.getElem?_cons_zero, ldV_some, cmp_eql, eo_pick, ev_pick, pick3_some, pickV_bool, Bool.cond_false_right, hasG_yes, kEndB_t, ungdS_at, ungd_int, kBlk_r, kSeq_r, kLoop_r, kBlk_n, eo_arith, ev_arith, arith_add, kLoop_n, ungd_lst, ungd_bool, knowL_cons, true_imp_iff]
  refine ⟨⟨0, by omega, fun j hj => by omega⟩, rfl, ?_⟩
  rintro ⟨i, hi, hf⟩ _
  dsimp only
  refine ⟨fun hc => ?_, fun hc => ?_⟩
  · have hc := of_decide_eq_true hc
    refine ⟨fun _ => ⟨by omega, by omega⟩, fun h => ?_, fun h => ⟨⟨i + 1, by omega, ?_⟩, AV.int_inj' (wr_succ i (by omega)), by dsimp only; omega⟩⟩
    · simp only [Bool.and_eq_true, decide_eq_true_eq] at h
      rw [fdI, fdN_at l k _ _ i (by omega) (by omega) (fun m h1 h2 => hf m h2 (by omega)) h.2]
    · intro j hj ha
      by_cases e : j = i
      · subst e
        intro h3
        rw [decide_eq_true ha, decide_eq_true h3] at h
        cases h
      · exact hf j (by omega) ha
  · have hc := of_decide_eq_false hc
    rw [fdI, fdN_no l k _ _ fun m h1 h2 => hf m (by omega) (by omega)]
set_option maxHeartbeats 4000000 in
theorem walk22 {Phi : Nat → Option Ctr} (P34 : Phi 34 = some CCl) (l : List Rc) (hb : ∀ r ∈ l, r.d.length ≤ 1000) (hl : l.length ≤ 1000) : evC Phi (I22 l) rc22 ⟨initS [.lst [.int .u8 0, .nil] (recs l)], initM false []⟩ (kRet rv22 (.lst [.int .u8 0, .nil] (recs l)) false []) := by
  simp (config := {maxSteps := 2000000, contextual := true}) only [rc22, initM_f, rv22, evC_seq, evC_region, eo_mov, evG_no, Option.getD_some, ev_mov, av_c, gv_nil, bind1_some', un1_mov, goOp_some, put_q, evOps_nil, kEnd_at, hasG_no, hasG_nil, kEndB_f, kSeq_n, gv_int, evC_block, evC_loop, I22_0, L22aS, S22a, SL_ge, lkL_cons, upd_at, Nat.reduceEqDiff, ↓reduceIte, initS_at, List.getD_cons_zero, lkS_lst, lkS_nil_vw, lookM_cons, nlK_buf, lkS_int, lkL_nil, List.nil_append, List.cons_append, lkM_cons, lkB_buf, lkM_nil, applyL_nls, nlV_nil, Nat.reduceLeDiff, decide_true, List.length_cons, List.length_nil, Nat.zero_add, Nat.reduceAdd, Nat.reduceLT, Bool.and_self, nlP_t, applyL_nil, SL_ge0, leL_cons, killS_at, kill3_lst, leV1_lst, leV1_vw, kill3_int, leV1_int, leL_nil, and_true, true_and, leM_cons, updM_at, leB_buf, leM_nil, L22aR, SL_st, av_t, lookL_cons, gv_lst, eo_len, ev_len, len_lst, recs_len, eo_cmp, ev_cmp, cmp2_some, cmp_lss, toR_some', evC_cond, evC_skip, evC_draw, preK_some, needD_mov, preB_f, needD_iaddrS, needD_faddr, needD_load, needD_call, needD_build, needD_bslice, needD_appD, preB_t, Nat.reduceMul, preK_nil, evD_cons, kill3_vw, gv_vw, evDk_some, newOK_none, ev_iaddrS, bind2_some', iaddrS_lst, beq_self_eq_true, iasB_true, Int.toNat_natCast, ev_faddr, gv_ep, faddr_ep, Nat.add_zero, ev_load, load_ep, valOf_one, pairD_cons, pairOK_eq, newMen_none, List.contains_cons, Nat.reduceBEq, List.contains_nil, Bool.or_false, Bool.or_true, pairB_t, and_self, pairB_f, chkR_eq, pslots_ep, optN_some, disjN_nil, pslots_vw, List.map_nil, newI_none, pairD_nil, askL_nil, askL_cons, pslots_int, pslots_lst, evC_exit, kSeq_e, kLoop_e, kBlk_e, kBlkB_t, evC_ret, kRet_r, retOK_eq, retL_cons, retV_t, retL_nil, consO_some, lkR_one, lk1_vw_lst, lkT_f, applyL_frz, frzQ_buf, frzP_t, retOK_f, frzSl_at, frz3_vw, rtO_some, resV_one, knowL_nil, ar_t, condK_bool, getE_rec, List.getElem?_cons_zero, ldV_some, List.getElem?_cons_succ, ev_call, P34, CCl, avs_cons, avs_nil, clO_some, call_pure, lends_cons, lend1_lst, lends_nil, consL_some', callN_some, decU_u8s, u8s_len, callP_some, c2_lst, flat2_lst, backOK_nil, clQ_t, ev_build, fillA_cons, faK_some, cells_int, faC_some, setC_cons, List.set_cons_zero, setC_nil, cells_lst, List.set_cons_succ, fillA_nil, blO_some, ev_bslice, List.replicate_succ, List.replicate_zero, fillS_cons, gv_agg, fsK_some, cells_agg, fsC_some, List.all_cons, c0_int, c0_lst, List.all_nil, fillS_nil, blS_some, ev_appD, appDR_vw, ysOf_lst, killM_at, killO_some, killB_buf, appDV_buf, appDK_some, recs_snoc, Rc.eta, newOK_some, deadL_dead, deadL_nil, liveB_buf, put_nd, evD_nil, kBlk_n, eo_arith, ev_arith, arith_add, kLoop_n, lkS_vw_vw, renK_f, killO_none, applyL_ren, renQ_buf, Bool.not_false, renP_t, renSl_at, ren3_lst, ren3_vw, ren3_int, knowD_cons, knowD_nil, knowL_cons, true_imp_iff, newMen_some, noMen_eq, noB_none, kill3_agg, List.map_cons, kill0_int, kill0_lst, kill3_ep, pslots_agg]
  refine ⟨⟨0, by omega⟩, ⟨rfl, rfl⟩, ?_⟩
  rintro ⟨i, hi⟩ _
  dsimp only
  refine ⟨fun hc => ?_, fun hc => ?_⟩
  · have hc := of_decide_eq_true hc
    have h1 : (l.take i).length ≤ 1000 := by rw [List.length_take]; omega
    have h2 := hb _ (getD_mem l i (by omega))
    exact ⟨⟨by omega, by omega⟩, ⟨by omega, by omega⟩, by omega, by omega, by omega, ⟨i + 1, by omega⟩, ⟨AV.int_inj' (wr_succ i (by omega)), by rw [take_snoc l r0 i (by omega)]⟩, by dsimp only; omega⟩
  · have hc := of_decide_eq_false hc
    rw [List.take_of_length_le (by omega)]
end Go.Proofs.Ytklbnccpeeehkaa

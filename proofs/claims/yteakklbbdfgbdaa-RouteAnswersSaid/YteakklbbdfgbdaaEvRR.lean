/- A part of the proof: symbolic evaluation of the program's functions, proved sound against the model; no condition. -/
import Derived.Test.YteakklbbdfgbdaaEvRD
namespace Go.Proofs.Yteakklbbdfgbdaa
open Go Go.RowKit Go.Ev
set_option linter.unusedSimpArgs false
set_option linter.unusedVariables false
set_option maxRecDepth 20000
/-- A network as the generator makes it. -/
structure WfN (m : Nt) : Prop where
  N : 1 ≤ m.N ∧ m.N ≤ 16
  b : m.bs.length ≤ 30
  e : m.es.length ≤ 30
def DNw : Ctr := .ext true (Nt × Int) fun cs xs => match cs, xs with
  | [.lst zz es, .int .i64 a], [] => some (((zz = [.int .u8 0] ∧ es = u8s (decU es)) ∧ es.length ≤ 100000) ∧ 0 ≤ a ∧ Okb (decU es), fun q => (WfN q.1 ∧ 0 ≤ q.2, q.1.av, [.lst [.int .u8 0] (u8s (decU es)), .int .i64 q.2]))
  | _, _ => none
def CAw : Ctr := .mk false fun _ xs => match xs with
  | [] => some (True, .bool true, [])
  | _ => none
theorem brs_set (l : List Br) (i : Nat) (a x y : Int) : (brs l).set i [.int .u8 a, .int .i64 x, .int .i64 y] = brs (l.set i ⟨a, x, y⟩) := by
  simp [brs, List.map_set, Br.cs]
theorem eps_set (l : List Ep) (i : Nat) (a x y : Int) : (eps l).set i [.int .u8 a, .int .u8 x, .int .i64 y] = eps (l.set i ⟨a, x, y⟩) := by
  simp [eps, List.map_set, Ep.cs]
theorem brs_snoc' (l : List Br) (a x y : Int) : brs l ++ [[AV.int .u8 a, .int .i64 x, .int .i64 y]] = brs (l ++ [⟨a, x, y⟩]) := brs_snoc l a x y
set_option maxHeartbeats 4000000 in
theorem walk9 {Phi : Nat → Option Ctr} (P18 : Phi 18 = some CNx) (P20 : Phi 20 = some CPt)  : evC Phi (noI) rc9 ⟨initS [], initM false []⟩ (kRet rv9 (.bool true) false []) := by
  simp (config := {maxSteps := 2000000, contextual := true}) only [rc9, initM_f, rv9, evC_seq, evC_region, eo_mov, evG_no, Option.getD_some, ev_mov, av_c, gv_bool, bind1_some', un1_mov, goOp_some, put_q, evOps_nil, kEnd_at, hasG_no, hasG_nil, kEndB_f, kSeq_n, eo_build, ev_build, fillA_cons, gv_int, faK_some, cells_int, faC_some, Nat.zero_add, List.length_cons, List.length_nil, Nat.reduceAdd, Nat.reduceLeDiff, ↓reduceIte, setC_cons, List.set_cons_zero, setC_nil, List.set_cons_succ, fillA_nil, blO_some, eo_bslice, vwsG_cons, ar_t, upd_at, Nat.reduceEqDiff, vws1_agg, vwsL_cons, vws0_int, vwsL_nil, List.nil_append, vwsG_nil, frzL_nil, goF_eq, ev_bslice, List.replicate_succ, List.replicate_zero, fillS_cons, av_t, gv_agg, fsK_some, cells_agg, fsC_some, Nat.reduceLT, List.all_cons, c0_int, List.all_nil, Bool.and_self, and_self, fillS_nil, blS_some, gv_lst, cells_lst, eo_alloc, ev_alloc, Nat.mul_one, put_n, killB_cells, List.map_cons, kill0_int, kill0_nil, List.map_nil, eo_store, killS_at, kill3_agg, kill0_lst, vwsT_ptr, Option.getD_none, ev_store, gv_ptr, bind2_some', store_ptr, updM_at, stB_cells, decide_true, stC_true, put_s, liveB_cells, eo_load, ev_load, load_ptr, ldB_cells, valOf_agg, valB_true, List.drop_zero, List.take_succ_cons, List.take_zero, ldV_some, eo_call, P18, CNx, evCl_mk, ev_call, avs_cons, avs_nil, consO_some, clE_some, callE_pure, lends_cons, lend1_agg, lendC_cons, lendA_int, lendA_lst, lendC_nil, consL_some', aggL_some, lend1_int, lends_nil, callN_some, true_and, callP_some, c2_tup, c1_int, flat2_tup, flat1_int, backOK_nil, clQ_t, gv_tup, eo_extract, ev_extract, un1_extract, List.getElem?_cons_zero, toR_some', List.getElem?_cons_succ, P20, CPt, c1_lst, flat1_lst, Bool.and_true, eo_cmp, ev_cmp, cmp2_some, cmp_eql, evG_yes, pathG_bool, gG_some, guardR_q, guardL_nil, gv_gd, List.contains_cons, List.contains_nil, Bool.or_false, beq_self_eq_true, gvB_true, eo_pick, ev_pick, pick3_some, pickV_bool, Bool.cond_false_right, eo_len, ev_len, len_lst, i64s_len, eo_iaddrS, ev_iaddrS, iaddrS_lst, iasB_true, Int.reduceLE, Int.reduceToNat, guardL_cons, pathP_cons, boolOf_bool, pathP_nil, and_true, load_ep, getE_i64, valOf_one, hasG_yes, kEndB_t, evC_ret, kRet_r, retOK_eq, retL_cons, retV_t, ungdS_at, ungd_bool, retL_nil, lkR_one, lk1_bool, lkT_f, applyL_nil, retOK_f, rtO_some, resV_one, leV1_bool, knowL_nil, askL_nil, askL_cons]
  have e1 : (decBr [[AV.int IntKind.u8 9, AV.int IntKind.i64 0, AV.int IntKind.i64 1], [AV.int IntKind.u8 10, AV.int IntKind.i64 1, AV.int IntKind.i64 2], [AV.int IntKind.u8 11, AV.int IntKind.i64 0, AV.int IntKind.i64 2]]) = [⟨9, 0, 1⟩, ⟨10, 1, 2⟩, ⟨11, 0, 2⟩] := rfl
  have e2 : decEp [[AV.int IntKind.u8 5, AV.int IntKind.u8 20, AV.int IntKind.i64 2]] = [⟨5, 20, 2⟩] := rfl
  rw [e1, e2]
  have v1 : nxE ⟨3, [⟨9, 0, 1⟩, ⟨10, 1, 2⟩, ⟨11, 0, 2⟩], [⟨5, 20, 2⟩]⟩ 0 5 = 0 := by decide
  have v2 : nxA ⟨3, [⟨9, 0, 1⟩, ⟨10, 1, 2⟩, ⟨11, 0, 2⟩], [⟨5, 20, 2⟩]⟩ 0 5 = 11 := by decide
  have v3 : nxI ⟨3, [⟨9, 0, 1⟩, ⟨10, 1, 2⟩, ⟨11, 0, 2⟩], [⟨5, 20, 2⟩]⟩ 0 5 = 2 := by decide
  have v4 : ptL ⟨3, [⟨9, 0, 1⟩, ⟨10, 1, 2⟩, ⟨11, 0, 2⟩], [⟨5, 20, 2⟩]⟩ 0 5 = [2] := by decide
  rw [v1, v2, v3, v4]
  refine ⟨⟨rfl, rfl⟩, ⟨rfl, rfl⟩, ?_⟩
  simp
end Go.Proofs.Yteakklbbdfgbdaa

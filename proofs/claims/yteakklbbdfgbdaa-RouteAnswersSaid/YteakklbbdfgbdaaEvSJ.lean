/- A part of the proof: symbolic evaluation of the program's functions, proved sound against the model; no condition. -/
import Derived.Test.YteakklbbdfgbdaaEvSH
namespace Go.Proofs.Yteakklbbdfgbdaa
open Go Go.RowKit Go.Ev
set_option linter.unusedSimpArgs false
set_option linter.unusedVariables false
set_option maxRecDepth 20000
abbrev n0 : Nt := ⟨0, [], []⟩
def nts (l : List Nt) : List (List AV) := l.map fun m => [.int .i64 m.N, .lst [.int .u8 0, .int .i64 0, .int .i64 0] (brs m.bs), .lst [.int .u8 0, .int .u8 0, .int .i64 0] (eps m.es)]
theorem nts_len (l : List Nt) : (nts l).length = l.length := by simp [nts]
theorem getE_nt (l : List Nt) (i : Nat) (h : decide ((i : Int) < (l.length : Int)) = true) : getE [.int .i64 0, .nil, .nil] (nts l) i = [.int .i64 (l.getD i n0).N, .lst [.int .u8 0, .int .i64 0, .int .i64 0] (brs (l.getD i n0).bs), .lst [.int .u8 0, .int .u8 0, .int .i64 0] (eps (l.getD i n0).es)] := by
  have h : i < l.length := by have := of_decide_eq_true h; omega
  simp only [getE, nts, List.getD_eq_getElem?_getD, List.getElem?_map, List.getElem?_eq_getElem h]
  rfl
/-- The networks of a law, and the one that it looks at. -/
structure N3 where
  w : List Nt
  i : Nat
  hi : i < w.length
  hw : w.length = 3
def N3.m (c : N3) : Nt := c.w.getD c.i n0
structure K3a (L : List Int) (ga gb gd : Int) where
  a : Int
  w : List Nt
  i : Nat
  ha : 0 ≤ a
  hw : w.length = 3
  hi : i ≤ w.length
def S3a (L : List Int) (ga gb gd : Int) (p : K3a L ga gb gd) : SL := ⟨[(2, .int .i64 ga), (3, .int .i64 gb), (4, .int .u8 gd), (11, .ptr 3072 0), (55, .vw 3584 0 0 0), (56, .int .i64 p.w.length), (57, .int .i64 p.i)], [(3072, .cells [.lst [.int .u8 0] (u8s (L.take 120)), .int .i64 p.a]), (3584, .buf 26 [.int .i64 0, .nil, .nil] (nts p.w))]⟩
abbrev L3a (L : List Int) (ga gb gd : Int) : LI := ⟨K3a L ga gb gd, S3a L ga gb gd, fun p => p.w.length - p.i, fun p q => True⟩
theorem L3aS (L : List Int) (ga gb gd : Int) : (L3a L ga gb gd).S = S3a L ga gb gd := rfl
theorem L3aM (L : List Int) (ga gb gd : Int) (p : K3a L ga gb gd) : (L3a L ga gb gd).μ p = p.w.length - p.i := rfl
theorem L3aR (L : List Int) (ga gb gd : Int) (p q : K3a L ga gb gd) : (L3a L ga gb gd).R p q = (True) := rfl
structure K3b (L : List Int) (ga gb gd : Int) where
  c : N3
  a : Int
  x : Int
  k : Nat
  ha : 0 ≤ a
  hk : k ≤ c.m.bs.length
def S3b (L : List Int) (ga gb gd : Int) (p : K3b L ga gb gd) : SL := ⟨[(2, .int .i64 ga), (3, .int .i64 gb), (4, .int .u8 gd), (11, .ptr 3072 0), (55, .vw 3584 0 0 0), (56, .int .i64 p.c.w.length), (57, .int .i64 p.c.i), (15, .int .i64 p.x), (164, .lst [.int .u8 0, .int .i64 0, .int .i64 0] (brs p.c.m.bs)), (165, .int .i64 p.c.m.bs.length), (166, .int .i64 p.k)], [(3072, .cells [.lst [.int .u8 0] (u8s (L.take 120)), .int .i64 p.a]), (3584, .buf 26 [.int .i64 0, .nil, .nil] (nts p.c.w))]⟩
abbrev L3b (L : List Int) (ga gb gd : Int) : LI := ⟨K3b L ga gb gd, S3b L ga gb gd, fun p => p.c.m.bs.length - p.k, fun p q => q.c = p.c⟩
theorem L3bS (L : List Int) (ga gb gd : Int) : (L3b L ga gb gd).S = S3b L ga gb gd := rfl
theorem L3bM (L : List Int) (ga gb gd : Int) (p : K3b L ga gb gd) : (L3b L ga gb gd).μ p = p.c.m.bs.length - p.k := rfl
theorem L3bR (L : List Int) (ga gb gd : Int) (p q : K3b L ga gb gd) : (L3b L ga gb gd).R p q = (q.c = p.c) := rfl
structure K3c (L : List Int) (ga gb gd : Int) where
  c : N3
  a : Int
  x : Int
  y : Int
  ha : 0 ≤ a
def S3c (L : List Int) (ga gb gd : Int) (p : K3c L ga gb gd) : SL := ⟨[(2, .int .i64 ga), (3, .int .i64 gb), (4, .int .u8 gd), (11, .ptr 3072 0), (55, .vw 3584 0 0 0), (56, .int .i64 p.c.w.length), (57, .int .i64 p.c.i), (14, .ptr 960 0), (15, .int .i64 p.x), (16, .int .i64 p.y)], [(3072, .cells [.lst [.int .u8 0] (u8s (L.take 120)), .int .i64 p.a]), (3584, .buf 26 [.int .i64 0, .nil, .nil] (nts p.c.w)), (960, .cells [.int .i64 p.c.m.N, .lst [.int .u8 0, .int .i64 0, .int .i64 0] (brs p.c.m.bs), .lst [.int .u8 0, .int .u8 0, .int .i64 0] (eps p.c.m.es)])]⟩
abbrev L3c (L : List Int) (ga gb gd : Int) : LI := ⟨K3c L ga gb gd, S3c L ga gb gd, fun p => 0, fun p q => q.c = p.c⟩
theorem L3cS (L : List Int) (ga gb gd : Int) : (L3c L ga gb gd).S = S3c L ga gb gd := rfl
theorem L3cM (L : List Int) (ga gb gd : Int) (p : K3c L ga gb gd) : (L3c L ga gb gd).μ p = 0 := rfl
theorem L3cR (L : List Int) (ga gb gd : Int) (p q : K3c L ga gb gd) : (L3c L ga gb gd).R p q = (q.c = p.c) := rfl
structure K3d (L : List Int) (ga gb gd : Int) where
  c : N3
  a : Int
  x : Int
  y : Int
  d : Int
  ha : 0 ≤ a
def S3d (L : List Int) (ga gb gd : Int) (p : K3d L ga gb gd) : SL := ⟨[(2, .int .i64 ga), (3, .int .i64 gb), (4, .int .u8 gd), (11, .ptr 3072 0), (55, .vw 3584 0 0 0), (56, .int .i64 p.c.w.length), (57, .int .i64 p.c.i), (14, .ptr 960 0), (15, .int .i64 p.x), (16, .int .i64 p.y), (17, .int .u8 p.d)], [(3072, .cells [.lst [.int .u8 0] (u8s (L.take 120)), .int .i64 p.a]), (3584, .buf 26 [.int .i64 0, .nil, .nil] (nts p.c.w)), (960, .cells [.int .i64 p.c.m.N, .lst [.int .u8 0, .int .i64 0, .int .i64 0] (brs p.c.m.bs), .lst [.int .u8 0, .int .u8 0, .int .i64 0] (eps p.c.m.es)])]⟩
abbrev L3d (L : List Int) (ga gb gd : Int) : LI := ⟨K3d L ga gb gd, S3d L ga gb gd, fun p => 0, fun p q => q.c = p.c⟩
theorem L3dS (L : List Int) (ga gb gd : Int) : (L3d L ga gb gd).S = S3d L ga gb gd := rfl
theorem L3dM (L : List Int) (ga gb gd : Int) (p : K3d L ga gb gd) : (L3d L ga gb gd).μ p = 0 := rfl
theorem L3dR (L : List Int) (ga gb gd : Int) (p q : K3d L ga gb gd) : (L3d L ga gb gd).R p q = (q.c = p.c) := rfl
def I3 (L : List Int) (ga gb gd : Int) : Nat → LI := fun n => if n = 0 then L3a L ga gb gd else if n = 1 then L3b L ga gb gd else if n = 2 then L3c L ga gb gd else L3d L ga gb gd
theorem I3_0 (L : List Int) (ga gb gd : Int) : I3 L ga gb gd 0 = L3a L ga gb gd := rfl
theorem I3_1 (L : List Int) (ga gb gd : Int) : I3 L ga gb gd 1 = L3b L ga gb gd := rfl
theorem I3_2 (L : List Int) (ga gb gd : Int) : I3 L ga gb gd 2 = L3c L ga gb gd := rfl
theorem I3_3 (L : List Int) (ga gb gd : Int) : I3 L ga gb gd 3 = L3d L ga gb gd := rfl
set_option maxHeartbeats 4000000 in
theorem walk3 {Phi : Nat → Option Ctr} (P9 : Phi 9 = some CAw) (P10 : Phi 10 = some DCo) (P11 : Phi 11 = some DNw) (P12 : Phi 12 = some DOd) (P13 : Phi 13 = some DNf) (P14 : Phi 14 = some CDi) (P15 : Phi 15 = some CDi) (P16 : Phi 16 = some CVl) (P17 : Phi 17 = some CVl) (P18 : Phi 18 = some CNx) (P19 : Phi 19 = some CNx) (P20 : Phi 20 = some CPt) (P21 : Phi 21 = some CPt) (P22 : Phi 22 = some CIn) (P23 : Phi 23 = some CSd) (P24 : Phi 24 = some CSd) (L : List Int) (R : Nt) (ga gb gd : Int) (hL : Okb L) : evC Phi (I3 L ga gb gd) rc3 ⟨initS [.lst [.int .u8 0] (u8s L), R.av, .int .i64 ga, .int .i64 gb, .int .u8 gd], initM false []⟩ (kRet rv3 (.bool true) false []) := by
  simp (config := {maxSteps := 2000000, contextual := true}) only [rc3, Nt.av, initM_f, rv3, evC_seq, evC_region, eo_box, evG_no, Option.getD_some, ev_box, av_t, initS_at, List.getD_cons_succ, List.getD_cons_zero, gv_agg, bind1_some', boxR_eq, cells_agg, List.length_cons, List.length_nil, Nat.zero_add, Nat.reduceAdd, ↓reduceIte, bxO_some, Nat.reduceMul, goOp_some, put_n, killB_cells, List.map_cons, kill0_int, kill0_lst, List.map_nil, eo_mov, ev_mov, av_c, gv_bool, un1_mov, put_q, evOps_nil, kEnd_at, hasG_no, hasG_nil, kEndB_f, kSeq_n, eo_call, P9, CAw, evCl_mk, ev_call, avs_nil, clE_some, callE_pure, lends_nil, callN_some, callP_some, List.nil_append, c2_bool, flat2_bool, backOK_nil, Bool.and_self, clQ_t, eo_not, ev_not, upd_at, un1_not, Bool.not_true, evC_cond, evC_ret, kSeq_r, kRet_r, retOK_eq, retL_cons, retV_t, retL_nil, consO_some, lkR_one, lk1_bool, lkT_f, applyL_nil, retOK_f, rtO_some, resV_one, leV1_bool, and_true, knowL_nil, askL_nil, evC_skip, eo_faddr, ev_faddr, Nat.reduceEqDiff, gv_ptr, faddr_ptr, eo_load, ev_load, load_ptr, updM_at, ldB_cells, valOf_one, List.getElem?_cons_succ, List.getElem?_cons_zero, ldV_some, eo_len, ev_len, gv_lst, len_lst, brs_len, eo_cmp, ev_cmp, gv_int, cmp2_some, cmp_gtr, toR_some', evG_yes, pathG_bool, gG_some, guardR_q, guardL_nil, gv_gd, List.contains_cons, List.contains_nil, Bool.or_false, List.all_cons, beq_self_eq_true, List.all_nil, gvB_true, eps_len, eo_pick, ev_pick, pick3_some, pickV_bool, Bool.cond_true_left, hasG_yes, kEndB_t, and_self, ungdS_at, killS_at, kill3_lst, ungd_lst, P10, DCo, evCl_ext, avs_cons, evXV_some, evX_f, lends_cons, lend1_lst, lend1_int, consL_some', evXA_some, decU_u8s, Int.reduceLE, Int.reduceToNat, evXN_some, evXP_eq, wfX2_fp, c0_lst, c0_int, frs2_fp, idsOK_eq, nodupN_cons, Bool.not_false, nodupN_nil, Nat.reduceLT, decide_true, flatX2_fp, flat0_lst, flat0_int, Bool.and_true, flatL_cells, flatL_nil, evOpsk_at, backX_nil, putX_eq, unfr2_fp, Nat.add_zero, addF_cons, addF_nil, putY_eq, P11, DNw, evX_t, evXC_cells, evXB_some, u8s_len, true_and, evXM_some, evXS_eq, wfX2_agg, wfX0_int, wfX0_lst, frs2_agg, frsL_cons, frs0_int, frs0_lst, frsL_nil, flatX2_agg, flatX0_int, flatX0_lst, Bool.true_and, eo_alloc, ev_alloc, eo_store, setB_eq, unfr2_agg, unfr0_int, unfr0_lst, kill0_nil, ar_t, kill3_agg, vwsT_ptr, frzL_nil, goF_eq, Option.getD_none, ev_store, bind2_some', store_ptr, stB_cells, Nat.reduceLeDiff, stC_true, setC_cons, List.set_cons_zero, List.set_cons_succ, setC_nil, put_s, liveB_cells, evC_draw, preK_some, needD_load, preB_f, needD_mov, needD_call, preB_t, needD_bsliceO, needD_len, preK_nil, evD_cons, kill3_ptr, killM_at, killO_some, valOf_agg, valB_true, List.drop_zero, List.take_succ_cons, List.take_zero, evDk_some, newOK_none, P12, DOd, callE_state, callC_cells, lend1_agg, lendC_cons, lendA_int, lendA_lst, lendC_nil, aggL_some, callB_some, decBr_brs, decEp_eps, Nt.eta, callD_t, callS_some, c2_agg, flat2_agg, clU_t, put_u, ungd_ptr, ev_bsliceO, List.replicate_succ, List.replicate_zero, fillS_cons, fsK_some, fsC_some, fillS_nil, blO2_some, newOK_some, deadL_nil, killB_buf, liveB_buf, gv_vw, len_vw, lenV_buf, evD_nil, evC_block, evC_loop, I3_0, L3aS, S3a, SL_ge, lkL_cons, kill3_int, ungd_int, lkS_int, lkS_ptr, lkS_vw_vw, renK_t, lkL_nil, lkM_cons, lkB_cells, lkC_cons, lkC0_lst, lkC0_int, lkC_nil, lkB_buf, lkM_nil, SL_ge0, leL_cons, leV1_int, leV1_ptr, leV1_vw, leL_nil, leM_cons, leB_cells, leAs_cons, leA_lst, leA_int, leAs_nil, leB_buf, leM_nil, L3aR, SL_st, lookL_cons, cmp_lss, eo_iaddrS, ev_iaddrS, iaddrS_vw, lookM_cons, iasV_buf, iasW_t, nts_len, Int.toNat_natCast, gv_bp, load_bp, ldP_buf, knowL_cons, askL_cons, evC_exit, kSeq_e, kLoop_e, kBlk_e, kBlkB_t, condK_bool, getE_nt, ldQ_t, needD_faddr, P13, DNf, c2_int, flat2_int, cmp_eql, evC_cut, I3_2, L3cS, S3c, kill3_vw, L3cR, eo_arith, ev_arith, arith_add, eo_conv, ev_conv, un1_conv, I3_3, L3dS, S3d, L3dR, P14, CDi, c2_tup, c1_int, flat2_tup, flat1_int, gv_tup, eo_extract, ev_extract, un1_extract, P15, needD_cmp, needD_pick, P16, CVl, P17, cmp_neq, Bool.cond_false_right, kBlk_r, kLoop_r, P18, CNx, P19, P20, CPt, c1_lst, flat1_lst, P21, eo_call_g, P22, CIn, decI_i64s, guardL_cons, pathP_cons, boolOf_bool, pathP_nil, imp_self, I3_1, L3bS, S3b, ungd_vw, lkS_lst, leV1_lst, L3bR, iaddrS_lst, iasB_true, gv_ep, load_ep, getE_br, P23, CSd, Br.eta, c1_bool, flat1_bool, P24, cmp_neqB, kBlk_n, kLoop_n, ungd_bool, Bool.false_eq_true, false_imp_iff, true_imp_iff, knowD_cons, knowD_nil, pairD_cons, pairOK_eq, newMen_none, Nat.reduceBEq, Bool.or_true, pairB_t, pairD_nil, pairB_f, chkR_eq, pslots_gd, optN_some, disjN_cons, disjN_nil, newI_none, pslots_agg, pslots_int, List.cons_append, pslots_ptr, implies_true, pslots_vw, newI_some, newMen_some, noMen_eq, noB_none]
  intro _ _ _
  have hl : (L.take 120).length ≤ 100000 := by rw [List.length_take]; omega
  have hO := hL.take 120
  generalize L.take 120 = M at *
  refine ⟨⟨hl, hO⟩, ?_⟩
  rintro ⟨m, a⟩ ⟨W, ha⟩
  dsimp only at *
  have hb := W.b
  have he := W.e
  refine ⟨⟨⟨hl, hO⟩, by omega, by omega⟩, ⟨(odM M m a).2, [m, (odM M m a).1, R], 0, odA_nn ha, rfl, Nat.zero_le _⟩, ⟨⟨rfl, rfl⟩, rfl, rfl⟩, ?_⟩
  rintro ⟨a, w, i, ha, hw, hi⟩
  dsimp only
  intro hc
  have hc := of_decide_eq_true hc
  obtain ⟨c, hcw, hci⟩ : ∃ c : N3, c.w = w ∧ c.i = i := ⟨⟨w, i, by omega, hw⟩, rfl, rfl⟩
  subst hcw hci
  have hm : c.w.getD c.i n0 = c.m := rfl
  rw [hm]
  have a1 := cfA_nn ha (L := M) c.m.N
  have a2 := cfA_nn a1 (L := M) c.m.N
  have a3 := cfA_nn a2 (L := M) 6
  refine ⟨⟨by omega, by omega⟩, fun _ => ⟨by omega, ⟨hl, ha, hO⟩, ⟨hl, a1, hO⟩, ⟨hl, a2, hO⟩, fun _ => ⟨⟨c, cfA M (cfA M (cfA M a c.m.N) c.m.N) 6, ga, gb, a3⟩, ⟨⟨rfl, rfl, rfl, rfl⟩, rfl, rfl, rfl, rfl, rfl⟩, ?_⟩, fun _ => ⟨⟨c, cfA M (cfA M (cfA M a c.m.N) c.m.N) 6, cfV M a c.m.N, cfV M (cfA M a c.m.N) c.m.N, a3⟩, ⟨⟨rfl, rfl, rfl, rfl⟩, rfl, rfl, rfl, rfl, rfl⟩, ?_⟩⟩⟩
  all_goals
    rintro ⟨c2, b, x, y, hb2⟩ q
    dsimp only at q ⊢
    subst q
    have b1 := cfA_nn hb2 (L := M) 6
    have b2 := cfA_nn b1 (L := M) 6
    refine ⟨⟨hl, hb2, hO⟩, ⟨hl, b1, hO⟩, fun _ => ⟨⟨c2, cfA M (cfA M b 6) 6, x, y, gd, b2⟩, ⟨⟨rfl, rfl, rfl, rfl, rfl⟩, rfl, rfl, rfl, rfl, rfl⟩, ?_⟩, fun _ => ⟨⟨c2, cfA M (cfA M b 6) 6, x, y, IntKind.u8.wrap (IntKind.i64.wrap (1 + cfV M b 6)), b2⟩, ⟨⟨rfl, rfl, rfl, rfl, rfl⟩, rfl, rfl, rfl, rfl, rfl⟩, ?_⟩⟩
  all_goals
    rintro ⟨c3, b, x, y, d, hb3⟩ q
    dsimp only at q ⊢
    subst q
    intro _
    refine ⟨⟨c3, b, x, 0, hb3, Nat.zero_le _⟩, ⟨⟨rfl, rfl, rfl, rfl, rfl, rfl⟩, rfl, rfl⟩, ?_⟩
    rintro ⟨c4, b, x, k, hb4, hk⟩ q
    dsimp only at q ⊢
    subst q
    have hci := c4.hi
    have hcw := c4.hw
    refine ⟨fun hk1 => ?_, fun hk1 => ?_⟩
    · have hk1 := of_decide_eq_true hk1
      exact ⟨⟨by omega, by omega⟩, fun _ => ⟨⟨c4, b, x, k + 1, hb4, by omega⟩, ⟨⟨rfl, rfl, rfl, rfl, rfl, AV.int_inj' (wr_succ k (by omega))⟩, rfl, rfl⟩, rfl, by dsimp only; omega⟩⟩
    · exact ⟨⟨b, c4.w, c4.i + 1, hb4, c4.hw, by omega⟩, ⟨⟨rfl, AV.int_inj' (wr_succ c4.i (by omega))⟩, rfl, rfl⟩, by dsimp only; omega⟩
end Go.Proofs.Yteakklbbdfgbdaa

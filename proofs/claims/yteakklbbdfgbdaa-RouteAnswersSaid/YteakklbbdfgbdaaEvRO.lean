/- A part of the proof: symbolic evaluation of the program's functions, proved sound against the model; no condition. -/
import Derived.Test.YteakklbbdfgbdaaEvRD
namespace Go.Proofs.Yteakklbbdfgbdaa
open Go Go.RowKit Go.Ev
set_option linter.unusedSimpArgs false
set_option linter.unusedVariables false
set_option maxRecDepth 20000
/-- Is a bus in the range? (The closure of Valid.) -/
def CBu : Ctr := .mk false fun _ xs => match xs with
  | [.int .i64 x, .ep _ [.int .i64 n :: _] 0 0] => some (True, .bool (decide (0 ≤ x) && decide (x < n)), [])
  | _ => none
/-- The keys of the places, the last one first. -/
def kB (l : List Br) : List (List Int) := (l.flatMap fun b => [[b.l, b.ad], [b.r, b.ad]]).reverse
theorem kB_nil : kB [] = [] := rfl
theorem kB_snoc (l : List Br) (b : Br) : kB (l ++ [b]) = [b.r, b.ad] :: [b.l, b.ad] :: kB l := by simp [kB]
theorem mem_kB (l : List Br) (x a : Int) : [x, a] ∈ kB l ↔ tk l x a = true := by
  simp only [kB, List.mem_reverse, List.mem_flatMap, tk, List.any_eq_true, tk1, Bool.and_eq_true, Bool.or_eq_true, decide_eq_true_eq]
  refine ⟨fun ⟨b, hb, h⟩ => ⟨b, hb, ?_⟩, fun ⟨b, hb, h1, h2⟩ => ⟨b, hb, ?_⟩⟩
  · simp only [List.mem_cons, List.cons.injEq, and_true, List.not_mem_nil, or_false] at h
    rcases h with ⟨rfl, rfl⟩ | ⟨rfl, rfl⟩
    · exact ⟨rfl, .inl rfl⟩
    · exact ⟨rfl, .inr rfl⟩
  · subst h1
    rcases h2 with rfl | rfl <;> simp
def kE (bs : List Br) (es : List Ep) : List (List Int) := (es.map fun e => [e.bu, e.ad]).reverse ++ kB bs
theorem kE_nil (bs : List Br) : kE bs [] = kB bs := rfl
theorem kE_snoc (bs : List Br) (es : List Ep) (e : Ep) : kE bs (es ++ [e]) = [e.bu, e.ad] :: kE bs es := by simp [kE]
theorem mem_kE (bs : List Br) (es : List Ep) (x : Ep) : [x.bu, x.ad] ∈ kE bs es ↔ (tk bs x.bu x.ad = true ∨ es.any (pl1 x) = true) := by
  simp only [kE, List.mem_append, List.mem_reverse, List.mem_map, mem_kB, List.any_eq_true, pl1, Bool.and_eq_true, decide_eq_true_eq]
  constructor
  · rintro (⟨e, he, h⟩ | h)
    · simp only [List.cons.injEq, and_true] at h
      exact .inr ⟨e, he, h⟩
    · exact .inl h
  · rintro (h | ⟨e, he, h1, h2⟩)
    · exact .inr h
    · exact .inl ⟨e, he, by rw [h1, h2]⟩
def kI (es : List Ep) : List (List Int) := (es.map fun e => [e.id]).reverse
theorem kI_nil : kI [] = [] := rfl
theorem kI_snoc (es : List Ep) (e : Ep) : kI (es ++ [e]) = [e.id] :: kI es := by simp [kI]
theorem mem_kI (es : List Ep) (a : Int) : [a] ∈ kI es ↔ es.any (fun y => decide (y.id = a)) = true := by
  simp [kI]
set_option maxHeartbeats 4000000 in
theorem walk29 {Phi : Nat → Option Ctr} (x n : Int) (z cs : List AV) : evC Phi (noI) rc29 ⟨initS [.int .i64 x, .ep z [.int .i64 n :: cs] 0 0], initM false []⟩ (kRet rv29 (.bool (decide (0 ≤ x) && decide (x < n))) false []) := by
  simp (config := {maxSteps := 2000000}) only [rc29, initM_f, rv29, evC_seq, evC_region, eo_mov, evG_no, Option.getD_some, ev_mov, av_c, gv_bool, bind1_some', un1_mov, goOp_some, put_q, evOps_nil, kEnd_at, hasG_no, hasG_nil, kEndB_f, kSeq_n, av_t, upd_at, Nat.reduceEqDiff, ↓reduceIte, initS_at, List.getD_cons_zero, gv_int, eo_cmp, ev_cmp, cmp2_some, cmp_geq, toR_some', evG_yes, pathG_bool, gG_some, guardR_q, guardL_nil, eo_faddr, ev_faddr, List.getD_cons_succ, gv_ep, faddr_ep, Nat.add_zero, eo_load, ev_load, gv_gd, List.contains_cons, List.contains_nil, Bool.or_false, List.all_cons, beq_self_eq_true, List.all_nil, Bool.and_self, gvB_true, load_ep, getE_lit0, valOf_one, List.getElem?_cons_zero, ldV_some, cmp_lss, eo_pick, ev_pick, List.nil_append, pick3_some, pickV_bool, Bool.cond_false_right, hasG_yes, kEndB_t, evC_ret, kRet_r, retOK_eq, retL_cons, retV_t, ungdS_at, ungd_bool, retL_nil, consO_some, lkR_one, lk1_bool, lkT_f, applyL_nil, retOK_f, rtO_some, resV_one, leV1_bool, and_self, knowL_nil, askL_nil]
structure K16a (m : Nt) where
  i : Nat
  hi : i ≤ m.bs.length
  hn : brE m.N m.bs = brF m.N m.bs (m.bs.length - i) i
def S16a (m : Nt) (p : K16a m) : SL := ⟨[(1, .ep [.int .i64 m.N, .lst [.int .u8 0, .int .i64 0, .int .i64 0] (brs m.bs), .lst [.int .u8 0, .int .u8 0, .int .i64 0] (eps m.es)] [[.int .i64 m.N, .lst [.int .u8 0, .int .i64 0, .int .i64 0] (brs m.bs), .lst [.int .u8 0, .int .u8 0, .int .i64 0] (eps m.es)]] 0 0), (3, .ap 2048 0 0 0), (4, .ap 2112 0 0 0), (34, .lst [.int .u8 0, .int .i64 0, .int .i64 0] (brs m.bs)), (35, .int .i64 m.bs.length), (36, .int .i64 p.i)], [(2048, .clo 29 [.int .i64 m.N, .lst [.int .u8 0, .int .i64 0, .int .i64 0] (brs m.bs), .lst [.int .u8 0, .int .u8 0, .int .i64 0] (eps m.es)] [[.int .i64 m.N, .lst [.int .u8 0, .int .i64 0, .int .i64 0] (brs m.bs), .lst [.int .u8 0, .int .u8 0, .int .i64 0] (eps m.es)]] 0 0), (2112, .ms 2 (kB (m.bs.take p.i)))]⟩
abbrev L16a (m : Nt) : LI := ⟨K16a m, S16a m, fun p => m.bs.length - p.i, fun p q => True⟩
theorem L16aS (m : Nt) : (L16a m).S = S16a m := rfl
theorem L16aM (m : Nt) (p : K16a m) : (L16a m).μ p = m.bs.length - p.i := rfl
theorem L16aR (m : Nt) (p q : K16a m) : (L16a m).R p q = (True) := rfl
structure K16b (m : Nt) where
  i : Nat
  hi : i ≤ m.es.length
  hn : vl m = epE m.N m.bs m.es (m.es.length - i) i
def S16b (m : Nt) (p : K16b m) : SL := ⟨[(1, .ep [.int .i64 m.N, .lst [.int .u8 0, .int .i64 0, .int .i64 0] (brs m.bs), .lst [.int .u8 0, .int .u8 0, .int .i64 0] (eps m.es)] [[.int .i64 m.N, .lst [.int .u8 0, .int .i64 0, .int .i64 0] (brs m.bs), .lst [.int .u8 0, .int .u8 0, .int .i64 0] (eps m.es)]] 0 0), (3, .ap 2048 0 0 0), (4, .ap 2112 0 0 0), (9, .ap 5696 0 0 0), (90, .lst [.int .u8 0, .int .u8 0, .int .i64 0] (eps m.es)), (91, .int .i64 m.es.length), (92, .int .i64 p.i)], [(2048, .clo 29 [.int .i64 m.N, .lst [.int .u8 0, .int .i64 0, .int .i64 0] (brs m.bs), .lst [.int .u8 0, .int .u8 0, .int .i64 0] (eps m.es)] [[.int .i64 m.N, .lst [.int .u8 0, .int .i64 0, .int .i64 0] (brs m.bs), .lst [.int .u8 0, .int .u8 0, .int .i64 0] (eps m.es)]] 0 0), (2112, .ms 2 (kE m.bs (m.es.take p.i))), (5696, .ms 0 (kI (m.es.take p.i)))]⟩
abbrev L16b (m : Nt) : LI := ⟨K16b m, S16b m, fun p => m.es.length - p.i, fun p q => True⟩
theorem L16bS (m : Nt) : (L16b m).S = S16b m := rfl
theorem L16bM (m : Nt) (p : K16b m) : (L16b m).μ p = m.es.length - p.i := rfl
theorem L16bR (m : Nt) (p q : K16b m) : (L16b m).R p q = (True) := rfl
def I16 (m : Nt) : Nat → LI := fun n => if n = 0 then L16a m else L16b m
theorem I16_0 (m : Nt) : I16 m 0 = L16a m := rfl
theorem I16_1 (m : Nt) : I16 m 1 = L16b m := rfl
set_option maxHeartbeats 4000000 in
theorem walk16 {Phi : Nat → Option Ctr} (P29 : Phi 29 = some CBu) (P30 : Phi 30 = some CAd) (m : Nt) : evC Phi (I16 m) rc16 ⟨initS [m.av], initM false []⟩ (kRet rv16 (.int .i64 (vl m)) false []) := by
  simp (config := {maxSteps := 2000000, contextual := true}) only [rc16, Nt.av, initM_f, rv16, evC_seq, evC_region, eo_box, evG_no, Option.getD_some, ev_box, av_t, initS_at, List.getD_cons_zero, gv_agg, bind1_some', boxR_eq, cells_agg, List.length_cons, List.length_nil, Nat.zero_add, Nat.reduceAdd, ↓reduceIte, bxO_some, Nat.mul_one, goOp_some, put_n, killB_cells, List.map_cons, kill0_int, kill0_lst, List.map_nil, eo_mov, ev_mov, av_c, gv_int, un1_mov, put_q, evOps_nil, kEnd_at, hasG_no, hasG_nil, kEndB_f, kSeq_n, evC_ghost, upd_at, Nat.reduceEqDiff, vws0_ptr, frzL_nil, ghV_ptr, updM_at, fzB_cells, Nat.reduceLeDiff, decide_true, List.all_cons, c0_int, c0_lst, List.all_nil, Bool.and_self, fzC_t, eo_faddr, ev_faddr, gv_ep, faddr_ep, Nat.add_zero, eo_load, ev_load, load_ep, getE_lit0, valOf_one, List.getElem?_cons_zero, ldV_some, eo_cmp, ev_cmp, cmp2_some, cmp_lss, toR_some', gv_bool, evG_yes, pathG_bool, gG_some, guardR_q, guardL_nil, gv_gd, List.contains_cons, List.contains_nil, Bool.or_false, beq_self_eq_true, gvB_true, cmp_gtr, eo_pick, ev_pick, List.nil_append, pick3_some, pickV_bool, Bool.cond_true_left, hasG_yes, kEndB_t, evC_cond, evC_ret, kSeq_r, kRet_r, retOK_eq, retL_cons, retV_t, retL_nil, consO_some, lkR_one, lk1_int, lkT_f, applyL_nil, retOK_f, rtO_some, resV_one, leV1_int, and_true, knowL_nil, askL_nil, evC_skip, ungdS_at, ungd_ep, List.getElem?_cons_succ, eo_len, ev_len, gv_lst, len_lst, brs_len, eps_len, eo_mkclo, ev_mkclo, cloR_ep, Nat.reduceMul, killB_clo, gv_ap, eo_mkmap, ev_mkmap, killB_ms, killS_at, kill3_ep, evC_block, evC_loop, I16_0, L16aS, S16a, SL_ge, lkL_cons, lkS_ep, kill3_ap, lkS_ap, lkS_lst, lkS_int, lkL_nil, lkM_cons, killM_at, killO_some, lkB_clo, lkB_ms, lkM_nil, SL_ge0, leL_cons, leV1_ep, leV1_ap, leV1_lst, leL_nil, true_and, leM_cons, leB_clo, and_self, leB_ms, leM_nil, L16aR, SL_st, lookL_cons, eo_iaddrS, ev_iaddrS, bind2_some', iaddrS_lst, iasB_true, Int.toNat_natCast, getE_br, valOf_agg, valB_true, List.drop_zero, List.take_succ_cons, List.take_zero, eo_alloc, ev_alloc, eo_store, ar_t, kill3_agg, vwsT_ptr, goF_eq, Option.getD_none, ev_store, gv_ptr, store_ptr, stB_cells, stC_true, setC_cons, List.set_cons_zero, List.set_cons_succ, setC_nil, put_s, liveB_cells, faddr_ptr, load_ptr, ldB_cells, eo_callv, ev_callv, avs_cons, avs_nil, clV_ap, lookM_cons, cloV_clo, List.cons_append, Nat.reduceBEq, Bool.or_true, cloW_t, P29, CBu, call_pure, lends_cons, lend1_int, lend1_ep, lends_nil, consL_some', callN_some, callP_some, c2_bool, flat2_bool, backOK_nil, clQ_t, tchR_some, eo_not, ev_not, un1_not, guardL_cons, pathP_cons, boolOf_bool, pathP_nil, implies_true, kBlk_r, kLoop_r, ungd_ptr, cmp_eql, evC_draw, preK_some, needD_faddr, preB_f, needD_load, needD_conv, needD_build, needD_alloc, preB_t, preK_none, preK_nil, evD_cons, kill3_ptr, evDk_some, newOK_none, ev_conv, un1_conv, ev_build, fillA_cons, faK_some, cells_int, faC_some, fillA_nil, blO_some, newOK_some, deadL_nil, evD_nil, eo_call, P30, CAd, evCl_mk, ev_call, clE_some, callE_pure, ungd_ap, eo_mlook, ev_mlook, lookR_ap, keyA_2, lookM1_ms, needD_mov, ev_mput, putR_ap, putM1_ms, liveB_ms, kBlk_n, eo_arith, ev_arith, kill3_int, ungd_int, arith_add, kLoop_n, kill3_lst, ungd_lst, knowD_cons, knowD_nil, pairD_cons, pairOK_eq, newMen_none, pairB_t, pairD_nil, askL_cons, pairB_f, chkR_eq, pslots_junk, optN_some, disjN_nil, pslots_agg, optN_none, newI_none, disjN_cons, Bool.not_false, pslots_ap, ungd_bool, condK_bool, pslots_int, pslots_ptr, newMen_some, noMen_eq, noB_some, newI_some, noB_none, knowL_cons, evC_exit, kSeq_e, kLoop_e, kBlk_e, kBlkB_t, I16_1, L16bS, S16b, L16bR, getE_ep, eo_conv, eo_build, keyA_u8, true_imp_iff]
  have ad_w : ∀ {a : Int}, okA a = true → IntKind.i64.wrap a = a := fun h => by
    simp only [okA, Bool.and_eq_true, decide_eq_true_eq] at h
    exact wr_in _ (by omega) (by omega)
  have ad_n : ∀ {a : Int}, okA a = false → a < 8 ∨ 119 < a := fun h => by
    simp only [okA, Bool.and_eq_false_iff, decide_eq_false_iff_not] at h
    omega
  have ad_y : ∀ {a : Int}, okA a = true → ¬ (a < 8) ∧ ¬ (119 < a) := fun h => by
    simp only [okA, Bool.and_eq_true, decide_eq_true_eq] at h
    omega
  refine ⟨fun h1 => ?_, fun h1 _ => ⟨fun h2 => ?_, fun h2 => ?_⟩⟩
  · have h : m.N < 1 ∨ 16 < m.N := by simpa only [Bool.or_eq_true, decide_eq_true_eq] using h1
    rw [vl, if_pos h]
  all_goals have n1 : ¬ (m.N < 1 ∨ 16 < m.N) := by simp only [Bool.or_eq_false_iff, decide_eq_false_iff_not] at h1; omega
  · have h : 16 < m.bs.length ∨ 32 < m.es.length := by simp only [Bool.or_eq_true, decide_eq_true_eq] at h2; omega
    rw [vl, if_neg n1, if_pos h]
  have n2 : ¬ (16 < m.bs.length ∨ 32 < m.es.length) := by simp only [Bool.or_eq_false_iff, decide_eq_false_iff_not] at h2; omega
  have vB : brE m.N m.bs ≠ 0 → vl m = brE m.N m.bs := fun h => by rw [vl, if_neg n1, if_neg n2, if_pos h]
  have vE : brE m.N m.bs = 0 → vl m = epE m.N m.bs m.es m.es.length 0 := fun h => by rw [vl, if_neg n1, if_neg n2, if_neg (by rw [h]; simp)]
  refine ⟨⟨0, Nat.zero_le _, rfl⟩, ⟨rfl, rfl⟩, ?_⟩
  rintro ⟨i, hi, hn⟩
  dsimp only
  refine ⟨fun hc => ?_, fun hc _ => ?_⟩
  · have hc := of_decide_eq_true hc
    have hlt : i < m.bs.length := by omega
    have hs : m.bs.length - i = (m.bs.length - (i + 1)) + 1 := by omega
    have hn2 := hn
    rw [hs] at hn2
    have hT := take_snoc m.bs b0 i hlt
    have S := fun (e : Int) (h : brE1 m.N (m.bs.take i) (m.bs.getD i b0) = e) (h0 : e ≠ 0) => hn2.trans (brF_stop h h0)
    have S0 := fun (h : brE1 m.N (m.bs.take i) (m.bs.getD i b0) = 0) => hn2.trans (brF_next h)
    generalize m.bs.getD i b0 = b at *
    refine ⟨⟨by omega, by omega⟩, fun h3 => ?_, fun h3 => ?_⟩
    · have h : b.l < 0 ∨ m.N ≤ b.l ∨ b.r < 0 ∨ m.N ≤ b.r := by
        simp only [Bool.or_eq_true, Bool.not_eq_true', Bool.and_eq_false_iff, decide_eq_false_iff_not] at h3
        omega
      have e := S 2 (brE1_a h) (by decide)
      rw [vB (by rw [e]; decide), e]
    have F : ¬ (b.l < 0 ∨ m.N ≤ b.l ∨ b.r < 0 ∨ m.N ≤ b.r) := by
      simp only [Bool.or_eq_false_iff, Bool.not_eq_false', Bool.and_eq_true, decide_eq_true_eq] at h3
      omega
    refine ⟨fun h4 => ?_, fun h4 => ?_⟩
    · have e := S 1 (brE1_b F (of_decide_eq_true h4)) (by decide)
      rw [vB (by rw [e]; decide), e]
    have h4 := of_decide_eq_false h4
    cases ho : okA b.ad with
    | false =>
      refine ⟨fun _ => ?_, fun h => by cases h⟩
      have e := S 13 (brE1_c F h4 ((ad_n ho).elim .inl fun h => .inr (.inl h))) (by decide)
      rw [vB (by rw [e]; decide), e]
    | true =>
      rw [ad_w ho]
      obtain ⟨y1, y2⟩ := ad_y ho
      refine ⟨fun h5 => ?_, fun h5 => ?_⟩
      · have h5 : tk (m.bs.take i) b.l b.ad = true ∨ tk (m.bs.take i) b.r b.ad = true := by
          simpa only [Bool.not_true, Bool.false_or, Bool.or_eq_true, decide_eq_true_eq, mem_kB] using h5
        have e := S 13 (brE1_c F h4 (.inr (.inr h5))) (by decide)
        rw [vB (by rw [e]; decide), e]
      · have h5 : [b.l, b.ad] ∉ kB (m.bs.take i) ∧ [b.r, b.ad] ∉ kB (m.bs.take i) := by
          simpa only [Bool.not_true, Bool.false_or, Bool.or_eq_false_iff, decide_eq_false_iff_not] using h5
        obtain ⟨h6, h7⟩ := h5
        refine ⟨h6, ?_, ⟨i + 1, by omega, S0 (brE1_0 F h4 ?_)⟩, ⟨AV.int_inj' (wr_succ i (by omega)), ?_⟩, by dsimp only; omega⟩
        · simp only [List.mem_cons, List.cons.injEq, and_true, not_or]
          exact ⟨fun e => h4 e.symm, h7⟩
        · rintro (h | h | h | h)
          · exact y1 h
          · exact y2 h
          · exact h6 ((mem_kB _ _ _).2 h)
          · exact h7 ((mem_kB _ _ _).2 h)
        · dsimp only; rw [hT, kB_snoc]
  · have hc := of_decide_eq_false hc
    have hb : brE m.N m.bs = 0 := by rw [hn, show m.bs.length - i = 0 by omega]; rfl
    refine ⟨⟨0, Nat.zero_le _, vE hb⟩, ⟨rfl, ?_, rfl⟩, ?_⟩
    · rw [List.take_of_length_le (show m.bs.length ≤ i by omega)]; rfl
    rintro ⟨i, hi, hn⟩
    dsimp only
    refine ⟨fun hc => ?_, fun hc => ?_⟩
    · have hc := of_decide_eq_true hc
      have hlt : i < m.es.length := by omega
      have hs : m.es.length - i = (m.es.length - (i + 1)) + 1 := by omega
      have hn2 := hn
      rw [hs] at hn2
      have hT := take_snoc m.es e0 i hlt
      have S := fun (e : Int) (h : epE1 m.N m.bs (m.es.take i) (m.es.getD i e0) = e) (h0 : e ≠ 0) => hn2.trans (epE_stop h h0)
      have S0 := fun (h : epE1 m.N m.bs (m.es.take i) (m.es.getD i e0) = 0) => hn2.trans (epE_next h)
      generalize m.es.getD i e0 = x at *
      refine ⟨⟨by omega, by omega⟩, fun h3 => ?_, fun h3 => ?_⟩
      · have h : x.bu < 0 ∨ m.N ≤ x.bu := by
          simp only [Bool.not_eq_true', Bool.and_eq_false_iff, decide_eq_false_iff_not] at h3
          omega
        rw [S 2 (epE1_a h) (by decide)]
      have F : ¬ (x.bu < 0 ∨ m.N ≤ x.bu) := by
        simp only [Bool.not_eq_false', Bool.and_eq_true, decide_eq_true_eq] at h3
        omega
      cases ho : okA x.ad with
      | false =>
        refine ⟨fun _ => ?_, fun h => by cases h⟩
        rw [S 13 (epE1_b F ((ad_n ho).elim .inl fun h => .inr (.inl h))) (by decide)]
      | true =>
        rw [ad_w ho]
        obtain ⟨y1, y2⟩ := ad_y ho
        refine ⟨fun h5 => ?_, fun h5 => ⟨fun h6 => ?_, fun h6 => ?_⟩⟩
        · have h5 : tk m.bs x.bu x.ad = true ∨ (m.es.take i).any (pl1 x) = true := by
            simpa only [Bool.not_true, Bool.false_or, decide_eq_true_eq, mem_kE] using h5
          rw [S 13 (epE1_b F (.inr (.inr h5))) (by decide)]
        all_goals have h5 : [x.bu, x.ad] ∉ kE m.bs (m.es.take i) := (by simpa only [Bool.not_true, Bool.false_or, decide_eq_false_iff_not] using h5)
        all_goals have n5 : ¬ (x.ad < 8 ∨ 119 < x.ad ∨ tk m.bs x.bu x.ad = true ∨ (m.es.take i).any (pl1 x) = true) := (fun h => h.elim y1 fun h => h.elim y2 fun h => h5 ((mem_kE _ _ _).2 h))
        · rw [S 7 (epE1_c F n5 ((mem_kI _ _).1 (of_decide_eq_true h6))) (by decide)]
        · have h6 := of_decide_eq_false h6
          refine ⟨h5, h6, ⟨i + 1, by omega, S0 (epE1_0 F n5 ?_)⟩, ⟨AV.int_inj' (wr_succ i (by omega)), ?_, ?_⟩, by dsimp only; omega⟩
          · cases h : (m.es.take i).any (fun y => decide (y.id = x.id)) with
            | false => rfl
            | true => exact absurd ((mem_kI _ _).2 h) h6
          · dsimp only; rw [hT, kE_snoc]
          · dsimp only; rw [hT, kI_snoc]
    · have hc := of_decide_eq_false hc
      rw [hn, show m.es.length - i = 0 by omega]; rfl
end Go.Proofs.Yteakklbbdfgbdaa

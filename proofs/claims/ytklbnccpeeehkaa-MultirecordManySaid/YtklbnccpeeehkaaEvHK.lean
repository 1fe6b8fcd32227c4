/- A part of the proof: symbolic evaluation of the program's functions, proved sound against the model; no condition. -/
import Derived.Test.YtklbnccpeeehkaaEvHE
namespace Go.Proofs.Ytklbnccpeeehkaa
open Go Go.RowKit Go.Ev
set_option linter.unusedSimpArgs false
set_option linter.unusedVariables false
set_option maxRecDepth 20000
theorem m8_bd (l : List Int) : 0 ≤ m8 l ∧ m8 l ≤ 255 := by
  cases h : l.reverse with
  | nil =>
    have : l = [] := by simpa using h
    subst this; decide
  | cons c r =>
    have : l = r.reverse ++ [c] := by
      have := congrArg List.reverse h; simpa using this
    rw [this, m8_snoc, IntKind.wrap_u8]; omega
theorem c8_bd (l : List Int) : 0 ≤ c8 l ∧ c8 l ≤ 255 := by rw [c8, IntKind.wrap_u8]; omega
theorem dy_bd (L : List Int) (a : Int) : 0 ≤ dyV L a ∧ dyV L a ≤ 255 := by
  simp only [dyV]; split
  · exact getD_all (p := fun k => 0 ≤ k ∧ k ≤ 255) (by decide) (by decide) _
  · rw [IntKind.wrap_u8]; omega
def Okr (l : List Rc) : Prop := ∀ r ∈ l, (0 ≤ r.ty ∧ r.ty ≤ 255) ∧ Okb r.d
theorem Okr.getD {l : List Rc} (h : Okr l) (i : Nat) : (0 ≤ (l.getD i r0).ty ∧ (l.getD i r0).ty ≤ 255) ∧ Okb (l.getD i r0).d := by
  by_cases h2 : i < l.length
  · exact h _ (getD_mem l i h2)
  · rw [List.getD_eq_getElem?_getD, List.getElem?_eq_none (by omega)]; exact ⟨by decide, Okb.nil⟩
theorem hdR_ok {l : List Rc} (h : Okr l) (i : Nat) : Okb (hdR l i) := by
  have h1 := (h.getD i).1
  refine .cons h1 (.cons ?_ (.cons ?_ (.cons (c8_bd _) .nil)))
  · split <;> decide
  · rw [IntKind.wrap_u8]; omega
theorem enO_ok {l : List Rc} (h : Okr l) (i : Nat) : Okb (enO l i) := .app (.app (hdR_ok h i) (.cons (c8_bd _) .nil)) (h.getD i).2
theorem enP_ok {l : List Rc} (h : Okr l) : ∀ n, Okb (enP l n)
  | 0 => .nil
  | n + 1 => .app (enP_ok h n) (enO_ok h n)
theorem enL_ok {l : List Rc} (h : Okr l) : Okb (enL l) := by
  unfold enL; split
  · exact enP_ok h _
  · exact .nil
theorem enL_len (l : List Rc) : (enL l).length ≤ 5000 := by
  unfold enL; split
  · rename_i hv
    obtain ⟨h1, h2, _⟩ := vlR_iff hv
    have := enP_len h2 l.length
    omega
  · simp
def CSo : Ctr := .mk false fun _ xs => match xs with
  | [.lst zz es] => some (((zz = [.int .u8 0] ∧ es = u8s (decU es)) ∧ es.length ≤ 100000) ∧ Okb (decU es), .int .u8 (c8 (decU es)), [])
  | _ => none
def CSp : Ctr := .mk false fun _ xs => match xs with
  | [.lst zz es] => some (((zz = [.int .u8 0] ∧ es = u8s (decU es)) ∧ es.length ≤ 99999) ∧ Okb (decU es), .lst [.int .u8 0] (u8s (decU es ++ [c8 (decU es)])), [])
  | _ => none
def CCz : Ctr := .ext false Unit fun _ xs => match xs with
  | [.lst zz es] => some ((zz = [.int .u8 0] ∧ es = u8s (decU es)) ∧ es.length ≤ 100000, fun _ => (True, .fr 0 5 [.int .u8 0] (u8s (decU es)), []))
  | _ => none
def CEo : Ctr := .mk false fun _ xs => match xs with
  | [.lst zz es] => some ((zz = [.int .u8 0, .nil] ∧ es = recs (decR es)) ∧ Okr (decR es), .tup [.lst [.int .u8 0] (u8s (enL (decR es))), .int .i64 (enE (decR es))], [])
  | _ => none
def CDBo : Ctr := .ext true (List Int × Int) fun cs xs => match cs, xs with
  | [.lst zz es, .int .i64 a], [.int .i64 n] => some ((zz = [.int .i64 0] ∧ es = i64s (decU es)) ∧ 0 ≤ a ∧ 0 ≤ n ∧ n ≤ 1000, fun q => ((q.1.length ≤ n ∧ Okb q.1) ∧ 0 ≤ q.2, .lst [.int .u8 0] (u8s q.1), [.lst [.int .i64 0] (i64s (decU es)), .int .i64 q.2]))
  | _, _ => none
def CDRo : Ctr := .ext true (List Rc × Int) fun cs xs => match cs, xs with
  | [.lst zz es, .int .i64 a], [.int .i64 n] => some ((zz = [.int .i64 0] ∧ es = i64s (decU es)) ∧ 0 ≤ a ∧ 0 ≤ n ∧ n ≤ 100, fun q => ((q.1.length ≤ n ∧ Okr q.1) ∧ 0 ≤ q.2, .lst [.int .u8 0, .nil] (recs q.1), [.lst [.int .i64 0] (i64s (decU es)), .int .i64 q.2]))
  | _, _ => none
/-- Bytes read. -/
def dcF (b : List Int) : Nat → List Rc → Nat → List Rc × Int × Int
  | 0, _, _ => ([], 0, 4)
  | f + 1, l, n =>
    if b.length < n + 5 then ([], 0, 4) else
    if ¬ c8 ((b.drop n).take 5) = 0 then ([], 0, 5) else
    if ¬ ((b.drop n).take 5).getD 1 0 % 128 = 2 then ([], 0, 6) else
    if b.length < n + 5 + (((b.drop n).take 5).getD 2 0).toNat then ([], 0, 4) else
    if ¬ c8 ((b.drop (n + 5)).take (((b.drop n).take 5).getD 2 0).toNat) = ((b.drop n).take 5).getD 3 0 then ([], 0, 5) else
    if l.length = 16 then ([], 0, 3) else
    if ((b.drop n).take 5).getD 1 0 < 128 then dcF b f (l ++ [⟨((b.drop n).take 5).getD 0 0, ((b.drop (n + 5)).take (((b.drop n).take 5).getD 2 0).toNat)⟩]) (n + 5 + (((b.drop n).take 5).getD 2 0).toNat) else
    if vlR (l ++ [⟨((b.drop n).take 5).getD 0 0, ((b.drop (n + 5)).take (((b.drop n).take 5).getD 2 0).toNat)⟩]) = true then ((l ++ [⟨((b.drop n).take 5).getD 0 0, ((b.drop (n + 5)).take (((b.drop n).take 5).getD 2 0).toNat)⟩]), ((n + 5 + (((b.drop n).take 5).getD 2 0).toNat : Nat) : Int), 0) else ([], 0, 1)
def dcR (b : List Int) : List Rc × Int × Int := dcF b (b.length + 1) [] 0
def CDc : Ctr := .mk false fun _ xs => match xs with
  | [.lst zz es] => some (((zz = [.int .u8 0] ∧ es = u8s (decU es)) ∧ es.length ≤ 100000) ∧ Okb (decU es), .tup [.lst [.int .u8 0, .nil] (recs (dcR (decU es)).1), .int .i64 (dcR (decU es)).2.1, .int .i64 (dcR (decU es)).2.2], [])
  | _ => none
theorem bit_an {x : Int} (h : 0 ≤ x ∧ x ≤ 255) : bitsI BinOp.andNot IntKind.u8 x 128 = x % 128 := by
  obtain ⟨n, rfl⟩ : ∃ n : Nat, x = n := ⟨x.toNat, by omega⟩
  have key : ∀ m : Fin 256, bitsI BinOp.andNot IntKind.u8 ((m.val : Nat) : Int) 128 = ((m.val : Nat) : Int) % 128 := by decide +kernel
  exact key ⟨n, by omega⟩
theorem bit_and {x : Int} (h : 0 ≤ x ∧ x ≤ 255) : bitsI BinOp.and IntKind.u8 x 128 = if x < 128 then 0 else 128 := by
  obtain ⟨n, rfl⟩ : ∃ n : Nat, x = n := ⟨x.toNat, by omega⟩
  have key : ∀ m : Fin 256, bitsI BinOp.and IntKind.u8 ((m.val : Nat) : Int) 128 = if ((m.val : Nat) : Int) < 128 then 0 else 128 := by decide +kernel
  exact key ⟨n, by omega⟩
structure K29a (l : List Int) where
  i : Nat
  hi : i ≤ l.length
def S29a (l : List Int) (p : K29a l) : SL := ⟨[(0, .lst [.int .u8 0] (u8s l)), (3, .int .i64 (m8 (l.take p.i))), (4, .int .i64 p.i)], []⟩
abbrev L29a (l : List Int) : LI := ⟨K29a l, S29a l, fun p => l.length - p.i, fun p q => True⟩
theorem L29aS (l : List Int) : (L29a l).S = S29a l := rfl
theorem L29aM (l : List Int) (p : K29a l) : (L29a l).μ p = l.length - p.i := rfl
theorem L29aR (l : List Int) (p q : K29a l) : (L29a l).R p q = (True) := rfl
def I29 (l : List Int) : Nat → LI := fun n => L29a l
theorem I29_0 (l : List Int) : I29 l 0 = L29a l := rfl
structure K25a (l : List Rc) where
  i : Nat
  hi : i ≤ l.length
def S25a (l : List Rc) (p : K25a l) : SL := ⟨[(0, .lst [.int .u8 0, .nil] (recs l)), (4, .vw 3200 0 0 0), (5, .int .i64 p.i)], [(3200, .buf 5 [.int .u8 0] (u8s (enP l p.i)))]⟩
abbrev L25a (l : List Rc) : LI := ⟨K25a l, S25a l, fun p => l.length - p.i, fun p q => True⟩
theorem L25aS (l : List Rc) : (L25a l).S = S25a l := rfl
theorem L25aM (l : List Rc) (p : K25a l) : (L25a l).μ p = l.length - p.i := rfl
theorem L25aR (l : List Rc) (p q : K25a l) : (L25a l).R p q = (True) := rfl
def I25 (l : List Rc) : Nat → LI := fun n => L25a l
theorem I25_0 (l : List Rc) : I25 l 0 = L25a l := rfl
structure K30a (b : List Int) where
  f : Nat
  n : Nat
  l : List Rc
  hf : b.length < n + f
  hn : n ≤ b.length
  he : dcR b = dcF b f l n
  hl : l.length ≤ 16
def S30a (b : List Int) (p : K30a b) : SL := ⟨[(0, .lst [.int .u8 0] (u8s b)), (2, .vw 3200 0 0 0), (3, .int .i64 p.n)], [(3200, .buf 32 [.int .u8 0, .nil] (recs p.l))]⟩
abbrev L30a (b : List Int) : LI := ⟨K30a b, S30a b, fun p => b.length - p.n, fun p q => True⟩
theorem L30aS (b : List Int) : (L30a b).S = S30a b := rfl
theorem L30aM (b : List Int) (p : K30a b) : (L30a b).μ p = b.length - p.n := rfl
theorem L30aR (b : List Int) (p q : K30a b) : (L30a b).R p q = (True) := rfl
def I30 (b : List Int) : Nat → LI := fun n => L30a b
theorem I30_0 (b : List Int) : I30 b 0 = L30a b := rfl
structure K31a (b : List Int) where
  f : Nat
  n : Nat
  l : List Rc
  hf : b.length < n + f
  hn : n ≤ b.length
  he : dcR b = dcF b f l n
  hl : l.length ≤ 16
def S31a (b : List Int) (p : K31a b) : SL := ⟨[(0, .lst [.int .u8 0] (u8s b)), (5, .vw 3200 0 0 0), (6, .int .i64 p.n)], [(3200, .buf 32 [.int .u8 0, .nil] (recs p.l))]⟩
abbrev L31a (b : List Int) : LI := ⟨K31a b, S31a b, fun p => b.length - p.n, fun p q => True⟩
theorem L31aS (b : List Int) : (L31a b).S = S31a b := rfl
theorem L31aM (b : List Int) (p : K31a b) : (L31a b).μ p = b.length - p.n := rfl
theorem L31aR (b : List Int) (p q : K31a b) : (L31a b).R p q = (True) := rfl
def I31 (b : List Int) : Nat → LI := fun n => L31a b
theorem I31_0 (b : List Int) : I31 b 0 = L31a b := rfl
structure K12oa (L : List Int) (N : Int) where
  a : Int
  k : Nat
  o : List Int
  ha : 0 ≤ a
  hn : (k : Int) + o.length ≤ N
  ho : Okb o
def S12oa (L : List Int) (N : Int) (p : K12oa L N) : SL := ⟨[(0, .ptr 0 0), (5, .vw 3200 0 0 0), (6, .int .i64 p.k)], [(0, .cells [.lst [.int .i64 0] (i64s L), .int .i64 p.a]), (3200, .buf 5 [.int .u8 0] (u8s p.o))]⟩
abbrev L12oa (L : List Int) (N : Int) : LI := ⟨K12oa L N, S12oa L N, fun p => p.k, fun p q => True⟩
theorem L12oaS (L : List Int) (N : Int) : (L12oa L N).S = S12oa L N := rfl
theorem L12oaM (L : List Int) (N : Int) (p : K12oa L N) : (L12oa L N).μ p = p.k := rfl
theorem L12oaR (L : List Int) (N : Int) (p q : K12oa L N) : (L12oa L N).R p q = (True) := rfl
def I12o (L : List Int) (N : Int) : Nat → LI := fun n => L12oa L N
theorem I12o_0 (L : List Int) (N : Int) : I12o L N 0 = L12oa L N := rfl
structure K15oa (L : List Int) (N : Int) where
  a : Int
  k : Nat
  o : List Rc
  ha : 0 ≤ a
  hn : (k : Int) + o.length ≤ N
  ho : Okr o
def S15oa (L : List Int) (N : Int) (p : K15oa L N) : SL := ⟨[(0, .ptr 0 0), (5, .vw 3200 0 0 0), (6, .int .i64 p.k)], [(0, .cells [.lst [.int .i64 0] (i64s L), .int .i64 p.a]), (3200, .buf 32 [.int .u8 0, .nil] (recs p.o))]⟩
abbrev L15oa (L : List Int) (N : Int) : LI := ⟨K15oa L N, S15oa L N, fun p => p.k, fun p q => True⟩
theorem L15oaS (L : List Int) (N : Int) : (L15oa L N).S = S15oa L N := rfl
theorem L15oaM (L : List Int) (N : Int) (p : K15oa L N) : (L15oa L N).μ p = p.k := rfl
theorem L15oaR (L : List Int) (N : Int) (p q : K15oa L N) : (L15oa L N).R p q = (True) := rfl
def I15o (L : List Int) (N : Int) : Nat → LI := fun n => L15oa L N
theorem I15o_0 (L : List Int) (N : Int) : I15o L N 0 = L15oa L N := rfl
set_option maxHeartbeats 4000000 in
theorem walk29 {Phi : Nat → Option Ctr} (l : List Int) (hl : l.length ≤ 100000) (hb : Okb l) : evC Phi (I29 l) rc29 ⟨initS [.lst [.int .u8 0] (u8s l)], initM false []⟩ (kRet rv29 (.int .u8 (c8 l)) false []) := by
  simp (config := {maxSteps := 2000000}) only [rc29, initM_f, rv29, evC_seq, evC_region, eo_mov, evG_no, Option.getD_some, ev_mov, av_c, gv_int, bind1_some', un1_mov, goOp_some, put_q, evOps_nil, kEnd_at, hasG_no, hasG_nil, kEndB_f, kSeq_n, evC_block, evC_loop, I29_0, L29aS, S29a, SL_ge, lkL_cons, upd_at, Nat.reduceEqDiff, ↓reduceIte, initS_at, List.getD_cons_zero, lkS_lst, lkS_int, lkL_nil, List.nil_append, lkM_nil, applyL_nil, SL_ge0, leL_cons, leV1_lst, leV1_int, leL_nil, and_true, true_and, leM_nil, L29aR, SL_st, av_t, lookL_cons, gv_lst, eo_len, ev_len, len_lst, u8s_len, eo_cmp, ev_cmp, cmp2_some, cmp_lss, toR_some', evC_cond, evC_skip, eo_iaddrS, ev_iaddrS, bind2_some', iaddrS_lst, List.length_cons, List.length_nil, Nat.zero_add, beq_self_eq_true, iasB_true, Int.toNat_natCast, eo_load, ev_load, gv_ep, load_ep, getE_u8, valOf_one, List.getElem?_cons_zero, ldV_some, eo_conv, ev_conv, un1_conv, eo_arith, ev_arith, arith_add, arith_rem, kBlk_n, kLoop_n, knowL_nil, askL_nil, askL_cons, knowL_cons, evC_exit, kSeq_e, kLoop_e, kBlk_e, kBlkB_t, arith_sub, evC_ret, kRet_r, retOK_eq, retL_cons, retV_t, retL_nil, consO_some, lkR_one, lk1_int, lkT_f, retOK_f, rtO_some, resV_one, ar_t, condK_bool, true_imp_iff]
  refine ⟨⟨0, by omega⟩, ⟨rfl, rfl⟩, ?_⟩
  rintro ⟨i, hi⟩ _
  dsimp only
  have hm := m8_bd (l.take i)
  refine ⟨fun hc => ?_, fun hc => ?_⟩
  · have hc := of_decide_eq_true hc
    have hg := hb.getD i
    refine ⟨⟨by omega, by omega⟩, fun _ => ⟨by decide, ⟨i + 1, by omega⟩, ⟨AV.int_inj' ?_, AV.int_inj' (wr_succ i (by omega))⟩, by dsimp only; omega⟩⟩
    rw [take_snoc l 0 i (by omega), m8_snoc, wr_in (l.getD i 0) (by omega) (by omega), wr_in _ (by omega) (by omega), Int.tmod_eq_emod_of_nonneg (by omega), IntKind.wrap_u8]
  · have hc := of_decide_eq_false hc
    rw [List.take_of_length_le (by omega)] at hm ⊢
    refine ⟨by decide, AV.int_inj' ?_⟩
    rw [wr_in _ (by omega) (by omega), Int.tmod_eq_emod_of_nonneg (by omega), c8, IntKind.wrap_u8, IntKind.wrap_u8]
    omega
set_option maxHeartbeats 4000000 in
theorem walk34x {Phi : Nat → Option Ctr} (l : List Int) (hl : l.length ≤ 100000) : evC Phi (I34 l) rc34 ⟨initS [.lst [.int .u8 0] (u8s l)], initM false []⟩ (kRetX rv34 false (fun _ : Unit => (True, .fr 0 5 [.int .u8 0] (u8s l), []))) := by
  simp (config := {maxSteps := 2000000}) only [rc34, initM_f, rv34, evC_seq, evC_region, eo_mov, evG_no, Option.getD_some, ev_mov, av_c, gv_nil, bind1_some', un1_mov, goOp_some, put_q, evOps_nil, kEnd_at, hasG_no, hasG_nil, kEndB_f, kSeq_n, gv_int, evC_block, evC_loop, I34_0, L34aS, S34a, SL_ge, lkL_cons, upd_at, Nat.reduceEqDiff, ↓reduceIte, initS_at, List.getD_cons_zero, lkS_lst, lkS_nil_vw, lookM_cons, nlK_buf, lkS_int, lkL_nil, List.nil_append, List.cons_append, lkM_cons, lkB_buf, lkM_nil, applyL_nls, nlV_nil, Nat.reduceLeDiff, decide_true, List.length_cons, List.length_nil, Nat.zero_add, Nat.reduceLT, Bool.and_self, nlP_t, applyL_nil, SL_ge0, leL_cons, killS_at, kill3_lst, leV1_lst, leV1_vw, kill3_int, leV1_int, leL_nil, and_true, true_and, leM_cons, updM_at, leB_buf, leM_nil, L34aR, SL_st, av_t, lookL_cons, gv_lst, eo_len, ev_len, len_lst, u8s_len, eo_cmp, ev_cmp, cmp2_some, cmp_lss, toR_some', evC_cond, evC_skip, gv_vw, eo_iaddrS, ev_iaddrS, bind2_some', iaddrS_lst, beq_self_eq_true, iasB_true, Int.toNat_natCast, eo_load, ev_load, gv_ep, load_ep, getE_u8, valOf_one, List.getElem?_cons_zero, ldV_some, eo_bsliceO, vwsG_cons, ar_t, vws1_int, vwsG_nil, frzL_nil, goF_eq, ev_bsliceO, List.replicate_succ, List.replicate_zero, fillS_cons, fsK_some, cells_int, fsC_some, List.all_cons, c0_int, List.all_nil, and_self, List.set_cons_zero, fillS_nil, blO2_some, Nat.reduceMul, Nat.reduceAdd, put_n, killB_buf, eo_append, ev_append, kill3_vw, appR_vw, ysOf_vw, ysV_buf, killM_at, killO_some, appV_buf, appK_some, Nat.mul_one, u8s_snoc, kBlk_n, eo_arith, ev_arith, arith_add, kLoop_n, lkS_vw_vw, renK_t, knowL_nil, askL_nil, askL_cons, knowL_cons, evC_exit, kSeq_e, kLoop_e, kBlk_e, kBlkB_t, evC_ret, kRetX_r, retXG_eq, retX_eq, retL_cons, retV_t, retL_nil, consO_some, lkR_one, lk1_vw_fr, lkT_f, retX0_eq, resXO_some, resX_one, leX1_fr_vw, leFB_buf, pqR_one, pq1_fr_vw, pqK_some, pqK_nil, nodupN_cons, List.contains_nil, Bool.not_false, nodupN_nil, frs2_fr, idsOK_eq, List.map_cons, List.map_nil, wfRes_one, wfX1_fr, lookM_nil, resXT_f, condK_bool, true_imp_iff]
  refine ⟨⟨0, by omega⟩, ⟨rfl, rfl⟩, ?_⟩
  rintro ⟨i, hi⟩ _
  dsimp only
  refine ⟨fun hc => ?_, fun hc => ?_⟩
  · have hc := of_decide_eq_true hc
    have h1 : (l.take i).length ≤ 100000 := by rw [List.length_take]; omega
    exact ⟨⟨by omega, by omega⟩, fun _ => ⟨by omega, by omega, ⟨i + 1, by omega⟩, ⟨AV.int_inj' (wr_succ i (by omega)), by rw [take_snoc l 0 i (by omega)]⟩, by dsimp only; omega⟩⟩
  · have hc := of_decide_eq_false hc
    exact ⟨(), by rw [List.take_of_length_le (by omega)]⟩
set_option maxHeartbeats 4000000 in
theorem walk32 {Phi : Nat → Option Ctr} (P34 : Phi 34 = some CCz) (P29 : Phi 29 = some CSo) (l : List Int) (hl : l.length ≤ 99999) (hb : Okb l) : evC Phi (noI) rc32 ⟨initS [.lst [.int .u8 0] (u8s l)], initM false []⟩ (kRet rv32 (.lst [.int .u8 0] (u8s (l ++ [c8 l]))) false []) := by
  simp (config := {maxSteps := 2000000}) only [rc32, initM_f, rv32, evC_seq, evC_region, eo_mov, evG_no, Option.getD_some, ev_mov, av_c, gv_nil, bind1_some', un1_mov, goOp_some, put_q, evOps_nil, kEnd_at, hasG_no, hasG_nil, kEndB_f, kSeq_n, av_t, upd_at, Nat.reduceEqDiff, ↓reduceIte, initS_at, List.getD_cons_zero, gv_lst, eo_call, P34, CCz, evCl_ext, avs_cons, avs_nil, consO_some, evXV_some, evX_f, lends_cons, lend1_lst, lends_nil, consL_some', List.nil_append, evXA_some, decU_u8s, and_self, u8s_len, true_and, evXN_some, evXP_eq, wfX2_fr, List.length_cons, List.length_nil, Nat.zero_add, Nat.reduceLT, decide_true, frs2_fr, idsOK_eq, List.map_cons, List.map_nil, nodupN_cons, List.contains_nil, Bool.not_false, nodupN_nil, Bool.and_self, List.all_cons, List.all_nil, flatX2_fr, flatC_int, flatL_buf, flatL_nil, and_true, evOpsk_at, backX_nil, putX_eq, unfr2_fr, Nat.reduceMul, Nat.reduceAdd, Nat.add_zero, addF_cons, addF_nil, putY_eq, killS_at, kill3_lst, P29, CSo, evCl_mk, ev_call, clO_some, call_pure, callN_some, callP_some, c2_int, flat2_int, backOK_nil, clQ_t, eo_bsliceO, vwsG_cons, ar_t, vws1_int, vwsG_nil, frzL_nil, goF_eq, ev_bsliceO, List.replicate_succ, List.replicate_zero, fillS_cons, gv_int, fsK_some, cells_int, fsC_some, c0_int, List.set_cons_zero, fillS_nil, blO2_some, put_n, killB_buf, eo_append, ev_append, kill3_vw, gv_vw, bind2_some', appR_vw, ysOf_vw, updM_at, ysV_buf, killM_at, killO_some, appV_buf, Nat.reduceLeDiff, appK_some, Nat.mul_one, u8s_snoc, List.cons_append, evC_ret, kRet_r, retOK_eq, retL_cons, retV_t, retL_nil, lkR_one, lk1_vw_lst, lkT_f, applyL_frz, frzQ_buf, frzP_t, applyL_nil, retOK_f, frzSl_at, frz3_vw, rtO_some, resV_one, leV1_lst, knowL_nil, askL_nil, askL_cons, true_imp_iff]
  exact ⟨by omega, fun _ => ⟨⟨by omega, hb⟩, by omega, by omega⟩⟩
set_option maxHeartbeats 4000000 in
theorem walk25 {Phi : Nat → Option Ctr} (P27 : Phi 27 = some CVl) (P29 : Phi 29 = some CSo) (P32 : Phi 32 = some CSp) (l : List Rc) (ho : Okr l) : evC Phi (I25 l) rc25 ⟨initS [.lst [.int .u8 0, .nil] (recs l)], initM false []⟩ (kRet rv25 (.tup [.lst [.int .u8 0] (u8s (enL l)), .int .i64 (enE l)]) false []) := by
  simp (config := {maxSteps := 2000000, contextual := true}) only [rc25, initM_f, rv25, evC_seq, evC_region, eo_mov, evG_no, Option.getD_some, ev_mov, av_c, gv_nil, bind1_some', un1_mov, goOp_some, put_q, gv_int, evOps_nil, kEnd_at, hasG_no, hasG_nil, kEndB_f, kSeq_n, av_t, upd_at, Nat.reduceEqDiff, ↓reduceIte, initS_at, List.getD_cons_zero, gv_lst, eo_call, P27, CVl, evCl_mk, ev_call, avs_cons, avs_nil, consO_some, clO_some, call_pure, lends_cons, lend1_lst, lends_nil, consL_some', List.nil_append, callN_some, decR_recs, and_self, callP_some, c2_bool, flat2_bool, backOK_nil, Bool.and_self, clQ_t, eo_not, ev_not, gv_bool, un1_not, evC_cond, evC_ret, kSeq_r, kRet_r, retOK_eq, retL_cons, retV_t, retL_nil, lkR_two, lkVs_cons, lk1_nil, lk1_int, lkVs_nil, lkT_f, applyL_nil, retOK_f, rtO_some, resV_two, leVs_cons, leV1_nil, leA_nil, leV1_int, leVs_nil, and_true, knowL_nil, askL_nil, evC_skip, evC_block, evC_loop, I25_0, L25aS, S25a, SL_ge, lkL_cons, lkS_lst, lkS_nil_vw, lookM_cons, nlK_buf, lkS_int, lkL_nil, List.cons_append, lkM_cons, lkB_buf, lkM_nil, applyL_nls, nlV_nil, Nat.reduceLeDiff, decide_true, List.length_cons, List.length_nil, Nat.zero_add, Nat.reduceLT, nlP_t, SL_ge0, leL_cons, killS_at, kill3_lst, leV1_lst, leV1_vw, kill3_int, leL_nil, true_and, leM_cons, updM_at, leB_buf, leM_nil, L25aR, SL_st, lookL_cons, eo_len, ev_len, len_lst, recs_len, eo_cmp, ev_cmp, cmp2_some, cmp_lss, toR_some', eo_arith, ev_arith, bind2_some', arith_add, cmp_eql, evC_draw, preK_some, needD_mov, preB_f, needD_iaddrS, needD_faddr, needD_load, needD_len, needD_conv, needD_call, needD_bslice, needD_appD, preB_t, Nat.reduceMul, Nat.reduceAdd, preK_nil, evD_cons, kill3_vw, gv_vw, evDk_some, newOK_none, ev_iaddrS, iaddrS_lst, beq_self_eq_true, iasB_true, Int.toNat_natCast, ev_faddr, gv_ep, faddr_ep, Nat.add_zero, ev_load, load_ep, valOf_one, pairD_cons, pairOK_eq, newMen_none, List.contains_cons, Nat.reduceBEq, List.contains_nil, Bool.or_false, Bool.or_true, pairB_t, pairB_f, chkR_eq, pslots_ep, optN_some, disjN_nil, pslots_vw, List.map_nil, newI_none, pairD_nil, askL_cons, pslots_int, pslots_lst, ar_t, condK_bool, knowL_cons, evC_exit, kSeq_e, kLoop_e, kBlk_e, kBlkB_t, lk1_vw_lst, applyL_frz, frzQ_buf, frzP_t, frzSl_at, frz3_vw, frz3_int, getE_rec, List.getElem?_cons_zero, ldV_some, List.getElem?_cons_succ, u8s_len, ev_conv, un1_conv, P29, CSo, decU_u8s, c2_int, flat2_int, ev_bslice, List.replicate_succ, List.replicate_zero, fillS_cons, fsK_some, cells_int, fsC_some, List.all_cons, c0_int, List.all_nil, List.set_cons_zero, List.set_cons_succ, fillS_nil, blS_some, P32, CSp, decU_cons, decU_nil, c2_lst, flat2_lst, ev_appD, appDR_vw, ysOf_lst, killM_at, killO_some, killB_buf, appDV_buf, appDK_some, Nat.mul_one, u8s_join, newOK_some, deadL_dead, deadL_nil, liveB_buf, put_nd, evD_nil, eo_iaddrS, eo_faddr, eo_load, eo_append, ev_append, appR_vw, appV_buf, appK_some, put_n, kBlk_n, kLoop_n, lkS_vw_vw, renK_f, killO_none, applyL_ren, renQ_buf, Bool.not_false, renP_t, renSl_at, ren3_lst, ren3_vw, ren3_int, true_imp_iff, knowD_cons, knowD_nil, newMen_some, noMen_eq, noB_none, kill3_ep]
  refine ⟨fun h => ?_, fun h => ⟨⟨0, by omega⟩, ⟨rfl, rfl⟩, ?_⟩⟩
  · have h : vlR l = false := by simpa using h
    rw [enL, enE, h]; exact ⟨rfl, rfl⟩
  have hv : vlR l = true := by simpa using h
  obtain ⟨g1, g2, g3⟩ := vlR_iff hv
  rintro ⟨i, hi⟩ _
  dsimp only
  refine ⟨fun hc => ?_, fun hc => ?_⟩
  · have hc := of_decide_eq_true hc
    have hp := enP_len g2 i
    have h2 := g2 _ (getD_mem l i (by omega))
    have w1 := wr_succ i (by omega)
    refine ⟨fun he => ?_, fun he => ?_⟩
    · have he := of_decide_eq_true he
      rw [w1] at he
      have ho5 : Okb (hdR l i) := hdR_ok ho i
      rw [hdR, if_pos (show i + 1 = l.length by omega)] at ho5
      refine ⟨⟨by omega, by omega⟩, ⟨by omega, by omega⟩, ⟨by omega, by omega⟩, ⟨by omega, (ho.getD i).2⟩, ⟨rfl, ho5⟩, by omega, by omega, fun _ => ⟨⟨by omega, by omega⟩, ?_, ?_, ⟨i + 1, by omega⟩, ⟨AV.int_inj' (wr_succ i (by omega)), ?_⟩, by dsimp only; omega⟩⟩
      · simp only [List.length_append, List.length_cons, List.length_nil]; omega
      · simp only [List.length_append, List.length_cons, List.length_nil]; omega
      · show u8s _ = u8s (enP l i ++ enO l i)
        rw [enO, hdR, if_pos (show i + 1 = l.length by omega), List.append_assoc]; rfl
    · have he := of_decide_eq_false he
      rw [w1] at he
      have ho5 : Okb (hdR l i) := hdR_ok ho i
      rw [hdR, if_neg (show ¬ i + 1 = l.length by omega)] at ho5
      refine ⟨⟨by omega, by omega⟩, ⟨by omega, by omega⟩, ⟨by omega, by omega⟩, ⟨by omega, (ho.getD i).2⟩, ⟨rfl, ho5⟩, by omega, by omega, fun _ => ⟨⟨by omega, by omega⟩, ?_, ?_, ⟨i + 1, by omega⟩, ⟨AV.int_inj' (wr_succ i (by omega)), ?_⟩, by dsimp only; omega⟩⟩
      · simp only [List.length_append, List.length_cons, List.length_nil]; omega
      · simp only [List.length_append, List.length_cons, List.length_nil]; omega
      · show u8s _ = u8s (enP l i ++ enO l i)
        rw [enO, hdR, if_neg (show ¬ i + 1 = l.length by omega), List.append_assoc]; rfl
  · have hc := of_decide_eq_false hc
    rw [show i = l.length by omega, enL, enE, hv]; exact ⟨rfl, rfl⟩
set_option maxHeartbeats 4000000 in
theorem walk30 {Phi : Nat → Option Ctr} (P26 : Phi 26 = some CVl) (P33 : Phi 33 = some CCl) (P35 : Phi 35 = some CSu) (b : List Int) (hl : b.length ≤ 100000) (hb : Okb b) : evC Phi (I30 b) rc30 ⟨initS [.lst [.int .u8 0] (u8s b)], initM false []⟩ (kRet rv30 (.tup [.lst [.int .u8 0, .nil] (recs (dcR b).1), .int .i64 (dcR b).2.1, .int .i64 (dcR b).2.2]) false []) := by
  simp (config := {maxSteps := 2000000}) only [rc30, initM_f, rv30, evC_seq, evC_region, eo_mov, evG_no, Option.getD_some, ev_mov, av_c, gv_nil, bind1_some', un1_mov, goOp_some, put_q, gv_int, evOps_nil, kEnd_at, hasG_no, hasG_nil, kEndB_f, kSeq_n, evC_block, evC_loop, I30_0, L30aS, S30a, SL_ge, lkL_cons, upd_at, Nat.reduceEqDiff, ↓reduceIte, initS_at, List.getD_cons_zero, lkS_lst, lkS_nil_vw, lookM_cons, nlK_buf, lkS_int, lkL_nil, List.nil_append, List.cons_append, lkM_cons, lkB_buf, lkM_nil, applyL_nls, nlV_nil, Nat.reduceLeDiff, decide_true, List.length_cons, List.length_nil, Nat.zero_add, Nat.reduceAdd, Nat.reduceLT, Bool.and_self, nlP_t, applyL_nil, SL_ge0, leL_cons, killS_at, kill3_lst, leV1_lst, leV1_vw, kill3_int, leV1_int, leL_nil, and_true, true_and, leM_cons, updM_at, leB_buf, leM_nil, L30aR, SL_st, av_t, lookL_cons, gv_lst, eo_len, ev_len, len_lst, u8s_len, eo_arith, ev_arith, bind2_some', arith_sub, eo_cmp, ev_cmp, cmp2_some, cmp_lss, toR_some', evC_cond, evC_ret, kSeq_r, kBlk_r, kLoop_r, kRet_r, retOK_eq, retL_cons, retV_t, retL_nil, consO_some, lkR_two, lkVs_cons, lk1_nil, lk1_int, lkVs_nil, lkT_f, retOK_f, rtO_some, resV_two, leVs_cons, leV1_nil, leA_nil, leVs_nil, knowL_nil, askL_nil, evC_skip, arith_add, eo_slice, ev_slice, boundA_some, optS_some, sliceO_some, slice_lst, loOf_int, hiOf_int, beq_self_eq_true, slL_some, Int.toNat_natCast, u8s_drop, u8s_take, evC_draw, preK_some, needD_mov, preB_f, needD_arith, needD_iaddrS, needD_load, needD_conv, preK_nil, evD_cons, evDk_some, newOK_none, ev_iaddrS, iaddrS_lst, iasB_true, Int.reduceLE, Int.reduceToNat, ev_load, gv_ep, load_ep, getE_u8, valOf_one, List.getElem?_cons_zero, ldV_some, ev_conv, un1_conv, evD_nil, eo_call, P35, CSu, evCl_mk, ev_call, avs_cons, avs_nil, clO_some, call_pure, lends_cons, lend1_lst, lends_nil, consL_some', callN_some, decU_u8s, and_self, callP_some, c2_int, flat2_int, backOK_nil, clQ_t, cmp_neq, gv_bool, eo_iaddrS, eo_load, arith_andNot, needD_slice, needD_call, needD_cmp, gv_vw, len_vw, lenV_buf, recs_len, cmp_eql, kBlk_n, needD_build, needD_bslice, needD_appD, preB_t, Nat.reduceMul, kill3_vw, P33, CCl, c2_lst, flat2_lst, ev_build, fillA_cons, faK_some, cells_int, faC_some, setC_cons, List.set_cons_zero, setC_nil, cells_lst, List.set_cons_succ, fillA_nil, blO_some, ev_bslice, List.replicate_succ, List.replicate_zero, fillS_cons, gv_agg, fsK_some, cells_agg, fsC_some, List.all_cons, c0_int, c0_lst, List.all_nil, fillS_nil, blS_some, ev_appD, appDR_vw, ysOf_lst, Nat.reduceBEq, killM_at, killO_some, killB_buf, appDV_buf, appDK_some, recs_snoc, newOK_some, deadL_dead, deadL_nil, liveB_buf, put_nd, arith_and, evC_exit, kBlk_e, kBlkB_f, kLoop_e, kBlkB_t, P26, CVl, lend1_vw, lendB_buf, decR_recs, c2_bool, flat2_bool, backOK_cons, eo_not, ev_not, un1_not, lk1_vw_lst, applyL_frz, frzQ_buf, frzP_t, frzSl_at, frz3_vw, frz3_int, ar_t, condK_bool, askL_cons, kLoop_n, lkS_vw_vw, renK_f, killO_none, applyL_ren, renQ_buf, Bool.not_false, renP_t, renSl_at, ren3_lst, ren3_vw, ren3_int, knowL_cons, knowD_cons, knowD_nil, pairD_cons, pairOK_eq, newMen_none, List.contains_cons, List.contains_nil, Bool.or_false, Bool.or_true, pairB_t, pairD_nil, pairB_f, chkR_eq, pslots_vw, optN_some, disjN_nil, pslots_int, List.map_nil, newI_none, List.map_cons, newI_some, disjN_cons, newMen_some, noMen_eq, noB_none, pslots_lst, pslots_agg, pslots_ep, kill3_agg, kill0_int, kill0_lst, kill3_ep, true_imp_iff]
  refine ⟨⟨b.length + 1, 0, [], by omega, by omega, rfl, by simp⟩, ⟨rfl, rfl⟩, ?_⟩
  rintro ⟨f, n, l, hf, hn, he, hl16⟩ _
  obtain ⟨f, rfl⟩ : ∃ f', f = f' + 1 := ⟨f - 1, by omega⟩
  dsimp only
  simp only [dcF] at he
  have w0 : IntKind.i64.wrap ((b.length : Int) - n) = (b.length : Int) - n := wr_in _ (by omega) (by omega)
  have w5 : IntKind.i64.wrap ((n : Int) + 5) = (n : Int) + 5 := wr_in _ (by omega) (by omega)
  have t6 : ((n : Int) + 5).toNat = n + 5 := by omega
  simp only [w0, w5, t6, Nat.add_sub_cancel_left]
  refine ⟨fun h1 => ?_, fun h1 => ?_⟩
  · have h1 := of_decide_eq_true h1
    rw [if_pos (by omega)] at he
    rw [he]; exact ⟨rfl, rfl, rfl⟩
  have h1 := of_decide_eq_false h1
  rw [if_neg (by omega)] at he
  have hH : ((b.drop n).take 5).length = 5 := by simp only [List.length_take, List.length_drop]; omega
  have hHo : Okb ((b.drop n).take 5) := (hb.drop n).take 5
  have hk := hHo.getD 2
  obtain ⟨k, hk'⟩ : ∃ k : Nat, ((b.drop n).take 5).getD 2 0 = k := ⟨_, (Int.toNat_of_nonneg hk.1).symm⟩
  rw [hk'] at hk
  have wk : IntKind.i64.wrap (k : Int) = k := wr_in _ (by omega) (by omega)
  have w7 : IntKind.i64.wrap ((n : Int) + 5 + k) = (n : Int) + 5 + k := wr_in _ (by omega) (by omega)
  have w8 : IntKind.i64.wrap ((b.length : Int) - n - 5) = (b.length : Int) - n - 5 := wr_in _ (by omega) (by omega)
  have w9 : IntKind.i64.wrap (5 + (k : Int)) = 5 + k := wr_in _ (by omega) (by omega)
  have w10 : IntKind.i64.wrap ((n : Int) + (5 + k)) = n + (5 + k) := wr_in _ (by omega) (by omega)
  have t7 : ((n : Int) + 5 + k).toNat = n + 5 + k := by omega
  simp only [hk', wk, w7, w8, w9, w10, t7, Nat.add_sub_cancel_left, Int.toNat_natCast] at he ⊢
  have hD : ((b.drop (n + 5)).take k).length ≤ 100000 := by simp only [List.length_take, List.length_drop]; omega
  have hDo : Okb ((b.drop (n + 5)).take k) := (hb.drop _).take _
  generalize (b.drop n).take 5 = H at he hH hHo hk' ⊢
  have hx := hHo.getD 1
  rw [bit_an hx, bit_and hx]
  refine ⟨⟨by omega, by omega, by omega⟩, by omega, fun _ => ⟨by omega, fun h2 => ?_, fun h2 => ?_⟩⟩
  · have h2 : ¬ c8 H = 0 := by simpa using h2
    rw [if_pos h2] at he
    rw [he]; exact ⟨rfl, rfl, rfl⟩
  have h2 : c8 H = 0 := by simpa using h2
  rw [if_neg (fun h => h h2)] at he
  refine ⟨by omega, fun _ => ⟨fun h3 => ?_, fun h3 _ => ⟨fun h4 => ?_, fun h4 => ?_⟩⟩⟩
  · have h3 : ¬ H.getD 1 0 % 128 = 2 := of_decide_eq_false (by simpa only [Bool.not_eq_true'] using h3)
    rw [if_pos h3] at he
    rw [he]; exact ⟨rfl, rfl, rfl⟩
  · have h3 : H.getD 1 0 % 128 = 2 := of_decide_eq_true (by simpa only [Bool.not_eq_false'] using h3)
    rw [if_neg (fun h => h h3)] at he
    have h4 := of_decide_eq_true h4
    rw [if_pos (by omega)] at he
    rw [he]; exact ⟨rfl, rfl, rfl⟩
  have h3 : H.getD 1 0 % 128 = 2 := of_decide_eq_true (by simpa only [Bool.not_eq_false'] using h3)
  have h4 := of_decide_eq_false h4
  rw [if_neg (fun h => h h3), if_neg (by omega)] at he
  refine ⟨⟨by omega, by omega, by omega⟩, hD, by omega, fun _ => ⟨fun h5 => ?_, fun h5 _ => ⟨fun h6 => ?_, fun h6 => ?_⟩⟩⟩
  · have h5 : ¬ c8 ((b.drop (n + 5)).take k) = H.getD 3 0 := of_decide_eq_false (by simpa only [Bool.not_eq_true'] using h5)
    rw [if_pos h5] at he
    rw [he]; exact ⟨rfl, rfl, rfl⟩
  · have h5 : c8 ((b.drop (n + 5)).take k) = H.getD 3 0 := of_decide_eq_true (by simpa only [Bool.not_eq_false'] using h5)
    have h6 := of_decide_eq_true h6
    rw [if_neg (fun h => h h5), if_pos (by omega)] at he
    rw [he]; exact ⟨rfl, rfl, rfl⟩
  have h5 : c8 ((b.drop (n + 5)).take k) = H.getD 3 0 := of_decide_eq_true (by simpa only [Bool.not_eq_false'] using h5)
  have h6 := of_decide_eq_false h6
  rw [if_neg (fun h => h h5), if_neg (by omega)] at he
  refine ⟨by omega, ⟨by omega, by omega, by omega⟩, hD, by omega, by omega, fun _ => ⟨by omega, fun _ => ⟨fun h7 => ?_, fun h7 => ?_⟩⟩⟩
  · have h7 : ¬ H.getD 1 0 < 128 := fun h => by rw [if_pos h] at h7; simp at h7
    rw [if_neg h7] at he
    refine ⟨fun hv => ?_, fun hv => ?_⟩
    · rw [if_neg (by simpa using hv)] at he
      rw [he]; exact ⟨rfl, rfl, rfl⟩
    · rw [if_pos (by simpa using hv)] at he
      rw [he]; exact ⟨rfl, AV.int_inj' (by dsimp only; omega), rfl⟩
  · have h7 : H.getD 1 0 < 128 := by
      by_cases h : H.getD 1 0 < 128
      · exact h
      · rw [if_neg h] at h7; simp at h7
    rw [if_pos h7] at he
    exact ⟨⟨f, n + 5 + k, _, by omega, by omega, he, by simp only [List.length_append, List.length_cons, List.length_nil]; omega⟩, ⟨AV.int_inj' (by dsimp only; omega), rfl⟩, by dsimp only; omega⟩
set_option maxHeartbeats 4000000 in
theorem walk31 {Phi : Nat → Option Ctr} (P27 : Phi 27 = some CVl) (P34 : Phi 34 = some CCl) (P29 : Phi 29 = some CSo) (b : List Int) (hl : b.length ≤ 100000) (hb : Okb b) : evC Phi (I31 b) rc31 ⟨initS [.lst [.int .u8 0] (u8s b)], initM false []⟩ (kRet rv31 (.tup [.lst [.int .u8 0, .nil] (recs (dcR b).1), .int .i64 (dcR b).2.1, .int .i64 (dcR b).2.2]) false []) := by
  simp (config := {maxSteps := 2000000}) only [rc31, initM_f, rv31, evC_seq, evC_region, eo_mov, evG_no, Option.getD_some, ev_mov, av_c, gv_nil, bind1_some', un1_mov, goOp_some, put_q, gv_int, evOps_nil, kEnd_at, hasG_no, hasG_nil, kEndB_f, kSeq_n, evC_block, evC_loop, I31_0, L31aS, S31a, SL_ge, lkL_cons, upd_at, Nat.reduceEqDiff, ↓reduceIte, initS_at, List.getD_cons_zero, lkS_lst, lkS_nil_vw, lookM_cons, nlK_buf, lkS_int, lkL_nil, List.nil_append, List.cons_append, lkM_cons, lkB_buf, lkM_nil, applyL_nls, nlV_nil, Nat.reduceLeDiff, decide_true, List.length_cons, List.length_nil, Nat.zero_add, Nat.reduceAdd, Nat.reduceLT, Bool.and_self, nlP_t, applyL_nil, SL_ge0, leL_cons, killS_at, kill3_lst, leV1_lst, leV1_vw, kill3_int, leV1_int, leL_nil, and_true, true_and, leM_cons, updM_at, leB_buf, leM_nil, L31aR, SL_st, av_t, lookL_cons, gv_lst, eo_len, ev_len, len_lst, u8s_len, eo_arith, ev_arith, bind2_some', arith_sub, eo_cmp, ev_cmp, cmp2_some, cmp_lss, toR_some', evC_cond, evC_ret, kSeq_r, kBlk_r, kLoop_r, kRet_r, retOK_eq, retL_cons, retV_t, retL_nil, consO_some, lkR_two, lkVs_cons, lk1_nil, lk1_int, lkVs_nil, lkT_f, retOK_f, rtO_some, resV_two, leVs_cons, leV1_nil, leA_nil, leVs_nil, knowL_nil, askL_nil, evC_skip, arith_add, eo_slice, ev_slice, boundA_some, optS_some, sliceO_some, slice_lst, loOf_int, hiOf_int, beq_self_eq_true, slL_some, Int.toNat_natCast, u8s_drop, u8s_take, eo_call, P29, CSo, evCl_mk, ev_call, avs_cons, avs_nil, clO_some, call_pure, lends_cons, lend1_lst, lends_nil, consL_some', callN_some, decU_u8s, and_self, callP_some, c2_int, flat2_int, backOK_nil, clQ_t, cmp_neq, eo_iaddrS, ev_iaddrS, iaddrS_lst, iasB_true, Int.reduceLE, Int.reduceToNat, eo_load, ev_load, gv_ep, load_ep, getE_u8, valOf_one, List.getElem?_cons_zero, ldV_some, arith_rem, eo_conv, ev_conv, un1_conv, evC_draw, preK_some, needD_mov, preB_f, needD_call, needD_iaddrS, needD_load, needD_cmp, preK_nil, evD_cons, evDk_some, newOK_none, evD_nil, gv_vw, len_vw, lenV_buf, recs_len, cmp_eql, needD_build, needD_bslice, needD_appD, preB_t, Nat.reduceMul, kill3_vw, P34, CCl, c2_lst, flat2_lst, ev_build, fillA_cons, faK_some, cells_int, faC_some, setC_cons, List.set_cons_zero, setC_nil, cells_lst, List.set_cons_succ, fillA_nil, blO_some, ev_bslice, List.replicate_succ, List.replicate_zero, fillS_cons, gv_agg, fsK_some, cells_agg, fsC_some, List.all_cons, c0_int, c0_lst, List.all_nil, fillS_nil, blS_some, ev_appD, appDR_vw, ysOf_lst, Nat.reduceBEq, killM_at, killO_some, killB_buf, appDV_buf, appDK_some, recs_snoc, newOK_some, deadL_dead, deadL_nil, liveB_buf, put_nd, cmp_geq, evC_exit, kBlk_e, kBlkB_f, kLoop_e, kBlkB_t, P27, CVl, lend1_vw, lendB_buf, decR_recs, c2_bool, flat2_bool, backOK_cons, eo_not, ev_not, gv_bool, un1_not, lk1_vw_lst, applyL_frz, frzQ_buf, frzP_t, frzSl_at, frz3_vw, frz3_int, ar_t, condK_bool, askL_cons, kBlk_n, kLoop_n, lkS_vw_vw, renK_f, killO_none, applyL_ren, renQ_buf, Bool.not_false, renP_t, renSl_at, ren3_lst, ren3_vw, ren3_int, knowL_cons, knowD_cons, knowD_nil, pairD_cons, pairOK_eq, newMen_none, List.contains_cons, List.contains_nil, Bool.or_false, Bool.or_true, pairB_t, pairD_nil, newMen_some, noMen_eq, List.map_nil, noB_none, kill3_agg, List.map_cons, kill0_int, kill0_lst, kill3_ep, pairB_f, chkR_eq, pslots_lst, optN_some, disjN_nil, pslots_vw, newI_none, pslots_agg, pslots_int, pslots_ep, true_imp_iff]
  refine ⟨⟨b.length + 1, 0, [], by omega, by omega, rfl, by simp⟩, ⟨rfl, rfl⟩, ?_⟩
  rintro ⟨f, n, l, hf, hn, he, hl16⟩ _
  obtain ⟨f, rfl⟩ : ∃ f', f = f' + 1 := ⟨f - 1, by omega⟩
  dsimp only
  simp only [dcF] at he
  have w0 : IntKind.i64.wrap ((b.length : Int) - n) = (b.length : Int) - n := wr_in _ (by omega) (by omega)
  have w5 : IntKind.i64.wrap ((n : Int) + 5) = (n : Int) + 5 := wr_in _ (by omega) (by omega)
  have t6 : ((n : Int) + 5).toNat = n + 5 := by omega
  simp only [w0, w5, t6, Nat.add_sub_cancel_left]
  refine ⟨fun h1 => ?_, fun h1 => ?_⟩
  · have h1 := of_decide_eq_true h1
    rw [if_pos (by omega)] at he
    rw [he]; exact ⟨rfl, rfl, rfl⟩
  have h1 := of_decide_eq_false h1
  rw [if_neg (by omega)] at he
  have hH : ((b.drop n).take 5).length = 5 := by simp only [List.length_take, List.length_drop]; omega
  have hHo : Okb ((b.drop n).take 5) := (hb.drop n).take 5
  have hk := hHo.getD 2
  obtain ⟨k, hk'⟩ : ∃ k : Nat, ((b.drop n).take 5).getD 2 0 = k := ⟨_, (Int.toNat_of_nonneg hk.1).symm⟩
  rw [hk'] at hk
  have wk : IntKind.i64.wrap (k : Int) = k := wr_in _ (by omega) (by omega)
  have w7 : IntKind.i64.wrap ((n : Int) + 5 + k) = (n : Int) + 5 + k := wr_in _ (by omega) (by omega)
  have w8 : IntKind.i64.wrap ((b.length : Int) - n - 5) = (b.length : Int) - n - 5 := wr_in _ (by omega) (by omega)
  have w9 : IntKind.i64.wrap (5 + (k : Int)) = 5 + k := wr_in _ (by omega) (by omega)
  have w10 : IntKind.i64.wrap ((n : Int) + (5 + k)) = n + (5 + k) := wr_in _ (by omega) (by omega)
  have t7 : ((n : Int) + 5 + k).toNat = n + 5 + k := by omega
  simp only [hk', wk, w7, w8, w9, w10, t7, Nat.add_sub_cancel_left, Int.toNat_natCast] at he ⊢
  have hD : ((b.drop (n + 5)).take k).length ≤ 100000 := by simp only [List.length_take, List.length_drop]; omega
  have hDo : Okb ((b.drop (n + 5)).take k) := (hb.drop _).take _
  generalize (b.drop n).take 5 = H at he hH hHo hk' ⊢
  have hx := hHo.getD 1
  rw [Int.tmod_eq_emod_of_nonneg hx.1]
  refine ⟨⟨by omega, by omega, by omega⟩, ⟨by omega, hHo⟩, fun h2 => ?_, fun h2 => ?_⟩
  · have h2 : ¬ c8 H = 0 := by simpa using h2
    rw [if_pos h2] at he
    rw [he]; exact ⟨rfl, rfl, rfl⟩
  have h2 : c8 H = 0 := by simpa using h2
  rw [if_neg (fun h => h h2)] at he
  refine ⟨by omega, fun _ => ⟨by decide, fun h3 => ?_, fun h3 => ⟨by omega, fun _ _ => ⟨fun h4 => ?_, fun h4 => ?_⟩⟩⟩⟩
  · have h3 : ¬ H.getD 1 0 % 128 = 2 := of_decide_eq_false (by simpa only [Bool.not_eq_true'] using h3)
    rw [if_pos h3] at he
    rw [he]; exact ⟨rfl, rfl, rfl⟩
  · have h3 : H.getD 1 0 % 128 = 2 := of_decide_eq_true (by simpa only [Bool.not_eq_false'] using h3)
    rw [if_neg (fun h => h h3)] at he
    have h4 := of_decide_eq_true h4
    rw [if_pos (by omega)] at he
    rw [he]; exact ⟨rfl, rfl, rfl⟩
  have h3 : H.getD 1 0 % 128 = 2 := of_decide_eq_true (by simpa only [Bool.not_eq_false'] using h3)
  have h4 := of_decide_eq_false h4
  rw [if_neg (fun h => h h3), if_neg (by omega)] at he
  refine ⟨⟨by omega, by omega, by omega⟩, ⟨hD, hDo⟩, by omega, fun _ => ⟨fun h5 => ?_, fun h5 _ => ⟨fun h6 => ?_, fun h6 => ?_⟩⟩⟩
  · have h5 : ¬ c8 ((b.drop (n + 5)).take k) = H.getD 3 0 := of_decide_eq_false (by simpa only [Bool.not_eq_true'] using h5)
    rw [if_pos h5] at he
    rw [he]; exact ⟨rfl, rfl, rfl⟩
  · have h5 : c8 ((b.drop (n + 5)).take k) = H.getD 3 0 := of_decide_eq_true (by simpa only [Bool.not_eq_false'] using h5)
    have h6 := of_decide_eq_true h6
    rw [if_neg (fun h => h h5), if_pos (by omega)] at he
    rw [he]; exact ⟨rfl, rfl, rfl⟩
  have h5 : c8 ((b.drop (n + 5)).take k) = H.getD 3 0 := of_decide_eq_true (by simpa only [Bool.not_eq_false'] using h5)
  have h6 := of_decide_eq_false h6
  rw [if_neg (fun h => h h5), if_neg (by omega)] at he
  refine ⟨by omega, hD, by omega, by omega, fun _ => ⟨by omega, fun _ => ⟨fun h7 => ?_, fun h7 => ?_⟩⟩⟩
  · have h7 := of_decide_eq_true h7
    rw [if_neg (by omega)] at he
    refine ⟨fun hv => ?_, fun hv => ?_⟩
    · rw [if_neg (by simpa using hv)] at he
      rw [he]; exact ⟨rfl, rfl, rfl⟩
    · rw [if_pos (by simpa using hv)] at he
      rw [he]; exact ⟨rfl, AV.int_inj' (by dsimp only; omega), rfl⟩
  · have h7 := of_decide_eq_false h7
    rw [if_pos (by omega)] at he
    exact ⟨⟨f, n + 5 + k, _, by omega, by omega, he, by simp only [List.length_append, List.length_cons, List.length_nil]; omega⟩, ⟨AV.int_inj' (by dsimp only; omega), rfl⟩, by dsimp only; omega⟩
set_option maxHeartbeats 4000000 in
theorem walk12o {Phi : Nat → Option Ctr} (P14 : Phi 14 = some CDx) (P28 : Phi 28 = some CDy) (L : List Int) (a n : Int) (ha : 0 ≤ a) (hn : 0 ≤ n ∧ n ≤ 1000) : evC Phi (I12o L n) rc12 ⟨initS (.ptr 0 0 :: [.int .i64 n]), initM true [.lst [.int .i64 0] (i64s L), .int .i64 a]⟩ (kRetX rv12 true (fun q : List Int × Int => ((q.1.length ≤ n ∧ Okb q.1) ∧ 0 ≤ q.2, .lst [.int .u8 0] (u8s q.1), [.lst [.int .i64 0] (i64s L), .int .i64 q.2]))) := by
  simp (config := {maxSteps := 2000000}) only [rc12, initM_t, rv12, evC_seq, evC_region, eo_mov, evG_no, Option.getD_some, ev_mov, av_c, gv_nil, bind1_some', un1_mov, goOp_some, put_q, evOps_nil, kEnd_at, hasG_no, hasG_nil, kEndB_f, kSeq_n, av_t, upd_at, Nat.reduceEqDiff, ↓reduceIte, initS_at, List.getD_cons_zero, gv_ptr, List.getD_cons_succ, gv_int, eo_arith, ev_arith, bind2_some', arith_add, eo_call, P14, CDx, evCl_mk, ev_call, avs_cons, avs_nil, consO_some, clO_some, call_state, updM_at, callC_cells, lends_cons, lend1_int, lends_nil, consL_some', List.nil_append, callB_some, List.all_cons, c0_lst, c0_int, List.all_nil, Bool.and_self, decI_i64s, and_self, true_and, callD_t, callS_some, c2_int, flat2_int, flat0_lst, flat0_int, Bool.and_true, Bool.true_and, backOK_nil, clU_t, put_u, liveB_cells, evC_block, evC_loop, I12o_0, L12oaS, S12oa, SL_ge, lkL_cons, lkS_ptr, lkS_nil_vw, lookM_cons, nlK_buf, lkS_int, lkL_nil, List.cons_append, lkM_cons, lkB_cells, lkC_cons, lkC0_lst, Nat.zero_add, lkC0_int, Nat.reduceAdd, lkC_nil, lkB_buf, lkM_nil, applyL_nls, nlV_nil, Nat.reduceLeDiff, decide_true, List.length_cons, List.length_nil, Nat.reduceLT, nlP_t, applyL_nil, SL_ge0, leL_cons, killS_at, kill3_ptr, leV1_ptr, leV1_vw, kill3_int, leV1_int, leL_nil, and_true, leM_cons, killM_at, killO_some, killB_cells, List.map_cons, kill0_lst, kill0_int, List.map_nil, leB_cells, leAs_cons, leA_lst, leA_int, leAs_nil, leB_buf, leM_nil, L12oaR, SL_st, lookL_cons, eo_cmp, ev_cmp, cmp2_some, cmp_gtr, toR_some', evC_cond, evC_skip, gv_vw, P28, CDy, eo_bsliceO, vwsG_cons, ar_t, vws1_int, vwsG_nil, frzL_nil, goF_eq, ev_bsliceO, List.replicate_succ, List.replicate_zero, fillS_cons, fsK_some, cells_int, fsC_some, List.set_cons_zero, fillS_nil, blO2_some, Nat.reduceMul, put_n, killB_buf, eo_append, ev_append, kill3_vw, appR_vw, ysOf_vw, ysV_buf, appV_buf, appK_some, u8s_len, Nat.mul_one, u8s_snoc, kBlk_n, arith_sub, kLoop_n, lkS_vw_vw, beq_self_eq_true, renK_t, knowL_nil, askL_nil, askL_cons, evC_exit, kSeq_e, kLoop_e, kBlk_e, kBlkB_t, evC_ret, kRetX_r, retXG_eq, retX_eq, retL_cons, retV_t, retL_nil, lkR_one, lk1_vw_lst, lkT_t, applyL_frz, frzQ_buf, frzP_t, retX0_eq, frzSl_at, frz3_vw, resXO_some, resX_one, leX1_lst, pqR_one, pq1_lst, pqK_nil, nodupN_nil, frs2_lst, idsOK_eq, wfRes_one, wfX1_lst, frzM_at, frzO_some, frzB_cells, frz0_lst, frz0_int, resXT_t, condK_bool, true_imp_iff]
  have w : IntKind.i64.wrap (n + 1) = n + 1 := wr_in _ (by omega) (by omega)
  rw [w]
  have b := dx_bd (L := L) (a := a) (m := n + 1) (by omega) (by omega)
  refine ⟨⟨ha, by omega⟩, ⟨dxA L a, (dxV L a (n + 1)).toNat, [], dxA_nn ha, by simp only [List.length_nil]; omega, .nil⟩, ⟨AV.int_inj' (by dsimp only; omega), rfl, rfl⟩, ?_⟩
  rintro ⟨b', k, o, h1, h2, h3⟩
  dsimp only
  refine ⟨fun hc => ?_, fun hc => ⟨(o, b'), ⟨⟨by dsimp only; omega, h3⟩, h1⟩, rfl, rfl⟩⟩
  have hc := of_decide_eq_true hc
  exact ⟨h1, by omega, by omega, ⟨dyA L b', k - 1, o ++ [dyV L b'], dyA_nn h1, by simp only [List.length_append, List.length_cons, List.length_nil]; omega, h3.app (.cons (dy_bd L b') .nil)⟩, ⟨AV.int_inj' (by rw [wr_in _ (by omega) (by omega)]; dsimp only; omega), rfl, rfl⟩, by dsimp only; omega⟩
set_option maxHeartbeats 4000000 in
theorem walk15o {Phi : Nat → Option Ctr} (P12 : Phi 12 = some CDBo) (P13 : Phi 13 = some CDb) (P14 : Phi 14 = some CDx) (L : List Int) (a n : Int) (ha : 0 ≤ a) (hn : 0 ≤ n ∧ n ≤ 100) : evC Phi (I15o L n) rc15 ⟨initS (.ptr 0 0 :: [.int .i64 n]), initM true [.lst [.int .i64 0] (i64s L), .int .i64 a]⟩ (kRetX rv15 true (fun q : List Rc × Int => ((q.1.length ≤ n ∧ Okr q.1) ∧ 0 ≤ q.2, .lst [.int .u8 0, .nil] (recs q.1), [.lst [.int .i64 0] (i64s L), .int .i64 q.2]))) := by
  simp (config := {maxSteps := 2000000}) only [rc15, initM_t, rv15, evC_seq, evC_region, eo_mov, evG_no, Option.getD_some, ev_mov, av_c, gv_nil, bind1_some', un1_mov, goOp_some, put_q, evOps_nil, kEnd_at, hasG_no, hasG_nil, kEndB_f, kSeq_n, av_t, upd_at, Nat.reduceEqDiff, ↓reduceIte, initS_at, List.getD_cons_zero, gv_ptr, List.getD_cons_succ, gv_int, eo_arith, ev_arith, bind2_some', arith_add, eo_call, P14, CDx, evCl_mk, ev_call, avs_cons, avs_nil, consO_some, clO_some, call_state, updM_at, callC_cells, lends_cons, lend1_int, lends_nil, consL_some', List.nil_append, callB_some, List.all_cons, c0_lst, c0_int, List.all_nil, Bool.and_self, decI_i64s, and_self, true_and, callD_t, callS_some, c2_int, flat2_int, flat0_lst, flat0_int, Bool.and_true, Bool.true_and, backOK_nil, clU_t, put_u, liveB_cells, evC_block, evC_loop, I15o_0, L15oaS, S15oa, SL_ge, lkL_cons, lkS_ptr, lkS_nil_vw, lookM_cons, nlK_buf, lkS_int, lkL_nil, List.cons_append, lkM_cons, lkB_cells, lkC_cons, lkC0_lst, Nat.zero_add, lkC0_int, Nat.reduceAdd, lkC_nil, lkB_buf, lkM_nil, applyL_nls, nlV_nil, Nat.reduceLeDiff, decide_true, List.length_cons, List.length_nil, Nat.reduceLT, nlP_t, applyL_nil, SL_ge0, leL_cons, killS_at, kill3_ptr, leV1_ptr, leV1_vw, kill3_int, leV1_int, leL_nil, and_true, leM_cons, killM_at, killO_some, killB_cells, List.map_cons, kill0_lst, kill0_int, List.map_nil, leB_cells, leAs_cons, leA_lst, leA_int, leAs_nil, leB_buf, leM_nil, L15oaR, SL_st, lookL_cons, eo_cmp, ev_cmp, cmp2_some, cmp_gtr, toR_some', evC_cond, evC_skip, eo_conv, ev_conv, un1_conv, P12, CDBo, evCl_ext, evXV_some, evX_t, evXC_cells, evXB_some, Int.reduceLE, evXM_some, evXS_eq, wfX2_lst, frs2_lst, idsOK_eq, nodupN_nil, flatX2_lst, flatL_nil, evOpsk_at, eo_build, ev_build, fillA_cons, backX_nil, setB_eq, putX_eq, unfr2_lst, addF_nil, putY_eq, faK_some, cells_int, faC_some, setC_cons, List.set_cons_zero, setC_nil, gv_lst, cells_lst, List.set_cons_succ, fillA_nil, blO_some, eo_alloc, ev_alloc, Nat.reduceMul, put_n, kill0_nil, eo_store, ar_t, kill3_agg, vwsT_ptr, frzL_nil, goF_eq, Option.getD_none, ev_store, gv_agg, store_ptr, cells_agg, stB_cells, stC_true, put_s, P13, CDb, W, c2_bool, flat2_bool, eo_mkslice, ev_mkslice, mk_int, u8s_rep, killB_buf, eo_faddr, ev_faddr, faddr_ptr, gv_vw, cells_vw, kill3_vw, eo_load, ev_load, load_ptr, ldB_cells, valOf_agg, valB_true, List.drop_zero, List.take_succ_cons, List.take_zero, ldV_some, eo_bsliceO, vwsG_cons, vws1_agg, vwsL_cons, vws0_int, vws0_vw, vwsL_nil, vwsG_nil, frzL_cons, frzQ_buf, frzP_t, ev_bsliceO, List.replicate_succ, List.replicate_zero, fillS_cons, frzSl_at, frz3_agg, frz0_int, frz0_vw, fsK_some, fsC_some, fillS_nil, blO2_some, eo_append, ev_append, frz3_vw, appR_vw, ysOf_vw, ysV_buf, frzM_at, frzO_some, frzB_buf, appV_buf, appK_some, recs_len, recs_snoc, kBlk_n, frz3_int, arith_sub, kLoop_n, frz3_ptr, lkS_vw_vw, beq_self_eq_true, renK_t, frzB_cells, frz0_lst, knowL_nil, askL_nil, askL_cons, vws0_lst, condK_bool, evC_exit, kSeq_e, kLoop_e, kBlk_e, kBlkB_t, evC_ret, kRetX_r, retXG_eq, retX_eq, retL_cons, retV_t, retL_nil, lkR_one, lk1_vw_lst, lkT_t, applyL_frz, retX0_eq, resXO_some, resX_one, leX1_lst, pqR_one, pq1_lst, pqK_nil, wfRes_one, wfX1_lst, resXT_t, true_imp_iff]
  have w : IntKind.i64.wrap (n + 1) = n + 1 := wr_in _ (by omega) (by omega)
  rw [w]
  have b := dx_bd (L := L) (a := a) (m := n + 1) (by omega) (by omega)
  refine ⟨⟨ha, by omega⟩, ⟨dxA L a, (dxV L a (n + 1)).toNat, [], dxA_nn ha, by simp only [List.length_nil]; omega, fun r hr => by cases hr⟩, ⟨AV.int_inj' (by dsimp only; omega), rfl, rfl⟩, ?_⟩
  rintro ⟨b', k, o, h1, h2, h3⟩
  dsimp only
  refine ⟨fun hc => ?_, fun hc => ⟨(o, b'), ⟨⟨by dsimp only; omega, h3⟩, h1⟩, rfl, rfl⟩⟩
  have hc := of_decide_eq_true hc
  have hs : ∀ x : Rc, ((0 ≤ x.ty ∧ x.ty ≤ 255) ∧ Okb x.d) → Okr (o ++ [x]) := fun x hx r hr => (List.mem_append.1 hr).elim (h3 r) fun h => by rw [List.mem_singleton.1 h]; exact hx
  refine ⟨⟨h1, by omega⟩, dxA_nn h1, ?_⟩
  rintro ⟨P, b2⟩ ⟨⟨h4, hP⟩, h5⟩
  dsimp only at h4 hP h5 ⊢
  have h6 := dxA_nn (L := L) h5
  refine ⟨⟨h5, by omega⟩, fun _ => ?_, fun _ => ?_⟩
  · have bd := dx_bd (L := L) (a := dxA L b2) (m := 3) (by omega) (by omega)
    have w2 : IntKind.i64.wrap (254 + dxV L (dxA L b2) 3) = 254 + dxV L (dxA L b2) 3 := wr_in _ (by omega) (by omega)
    rw [w2]
    exact ⟨⟨h6, by omega⟩, ⟨by omega, by omega, by omega, by omega⟩, by omega, by omega, ⟨dxA L (dxA L b2), k - 1, o ++ [⟨IntKind.u8.wrap (dxV L b' 4), List.replicate (254 + dxV L (dxA L b2) 3).toNat 0⟩], dxA_nn h6, by simp only [List.length_append, List.length_cons, List.length_nil]; omega, hs _ ⟨by dsimp only; rw [IntKind.wrap_u8]; omega, fun y hy => by rw [List.eq_of_mem_replicate hy]; decide⟩⟩, ⟨AV.int_inj' (by rw [wr_in _ (by omega) (by omega)]; dsimp only; omega), rfl, rfl⟩, by dsimp only; omega⟩
  · exact ⟨by omega, by omega, ⟨dxA L b2, k - 1, o ++ [⟨IntKind.u8.wrap (dxV L b' 4), P⟩], h6, by simp only [List.length_append, List.length_cons, List.length_nil]; omega, hs _ ⟨by dsimp only; rw [IntKind.wrap_u8]; omega, hP⟩⟩, ⟨AV.int_inj' (by rw [wr_in _ (by omega) (by omega)]; dsimp only; omega), rfl, rfl⟩, by dsimp only; omega⟩
end Go.Proofs.Ytklbnccpeeehkaa

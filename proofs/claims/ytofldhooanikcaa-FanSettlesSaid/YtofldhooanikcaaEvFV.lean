/- A part of the proof: symbolic evaluation of the program's functions, proved sound against the model; no condition. -/
import Derived.Test.YtofldhooanikcaaEvFI
import Derived.Test.YtofldhooanikcaaEvFM
namespace Go.Proofs.Ytofldhooanikcaa
open Go Go.RowKit Go.Ev
set_option linter.unusedSimpArgs false
set_option linter.unusedVariables false
set_option maxRecDepth 20000
/-- Steps with the same excess, until nothing changes. -/
def stl (z : Zn) (e : Int) : Nat → Sp → Sp × Nat
  | 0, s => (s, 0)
  | k + 1, s => if ctl z s e = s then (s, 0) else ((stl z e k (ctl z s e)).1, (stl z e k (ctl z s e)).2 + 1)
def absI (x : Int) : Int := max x (-x)
def dst (z : Zn) (s : Sp) (e : Int) : Int := if 0 < z.intg * e then 1000 * (z.most - z.least) - s.sum else if z.intg * e < 0 then s.sum else 0
def nu (z : Zn) (s : Sp) (e : Int) : Nat := (dst z s e + (if (ctl z s e).sum = s.sum then absI (s.out - wnt z s.sum e) else 1000)).toNat
theorem nu_bd {z : Zn} {s : Sp} (h : sd z s = true) (e : Int) : (nu z s e : Int) ≤ 1000 * (z.most - z.least) + 1000 := by
  have hb := sd_bd h
  have hv := hb.1
  simp only [VZ] at hv
  have hw := wnt_bd hb.1 s.sum e
  simp only [nu, dst, absI]
  generalize wnt z s.sum e = w at hw ⊢
  generalize z.intg * e = p
  split <;> split <;> (try split) <;> omega
theorem near (o w sl O : Int) (h : 1 ≤ sl) (hO : O = max (o - sl) (min w (o + sl))) (hne : O ≠ o) : max (O - w) (-(O - w)) < max (o - w) (-(o - w)) := by omega
theorem nu_arith (p T s S o O w v sl : Int) (hS : S = max 0 (min (s + p) T)) (hs : 0 ≤ s ∧ s ≤ T) (hO : O = max (o - sl) (min v (o + sl))) (hsl : 1 ≤ sl) (hw : 0 ≤ w ∧ w ≤ 1000) (hv : 0 ≤ v ∧ v ≤ 1000) (ho : 0 ≤ o ∧ o ≤ 1000) (hO2 : 0 ≤ O ∧ O ≤ 1000) (hww : S = s → v = w) (hne : S = s → O ≠ o) :
    ((if 0 < p then T - S else if p < 0 then S else 0) + (if max 0 (min (S + p) T) = S then max (O - v) (-(O - v)) else 1000)).toNat < ((if 0 < p then T - s else if p < 0 then s else 0) + (if S = s then max (o - w) (-(o - w)) else 1000)).toNat := by
  by_cases hc : S = s
  · have h1 := hww hc
    have h2 := near o v sl O hsl hO (hne hc)
    rw [h1] at h2 ⊢
    have h3 : max 0 (min (S + p) T) = S := by rw [hc] at hS ⊢; exact hS.symm
    rw [if_pos h3, if_pos hc, hc]
    clear hS hO h3 hww hne
    have h5 : 0 ≤ max (O - w) (-(O - w)) := by omega
    generalize max (O - w) (-(O - w)) = x at h2 h5 ⊢
    have h4 : 0 ≤ max (o - w) (-(o - w)) := by omega
    generalize max (o - w) (-(o - w)) = y at h2 h4 ⊢
    split
    · omega
    · split <;> omega
  · rw [if_neg hc]
    have h4 : (if max 0 (min (S + p) T) = S then max (O - v) (-(O - v)) else 1000) ≤ 1000 := by split <;> omega
    generalize (if max 0 (min (S + p) T) = S then max (O - v) (-(O - v)) else 1000) = x at h4 ⊢
    clear hO hww hne
    split
    · omega
    · split <;> omega
theorem nu_dec {z : Zn} {s : Sp} {e : Int} (h : sd z s = true) (he : -100000 ≤ e ∧ e ≤ 100000) (hne : ctl z s e ≠ s) : nu z (ctl z s e) e < nu z s e ∧ sd z (ctl z s e) = true := by
  have hb := sd_bd h
  have hv := hb.1
  simp only [VZ] at hv
  obtain ⟨e1, e2⟩ := ctl_eq hb.1 hb.2.1 hb.2.2 he
  have hs' : sd z (ctl z s e) = true := sd_of hb.1 (by omega) (by omega)
  refine ⟨?_, hs'⟩
  obtain ⟨f1, _⟩ := ctl_eq (s := ctl z s e) hb.1 (sd_bd hs').2.1 (sd_bd hs').2.2 he
  have hb2 := sd_bd hs'
  have w1 := wnt_bd hb.1 s.sum e
  have w2 := wnt_bd hb.1 (ctl z s e).sum e
  have e3 : (ctl z s e).out = max (s.out - z.slew) (min (wnt z (ctl z s e).sum e) (s.out + z.slew)) := by
    rw [wnt_eq hb.1 (by omega) he]; exact e2
  have hne2 : (ctl z s e).sum = s.sum → (ctl z s e).out ≠ s.out := by
    intro h1 h2
    exact hne (by cases hc : ctl z s e; rw [hc] at h1 h2; cases s; simp only at h1 h2; rw [h1, h2])
  simp only [nu, dst, absI]
  rw [f1]
  exact nu_arith (z.intg * e) (1000 * (z.most - z.least)) s.sum (ctl z s e).sum s.out (ctl z s e).out (wnt z s.sum e) (wnt z (ctl z s e).sum e) z.slew e1 hb.2.2 e3 (by omega) (by omega) (by omega) (by omega) (by omega) (fun h => by rw [h]) hne2
theorem stl_fix {z : Zn} {e : Int} (he : -100000 ≤ e ∧ e ≤ 100000) : ∀ {k : Nat} {s : Sp}, sd z s = true → nu z s e < k → ctl z (stl z e k s).1 e = (stl z e k s).1 ∧ (stl z e k s).2 ≤ nu z s e ∧ sd z (stl z e k s).1 = true := by
  intro k
  induction k with
  | zero => intro s _ h; exact absurd h (Nat.not_lt_zero _)
  | succ k ih =>
    intro s hs hk
    simp only [stl]
    split
    · rename_i h; exact ⟨h, Nat.zero_le _, hs⟩
    · rename_i h
      obtain ⟨h1, h2⟩ := nu_dec hs he h
      obtain ⟨i1, i2, i3⟩ := ih h2 (by omega)
      exact ⟨i1, by dsimp only; omega, i3⟩
def stR (z : Zn) (s : Sp) (e : Int) : Sp × Nat := stl z e (nu z s e + 1) s
def seS (z : Zn) (s : Sp) (e : Int) : Sp := if sd z s && wi e (-100000) 100000 then (stR z s e).1 else sp0
def seN (z : Zn) (s : Sp) (e : Int) : Int := if sd z s && wi e (-100000) 100000 then ((stR z s e).2 : Int) else 0
def seE (z : Zn) (s : Sp) (e : Int) : Int := if sd z s then (if wi e (-100000) 100000 then 0 else 2) else 1
def CSe : Ctr := .mk false fun _ xs => match xs with
  | [.agg [.lst zz es, .int .i64 t, .int .i64 g, .int .i64 i, .int .i64 l, .int .i64 m, .int .i64 s], .agg [.int .i64 o, .int .i64 u], .int .i64 e] => some (zz = [.int .u8 0] ∧ es = u8s (decU es), .tup [(seS ⟨decU es, t, g, i, l, m, s⟩ ⟨o, u⟩ e).av, .int .i64 (seN ⟨decU es, t, g, i, l, m, s⟩ ⟨o, u⟩ e), .int .i64 (seE ⟨decU es, t, g, i, l, m, s⟩ ⟨o, u⟩ e)], [])
  | _ => none
structure K22 (z : Zn) (s0 : Sp) (e : Int) where
  s : Sp
  n : Nat
  k : Nat
  hs : sd z s = true
  he : -100000 ≤ e ∧ e ≤ 100000
  hk : nu z s e < k
  hn : n + k ≤ nu z s0 e + 1
  h0 : sd z s0 = true
  hr : stR z s0 e = ((stl z e k s).1, (stl z e k s).2 + n)
def S22 (z : Zn) (s0 : Sp) (e : Int) (p : K22 z s0 e) : SL := ⟨[(2, .int .i64 e), (3, .ptr 256 0), (4, .ptr 320 0), (6, .ptr 448 0), (9, .int .i64 p.n)], [(256, .cells z.cs), (320, .cells p.s.cs), (448, .cells [.int .i64 0, .int .i64 0])]⟩
def L22 (z : Zn) (s0 : Sp) (e : Int) : LI := ⟨K22 z s0 e, S22 z s0 e, fun p => p.k, fun _ _ => True⟩
def I22 (z : Zn) (s0 : Sp) (e : Int) : Nat → LI := fun _ => L22 z s0 e
theorem I22S (z : Zn) (s0 : Sp) (e : Int) (n : Nat) : (I22 z s0 e n).S = S22 z s0 e := rfl
theorem I22R (z : Zn) (s0 : Sp) (e : Int) (n : Nat) (p q) : (I22 z s0 e n).R p q = True := rfl
theorem I22M (z : Zn) (s0 : Sp) (e : Int) (n : Nat) (p : K22 z s0 e) : (I22 z s0 e n).μ p = p.k := rfl
set_option maxHeartbeats 4000000 in
theorem walk22 {Phi : Nat → Option Ctr} (P19 : Phi 19 = some CSd) (P31 : Phi 31 = some CWi) (P33 : Phi 33 = some CCt) (z : Zn) (s0 : Sp) (e : Int) : evC Phi (I22 z s0 e) rc22 ⟨initS [z.av, s0.av, .int .i64 e], initM false []⟩ (kRet rv22 (.tup [(seS z s0 e).av, .int .i64 (seN z s0 e), .int .i64 (seE z s0 e)]) false []) := by
  simp (config := {maxSteps := 2000000}) only [rc22, Zn.av, Sp.av, initM_f, rv22, evC_seq, evC_region, eo_box, evG_no, Option.getD_some, ev_box, av_t, initS_at, List.getD_cons_zero, gv_agg, bind1_some', boxR_eq, cells_agg, List.length_cons, List.length_nil, Nat.zero_add, Nat.reduceAdd, if_true, bxO_some, Nat.reduceMul, goOp_some, put_n, killB_cells, List.map_cons, kill0_lst, kill0_int, List.map_nil, upd_at, Nat.reduceEqDiff, killS_at, List.getD_cons_succ, kill3_agg, if_false, eo_alloc, ev_alloc, eo_mov, ev_mov, av_c, gv_int, un1_mov, put_q, evOps_nil, kEnd_at, hasG_no, hasG_nil, kEndB_f, kSeq_n, eo_load, ev_load, kill3_ptr, gv_ptr, load_ptr, updM_at, killM_at, killO_none, killO_some, ldB_cells, valOf_agg, Nat.reduceLeDiff, decide_true, valB_true, List.drop_zero, List.take_succ_cons, List.take_zero, ldV_some, eo_call, P19, CSd, evCl_mk, ev_call, avs_cons, avs_nil, consO_some, clO_some, call_pure, lends_cons, lend1_agg, lendC_cons, lendA_lst, lendA_int, lendC_nil, consL_some', List.nil_append, aggL_some, lends_nil, callN_some, decU_u8s, and_self, Zn.eta, Sp.eta, callP_some, c2_bool, flat2_bool, backOK_nil, Bool.and_self, clQ_t, eo_not, ev_not, gv_bool, un1_not, evC_cond, eo_build, ev_build, fillA_nil, blO_some, eo_store, ar_t, vwsT_ptr, frzL_nil, goF_eq, Option.getD_none, ev_store, bind2_some', store_ptr, stB_cells, stC_true, setC_cons, List.set_cons_zero, List.set_cons_succ, setC_nil, put_s, evC_ret, kSeq_r, kRet_r, retOK_eq, retL_cons, retV_c, rvP_ptr, rvB_cells, retV_t, retL_nil, lkR_two, lkVs_cons, lk1_agg, lkAs_cons, lk0_int, lkAs_nil, lk1_int, lkVs_nil, lkT_f, applyL_nil, retOK_f, rtO_some, resV_two, leVs_cons, leV1_agg, leAs_cons, leA_int, leAs_nil, and_true, leV1_int, leVs_nil, knowL_nil, askL_nil, evC_skip, kill3_int, P31, CWi, lend1_int, evC_block, evC_loop, I22S, S22, Zn.cs, Sp.cs, SL_ge, lkL_cons, lkS_int, lkS_ptr, lkL_nil, lkM_cons, lkB_cells, lkC_cons, lkC0_lst, lkC0_int, lkC_nil, lkM_nil, SL_ge0, leL_cons, leV1_ptr, leL_nil, true_and, leM_cons, leB_cells, leA_lst, leM_nil, I22R, SL_st, lookL_cons, lookL_nil, lookM_cons, lookM_nil, P33, CCt, c2_agg, List.all_cons, c0_int, List.all_nil, flat2_agg, flat0_int, kill3_junk, eo_eqa, ev_eqa, eqa2_some, eqaR_agg, eqC_int, eqC_nil, andO_some, Bool.and_true, eqaB_f, toR_some', kBlk_r, kLoop_r, kBlk_n, eo_arith, ev_arith, arith_add, kLoop_n, condK_bool, askL_cons, true_imp_iff]
  refine ⟨fun h => ?_, fun h => ⟨fun h2 => ?_, fun h2 => ?_⟩⟩
  · have e1 : sd z s0 = false := by simpa using h
    simp [seS, seN, seE, e1, sp0]
  · have e1 : sd z s0 = true := by simpa using h
    have e2 : wi e (-100000) 100000 = false := by simpa using h2
    simp [seS, seN, seE, e1, e2, sp0]
  · have e1 : sd z s0 = true := by simpa using h
    have e2 : wi e (-100000) 100000 = true := by simpa using h2
    have he : -100000 ≤ e ∧ e ≤ 100000 := by simpa [wi] using e2
    have hbd := nu_bd e1 e
    have hvz := (sd_bd e1).1
    simp only [VZ] at hvz
    refine ⟨⟨s0, 0, nu z s0 e + 1, e1, he, by omega, by omega, e1, rfl⟩, ⟨rfl, rfl, rfl⟩, ?_⟩
    rintro ⟨s, n, k, hs, he, hk, hn, h0, hr⟩
    refine ⟨⟨hs, he⟩, fun h3 => ?_, fun h3 => ?_⟩
    · have h4 : ctl z s e = s := by
        simp only [Bool.and_eq_true, decide_eq_true_eq] at h3
        cases hc : ctl z s e; rw [hc] at h3; cases s; simp only at h3; rw [h3.1, h3.2]
      obtain ⟨k', rfl⟩ : ∃ k', k = k' + 1 := ⟨k - 1, by omega⟩
      have h5 : stl z e (k' + 1) s = (s, 0) := by simp only [stl, h4, if_true]
      rw [h5] at hr
      simp only [seS, seN, seE, e1, e2, Bool.and_self, if_true, hr, Nat.zero_add, and_self]
    · have h4 : ctl z s e ≠ s := by
        intro h4; rw [h4] at h3; simp at h3
      obtain ⟨k', rfl⟩ : ∃ k', k = k' + 1 := ⟨k - 1, by omega⟩
      have h5 : stl z e (k' + 1) s = ((stl z e k' (ctl z s e)).1, (stl z e k' (ctl z s e)).2 + 1) := by simp only [stl, h4, if_false]
      obtain ⟨h6, h7⟩ := nu_dec hs he h4
      have hn1 : IntKind.i64.wrap ((n : Int) + 1) = ((n + 1 : Nat) : Int) := by rw [wr_in _ (by omega) (by omega)]; omega
      exact ⟨⟨ctl z s e, n + 1, k', h7, he, by omega, by omega, h0, by rw [hr, h5]; simp only [Nat.add_assoc, Nat.add_comm 1 n]⟩, ⟨AV.int_inj' hn1, rfl, rfl⟩, by simp only [I22M]; omega⟩
set_option maxHeartbeats 4000000 in
theorem walk23 {Phi : Nat → Option Ctr} (P29 : Phi 29 = some CSd) (P40 : Phi 40 = some CCt) (z : Zn) (s0 : Sp) (e : Int) : evC Phi (I22 z s0 e) rc23 ⟨initS [z.av, s0.av, .int .i64 e], initM false []⟩ (kRet rv23 (.tup [(seS z s0 e).av, .int .i64 (seN z s0 e), .int .i64 (seE z s0 e)]) false []) := by
  simp (config := {maxSteps := 2000000}) only [rc23, Zn.av, Sp.av, initM_f, rv23, evC_seq, evC_region, eo_box, evG_no, Option.getD_some, ev_box, av_t, initS_at, List.getD_cons_zero, gv_agg, bind1_some', boxR_eq, cells_agg, List.length_cons, List.length_nil, Nat.zero_add, Nat.reduceAdd, if_true, bxO_some, Nat.reduceMul, goOp_some, put_n, killB_cells, List.map_cons, kill0_lst, kill0_int, List.map_nil, upd_at, Nat.reduceEqDiff, killS_at, List.getD_cons_succ, kill3_agg, if_false, eo_alloc, ev_alloc, eo_mov, ev_mov, av_c, gv_int, un1_mov, put_q, evOps_nil, kEnd_at, hasG_no, hasG_nil, kEndB_f, kSeq_n, evC_block, eo_load, ev_load, kill3_ptr, gv_ptr, load_ptr, updM_at, killM_at, killO_none, killO_some, ldB_cells, valOf_agg, Nat.reduceLeDiff, decide_true, valB_true, List.drop_zero, List.take_succ_cons, List.take_zero, ldV_some, eo_call, P29, CSd, evCl_mk, ev_call, avs_cons, avs_nil, consO_some, clO_some, call_pure, lends_cons, lend1_agg, lendC_cons, lendA_lst, lendA_int, lendC_nil, consL_some', List.nil_append, aggL_some, lends_nil, callN_some, decU_u8s, and_self, Zn.eta, Sp.eta, callP_some, c2_bool, flat2_bool, backOK_nil, Bool.and_self, clQ_t, eo_not, ev_not, gv_bool, un1_not, evC_cond, eo_build, ev_build, fillA_nil, blO_some, eo_store, ar_t, vwsT_ptr, frzL_nil, goF_eq, Option.getD_none, ev_store, bind2_some', store_ptr, stB_cells, stC_true, setC_cons, List.set_cons_zero, List.set_cons_succ, setC_nil, put_s, evC_ret, kBlk_r, kSeq_r, kRet_r, retOK_eq, retL_cons, retV_c, rvP_ptr, rvB_cells, retV_t, retL_nil, lkR_two, lkVs_cons, lk1_agg, lkAs_cons, lk0_int, lkAs_nil, lk1_int, lkVs_nil, lkT_f, applyL_nil, retOK_f, rtO_some, resV_two, leVs_cons, leV1_agg, leAs_cons, leA_int, leAs_nil, and_true, leV1_int, leVs_nil, knowL_nil, askL_nil, kill3_int, eo_cmp, ev_cmp, cmp2_some, cmp_lss, toR_some', evG_yes, pathG_bool, gG_some, guardR_q, guardL_nil, gv_gd, List.contains_cons, List.contains_nil, Bool.or_false, List.all_cons, beq_self_eq_true, List.all_nil, gvB_true, cmp_gtr, eo_pick, ev_pick, pick3_some, pickV_bool, Bool.cond_true_left, hasG_yes, kEndB_t, ungdS_at, ungd_ptr, ungd_int, evC_skip, kBlk_n, evC_loop, I22S, S22, Zn.cs, Sp.cs, SL_ge, lkL_cons, lkS_int, lkS_ptr, lkL_nil, lkM_cons, lkB_cells, lkC_cons, lkC0_lst, lkC0_int, lkC_nil, lkM_nil, SL_ge0, leL_cons, leV1_ptr, leL_nil, true_and, leM_cons, leB_cells, leA_lst, leM_nil, I22R, SL_st, lookL_cons, lookL_nil, lookM_cons, lookM_nil, P40, CCt, lend1_int, c2_agg, c0_int, flat2_agg, flat0_int, kill3_junk, eo_eqa, ev_eqa, eqa2_some, eqaR_agg, eqC_int, eqC_nil, andO_some, Bool.and_true, eqaB_f, kLoop_r, eo_arith, ev_arith, arith_add, kLoop_n, condK_bool, askL_cons, true_imp_iff, ungd_bool]
  refine ⟨fun h => ?_, fun h => ⟨fun h2 => ?_, fun h2 => ?_⟩⟩
  · have e1 : sd z s0 = false := by simpa using h
    simp [seS, seN, seE, e1, sp0]
  · have e1 : sd z s0 = true := by simpa using h
    have e2 : wi e (-100000) 100000 = false := by simp [wi] at h2 ⊢; omega
    simp [seS, seN, seE, e1, e2, sp0]
  · have e1 : sd z s0 = true := by simpa using h
    have e2 : wi e (-100000) 100000 = true := by simp [wi] at h2 ⊢; omega
    have he : -100000 ≤ e ∧ e ≤ 100000 := by simpa [wi] using e2
    have hbd := nu_bd e1 e
    have hvz := (sd_bd e1).1
    simp only [VZ] at hvz
    refine ⟨⟨s0, 0, nu z s0 e + 1, e1, he, by omega, by omega, e1, rfl⟩, ⟨rfl, rfl, rfl⟩, ?_⟩
    rintro ⟨s, n, k, hs, he, hk, hn, h0, hr⟩
    refine ⟨⟨hs, he⟩, fun h3 => ?_, fun h3 => ?_⟩
    · have h4 : ctl z s e = s := by
        simp only [Bool.and_eq_true, decide_eq_true_eq] at h3
        cases hc : ctl z s e; rw [hc] at h3; cases s; simp only at h3; rw [h3.1, h3.2]
      obtain ⟨k', rfl⟩ : ∃ k', k = k' + 1 := ⟨k - 1, by omega⟩
      have h5 : stl z e (k' + 1) s = (s, 0) := by simp only [stl, h4, if_true]
      rw [h5] at hr
      simp only [seS, seN, seE, e1, e2, Bool.and_self, if_true, hr, Nat.zero_add, and_self]
    · have h4 : ctl z s e ≠ s := by
        intro h4; rw [h4] at h3; simp at h3
      obtain ⟨k', rfl⟩ : ∃ k', k = k' + 1 := ⟨k - 1, by omega⟩
      have h5 : stl z e (k' + 1) s = ((stl z e k' (ctl z s e)).1, (stl z e k' (ctl z s e)).2 + 1) := by simp only [stl, h4, if_false]
      obtain ⟨h6, h7⟩ := nu_dec hs he h4
      have hn1 : IntKind.i64.wrap ((n : Int) + 1) = ((n + 1 : Nat) : Int) := by rw [wr_in _ (by omega) (by omega)]; omega
      exact ⟨⟨ctl z s e, n + 1, k', h7, he, by omega, by omega, h0, by rw [hr, h5]; simp only [Nat.add_assoc, Nat.add_comm 1 n]⟩, ⟨AV.int_inj' hn1, rfl, rfl⟩, by simp only [I22M]; omega⟩
end Go.Proofs.Ytofldhooanikcaa

/- A part of the proof: symbolic evaluation of the program's functions, proved sound against the model; no condition. -/
import Derived.Test.YtfmndopgbikgjaaEvGA
namespace Go.Proofs.Ytfmndopgbikgjaa
open Go Go.RowKit Go.Ev
set_option linter.unusedSimpArgs false
set_option linter.unusedVariables false
set_option maxRecDepth 20000
/-- The state of the escape sequences. -/
structure Es where
  b : Bool
  e : Bool
  deriving DecidableEq
def Es.cs (s : Es) : List AV := [.bool s.b, .bool s.e]
def Es.av (s : Es) : AV := .agg [.bool s.b, .bool s.e]
theorem Es.eta (s : Es) : Es.mk s.b s.e = s := rfl
def ends (c : Int) : Bool := decide (c = 13) || decide (c = 10)
def act (c : Int) : Int := if c = 46 then 1 else if c = 66 then 2 else if c = 82 then 3 else if c = 63 then 4 else 0
def stS (s : Es) (c : Int) : Es := if s.e = false then (if s.b = true ∧ c = 126 then ⟨true, true⟩ else ⟨ends c, false⟩) else if act c ≠ 0 then ⟨true, false⟩ else if c = 126 then ⟨false, false⟩ else ⟨ends c, false⟩
def stO (s : Es) (c : Int) : List Int := if s.e = false then (if s.b = true ∧ c = 126 then [] else [c]) else if act c ≠ 0 then [] else if c = 126 then [126] else [126, c]
def stA (s : Es) (c : Int) : Int := if s.e = false then 0 else act c
def CEn : Ctr := .mk false fun _ xs => match xs with
  | [.int .u8 c] => some (True, .bool (ends c), [])
  | _ => none
def CAc : Ctr := .mk false fun _ xs => match xs with
  | [.int .u8 c] => some (True, .int .i64 (act c), [])
  | _ => none
def CNw : Ctr := .mk false fun _ xs => match xs with
  | [] => some (True, (Es.mk true false).av, [])
  | _ => none
def CSt : Ctr := .mk false fun _ xs => match xs with
  | [.agg [.bool b, .bool e], .int .u8 c] => some (True, .tup [(stS ⟨b, e⟩ c).av, .lst [.int .u8 0] (u8s (stO ⟨b, e⟩ c)), .int .i64 (stA ⟨b, e⟩ c)], [])
  | _ => none
/-- Bytes one after the other. -/
def fdS (s : Es) (l : List Int) : Es := l.foldl stS s
def fdO : Es → List Int → List Int
  | _, [] => []
  | s, c :: l => stO s c ++ fdO (stS s c) l
def aL (a : Int) : List Int := if a = 0 then [] else [a]
def fdA : Es → List Int → List Int
  | _, [] => []
  | s, c :: l => aL (stA s c) ++ fdA (stS s c) l
theorem fdS_app (s : Es) (a b : List Int) : fdS s (a ++ b) = fdS (fdS s a) b := by simp [fdS]
theorem fdO_app : ∀ (s : Es) (a b : List Int), fdO s (a ++ b) = fdO s a ++ fdO (fdS s a) b
  | _, [], _ => rfl
  | s, c :: a, b => by simp only [List.cons_append, fdO, fdO_app _ a b, List.append_assoc]; rfl
theorem fdA_app : ∀ (s : Es) (a b : List Int), fdA s (a ++ b) = fdA s a ++ fdA (fdS s a) b
  | _, [], _ => rfl
  | s, c :: a, b => by simp only [List.cons_append, fdA, fdA_app _ a b, List.append_assoc]; rfl
theorem fdS_one (s : Es) (c : Int) : fdS s [c] = stS s c := rfl
theorem fdO_one (s : Es) (c : Int) : fdO s [c] = stO s c := by simp [fdO]
theorem fdA_one (s : Es) (c : Int) : fdA s [c] = aL (stA s c) := by simp [fdA]
theorem stO_len (s : Es) (c : Int) : (stO s c).length ≤ 2 := by
  unfold stO
  split
  · split <;> simp
  · split
    · simp
    · split <;> simp
theorem fdO_len : ∀ (s : Es) (l : List Int), (fdO s l).length ≤ 2 * l.length
  | _, [] => by simp [fdO]
  | s, c :: l => by
    have h1 := stO_len s c
    have h2 := fdO_len (stS s c) l
    simp only [fdO, List.length_append, List.length_cons]
    omega
theorem fdA_len : ∀ (s : Es) (l : List Int), (fdA s l).length ≤ l.length
  | _, [] => by simp [fdA]
  | s, c :: l => by
    have h2 := fdA_len (stS s c) l
    have h1 : (aL (stA s c)).length ≤ 1 := by unfold aL; split <;> simp
    simp only [fdA, List.length_append, List.length_cons]
    omega
theorem stO_ok {s : Es} {c : Int} (h : 0 ≤ c ∧ c ≤ 255) : Okb (stO s c) := by
  unfold stO
  have h1 : Okb [c] := .cons h .nil
  split
  · split
    · exact .nil
    · exact h1
  · split
    · exact .nil
    · split
      · exact .cons (by decide) .nil
      · exact .cons (by decide) h1
theorem fdO_ok : ∀ {s : Es} {l : List Int}, Okb l → Okb (fdO s l)
  | _, [], _ => .nil
  | s, c :: l, h => by
    simp only [fdO]
    exact .app (stO_ok (h c (by simp))) (fdO_ok fun k hk => h k (by simp [hk]))
def CFd : Ctr := .mk false fun _ xs => match xs with
  | [.agg [.bool b, .bool e], .lst zz es] => some ((zz = [.int .u8 0] ∧ es = u8s (decU es)) ∧ es.length ≤ 100000, .tup [(fdS ⟨b, e⟩ (decU es)).av, .lst [.int .u8 0] (u8s (fdO ⟨b, e⟩ (decU es))), .lst [.int .i64 0] (i64s (fdA ⟨b, e⟩ (decU es)))], [])
  | _ => none
/-- Quoted bytes. -/
def qb (b : Bool) (l : List Int) : Bool := l.foldl (fun _ c => ends c) b
def q1 (b : Bool) (c : Int) : List Int := if b = true ∧ c = 126 then [126, c] else [c]
def qt : Bool → List Int → List Int
  | _, [] => []
  | b, c :: l => q1 b c ++ qt (ends c) l
theorem qt_app : ∀ (b : Bool) (a c : List Int), qt b (a ++ c) = qt b a ++ qt (qb b a) c
  | _, [], _ => rfl
  | b, x :: a, c => by simp only [List.cons_append, qt, qt_app _ a c, List.append_assoc]; rfl
theorem qb_app (b : Bool) (a c : List Int) : qb b (a ++ c) = qb (qb b a) c := by simp [qb]
theorem qt_one (b : Bool) (c : Int) : qt b [c] = q1 b c := by simp [qt]
theorem qb_one (b : Bool) (c : Int) : qb b [c] = ends c := rfl
theorem q1_len (b : Bool) (c : Int) : (q1 b c).length ≤ 2 := by unfold q1; split <;> simp
theorem qt_len : ∀ (b : Bool) (l : List Int), (qt b l).length ≤ 2 * l.length
  | _, [] => by simp [qt]
  | b, c :: l => by
    have h1 := q1_len b c
    have h2 := qt_len (ends c) l
    simp only [qt, List.length_append, List.length_cons]
    omega
theorem qt_ok : ∀ {b : Bool} {l : List Int}, Okb l → Okb (qt b l)
  | _, [], _ => .nil
  | b, c :: l, h => by
    simp only [qt]
    refine .app ?_ (qt_ok fun k hk => h k (by simp [hk]))
    have h1 : Okb [c] := .cons (h c (by simp)) .nil
    unfold q1
    split
    · exact .cons (by decide) h1
    · exact h1
theorem qb_last (l : List Int) (h : l ≠ []) : qb true l = ends (l.getD (l.length - 1) 0) := by
  have e : l = l.take (l.length - 1) ++ [l.getD (l.length - 1) 0] := by
    have := take_snoc l 0 (l.length - 1) (by have := List.length_pos_iff.2 h; omega)
    rw [← this, show l.length - 1 + 1 = l.length by have := List.length_pos_iff.2 h; omega, List.take_length]
  conv => lhs; rw [e, qb_app, qb_one]
def CQt : Ctr := .mk false fun _ xs => match xs with
  | [.lst zz es] => some ((zz = [.int .u8 0] ∧ es = u8s (decU es)) ∧ es.length ≤ 100000, .lst [.int .u8 0] (u8s (qt true (decU es))), [])
  | _ => none
/-- The strings of the statements: bytes that are often tildes. -/
def tab : List UInt8 := [126, 126, 126, 13, 10, 46, 66, 82, 63, 97, 27, 27, 91, 91, 48, 59, 57, 32, 47, 64, 109, 126, 127, 128]
def sh1 (c : Int) : Int := ((tab.getD (c % 24).toNat 0).toNat : Int)
def shp (l : List Int) : List Int := l.map sh1
theorem sh1_bd (c : Int) : 0 ≤ sh1 c ∧ sh1 c ≤ 255 := by
  unfold sh1
  have := (tab.getD (c % 24).toNat 0).toNat_lt
  omega
theorem shp_ok (l : List Int) : Okb (shp l) := by
  intro k hk
  obtain ⟨c, _, rfl⟩ := List.mem_map.1 hk
  exact sh1_bd c
theorem shp_len (l : List Int) : (shp l).length = l.length := by simp [shp]
theorem shp_app (a b : List Int) : shp (a ++ b) = shp a ++ shp b := by simp [shp]
def CSh : Ctr := .mk false fun _ xs => match xs with
  | [.lst zz es] => some (((zz = [.int .u8 0] ∧ es = u8s (decU es)) ∧ Okb (decU es)) ∧ es.length ≤ 50000, .lst [.int .u8 0] (u8s (shp (decU es))), [])
  | _ => none
def CIn : Ctr := .mk false fun _ xs => match xs with
  | [.lst z1 e1, .lst z2 e2] => some ((z1 = [.int .i64 0] ∧ e1 = i64s (decU e1)) ∧ (z2 = [.int .i64 0] ∧ e2 = i64s (decU e2)), .bool (decide (decU e1 = decU e2)), [])
  | _ => none
set_option maxHeartbeats 4000000 in
theorem walk22 {Phi : Nat → Option Ctr} (c : Int) : evC Phi (noI) rc22 ⟨initS [.int .u8 c], initM false []⟩ (kRet rv22 (.bool (ends c)) false []) := by
  simp (config := {maxSteps := 2000000}) only [rc22, initM_f, rv22, evC_seq, evC_region, eo_mov, evG_no, Option.getD_some, ev_mov, av_c, gv_bool, bind1_some', un1_mov, goOp_some, put_q, evOps_nil, kEnd_at, hasG_no, hasG_nil, kEndB_f, kSeq_n, av_t, upd_at, Nat.reduceEqDiff, ↓reduceIte, initS_at, List.getD_cons_zero, gv_int, eo_cmp, ev_cmp, cmp2_some, cmp_eql, toR_some', evG_yes, pathG_bool, gG_some, guardR_q, guardL_nil, gv_gd, List.contains_cons, List.contains_nil, Bool.or_false, List.all_cons, beq_self_eq_true, List.all_nil, Bool.and_self, gvB_true, eo_pick, ev_pick, List.nil_append, pick3_some, pickV_bool, Bool.cond_true_left, hasG_yes, kEndB_t, evC_ret, kRet_r, retOK_eq, retL_cons, retV_t, ungdS_at, ungd_bool, retL_nil, consO_some, lkR_one, lk1_bool, lkT_f, applyL_nil, retOK_f, rtO_some, resV_one, leV1_bool, and_true, knowL_nil, askL_nil]
  rfl
set_option maxHeartbeats 4000000 in
theorem walk25 {Phi : Nat → Option Ctr} (c : Int) : evC Phi (noI) rc25 ⟨initS [.int .u8 c], initM false []⟩ (kRet rv25 (.bool (ends c)) false []) := by
  simp (config := {maxSteps := 2000000}) only [rc25, initM_f, rv25, evC_seq, evC_region, eo_mov, evG_no, Option.getD_some, ev_mov, av_c, gv_bool, bind1_some', un1_mov, goOp_some, put_q, evOps_nil, kEnd_at, hasG_no, hasG_nil, kEndB_f, kSeq_n, av_t, upd_at, Nat.reduceEqDiff, ↓reduceIte, initS_at, List.getD_cons_zero, gv_int, eo_cmp, ev_cmp, cmp2_some, cmp_eql, toR_some', evG_yes, pathG_bool, gG_some, guardR_q, guardL_nil, gv_gd, List.contains_cons, List.contains_nil, Bool.or_false, List.all_cons, beq_self_eq_true, List.all_nil, Bool.and_self, gvB_true, eo_pick, ev_pick, List.nil_append, pick3_some, pickV_bool, Bool.cond_true_left, hasG_yes, kEndB_t, evC_ret, kRet_r, retOK_eq, retL_cons, retV_t, ungdS_at, ungd_bool, retL_nil, consO_some, lkR_one, lk1_bool, lkT_f, applyL_nil, retOK_f, rtO_some, resV_one, leV1_bool, and_true, knowL_nil, askL_nil]
  rfl
set_option maxHeartbeats 4000000 in
theorem walk23 {Phi : Nat → Option Ctr} (c : Int) : evC Phi (noI) rc23 ⟨initS [.int .u8 c], initM false []⟩ (kRet rv23 (.int .i64 (act c)) false []) := by
  simp (config := {maxSteps := 2000000}) only [rc23, initM_f, rv23, evC_seq, evC_region, eo_mov, evG_no, Option.getD_some, ev_mov, av_c, gv_int, bind1_some', un1_mov, goOp_some, put_q, evOps_nil, kEnd_at, hasG_no, hasG_nil, kEndB_f, kSeq_n, av_t, upd_at, Nat.reduceEqDiff, ↓reduceIte, initS_at, List.getD_cons_zero, evC_block, eo_cmp, ev_cmp, cmp2_some, cmp_eql, toR_some', gv_bool, evC_cond, evC_ret, kBlk_r, kSeq_r, kRet_r, retOK_eq, retL_cons, retV_t, retL_nil, consO_some, lkR_one, lk1_int, lkT_f, List.nil_append, applyL_nil, retOK_f, rtO_some, resV_one, leV1_int, and_true, knowL_nil, askL_nil, evC_skip, kBlk_n, ar_t, condK_bool]
  simp only [decide_eq_true_eq, decide_eq_false_iff_not]
  unfold act
  refine ⟨fun h => by simp [h], fun h => ⟨fun h1 => by simp [h1], fun h1 => ⟨fun h2 => by simp [h2], fun h2 => ⟨fun h3 => by simp [h3], fun h3 => by simp [h, h1, h2, h3]⟩⟩⟩⟩
set_option maxHeartbeats 4000000 in
theorem walk26 {Phi : Nat → Option Ctr} (c : Int) : evC Phi (noI) rc26 ⟨initS [.int .u8 c], initM false []⟩ (kRet rv26 (.int .i64 (act c)) false []) := by
  simp (config := {maxSteps := 2000000}) only [rc26, initM_f, rv26, evC_seq, evC_region, eo_mov, evG_no, Option.getD_some, ev_mov, av_c, gv_int, bind1_some', un1_mov, goOp_some, put_q, evOps_nil, kEnd_at, hasG_no, hasG_nil, kEndB_f, kSeq_n, av_t, upd_at, Nat.reduceEqDiff, ↓reduceIte, initS_at, List.getD_cons_zero, evC_block, eo_cmp, ev_cmp, cmp2_some, cmp_eql, toR_some', gv_bool, evC_cond, evC_ret, kBlk_r, kSeq_r, kRet_r, retOK_eq, retL_cons, retV_t, retL_nil, consO_some, lkR_one, lk1_int, lkT_f, List.nil_append, applyL_nil, retOK_f, rtO_some, resV_one, leV1_int, and_true, knowL_nil, askL_nil, evC_skip, kBlk_n, ar_t, condK_bool]
  simp only [decide_eq_true_eq, decide_eq_false_iff_not]
  unfold act
  refine ⟨fun h => by simp [h], fun h => ⟨fun h1 => by simp [h1], fun h1 => ⟨fun h2 => by simp [h2], fun h2 => ⟨fun h3 => by simp [h3], fun h3 => by simp [h, h1, h2, h3]⟩⟩⟩⟩
set_option maxHeartbeats 4000000 in
theorem walk15 {Phi : Nat → Option Ctr}  : evC Phi (noI) rc15 ⟨initS [], initM false []⟩ (kRet rv15 (Es.mk true false).av false []) := by
  simp (config := {maxSteps := 2000000}) only [rc15, initM_f, rv15, Es.av, evC_seq, evC_region, eo_alloc, evG_no, Option.getD_some, ev_alloc, Nat.reduceMul, Nat.zero_add, goOp_some, put_n, killB_cells, List.map_cons, kill0_bool, List.map_nil, evOps_nil, kEnd_at, hasG_no, hasG_nil, kEndB_f, kSeq_n, eo_build, ev_build, fillA_cons, av_c, gv_bool, faK_some, cells_bool, faC_some, List.length_cons, List.length_nil, Nat.reduceAdd, Nat.reduceLeDiff, ↓reduceIte, setC_cons, List.set_cons_zero, setC_nil, fillA_nil, blO_some, put_q, eo_store, ar_t, upd_at, Nat.reduceEqDiff, vwsT_ptr, frzL_nil, goF_eq, Option.getD_none, ev_store, av_t, gv_ptr, gv_agg, bind2_some', store_ptr, cells_agg, updM_at, stB_cells, decide_true, stC_true, List.set_cons_succ, put_s, liveB_cells, evC_ret, kRet_r, retOK_eq, retL_cons, retV_c, rvP_ptr, rvB_cells, valOf_agg, valB_true, List.drop_zero, List.take_succ_cons, List.take_zero, retL_nil, consO_some, lkR_one, lk1_agg, lkAs_cons, lk0_bool, lkAs_nil, List.nil_append, lkT_f, applyL_nil, retOK_f, rtO_some, resV_one, leV1_agg, leAs_cons, leA_bool, leAs_nil, and_self, knowL_nil, askL_nil]
set_option maxHeartbeats 4000000 in
theorem walk16 {Phi : Nat → Option Ctr}  : evC Phi (noI) rc16 ⟨initS [], initM false []⟩ (kRet rv16 (Es.mk true false).av false []) := by
  simp (config := {maxSteps := 2000000}) only [rc16, initM_f, rv16, Es.av, evC_seq, evC_region, eo_alloc, evG_no, Option.getD_some, ev_alloc, Nat.reduceMul, Nat.zero_add, goOp_some, put_n, killB_cells, List.map_cons, kill0_bool, List.map_nil, evOps_nil, kEnd_at, hasG_no, hasG_nil, kEndB_f, kSeq_n, eo_build, ev_build, fillA_cons, av_c, gv_bool, faK_some, cells_bool, faC_some, List.length_cons, List.length_nil, Nat.reduceAdd, Nat.reduceLeDiff, ↓reduceIte, setC_cons, List.set_cons_zero, setC_nil, fillA_nil, blO_some, put_q, eo_store, ar_t, upd_at, Nat.reduceEqDiff, vwsT_ptr, frzL_nil, goF_eq, Option.getD_none, ev_store, av_t, gv_ptr, gv_agg, bind2_some', store_ptr, cells_agg, updM_at, stB_cells, decide_true, stC_true, List.set_cons_succ, put_s, liveB_cells, evC_ret, kRet_r, retOK_eq, retL_cons, retV_c, rvP_ptr, rvB_cells, valOf_agg, valB_true, List.drop_zero, List.take_succ_cons, List.take_zero, retL_nil, consO_some, lkR_one, lk1_agg, lkAs_cons, lk0_bool, lkAs_nil, List.nil_append, lkT_f, applyL_nil, retOK_f, rtO_some, resV_one, leV1_agg, leAs_cons, leA_bool, leAs_nil, and_self, knowL_nil, askL_nil]
set_option maxHeartbeats 4000000 in
theorem walk12 {Phi : Nat → Option Ctr} (P22 : Phi 22 = some CEn) (P23 : Phi 23 = some CAc) (s : Es) (c : Int) : evC Phi (noI) rc12 ⟨initS [s.av, .int .u8 c], initM false []⟩ (kRet rv12 (.tup [(stS s c).av, .lst [.int .u8 0] (u8s (stO s c)), .int .i64 (stA s c)]) false []) := by
  simp (config := {maxSteps := 2000000}) only [rc12, Es.av, initM_f, rv12, evC_seq, evC_region, eo_box, evG_no, Option.getD_some, ev_box, av_t, initS_at, List.getD_cons_zero, gv_agg, bind1_some', boxR_eq, cells_agg, List.length_cons, List.length_nil, Nat.zero_add, Nat.reduceAdd, ↓reduceIte, bxO_some, Nat.reduceMul, goOp_some, put_n, killB_cells, List.map_cons, kill0_bool, List.map_nil, eo_alloc, ev_alloc, eo_mov, ev_mov, av_c, gv_nil, un1_mov, put_q, gv_int, evOps_nil, kEnd_at, hasG_no, hasG_nil, kEndB_f, kSeq_n, evC_block, eo_faddr, ev_faddr, upd_at, Nat.reduceEqDiff, killS_at, kill3_ptr, gv_ptr, faddr_ptr, eo_load, ev_load, load_ptr, updM_at, killM_at, killO_some, ldB_cells, valOf_one, List.getElem?_cons_succ, List.getElem?_cons_zero, ldV_some, eo_not, ev_not, gv_bool, un1_not, evG_yes, pathG_bool, gG_some, Nat.add_zero, guardR_q, guardL_nil, gv_gd, List.contains_cons, List.contains_nil, Bool.or_false, List.all_cons, beq_self_eq_true, List.all_nil, Bool.and_self, gvB_true, eo_pick, ev_pick, List.nil_append, pick3_some, pickV_bool, Bool.cond_false_right, List.getD_cons_succ, kill3_int, eo_cmp, ev_cmp, cmp2_some, cmp_eql, toR_some', hasG_yes, kEndB_t, evC_cond, ungdS_at, ungd_ptr, eo_build, ev_build, fillA_cons, faK_some, cells_bool, faC_some, Nat.reduceLeDiff, setC_cons, List.set_cons_zero, setC_nil, List.set_cons_succ, fillA_nil, blO_some, eo_store, ar_t, vwsT_ptr, frzL_nil, goF_eq, Option.getD_none, ev_store, bind2_some', store_ptr, stB_cells, decide_true, stC_true, put_s, liveB_cells, evC_ret, kBlk_r, kSeq_r, kRet_r, retOK_eq, retL_cons, retV_c, rvP_ptr, rvB_cells, valOf_agg, valB_true, List.drop_zero, List.take_succ_cons, List.take_zero, retV_t, retL_nil, consO_some, lkR_two, lkVs_cons, lk1_agg, lkAs_cons, lk0_bool, lkAs_nil, lk1_nil, lk1_int, lkVs_nil, lkT_f, applyL_nil, retOK_f, rtO_some, resV_two, leVs_cons, leV1_agg, leAs_cons, leA_bool, leAs_nil, and_true, leV1_nil, leA_nil, leV1_int, leVs_nil, knowL_nil, askL_nil, ungd_int, eo_call, P22, CEn, evCl_mk, ev_call, avs_cons, avs_nil, clE_some, callE_pure, lends_cons, lend1_int, lends_nil, consL_some', callN_some, callP_some, c2_bool, flat2_bool, backOK_nil, clQ_t, eo_bsliceO, vwsG_cons, vws1_int, vwsG_nil, ev_bsliceO, List.replicate_succ, List.replicate_zero, fillS_cons, fsK_some, cells_int, fsC_some, Nat.reduceLT, c0_int, and_self, fillS_nil, blO2_some, killB_buf, kill3_agg, gv_vw, lk1_vw_lst, List.cons_append, applyL_frz, frzQ_buf, frzP_t, frzSl_at, frz3_ptr, frzM_at, frzO_some, frzB_cells, frz0_bool, frz3_vw, frz3_int, leV1_lst, askL_cons, true_and, P23, CAc, c2_int, flat2_int, cmp_neq, ar_c, evC_skip, kBlk_n, condK_bool, ungd_bool]
  obtain ⟨b, e⟩ := s
  cases b <;> cases e <;> by_cases h1 : act c = 0 <;> by_cases h2 : c = 126 <;> simp_all [stS, stO, stA, u8s]
set_option maxHeartbeats 4000000 in
theorem walk17 {Phi : Nat → Option Ctr} (P25 : Phi 25 = some CEn) (P26 : Phi 26 = some CAc) (s : Es) (c : Int) : evC Phi (noI) rc17 ⟨initS [s.av, .int .u8 c], initM false []⟩ (kRet rv17 (.tup [(stS s c).av, .lst [.int .u8 0] (u8s (stO s c)), .int .i64 (stA s c)]) false []) := by
  simp (config := {maxSteps := 2000000}) only [rc17, Es.av, initM_f, rv17, evC_seq, evC_region, eo_box, evG_no, Option.getD_some, ev_box, av_t, initS_at, List.getD_cons_zero, gv_agg, bind1_some', boxR_eq, cells_agg, List.length_cons, List.length_nil, Nat.zero_add, Nat.reduceAdd, ↓reduceIte, bxO_some, Nat.reduceMul, goOp_some, put_n, killB_cells, List.map_cons, kill0_bool, List.map_nil, eo_alloc, ev_alloc, eo_mov, ev_mov, av_c, gv_nil, un1_mov, put_q, gv_int, evOps_nil, kEnd_at, hasG_no, hasG_nil, kEndB_f, kSeq_n, eo_faddr, ev_faddr, upd_at, Nat.reduceEqDiff, killS_at, kill3_ptr, gv_ptr, faddr_ptr, eo_load, ev_load, load_ptr, updM_at, killM_at, killO_some, ldB_cells, valOf_one, List.getElem?_cons_succ, List.getElem?_cons_zero, ldV_some, eo_not, ev_not, gv_bool, un1_not, evC_cond, Nat.add_zero, evG_yes, pathG_bool, gG_some, List.getD_cons_succ, kill3_int, guardR_q, guardL_nil, eo_cmp, ev_cmp, gv_gd, List.contains_cons, List.contains_nil, Bool.or_false, List.all_cons, beq_self_eq_true, List.all_nil, Bool.and_self, gvB_true, cmp2_some, cmp_eql, toR_some', eo_pick, ev_pick, List.nil_append, pick3_some, pickV_bool, Bool.cond_false_right, hasG_yes, kEndB_t, eo_build, ev_build, fillA_cons, faK_some, cells_bool, faC_some, Nat.reduceLeDiff, setC_cons, List.set_cons_zero, setC_nil, List.set_cons_succ, fillA_nil, blO_some, eo_store, ar_t, ungdS_at, ungd_ptr, vwsT_ptr, frzL_nil, goF_eq, Option.getD_none, ev_store, bind2_some', store_ptr, stB_cells, decide_true, stC_true, put_s, liveB_cells, evC_ret, kSeq_r, kRet_r, retOK_eq, retL_cons, retV_c, rvP_ptr, rvB_cells, valOf_agg, valB_true, List.drop_zero, List.take_succ_cons, List.take_zero, retV_t, retL_nil, consO_some, lkR_two, lkVs_cons, lk1_agg, lkAs_cons, lk0_bool, lkAs_nil, lk1_nil, lk1_int, lkVs_nil, lkT_f, applyL_nil, retOK_f, rtO_some, resV_two, leVs_cons, leV1_agg, leAs_cons, leA_bool, leAs_nil, and_true, leV1_nil, leA_nil, leV1_int, leVs_nil, knowL_nil, askL_nil, evC_skip, ungd_int, eo_call, P25, CEn, evCl_mk, ev_call, avs_cons, avs_nil, clE_some, callE_pure, lends_cons, lend1_int, lends_nil, consL_some', callN_some, callP_some, c2_bool, flat2_bool, backOK_nil, clQ_t, eo_bsliceO, vwsG_cons, vws1_int, vwsG_nil, ev_bsliceO, List.replicate_succ, List.replicate_zero, fillS_cons, fsK_some, cells_int, fsC_some, Nat.reduceLT, c0_int, and_self, fillS_nil, blO2_some, killB_buf, kill3_agg, gv_vw, lk1_vw_lst, List.cons_append, applyL_frz, frzQ_buf, frzP_t, frzSl_at, frz3_ptr, frzM_at, frzO_some, frzB_cells, frz0_bool, frz3_vw, frz3_int, leV1_lst, askL_cons, true_and, ungd_bool, condK_bool, P26, CAc, c2_int, flat2_int, cmp_neq, ar_c]
  obtain ⟨b, e⟩ := s
  cases b <;> cases e <;> by_cases h1 : act c = 0 <;> by_cases h2 : c = 126 <;> simp_all [stS, stO, stA, u8s]
end Go.Proofs.Ytfmndopgbikgjaa

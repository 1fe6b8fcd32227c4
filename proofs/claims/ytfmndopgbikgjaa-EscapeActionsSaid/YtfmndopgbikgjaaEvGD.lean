/- A part of the proof: symbolic evaluation of the program's functions, proved sound against the model; no condition. -/
import Derived.Test.YtfmndopgbikgjaaEvGC
namespace Go.Proofs.Ytfmndopgbikgjaa
open Go Go.RowKit Go.Ev
set_option linter.unusedSimpArgs false
set_option linter.unusedVariables false
set_option maxRecDepth 20000
/-- The states of the control sequences are functions: 24 text, 28 begun, 29 parameters, 30 intermediates. -/
def txQ (c : Int) : Nat := if c = 27 then 28 else 24
def txK (c : Int) : Bool := !decide (c = 27)
def imQ (c : Int) : Nat := if 32 ≤ c ∧ c ≤ 47 then 30 else if 64 ≤ c ∧ c ≤ 126 then 24 else txQ c
def imK (c : Int) : Bool := if 32 ≤ c ∧ c ≤ 47 then false else if 64 ≤ c ∧ c ≤ 126 then false else txK c
def paQ (c : Int) : Nat := if 48 ≤ c ∧ c ≤ 63 then 29 else imQ c
def paK (c : Int) : Bool := if 48 ≤ c ∧ c ≤ 63 then false else imK c
def beQ (c : Int) : Nat := if c = 91 then 29 else if 48 ≤ c ∧ c ≤ 126 then 24 else txQ c
def beK (c : Int) : Bool := if c = 91 then false else if 48 ≤ c ∧ c ≤ 126 then false else txK c
def sQ1 (q : Nat) (c : Int) : Nat := if q = 24 then txQ c else if q = 28 then beQ c else if q = 29 then paQ c else imQ c
def sK1 (q : Nat) (c : Int) : Bool := if q = 24 then txK c else if q = 28 then beK c else if q = 29 then paK c else imK c
def CTx : Ctr := .mk false fun _ xs => match xs with
  | [.int .u8 c] => some (True, .tup [.fn (txQ c), .bool (txK c)], [])
  | _ => none
def CBe : Ctr := .mk false fun _ xs => match xs with
  | [.int .u8 c] => some (True, .tup [.fn (beQ c), .bool (beK c)], [])
  | _ => none
def CPa : Ctr := .mk false fun _ xs => match xs with
  | [.int .u8 c] => some (True, .tup [.fn (paQ c), .bool (paK c)], [])
  | _ => none
def CIm : Ctr := .mk false fun _ xs => match xs with
  | [.int .u8 c] => some (True, .tup [.fn (imQ c), .bool (imK c)], [])
  | _ => none
def QOK (q : Nat) : Prop := q = 24 ∨ q = 28 ∨ q = 29 ∨ q = 30
theorem txQ_ok (c : Int) : QOK (txQ c) := by unfold txQ QOK; split <;> simp
theorem imQ_ok (c : Int) : QOK (imQ c) := by
  unfold imQ; split
  · simp [QOK]
  · split
    · simp [QOK]
    · exact txQ_ok c
theorem paQ_ok (c : Int) : QOK (paQ c) := by
  unfold paQ; split
  · simp [QOK]
  · exact imQ_ok c
theorem beQ_ok (c : Int) : QOK (beQ c) := by
  unfold beQ; split
  · simp [QOK]
  · split
    · simp [QOK]
    · exact txQ_ok c
theorem sQ1_ok (q : Nat) (c : Int) : QOK (sQ1 q c) := by
  unfold sQ1
  split
  · exact txQ_ok c
  · split
    · exact beQ_ok c
    · split
      · exact paQ_ok c
      · exact imQ_ok c
def sQ (q : Nat) (l : List Int) : Nat := l.foldl sQ1 q
def s1 (q : Nat) (c : Int) : List Int := if sK1 q c = true then [c] else []
def sO : Nat → List Int → List Int
  | _, [] => []
  | q, c :: l => s1 q c ++ sO (sQ1 q c) l
def strip (l : List Int) : List Int := sO 24 l
theorem sQ_app (q : Nat) (a b : List Int) : sQ q (a ++ b) = sQ (sQ q a) b := by simp [sQ]
theorem sO_app : ∀ (q : Nat) (a b : List Int), sO q (a ++ b) = sO q a ++ sO (sQ q a) b
  | _, [], _ => rfl
  | q, c :: a, b => by simp only [List.cons_append, sO, sO_app _ a b, List.append_assoc]; rfl
theorem sQ_one (q : Nat) (c : Int) : sQ q [c] = sQ1 q c := rfl
theorem sO_one (q : Nat) (c : Int) : sO q [c] = s1 q c := by simp [sO]
theorem sO_len : ∀ (q : Nat) (l : List Int), (sO q l).length ≤ l.length
  | _, [] => by simp [sO]
  | q, c :: l => by
    have h2 := sO_len (sQ1 q c) l
    have h1 : (s1 q c).length ≤ 1 := by unfold s1; split <;> simp
    simp only [sO, List.length_append, List.length_cons]
    omega
theorem sO_ok : ∀ {q : Nat} {l : List Int}, Okb l → Okb (sO q l)
  | _, [], _ => .nil
  | q, c :: l, h => by
    simp only [sO]
    refine .app ?_ (sO_ok fun k hk => h k (by simp [hk]))
    unfold s1
    split
    · exact .cons (h c (by simp)) .nil
    · exact .nil
theorem sQ_okl : ∀ (q : Nat) (l : List Int), QOK q → QOK (sQ q l)
  | _, [], h => h
  | q, c :: l, _ => sQ_okl (sQ1 q c) l (sQ1_ok q c)
def CSp : Ctr := .mk false fun _ xs => match xs with
  | [.lst zz es] => some ((zz = [.int .u8 0] ∧ es = u8s (decU es)) ∧ es.length ≤ 100000, .lst [.int .u8 0] (u8s (strip (decU es))), [])
  | _ => none
/-- How far bytes of a kind go. -/
def tw (p : Int → Bool) (l : List Int) (i : Nat) : Nat := i + ((l.drop i).takeWhile p).length
theorem tw_go {p : Int → Bool} {l : List Int} {i : Nat} (h : i < l.length) (hp : p (l.getD i 0) = true) : tw p l i = tw p l (i + 1) := by
  unfold tw
  rw [drop_cons l 0 i h, List.takeWhile_cons, if_pos hp]
  simp only [List.length_cons]; omega
theorem tw_no {p : Int → Bool} {l : List Int} {i : Nat} (h : p (l.getD i 0) = false) : tw p l i = i := by
  unfold tw
  by_cases hi : i < l.length
  · rw [drop_cons l 0 i hi, List.takeWhile_cons, h]; simp
  · rw [List.drop_eq_nil_of_le (by omega)]; simp
theorem tw_end {p : Int → Bool} {l : List Int} {i : Nat} (h : l.length ≤ i) : tw p l i = i := by
  unfold tw
  rw [List.drop_eq_nil_of_le h]; simp
theorem tw_le {p : Int → Bool} {l : List Int} {i : Nat} (h : i ≤ l.length) : i ≤ tw p l i ∧ tw p l i ≤ l.length := by
  have := (List.takeWhile_prefix p (l := l.drop i)).length_le
  simp only [List.length_drop] at this
  unfold tw; omega
def pP (c : Int) : Bool := decide (48 ≤ c) && decide (c ≤ 63)
def pI (c : Int) : Bool := decide (32 ≤ c) && decide (c ≤ 47)
/-- Where the control sequence at a place ends. -/
def sqn (l : List Int) (a : Nat) : Nat :=
  if a + 1 < l.length ∧ l.getD (a + 1) 0 = 91 then
    (let k := tw pI l (tw pP l (a + 2))
     if k < l.length ∧ 64 ≤ l.getD k 0 ∧ l.getD k 0 ≤ 126 then k + 1 else k)
  else if a + 1 < l.length ∧ 48 ≤ l.getD (a + 1) 0 ∧ l.getD (a + 1) 0 ≤ 126 then a + 2 else a + 1
theorem sqn_le (l : List Int) (a : Nat) (h : a < l.length) : a + 1 ≤ sqn l a ∧ sqn l a ≤ l.length := by
  unfold sqn
  split
  · rename_i h1
    have h2 := tw_le (p := pP) (l := l) (i := a + 2) (by omega)
    have h3 := tw_le (p := pI) (l := l) (i := tw pP l (a + 2)) h2.2
    dsimp only
    split
    · rename_i h4; omega
    · omega
  · split
    · omega
    · omega
theorem par_im {c : Int} (h : pP c = false) : sQ1 29 c = sQ1 30 c ∧ sK1 29 c = sK1 30 c := by
  have h' : ¬ (48 ≤ c ∧ c ≤ 63) := by
    intro hh; rw [pP, decide_eq_true hh.1, decide_eq_true hh.2] at h; cases h
  simp only [sQ1, sK1, paQ, paK, if_neg h']
  simp
theorem sO_par (l : List Int) (i : Nat) (hi : i ≤ l.length) : sO 29 (l.drop i) = sO 30 (l.drop (tw pP l i)) := by
  by_cases h : i < l.length
  · by_cases hp : pP (l.getD i 0) = true
    · rw [tw_go h hp, ← sO_par l (i + 1) (by omega), drop_cons l 0 i h]
      have h' : 48 ≤ l.getD i 0 ∧ l.getD i 0 ≤ 63 := by simpa [pP] using hp
      simp only [sO, s1, sQ1, sK1, paQ, paK, if_pos h']
      simp
    · have hp : pP (l.getD i 0) = false := by simpa using hp
      rw [tw_no hp, drop_cons l 0 i h]
      obtain ⟨e1, e2⟩ := par_im hp
      simp only [sO, s1, e1, e2]
  · rw [tw_end (by omega), List.drop_eq_nil_of_le (by omega)]; rfl
termination_by l.length - i
theorem sO_im (l : List Int) (i : Nat) (hi : i ≤ l.length) : sO 30 (l.drop i) = (if tw pI l i < l.length ∧ 64 ≤ l.getD (tw pI l i) 0 ∧ l.getD (tw pI l i) 0 ≤ 126 then sO 24 (l.drop (tw pI l i + 1)) else sO 24 (l.drop (tw pI l i))) := by
  by_cases h : i < l.length
  · by_cases hp : pI (l.getD i 0) = true
    · rw [tw_go h hp, ← sO_im l (i + 1) (by omega), drop_cons l 0 i h]
      have h' : 32 ≤ l.getD i 0 ∧ l.getD i 0 ≤ 47 := by simpa [pI] using hp
      simp only [sO, s1, sQ1, sK1, imQ, imK, if_pos h']
      simp
    · have hp : pI (l.getD i 0) = false := by simpa using hp
      have h' : ¬ (32 ≤ l.getD i 0 ∧ l.getD i 0 ≤ 47) := by
        intro hh; rw [pI, decide_eq_true hh.1, decide_eq_true hh.2] at hp; cases hp
      rw [tw_no hp, drop_cons l 0 i h]
      by_cases hf : 64 ≤ l.getD i 0 ∧ l.getD i 0 ≤ 126
      · rw [if_pos ⟨h, hf⟩]
        simp only [sO, s1, sQ1, sK1, imQ, imK, if_neg h', if_pos hf]
        simp
      · rw [if_neg (fun hh => hf hh.2)]
        simp only [sO, s1, sQ1, sK1, imQ, imK, if_neg h', if_neg hf]
        simp
  · rw [tw_end (by omega), List.drop_eq_nil_of_le (by omega), if_neg (by omega)]; rfl
termination_by l.length - i
/-- A control sequence leaves nothing. -/
theorem sO_esc (l : List Int) (a : Nat) (h : a < l.length) (hc : l.getD a 0 = 27) : sO 24 (l.drop a) = sO 24 (l.drop (sqn l a)) := by
  rw [drop_cons l 0 a h, hc]
  have e : sO 24 (27 :: l.drop (a + 1)) = sO 28 (l.drop (a + 1)) := by simp [sO, s1, sQ1, sK1, txQ, txK]
  rw [e]
  unfold sqn
  by_cases h1 : a + 1 < l.length
  · rw [drop_cons l 0 (a + 1) h1]
    by_cases h2 : l.getD (a + 1) 0 = 91
    · rw [if_pos ⟨h1, h2⟩]
      have e2 : sO 28 (l.getD (a + 1) 0 :: l.drop (a + 1 + 1)) = sO 29 (l.drop (a + 2)) := by
        rw [h2]; simp [sO, s1, sQ1, sK1, beQ, beK]
      rw [e2, sO_par l (a + 2) (by omega), sO_im l _ (tw_le (by omega)).2]
      dsimp only
      split
      · rfl
      · rfl
    · rw [if_neg (fun hh => h2 hh.2)]
      by_cases h3 : 48 ≤ l.getD (a + 1) 0 ∧ l.getD (a + 1) 0 ≤ 126
      · rw [if_pos ⟨h1, h3⟩]
        simp only [sO, s1, sQ1, sK1, beQ, beK, if_neg h2, if_pos h3]
        simp
      · rw [if_neg (fun hh => h3 hh.2), drop_cons l 0 (a + 1) h1]
        simp only [sO, s1, sQ1, sK1, beQ, beK, if_neg h2, if_neg h3]
        simp
  · rw [if_neg (fun hh => h1 hh.1), if_neg (fun hh => h1 hh.1), List.drop_eq_nil_of_le (by omega)]; rfl
theorem sO_txt (l : List Int) (a : Nat) (h : a < l.length) (hc : l.getD a 0 ≠ 27) : sO 24 (l.drop a) = l.getD a 0 :: sO 24 (l.drop (a + 1)) := by
  rw [drop_cons l 0 a h]
  generalize l.getD a 0 = c at hc
  simp [sO, s1, sQ1, sK1, txQ, txK, hc]
def CSq : Ctr := .mk false fun _ xs => match xs with
  | [.lst zz es, .int .i64 a] => some ((zz = [.int .u8 0] ∧ es = u8s (decU es)) ∧ (0 ≤ a ∧ a < es.length) ∧ es.length ≤ 100000, .int .i64 (sqn (decU es) a.toNat), [])
  | _ => none
structure K14a (l : List Int) where
  i : Nat
  q : Nat
  hi : i ≤ l.length
  hq : q = sQ 24 (l.take i)
  hk : QOK q
def S14a (l : List Int) (p : K14a l) : SL := ⟨[(3, .vw 3200 0 0 0), (4, .fn p.q), (9, .lst [.int .u8 0] (u8s l)), (10, .int .i64 l.length), (11, .int .i64 p.i)], [(3200, .buf 5 [.int .u8 0] (u8s (sO 24 (l.take p.i))))]⟩
abbrev L14a (l : List Int) : LI := ⟨K14a l, S14a l, fun p => l.length - p.i, fun p q => True⟩
theorem L14aS (l : List Int) : (L14a l).S = S14a l := rfl
theorem L14aM (l : List Int) (p : K14a l) : (L14a l).μ p = l.length - p.i := rfl
theorem L14aR (l : List Int) (p q : K14a l) : (L14a l).R p q = (True) := rfl
def I14 (l : List Int) : Nat → LI := fun n => L14a l
theorem I14_0 (l : List Int) : I14 l 0 = L14a l := rfl
structure K21a (l : List Int) where
  i : Nat
  o : List Int
  hi : i ≤ l.length
  ho : strip l = o ++ sO 24 (l.drop i)
def S21a (l : List Int) (p : K21a l) : SL := ⟨[(0, .lst [.int .u8 0] (u8s l)), (3, .vw 3200 0 0 0), (4, .int .i64 p.i)], [(3200, .buf 5 [.int .u8 0] (u8s p.o))]⟩
abbrev L21a (l : List Int) : LI := ⟨K21a l, S21a l, fun p => l.length - p.i, fun p q => True⟩
theorem L21aS (l : List Int) : (L21a l).S = S21a l := rfl
theorem L21aM (l : List Int) (p : K21a l) : (L21a l).μ p = l.length - p.i := rfl
theorem L21aR (l : List Int) (p q : K21a l) : (L21a l).R p q = (True) := rfl
def I21 (l : List Int) : Nat → LI := fun n => L21a l
theorem I21_0 (l : List Int) : I21 l 0 = L21a l := rfl
structure K27a (l : List Int) (a : Nat) where
  i : Nat
  hi : a + 2 ≤ i ∧ i ≤ l.length
  ht : tw pP l i = tw pP l (a + 2)
def S27a (l : List Int) (a : Nat) (p : K27a l a) : SL := ⟨[(0, .lst [.int .u8 0] (u8s l)), (5, .int .i64 p.i)], []⟩
abbrev L27a (l : List Int) (a : Nat) : LI := ⟨K27a l a, S27a l a, fun p => l.length - p.i, fun p q => True⟩
theorem L27aS (l : List Int) (a : Nat) : (L27a l a).S = S27a l a := rfl
theorem L27aM (l : List Int) (a : Nat) (p : K27a l a) : (L27a l a).μ p = l.length - p.i := rfl
theorem L27aR (l : List Int) (a : Nat) (p q : K27a l a) : (L27a l a).R p q = (True) := rfl
structure K27b (l : List Int) (a : Nat) where
  i : Nat
  hi : a + 2 ≤ i ∧ i ≤ l.length
  ht : tw pI l i = tw pI l (tw pP l (a + 2))
def S27b (l : List Int) (a : Nat) (p : K27b l a) : SL := ⟨[(0, .lst [.int .u8 0] (u8s l)), (5, .int .i64 p.i)], []⟩
abbrev L27b (l : List Int) (a : Nat) : LI := ⟨K27b l a, S27b l a, fun p => l.length - p.i, fun p q => True⟩
theorem L27bS (l : List Int) (a : Nat) : (L27b l a).S = S27b l a := rfl
theorem L27bM (l : List Int) (a : Nat) (p : K27b l a) : (L27b l a).μ p = l.length - p.i := rfl
theorem L27bR (l : List Int) (a : Nat) (p q : K27b l a) : (L27b l a).R p q = (True) := rfl
def I27 (l : List Int) (a : Nat) : Nat → LI := fun n => if n = 0 then L27a l a else L27b l a
theorem I27_0 (l : List Int) (a : Nat) : I27 l a 0 = L27a l a := rfl
theorem I27_1 (l : List Int) (a : Nat) : I27 l a 1 = L27b l a := rfl
set_option maxHeartbeats 4000000 in
theorem walk24 {Phi : Nat → Option Ctr} (c : Int) : evC Phi (noI) rc24 ⟨initS [.int .u8 c], initM false []⟩ (kRet rv24 (.tup [.fn (txQ c), .bool (txK c)]) false []) := by
  simp (config := {maxSteps := 2000000}) only [rc24, initM_f, rv24, evC_seq, evC_region, eo_mov, evG_no, Option.getD_some, ev_mov, av_c, gv_junk, bind1_some', un1_mov, goOp_some, put_q, gv_bool, evOps_nil, kEnd_at, hasG_no, hasG_nil, kEndB_f, kSeq_n, av_t, upd_at, Nat.reduceEqDiff, ↓reduceIte, initS_at, List.getD_cons_zero, gv_int, eo_cmp, ev_cmp, cmp2_some, cmp_eql, toR_some', evC_cond, gv_fn, evC_ret, kSeq_r, kRet_r, retOK_eq, retL_cons, retV_t, retL_nil, consO_some, lkR_two, lkVs_cons, lk1_fn, lk1_bool, lkVs_nil, List.nil_append, lkT_f, applyL_nil, retOK_f, rtO_some, resV_two, leVs_cons, leV1_fn, leV1_bool, leVs_nil, and_true, knowL_nil, askL_nil, evC_skip, ar_t, condK_bool]
  simp only [decide_eq_true_eq, decide_eq_false_iff_not]
  exact ⟨fun h => by simp [txQ, txK, h], fun h => by simp [txQ, txK, h]⟩
set_option maxHeartbeats 4000000 in
theorem walk30 {Phi : Nat → Option Ctr} (P24 : Phi 24 = some CTx) (c : Int) : evC Phi (noI) rc30 ⟨initS [.int .u8 c], initM false []⟩ (kRet rv30 (.tup [.fn (imQ c), .bool (imK c)]) false []) := by
  simp (config := {maxSteps := 2000000}) only [rc30, initM_f, rv30, evC_seq, evC_region, eo_mov, evG_no, Option.getD_some, ev_mov, av_c, gv_junk, bind1_some', un1_mov, goOp_some, put_q, gv_bool, evOps_nil, kEnd_at, hasG_no, hasG_nil, kEndB_f, kSeq_n, evC_block, av_t, upd_at, Nat.reduceEqDiff, ↓reduceIte, initS_at, List.getD_cons_zero, gv_int, eo_cmp, ev_cmp, cmp2_some, cmp_geq, toR_some', evG_yes, pathG_bool, gG_some, guardR_q, guardL_nil, gv_gd, List.contains_cons, List.contains_nil, Bool.or_false, List.all_cons, beq_self_eq_true, List.all_nil, Bool.and_self, gvB_true, cmp_leq, eo_pick, ev_pick, List.nil_append, pick3_some, pickV_bool, Bool.cond_false_right, hasG_yes, kEndB_t, evC_cond, gv_fn, evC_ret, kBlk_r, kSeq_r, kRet_r, retOK_eq, retL_cons, retV_t, retL_nil, consO_some, lkR_two, lkVs_cons, lk1_fn, lk1_bool, lkVs_nil, lkT_f, applyL_nil, retOK_f, rtO_some, resV_two, leVs_cons, leV1_fn, leV1_bool, leVs_nil, and_true, knowL_nil, askL_nil, ungdS_at, ungd_int, evC_skip, kBlk_n, eo_call, P24, CTx, evCl_mk, ev_call, avs_cons, avs_nil, clE_some, callE_pure, lends_cons, lend1_int, lends_nil, consL_some', callN_some, callP_some, c2_tup, c1_fn, c1_bool, flat2_tup, flat1_fn, flat1_bool, backOK_nil, clQ_t, eo_extract, ev_extract, gv_tup, un1_extract, List.getElem?_cons_zero, List.getElem?_cons_succ, askL_cons, true_and, ar_t, ungd_bool, condK_bool]
  simp only [Bool.and_eq_true, Bool.and_eq_false_iff, decide_eq_true_eq, decide_eq_false_iff_not]
  refine ⟨fun h => by simp [imQ, imK, h], fun h => ?_⟩
  have h' : ¬ (32 ≤ c ∧ c ≤ 47) := by omega
  refine ⟨fun h1 => by simp [imQ, imK, h', h1], fun h1 => ?_⟩
  have h1' : ¬ (64 ≤ c ∧ c ≤ 126) := by omega
  simp [imQ, imK, h', h1']
set_option maxHeartbeats 4000000 in
theorem walk29 {Phi : Nat → Option Ctr} (P30 : Phi 30 = some CIm) (c : Int) : evC Phi (noI) rc29 ⟨initS [.int .u8 c], initM false []⟩ (kRet rv29 (.tup [.fn (paQ c), .bool (paK c)]) false []) := by
  simp (config := {maxSteps := 2000000}) only [rc29, initM_f, rv29, evC_seq, evC_region, eo_mov, evG_no, Option.getD_some, ev_mov, av_c, gv_junk, bind1_some', un1_mov, goOp_some, put_q, gv_bool, evOps_nil, kEnd_at, hasG_no, hasG_nil, kEndB_f, kSeq_n, av_t, upd_at, Nat.reduceEqDiff, ↓reduceIte, initS_at, List.getD_cons_zero, gv_int, eo_cmp, ev_cmp, cmp2_some, cmp_geq, toR_some', evG_yes, pathG_bool, gG_some, guardR_q, guardL_nil, gv_gd, List.contains_cons, List.contains_nil, Bool.or_false, List.all_cons, beq_self_eq_true, List.all_nil, Bool.and_self, gvB_true, cmp_leq, eo_pick, ev_pick, List.nil_append, pick3_some, pickV_bool, Bool.cond_false_right, hasG_yes, kEndB_t, evC_cond, gv_fn, evC_ret, kSeq_r, kRet_r, retOK_eq, retL_cons, retV_t, retL_nil, consO_some, lkR_two, lkVs_cons, lk1_fn, lk1_bool, lkVs_nil, lkT_f, applyL_nil, retOK_f, rtO_some, resV_two, leVs_cons, leV1_fn, leV1_bool, leVs_nil, and_true, knowL_nil, askL_nil, evC_skip, ungdS_at, ungd_int, eo_call, P30, CIm, evCl_mk, ev_call, avs_cons, avs_nil, clE_some, callE_pure, lends_cons, lend1_int, lends_nil, consL_some', callN_some, callP_some, c2_tup, c1_fn, c1_bool, flat2_tup, flat1_fn, flat1_bool, backOK_nil, clQ_t, eo_extract, ev_extract, gv_tup, un1_extract, List.getElem?_cons_zero, List.getElem?_cons_succ, askL_cons, true_and, ar_t, ungd_bool, condK_bool]
  simp only [Bool.and_eq_true, Bool.and_eq_false_iff, decide_eq_true_eq, decide_eq_false_iff_not]
  refine ⟨fun h => by simp [paQ, paK, h], fun h => ?_⟩
  have h' : ¬ (48 ≤ c ∧ c ≤ 63) := by omega
  simp [paQ, paK, h']
set_option maxHeartbeats 4000000 in
theorem walk28 {Phi : Nat → Option Ctr} (P24 : Phi 24 = some CTx) (c : Int) : evC Phi (noI) rc28 ⟨initS [.int .u8 c], initM false []⟩ (kRet rv28 (.tup [.fn (beQ c), .bool (beK c)]) false []) := by
  simp (config := {maxSteps := 2000000}) only [rc28, initM_f, rv28, evC_seq, evC_region, eo_mov, evG_no, Option.getD_some, ev_mov, av_c, gv_junk, bind1_some', un1_mov, goOp_some, put_q, gv_bool, evOps_nil, kEnd_at, hasG_no, hasG_nil, kEndB_f, kSeq_n, evC_block, av_t, upd_at, Nat.reduceEqDiff, ↓reduceIte, initS_at, List.getD_cons_zero, gv_int, eo_cmp, ev_cmp, cmp2_some, cmp_eql, toR_some', evC_cond, gv_fn, evC_ret, kBlk_r, kSeq_r, kRet_r, retOK_eq, retL_cons, retV_t, retL_nil, consO_some, lkR_two, lkVs_cons, lk1_fn, lk1_bool, lkVs_nil, List.nil_append, lkT_f, applyL_nil, retOK_f, rtO_some, resV_two, leVs_cons, leV1_fn, leV1_bool, leVs_nil, and_true, knowL_nil, askL_nil, cmp_geq, evG_yes, pathG_bool, gG_some, guardR_q, guardL_nil, gv_gd, List.contains_cons, List.contains_nil, Bool.or_false, List.all_cons, beq_self_eq_true, List.all_nil, Bool.and_self, gvB_true, cmp_leq, eo_pick, ev_pick, pick3_some, pickV_bool, Bool.cond_false_right, hasG_yes, kEndB_t, evC_skip, kBlk_n, ungdS_at, ungd_int, eo_call, P24, CTx, evCl_mk, ev_call, avs_cons, avs_nil, clE_some, callE_pure, lends_cons, lend1_int, lends_nil, consL_some', callN_some, callP_some, c2_tup, c1_fn, c1_bool, flat2_tup, flat1_fn, flat1_bool, backOK_nil, clQ_t, eo_extract, ev_extract, gv_tup, un1_extract, List.getElem?_cons_zero, List.getElem?_cons_succ, askL_cons, true_and, ar_t, ungd_bool, condK_bool]
  simp only [Bool.and_eq_true, Bool.and_eq_false_iff, decide_eq_true_eq, decide_eq_false_iff_not]
  refine ⟨fun h => by simp [beQ, beK, h], fun h => ⟨fun h1 => by simp [beQ, beK, h, h1], fun h1 => ?_⟩⟩
  have h1' : ¬ (48 ≤ c ∧ c ≤ 126) := by omega
  simp [beQ, beK, h, h1']
theorem clq {Phi : Nat → Option Ctr} (P24 : Phi 24 = some CTx) (P28 : Phi 28 = some CBe) (P29 : Phi 29 = some CPa) (P30 : Phi 30 = some CIm) (l : List Int) (p : K14a l) (m : Nat → Option Blk) (c : Int) : clV Phi m [2, 3, 4, 5, 6, 7, 8, 9, 10, 11, 12, 13, 14, 15, 16, 17, 18, 19, 20, 21, 22, 23, 24, 25, 26, 27, 28, 29, 30] (some (.fn p.q)) (some [.int .u8 c]) = some ⟨[True], [], .tup [.fn (sQ1 p.q c), .bool (sK1 p.q c)], [], none, []⟩ := by
  obtain ⟨i, q, hi, hq, hk⟩ := p
  dsimp only
  clear hq
  rcases hk with rfl | rfl | rfl | rfl
  · simp only [clV_some, List.contains_cons, Nat.reduceBEq, beq_self_eq_true, List.contains_nil, Bool.or_false, Bool.or_true, clW_t, P24, CTx, call_pure, lends_cons, lend1_int, lends_nil, consL_some', List.nil_append, callN_some, callP_some, c2_tup, List.all_cons, c1_fn, c1_bool, List.all_nil, Bool.and_self, flat2_tup, flat1_fn, flat1_bool, backOK_nil, clQ_t, sQ1, ↓reduceIte, sK1]
  · simp only [clV_some, List.contains_cons, Nat.reduceBEq, beq_self_eq_true, List.contains_nil, Bool.or_false, Bool.or_true, clW_t, P28, CBe, call_pure, lends_cons, lend1_int, lends_nil, consL_some', List.nil_append, callN_some, callP_some, c2_tup, List.all_cons, c1_fn, c1_bool, List.all_nil, Bool.and_self, flat2_tup, flat1_fn, flat1_bool, backOK_nil, clQ_t, sQ1, Nat.reduceEqDiff, ↓reduceIte, sK1]
  · simp only [clV_some, List.contains_cons, Nat.reduceBEq, beq_self_eq_true, List.contains_nil, Bool.or_false, Bool.or_true, clW_t, P29, CPa, call_pure, lends_cons, lend1_int, lends_nil, consL_some', List.nil_append, callN_some, callP_some, c2_tup, List.all_cons, c1_fn, c1_bool, List.all_nil, Bool.and_self, flat2_tup, flat1_fn, flat1_bool, backOK_nil, clQ_t, sQ1, Nat.reduceEqDiff, ↓reduceIte, sK1]
  · simp only [clV_some, List.contains_cons, Nat.reduceBEq, beq_self_eq_true, List.contains_nil, Bool.or_false, Bool.or_true, clW_t, P30, CIm, call_pure, lends_cons, lend1_int, lends_nil, consL_some', List.nil_append, callN_some, callP_some, c2_tup, List.all_cons, c1_fn, c1_bool, List.all_nil, Bool.and_self, flat2_tup, flat1_fn, flat1_bool, backOK_nil, clQ_t, sQ1, Nat.reduceEqDiff, ↓reduceIte, sK1]
set_option maxHeartbeats 4000000 in
theorem walk14 {Phi : Nat → Option Ctr} (P24 : Phi 24 = some CTx) (P28 : Phi 28 = some CBe) (P29 : Phi 29 = some CPa) (P30 : Phi 30 = some CIm) (l : List Int) (hl : l.length ≤ 100000) : evC Phi (I14 l) rc14 ⟨initS [.lst [.int .u8 0] (u8s l)], initM false []⟩ (kRet rv14 (.lst [.int .u8 0] (u8s (strip l))) false []) := by
  simp (config := {maxSteps := 2000000}) only [rc14, initM_f, rv14, evC_seq, evC_region, eo_mov, evG_no, Option.getD_some, ev_mov, av_c, gv_nil, bind1_some', un1_mov, goOp_some, put_q, evOps_nil, kEnd_at, hasG_no, hasG_nil, kEndB_f, kSeq_n, gv_fn, av_t, upd_at, Nat.reduceEqDiff, ↓reduceIte, initS_at, List.getD_cons_zero, gv_lst, eo_len, ev_len, len_lst, u8s_len, gv_int, evC_block, evC_loop, I14_0, L14aS, S14a, SL_ge, lkL_cons, lkS_nil_vw, lookM_cons, nlK_buf, lkS_fn, lkS_lst, lkS_int, lkL_nil, List.nil_append, List.cons_append, lkM_cons, lkB_buf, lkM_nil, applyL_nls, nlV_nil, Nat.reduceLeDiff, decide_true, List.length_cons, List.length_nil, Nat.zero_add, Nat.reduceLT, Bool.and_self, nlP_t, applyL_nil, SL_ge0, leL_cons, leV1_vw, killS_at, kill3_fn, leV1_fn, kill3_lst, leV1_lst, kill3_int, leV1_int, leL_nil, and_true, true_and, leM_cons, updM_at, leB_buf, leM_nil, L14aR, SL_st, eo_cmp, ev_cmp, lookL_cons, cmp2_some, cmp_lss, toR_some', evC_cond, evC_skip, eo_iaddrS, ev_iaddrS, bind2_some', iaddrS_lst, beq_self_eq_true, iasB_true, Int.toNat_natCast, eo_load, ev_load, gv_ep, load_ep, getE_u8, valOf_one, List.getElem?_cons_zero, ldV_some, eo_callv, ev_callv, avs_cons, avs_nil, consO_some, clq P24 P28 P29 P30 l, gv_tup, eo_extract, ev_extract, un1_extract, List.getElem?_cons_succ, gv_bool, gv_vw, eo_bsliceO, vwsG_cons, ar_t, vws1_int, vwsG_nil, frzL_nil, goF_eq, ev_bsliceO, List.replicate_succ, List.replicate_zero, fillS_cons, fsK_some, cells_int, fsC_some, List.all_cons, c0_int, List.all_nil, and_self, List.set_cons_zero, fillS_nil, blO2_some, Nat.reduceMul, Nat.reduceAdd, put_n, killB_buf, eo_append, ev_append, kill3_vw, appR_vw, ysOf_vw, ysV_buf, killM_at, killO_some, appV_buf, appK_some, Nat.mul_one, u8s_snoc, kBlk_n, eo_arith, ev_arith, arith_add, kLoop_n, lkS_vw_vw, renK_t, knowL_nil, askL_nil, askL_cons, condK_bool, knowL_cons, evC_exit, kSeq_e, kLoop_e, kBlk_e, kBlkB_t, evC_ret, kRet_r, retOK_eq, retL_cons, retV_t, retL_nil, lkR_one, lk1_vw_lst, lkT_f, applyL_frz, frzQ_buf, frzP_t, retOK_f, frzSl_at, frz3_vw, rtO_some, resV_one, true_imp_iff]
  intro _
  refine ⟨⟨0, 24, by omega, rfl, .inl rfl⟩, ⟨⟨rfl, rfl⟩, rfl⟩, ?_⟩
  rintro ⟨i, q, hi, hq, hk⟩
  dsimp only
  refine ⟨fun hc => ?_, fun hc => ?_⟩
  · have hc := of_decide_eq_true hc
    have h1 := sO_len 24 (l.take i)
    simp only [List.length_take] at h1
    have e := take_snoc l 0 i (by omega)
    have eQ : sQ 24 (l.take (i + 1)) = sQ1 q (l.getD i 0) := by rw [e, sQ_app, sQ_one, ← hq]
    have eO : sO 24 (l.take (i + 1)) = sO 24 (l.take i) ++ s1 q (l.getD i 0) := by rw [e, sO_app, sO_one, ← hq]
    refine ⟨⟨by omega, by omega⟩, fun _ => ⟨fun ha => ⟨by omega, by omega, ⟨i + 1, sQ1 q (l.getD i 0), by omega, eQ.symm, sQ1_ok _ _⟩, ⟨⟨rfl, AV.int_inj' (wr_succ i (by omega))⟩, ?_⟩, ?_⟩, fun ha => ⟨⟨i + 1, sQ1 q (l.getD i 0), by omega, eQ.symm, sQ1_ok _ _⟩, ⟨⟨rfl, AV.int_inj' (wr_succ i (by omega))⟩, ?_⟩, ?_⟩⟩⟩
    · rw [eO, s1, if_pos ha]
    · show l.length - (i + 1) < l.length - i
      omega
    · have ha' : ¬ sK1 q (l.getD i 0) = true := by rw [ha]; simp
      rw [eO, s1, if_neg ha', List.append_nil]
    · show l.length - (i + 1) < l.length - i
      omega
  · have hc := of_decide_eq_false hc
    rw [List.take_of_length_le (by omega)]; rfl
set_option maxHeartbeats 4000000 in
theorem walk27 {Phi : Nat → Option Ctr} (l : List Int) (hl : l.length ≤ 100000) (a : Nat) (ha : a < l.length) : evC Phi (I27 l a) rc27 ⟨initS [.lst [.int .u8 0] (u8s l), .int .i64 a], initM false []⟩ (kRet rv27 (.int .i64 (sqn l a)) false []) := by
  simp (config := {maxSteps := 2000000}) only [rc27, initM_f, rv27, evC_seq, evC_region, eo_mov, evG_no, Option.getD_some, ev_mov, av_c, gv_int, bind1_some', un1_mov, goOp_some, put_q, evOps_nil, kEnd_at, hasG_no, hasG_nil, kEndB_f, kSeq_n, av_t, upd_at, Nat.reduceEqDiff, ↓reduceIte, initS_at, List.getD_cons_succ, List.getD_cons_zero, eo_arith, ev_arith, bind2_some', arith_add, gv_lst, eo_len, ev_len, len_lst, u8s_len, eo_cmp, ev_cmp, cmp2_some, cmp_geq, toR_some', gv_bool, evG_yes, pathG_bool, gG_some, guardR_q, guardL_nil, eo_iaddrS, ev_iaddrS, gv_gd, List.contains_cons, List.contains_nil, Bool.or_false, List.all_cons, beq_self_eq_true, List.all_nil, Bool.and_self, gvB_true, iaddrS_lst, List.length_cons, List.length_nil, Nat.zero_add, iasB_true, guardL_cons, pathP_cons, boolOf_bool, pathP_nil, and_true, eo_load, ev_load, load_ep, getE_u8, valOf_one, List.getElem?_cons_zero, ldV_some, cmp_neq, eo_pick, ev_pick, List.nil_append, pick3_some, pickV_bool, Bool.cond_true_left, hasG_yes, kEndB_t, evC_cond, ungdS_at, ungd_int, ungd_lst, cmp_lss, Bool.cond_false_right, cmp_leq, evC_ret, kSeq_r, kRet_r, retOK_eq, retL_cons, retV_t, retL_nil, consO_some, lkR_one, lk1_int, lkT_f, applyL_nil, retOK_f, rtO_some, resV_one, leV1_int, knowL_nil, askL_nil, evC_skip, ar_t, ungd_bool, condK_bool, askL_cons, knowL_cons, evC_block, evC_loop, I27_0, L27aS, S27a, SL_ge, lkL_cons, lkS_lst, lkS_int, lkL_nil, lkM_nil, SL_ge0, leL_cons, leV1_lst, leL_nil, true_and, leM_nil, L27aR, SL_st, lookL_cons, Int.toNat_natCast, kBlk_n, kLoop_n, evC_exit, kSeq_e, kLoop_e, kBlk_e, kBlkB_t, I27_1, L27bS, S27b, L27bR, true_imp_iff]
  intro _
  have e1 : IntKind.i64.wrap ((a : Int) + 1) = ((a + 1 : Nat) : Int) := wr_succ a (by omega)
  have e2 : IntKind.i64.wrap (((a + 1 : Nat) : Int) + 1) = ((a + 2 : Nat) : Int) := wr_succ (a + 1) (by omega)
  rw [e1, e2]
  rw [show (((a + 1 : Nat) : Int)).toNat = a + 1 by omega]
  refine ⟨fun h => ?_, fun h => ?_, fun h => ?_⟩
  · have h := of_decide_eq_false (Option.some.inj h)
    omega
  · have hn : ¬ (a + 1 < l.length ∧ l.getD (a + 1) 0 = 91) := by
      rintro ⟨h1, h2⟩
      rw [decide_eq_false (by omega), h2] at h
      simp at h
    intro _
    refine ⟨fun h1 => ?_, fun h1 => ?_, fun h1 => ?_, fun h1 => ?_⟩
    · have h1 := of_decide_eq_true (Option.some.inj h1); omega
    · have h1 := Option.some.inj h1
      simp only [Bool.and_eq_true, decide_eq_true_eq] at h1; omega
    · simp only [Bool.and_eq_true, decide_eq_true_eq] at h1
      rw [sqn, if_neg hn, if_pos ⟨by omega, h1.1.2, h1.2⟩]
    · have h1' : ¬ (a + 1 < l.length ∧ 48 ≤ l.getD (a + 1) 0 ∧ l.getD (a + 1) 0 ≤ 126) := by
        rintro ⟨q1, q2, q3⟩
        rw [decide_eq_true q2, decide_eq_true q3, decide_eq_true (show ((a + 1 : Nat) : Int) < (l.length : Int) by omega)] at h1
        simp at h1
      rw [sqn, if_neg hn, if_neg h1']
  · have hn : a + 1 < l.length ∧ l.getD (a + 1) 0 = 91 := by
      simp only [Bool.or_eq_false_iff, decide_eq_false_iff_not, Bool.not_eq_false', decide_eq_true_eq] at h
      exact ⟨by omega, h.2⟩
    refine ⟨⟨a + 2, by omega, rfl⟩, rfl, ?_⟩
    rintro ⟨i, hi, ht⟩ _
    dsimp only
    refine ⟨fun h1 => ?_, fun h1 => ?_, fun h1 => ?_, fun h1 => ?_⟩
    · have h1 := of_decide_eq_true (Option.some.inj h1); omega
    · have h1 := Option.some.inj h1
      simp only [Bool.and_eq_true, decide_eq_true_eq] at h1; omega
    · simp only [Bool.and_eq_true, decide_eq_true_eq] at h1
      refine ⟨⟨i + 1, by omega, ?_⟩, AV.int_inj' (wr_succ i (by omega)), ?_⟩
      · rw [← ht]; exact (tw_go (by omega) (by rw [pP, decide_eq_true h1.1.2, decide_eq_true h1.2]; rfl)).symm
      · show l.length - (i + 1) < l.length - i
        omega
    · have hi2 : tw pP l (a + 2) = i := by
        rw [← ht]
        by_cases hl2 : i < l.length
        · apply tw_no
          unfold pP
          rw [decide_eq_true (show (i : Int) < (l.length : Int) by omega)] at h1
          simpa using h1
        · exact tw_end (by omega)
      refine ⟨⟨i, by omega, by rw [hi2]⟩, rfl, ?_⟩
      rintro ⟨i, hi, ht⟩ _
      dsimp only
      refine ⟨fun h1 => ?_, fun h1 => ?_, fun h1 => ?_, fun h1 => ?_⟩
      · have h1 := of_decide_eq_true (Option.some.inj h1); omega
      · have h1 := Option.some.inj h1
        simp only [Bool.and_eq_true, decide_eq_true_eq] at h1; omega
      · simp only [Bool.and_eq_true, decide_eq_true_eq] at h1
        refine ⟨⟨i + 1, by omega, ?_⟩, AV.int_inj' (wr_succ i (by omega)), ?_⟩
        · rw [← ht]; exact (tw_go (by omega) (by rw [pI, decide_eq_true h1.1.2, decide_eq_true h1.2]; rfl)).symm
        · show l.length - (i + 1) < l.length - i
          omega
      · have hi3 : tw pI l (tw pP l (a + 2)) = i := by
          rw [← ht]
          by_cases hl2 : i < l.length
          · apply tw_no
            unfold pI
            rw [decide_eq_true (show (i : Int) < (l.length : Int) by omega)] at h1
            simpa using h1
          · exact tw_end (by omega)
        have es : sqn l a = if i < l.length ∧ 64 ≤ l.getD i 0 ∧ l.getD i 0 ≤ 126 then i + 1 else i := by
          rw [sqn, if_pos hn]; dsimp only; rw [hi3]
        intro _
        refine ⟨fun h1 => ?_, fun h1 => ?_, fun h1 => ?_, fun h1 => ?_⟩
        · have h1 := of_decide_eq_true (Option.some.inj h1); omega
        · have h1 := Option.some.inj h1
          simp only [Bool.and_eq_true, decide_eq_true_eq] at h1; omega
        · simp only [Bool.and_eq_true, decide_eq_true_eq] at h1
          rw [es, if_pos ⟨by omega, h1.1.2, h1.2⟩]
          exact AV.int_inj' (wr_succ i (by omega))
        · have h1' : ¬ (i < l.length ∧ 64 ≤ l.getD i 0 ∧ l.getD i 0 ≤ 126) := by
            rintro ⟨q1, q2, q3⟩
            rw [decide_eq_true q2, decide_eq_true q3, decide_eq_true (show (i : Int) < (l.length : Int) by omega)] at h1
            simp at h1
          rw [es, if_neg h1']
set_option maxHeartbeats 4000000 in
theorem walk21 {Phi : Nat → Option Ctr} (P27 : Phi 27 = some CSq) (l : List Int) (hl : l.length ≤ 100000) : evC Phi (I21 l) rc21 ⟨initS [.lst [.int .u8 0] (u8s l)], initM false []⟩ (kRet rv21 (.lst [.int .u8 0] (u8s (strip l))) false []) := by
  simp (config := {maxSteps := 2000000}) only [rc21, initM_f, rv21, evC_seq, evC_region, eo_mov, evG_no, Option.getD_some, ev_mov, av_c, gv_nil, bind1_some', un1_mov, goOp_some, put_q, evOps_nil, kEnd_at, hasG_no, hasG_nil, kEndB_f, kSeq_n, gv_int, evC_block, evC_loop, I21_0, L21aS, S21a, SL_ge, lkL_cons, upd_at, Nat.reduceEqDiff, ↓reduceIte, initS_at, List.getD_cons_zero, lkS_lst, lkS_nil_vw, lookM_cons, nlK_buf, lkS_int, lkL_nil, List.nil_append, List.cons_append, lkM_cons, lkB_buf, lkM_nil, applyL_nls, nlV_nil, Nat.reduceLeDiff, decide_true, List.length_cons, List.length_nil, Nat.zero_add, Nat.reduceLT, Bool.and_self, nlP_t, applyL_nil, SL_ge0, leL_cons, killS_at, kill3_lst, leV1_lst, leV1_vw, kill3_int, leV1_int, leL_nil, and_true, true_and, leM_cons, updM_at, leB_buf, leM_nil, L21aR, SL_st, av_t, lookL_cons, gv_lst, eo_len, ev_len, len_lst, u8s_len, eo_cmp, ev_cmp, cmp2_some, cmp_lss, toR_some', evC_cond, evC_skip, eo_iaddrS, ev_iaddrS, bind2_some', iaddrS_lst, beq_self_eq_true, iasB_true, Int.toNat_natCast, eo_load, ev_load, gv_ep, load_ep, getE_u8, valOf_one, List.getElem?_cons_zero, ldV_some, cmp_eql, eo_call, P27, CSq, evCl_mk, ev_call, avs_cons, avs_nil, consO_some, clE_some, callE_pure, lends_cons, lend1_lst, lend1_int, lends_nil, consL_some', callN_some, decU_u8s, and_self, callP_some, c2_int, flat2_int, backOK_nil, clQ_t, evC_exit, kSeq_e, kBlk_e, kBlkB_t, kLoop_n, lkS_vw_vw, renK_t, knowL_nil, askL_nil, askL_cons, gv_vw, eo_bsliceO, vwsG_cons, ar_t, vws1_int, vwsG_nil, frzL_nil, goF_eq, ev_bsliceO, List.replicate_succ, List.replicate_zero, fillS_cons, fsK_some, cells_int, fsC_some, List.all_cons, c0_int, List.all_nil, List.set_cons_zero, fillS_nil, blO2_some, Nat.reduceMul, Nat.reduceAdd, put_n, killB_buf, eo_append, ev_append, kill3_vw, appR_vw, ysOf_vw, ysV_buf, killM_at, killO_some, appV_buf, appK_some, Nat.mul_one, u8s_snoc, eo_arith, ev_arith, arith_add, kBlk_n, knowL_cons, condK_bool, kLoop_e, evC_ret, kRet_r, retOK_eq, retL_cons, retV_t, retL_nil, lkR_one, lk1_vw_lst, lkT_f, applyL_frz, frzQ_buf, frzP_t, retOK_f, frzSl_at, frz3_vw, rtO_some, resV_one, true_imp_iff]
  refine ⟨⟨0, [], by omega, rfl⟩, ⟨rfl, rfl⟩, ?_⟩
  rintro ⟨i, o, hi, ho⟩ _
  dsimp only
  have hol : o.length ≤ l.length := by
    have h1 := congrArg List.length ho
    have h2 := sO_len 24 l
    simp only [strip, List.length_append] at h1
    omega
  refine ⟨fun hc => ?_, fun hc => ?_⟩
  · have hc := of_decide_eq_true hc
    refine ⟨⟨by omega, by omega⟩, fun _ => ⟨fun h1 => ?_, fun h1 => ?_⟩⟩
    · have h1 := of_decide_eq_true h1
      have hs := sqn_le l i (by omega)
      refine ⟨⟨⟨by omega, by omega⟩, hl⟩, ⟨sqn l i, o, hs.2, by rw [ho, sO_esc l i (by omega) h1]⟩, ⟨rfl, rfl⟩, ?_⟩
      show l.length - sqn l i < l.length - i
      omega
    · have h1 := of_decide_eq_false h1
      refine ⟨⟨by omega, by omega⟩, fun _ => ⟨by omega, by omega, ⟨i + 1, o ++ [l.getD i 0], by omega, by rw [ho, sO_txt l i (by omega) h1]; simp⟩, ⟨AV.int_inj' (wr_succ i (by omega)), rfl⟩, ?_⟩⟩
      show l.length - (i + 1) < l.length - i
      omega
  · have hc := of_decide_eq_false hc
    rw [ho, List.drop_eq_nil_of_le (by omega)]
    simp [sO]
end Go.Proofs.Ytfmndopgbikgjaa

/- A part of the proof: symbolic evaluation of the program's functions, proved sound against the model; no condition. -/
import Derived.Test.YtmcaedjlglpdeaaEvKM
namespace Go.Proofs.Ytmcaedjlglpdeaa
open Go Go.RowKit Go.Ev
set_option linter.unusedSimpArgs false
set_option linter.unusedVariables false
set_option maxRecDepth 20000
structure Act where
  set : Bool
  n : Int
  t : Int
def Act.cs (a : Act) : List AV := [.bool a.set, .int .i64 a.n, .int .u32 a.t]
def Act0 : Act := ⟨false, 0, 0⟩
def acs (l : List Act) : List (List AV) := l.map Act.cs
theorem acs_len (l : List Act) : (acs l).length = l.length := by simp [acs]
theorem getE_ac (l : List Act) (i : Nat) : getE [.bool false, .int .i64 0, .int .u32 0] (acs l) i = (l.getD i Act0).cs := getE_map _ Act.cs Act0 rfl l i
/-- What the changes behind an event add, unwrapped. -/
def dz (l : List E) : Nat → Int
  | 0 => 0
  | k + 1 => if isx (l.getD (l.length - 1 - k) E0) 128 then dz l k + (tms l (l.length - 1 - k) - tms l (l.length - 1 - k - 1)) else dz l k
def dlt (l : List E) (x : E) : Int := if isx x 128 then x.time - tms l (l.length - 1) else 0
theorem getD_app {l : List E} {x : E} {i : Nat} (h : i < l.length) : (l ++ [x]).getD i E0 = l.getD i E0 := by
  simp [List.getD_eq_getElem?_getD, List.getElem?_append_left h]
theorem getD_end (l : List E) (x : E) : (l ++ [x]).getD l.length E0 = x := by
  simp [List.getD_eq_getElem?_getD]
theorem dz_app (l : List E) (x : E) (hx : isx x 128 = true → l ≠ []) : ∀ k, k ≤ l.length → dz (l ++ [x]) (k + 1) = dlt l x + dz l k := by
  intro k
  induction k with
  | zero =>
    intro _
    have e1 : (l ++ [x]).length - 1 - 0 = l.length := by simp
    simp only [dz, dlt]
    rw [e1, getD_end]
    split
    · rename_i h
      have h2 : 0 < l.length := List.length_pos_iff.mpr (hx h)
      simp only [tms]
      rw [getD_end, getD_app (by omega)]
      omega
    · omega
  | succ k ih =>
    intro hk
    have e1 : (l ++ [x]).length - 1 - (k + 1) = l.length - 1 - k := by simp; omega
    rw [dz, e1, getD_app (by omega), ih (by omega)]
    rw [dz]
    simp only [tms]
    rw [getD_app (by omega), getD_app (by omega)]
    split <;> omega
/-- The lists of ClockTruth, so far: where each event would come to stand now. -/
structure TI (c : Ck) (m : List E) (q : List Int) : Prop where
  len : q.length = m.length
  at' : ∀ i, i < m.length → tms m i + dz m (m.length - 1 - i) = q.getD i 0 / 10 + c.b
  tm : ∀ x ∈ m, 0 ≤ x.time ∧ x.time ≤ 4294967295
  bad : ∀ i, i < m.length → badR m i = false
  mono : ∀ i, i + 1 < m.length → q.getD i 0 ≤ q.getD (i + 1) 0
  top : ∀ x ∈ q, 0 ≤ x ∧ x ≤ c.t
theorem isx_ne {x : E} {w v : Int} (h : isx x w = true) (hv : v ≠ w) : isx x v = false := by
  simp only [isx, Bool.and_eq_true, decide_eq_true_eq] at h
  have : decide (x.d1 = v) = false := by rw [decide_eq_false_iff_not]; omega
  simp [isx, this]
theorem bad_app {m : List E} (x : E) {i : Nat} (hi : i < m.length) (hb : badR m i = false) : badR (m ++ [x]) i = false := by
  simp only [badR] at hb ⊢
  rw [getD_app hi, getD_app (show i - 1 < m.length by omega)]
  by_cases h : i + 1 < m.length
  · rw [getD_app h]
    have e1 : decide (i + 1 = m.length) = false := by rw [decide_eq_false_iff_not]; omega
    have e2 : decide (i + 1 = (m ++ [x]).length) = false := by rw [decide_eq_false_iff_not]; simp; omega
    rw [e1] at hb
    rw [e2]
    exact hb
  · have e1 : decide (i + 1 = m.length) = true := decide_eq_true (by omega)
    rw [e1] at hb
    simp only [Bool.true_or, Bool.and_true, Bool.or_eq_false_iff] at hb
    rw [hb.1]
    simp only [Bool.false_and, Bool.false_or]
    exact hb.2
theorem qD_app {q : List Int} {x : Int} {i : Nat} (h : i < q.length) : (q ++ [x]).getD i 0 = q.getD i 0 := by
  simp [List.getD_eq_getElem?_getD, List.getElem?_append_left h]
theorem qD_end (q : List Int) (x : Int) : (q ++ [x]).getD q.length 0 = x := by
  simp [List.getD_eq_getElem?_getD]
theorem qD_mem {q : List Int} {i : Nat} (h : i < q.length) : q.getD i 0 ∈ q := by
  rw [List.getD_eq_getElem?_getD, List.getElem?_eq_getElem h]; exact List.getElem_mem h
theorem TI_one {c c' : Ck} {m : List E} {q : List Int} {x : E} (h : TI c m q) (hb : c'.b = c.b) (ht : 0 ≤ c.t ∧ c.t ≤ c'.t) (h0 : isx x 0 = false) (h1 : isx x 128 = false) (hx : x.time = c'.t / 10 + c'.b) (hx2 : 0 ≤ x.time ∧ x.time ≤ 4294967295) : TI c' (m ++ [x]) (q ++ [c'.t]) := by
  have hl := h.len
  have hd : dlt m x = 0 := by simp [dlt, h1]
  have hz : ∀ k, k ≤ m.length → dz (m ++ [x]) (k + 1) = dz m k := by
    intro k hk
    rw [dz_app m x (fun e => by rw [h1] at e; cases e) k hk, hd]; omega
  refine ⟨by simp [hl], ?_, ?_, ?_, ?_, ?_⟩
  · intro i hi
    simp only [List.length_append, List.length_singleton] at hi
    by_cases e : i < m.length
    · rw [show (m ++ [x]).length - 1 - i = (m.length - 1 - i) + 1 by simp; omega, hz _ (by omega), qD_app (by omega), hb]
      have := h.at' i e
      simp only [tms] at this ⊢
      rw [getD_app e]; exact this
    · have e2 : i = m.length := by omega
      subst e2
      rw [show (m ++ [x]).length - 1 - m.length = 0 by simp]
      have e3 : (q ++ [c'.t]).getD m.length 0 = c'.t := by rw [← hl]; exact qD_end q _
      rw [e3]
      simp only [tms, dz]
      rw [getD_end, hx]; omega
  · intro y hy
    rcases List.mem_append.1 hy with hy | hy
    · exact h.tm y hy
    · simp only [List.mem_singleton] at hy; subst hy; exact hx2
  · intro i hi
    simp only [List.length_append, List.length_singleton] at hi
    by_cases e : i < m.length
    · exact bad_app x e (h.bad i e)
    · have e2 : i = m.length := by omega
      subst e2
      simp only [badR]
      rw [getD_end, h0, h1]; rfl
  · intro i hi
    simp only [List.length_append, List.length_singleton] at hi
    by_cases e : i + 1 < m.length
    · rw [qD_app (by omega), qD_app (by omega)]; exact h.mono i e
    · have e2 : i + 1 = q.length := by omega
      rw [qD_app (by omega), e2, qD_end]
      have := h.top _ (qD_mem (show i < q.length by omega))
      omega
  · intro y hy
    rcases List.mem_append.1 hy with hy | hy
    · have := h.top y hy; omega
    · simp only [List.mem_singleton] at hy; subst hy; omega
theorem TI_two {c c' : Ck} {m : List E} {q : List Int} {x y : E} (h : TI c m q) (ht : 0 ≤ c.t) (hct : c'.t = c.t) (h0 : isx x 0 = true) (h1 : isx y 128 = true) (hx : x.time = c.t / 10 + c.b) (hy : y.time = c'.t / 10 + c'.b) (hx2 : 0 ≤ x.time ∧ x.time ≤ 4294967295) (hy2 : 0 ≤ y.time ∧ y.time ≤ 4294967295) : TI c' (m ++ [x] ++ [y]) (q ++ [c'.t] ++ [c'.t]) := by
  have hl := h.len
  have x128 : isx x 128 = false := isx_ne h0 (by decide)
  have y0 : isx y 0 = false := isx_ne h1 (by decide)
  have hd : dlt m x = 0 := by simp [dlt, x128]
  have ex : tms (m ++ [x]) m.length = x.time := by simp only [tms]; rw [getD_end]
  have hd2 : dlt (m ++ [x]) y = c'.b - c.b := by
    simp only [dlt, h1, if_true]
    rw [show (m ++ [x]).length - 1 = m.length by simp, ex, hx, hy, hct]; omega
  have hz : ∀ k, k ≤ m.length → dz (m ++ [x]) (k + 1) = dz m k := by
    intro k hk
    rw [dz_app m x (fun e => by rw [x128] at e; cases e) k hk, hd]; omega
  have hz2 : ∀ k, k ≤ m.length + 1 → dz (m ++ [x] ++ [y]) (k + 1) = c'.b - c.b + dz (m ++ [x]) k := by
    intro k hk
    rw [dz_app (m ++ [x]) y (fun _ => by simp) k (by simp; omega), hd2]
  have ln : (m ++ [x] ++ [y]).length = m.length + 2 := by simp
  have lx : (m ++ [x]).length = m.length + 1 := by simp
  have lq : (q ++ [c'.t]).length = m.length + 1 := by simp [hl]
  refine ⟨by simp [hl], ?_, ?_, ?_, ?_, ?_⟩
  · intro i hi
    rw [ln] at hi ⊢
    by_cases e : i < m.length
    · rw [show m.length + 2 - 1 - i = ((m.length - 1 - i) + 1) + 1 by omega, hz2 _ (by omega), hz _ (by omega), qD_app (by rw [lq]; omega), qD_app (by omega)]
      have := h.at' i e
      simp only [tms] at this ⊢
      rw [getD_app (by rw [lx]; omega), getD_app e]; omega
    · by_cases e2 : i = m.length
      · subst e2
        rw [show m.length + 2 - 1 - m.length = 0 + 1 by omega, hz2 _ (by omega), qD_app (by rw [lq]; omega)]
        have e3 : (q ++ [c'.t]).getD m.length 0 = c'.t := by rw [← hl]; exact qD_end q _
        rw [e3]
        have e4 : tms (m ++ [x] ++ [y]) m.length = x.time := by simp only [tms]; rw [getD_app (by rw [lx]; omega), getD_end]
        rw [e4, hx, hct]; simp only [dz]; omega
      · have e3 : i = m.length + 1 := by omega
        subst e3
        rw [show m.length + 2 - 1 - (m.length + 1) = 0 by omega]
        have e3 : (q ++ [c'.t] ++ [c'.t]).getD (m.length + 1) 0 = c'.t := by rw [← lq]; exact qD_end _ _
        have e4 : tms (m ++ [x] ++ [y]) (m.length + 1) = y.time := by simp only [tms]; rw [← lx, getD_end]
        rw [e3, e4, hy]; simp only [dz]; omega
  · intro z hz
    simp only [List.mem_append, List.mem_singleton] at hz
    rcases hz with (hz | hz) | hz
    · exact h.tm z hz
    · subst hz; exact hx2
    · subst hz; exact hy2
  · intro i hi
    rw [ln] at hi
    by_cases e : i < m.length
    · exact bad_app y (by rw [lx]; omega) (bad_app x e (h.bad i e))
    · by_cases e2 : i = m.length
      · subst e2
        simp only [badR]
        rw [getD_app (show m.length < (m ++ [x]).length by rw [lx]; omega), getD_end, h0, x128]
        have e5 : (m ++ [x] ++ [y]).getD (m.length + 1) E0 = y := by rw [← lx]; exact getD_end _ _
        rw [e5, h1, ln]
        have : decide (m.length + 1 = m.length + 2) = false := by rw [decide_eq_false_iff_not]; omega
        rw [this]; rfl
      · have e3 : i = m.length + 1 := by omega
        subst e3
        have e5 : (m ++ [x] ++ [y]).getD (m.length + 1) E0 = y := by rw [← lx]; exact getD_end _ _
        simp only [badR]
        rw [e5, y0, h1, show m.length + 1 - 1 = m.length by omega, getD_app (show m.length < (m ++ [x]).length by rw [lx]; omega), getD_end, h0]
        have : decide (m.length + 1 = 0) = false := by rw [decide_eq_false_iff_not]; omega
        rw [this]; rfl
  · intro i hi
    rw [ln] at hi
    have g1 : ∀ i, i < m.length → (q ++ [c'.t] ++ [c'.t]).getD i 0 = q.getD i 0 := fun i hi => (qD_app (by rw [lq]; omega)).trans (qD_app (by omega))
    have g2 : (q ++ [c'.t] ++ [c'.t]).getD m.length 0 = c'.t := (qD_app (by rw [lq]; omega)).trans (by rw [← hl]; exact qD_end q _)
    by_cases e : i + 1 < m.length
    · rw [g1 i (by omega), g1 (i + 1) e]; exact h.mono i e
    · by_cases e2 : i + 1 = m.length
      · rw [g1 i (by omega), e2, g2]
        have := h.top _ (qD_mem (show i < q.length by omega))
        omega
      · have e3 : i = m.length := by omega
        subst e3
        have e4 : (q ++ [c'.t] ++ [c'.t]).getD (m.length + 1) 0 = c'.t := by rw [← lq]; exact qD_end _ _
        rw [e4, qD_app (by rw [lq]; omega)]
        have e3 : (q ++ [c'.t]).getD m.length 0 = c'.t := by rw [← hl]; exact qD_end q _
        rw [e3]; omega
  · intro z hz
    simp only [List.mem_append, List.mem_singleton] at hz
    rcases hz with (hz | hz) | hz
    · have := h.top z hz; omega
    · subst hz; omega
    · subst hz; omega
theorem tms_bd {m : List E} (tm : ∀ x ∈ m, 0 ≤ x.time ∧ x.time ≤ 4294967295) (i : Nat) : 0 ≤ tms m i ∧ tms m i ≤ 4294967295 := by
  simp only [tms, List.getD_eq_getElem?_getD]
  by_cases h : i < m.length
  · rw [List.getElem?_eq_getElem h]; exact tm _ (List.getElem_mem h)
  · rw [List.getElem?_eq_none (by omega)]; exact ⟨by decide, by decide⟩
/-- Reconcile of the lists of ClockTruth. -/
theorem dk_dz {m : List E} (B : ∀ i, i < m.length → -9000000000 ≤ dz m (m.length - 1 - i) ∧ dz m (m.length - 1 - i) ≤ 9000000000) (tm : ∀ x ∈ m, 0 ≤ x.time ∧ x.time ≤ 4294967295) : ∀ k, k < m.length → dkR m k = dz m k := by
  have tb : ∀ i, 0 ≤ tms m i ∧ tms m i ≤ 4294967295 := tms_bd tm
  intro k
  induction k with
  | zero => intro _; rfl
  | succ k ih =>
    intro hk
    have b := B (m.length - 1 - (k + 1)) (by omega)
    rw [show m.length - 1 - (m.length - 1 - (k + 1)) = k + 1 by omega] at b
    have t1 := tb (m.length - 1 - k)
    have t2 := tb (m.length - 1 - k - 1)
    simp only [dkR, ih (by omega)]
    simp only [dz] at b ⊢
    split
    · rename_i h
      rw [if_pos h] at b
      simp only [W]
      rw [wr_in (tms m (m.length - 1 - k)) (by omega) (by omega), wr_in (tms m (m.length - 1 - k - 1)) (by omega) (by omega), wr_in (tms m (m.length - 1 - k) - tms m (m.length - 1 - k - 1)) (by omega) (by omega), wr_in _ (by omega) (by omega)]
    · rfl
theorem TI_ok {c : Ck} {m : List E} {q : List Int} (h : TI c m q) : okR m = true := (okR_iff m).mpr h.bad
theorem TI_get {c : Ck} {m : List E} {q : List Int} (h : TI c m q) (hb : -4000000000 ≤ c.b ∧ c.b ≤ 4000000000) (ht : c.t ≤ 10000000) {i : Nat} (hi : i < m.length) : (recL m).getD i 0 = q.getD i 0 / 10 + c.b := by
  have hl := h.len
  have tb : ∀ i, 0 ≤ tms m i ∧ tms m i ≤ 4294967295 := tms_bd h.tm
  have B : ∀ i, i < m.length → -9000000000 ≤ dz m (m.length - 1 - i) ∧ dz m (m.length - 1 - i) ≤ 9000000000 := by
    intro i hi
    have h1 := h.at' i hi
    have h2 := h.top _ (qD_mem (show i < q.length by omega))
    have h3 := tb i
    omega
  have h1 := h.at' i hi
  have h2 := h.top _ (qD_mem (show i < q.length by omega))
  have h3 := tb i
  simp only [recL, TI_ok h, if_true, outR]
  rw [List.getD_eq_getElem?_getD]
  simp only [List.getElem?_map, List.getElem?_range hi, Option.map_some, Option.getD_some]
  rw [if_pos (by omega), ovR, dk_dz B h.tm _ (by omega)]
  have b := B i hi
  simp only [W]
  rw [wr_in (tms m i) (by omega) (by omega), wr_in _ (by omega) (by omega)]
  exact h1
theorem recL_len {c : Ck} {m : List E} {q : List Int} (h : TI c m q) : (recL m).length = m.length := by
  simp only [recL, TI_ok h, if_true, outR_len]
/-- ClockTruth: the state of the first loop. -/
structure KT (l : List Act) where
  i : Nat
  c : Ck
  m : List E
  q : List Int
  hi : i ≤ l.length
  hl : l.length ≤ 60
  ha : ∀ a ∈ l, 0 ≤ a.t ∧ a.t ≤ 4294967295
  ht : 0 ≤ c.t ∧ c.t ≤ 100000 * i
  hb : -10000000 ≤ c.b ∧ c.b ≤ 2000000000
  hs : c.s = false → c.b = 0
  hx : 0 ≤ c.t / 10 + c.b ∧ c.t / 10 + c.b ≤ 2000000000 + 10000 * i
  hT : TI c m q
  hm : m.length ≤ 2 * i
def ST (l : List Act) (p : KT l) : SL := ⟨[(0, .lst [.bool false, .int .i64 0, .int .u32 0] (acs l)), (3, .ptr 256 0), (4, .vw 3200 0 0 0), (5, .vw 3264 0 0 0), (6, .int .i64 p.i)], [(256, .cells p.c.cs), (3200, .buf 50 [.int .u16 0, .int .u32 0, .int .u16 0, .int .u8 0, .int .u8 0, .int .u8 0, .bool false, .int .u8 0, .int .u8 0, .int .u8 0] (evs p.m)), (3264, .buf 2 [.int .i64 0] (i64s p.q))]⟩
def LT (l : List Act) : LI := ⟨KT l, ST l, fun p => l.length - p.i, fun _ _ => True⟩
structure KTb where
  i : Nat
  c : Ck
  m : List E
  q : List Int
  hi : i ≤ m.length
  hT : TI c m q
  hb : -10000000 ≤ c.b ∧ c.b ≤ 2000000000
  ht : c.t ≤ 10000000
  hm : m.length ≤ 120
def STb (p : KTb) : SL := ⟨[(3, .ptr 256 0), (5, .vw 3264 0 0 0), (14, .lst [.int .i64 0] (i64s (recL p.m))), (16, .int .i64 p.i)], [(256, .cells p.c.cs), (3264, .buf 2 [.int .i64 0] (i64s p.q))]⟩
def LTb : LI := ⟨KTb, STb, fun p => p.m.length - p.i, fun _ _ => True⟩
def IT (l : List Act) : Nat → LI := fun n => if n = 0 then LT l else LTb
theorem ITa (l : List Act) : IT l 0 = LT l := rfl
theorem ITb (l : List Act) : IT l 1 = LTb := rfl
theorem LTS (l : List Act) : (LT l).S = ST l := rfl
theorem LTR (l : List Act) (p q) : (LT l).R p q = True := rfl
theorem LTbS : LTb.S = STb := rfl
theorem LTbR (p q) : LTb.R p q = True := rfl
set_option maxHeartbeats 4000000 in
theorem walk7 {Phi : Nat → Option Ctr} (P10 : Phi 10 = some CA) (P12 : Phi 12 = some CT) (P16 : Phi 16 = some CW) (P17 : Phi 17 = some CJ) (P25 : Phi 25 = some CRx) (P27 : Phi 27 = some CM) (l : List Act) (ha : ∀ a ∈ l, 0 ≤ a.t ∧ a.t ≤ 4294967295) : evC Phi (IT l) rc7 ⟨initS [.lst [.bool false, .int .i64 0, .int .u32 0] (acs l)], initM false []⟩ (kRet rv7 (.bool true) false []) := by
  simp (config := {maxSteps := 2000000}) only [rc7, rv7, P10, P12, P16, P17, P25, P27, ITa, ITb, LTS, LTR, LTbS, LTbR, ST, STb, gvB_true, beqO_some, killO_none, killO_some, consO_some, eqaB_t, eqaB_f, andO_some, mmO_some, iasB_true, iaA_some, ldV_some, ldB_cells, valB_true, stC_true, stB_cells, bxO_some, blO_some, blS_some, faK_some, faC_some, fsK_some, fsC_some, clO_some, condK_bool, kEndB_t, kEndB_f, kBlkB_t, kBlkB_f, rtO_some, rtM_cells, rvP_ptr, rvB_cells, leA_nil, leA_nilnil, leV1_agg, leV1_nil, leAs_nil, leAs_cons, leVs_nil, leVs_cons, resV_one, resV_two, evOps_nil, goOp_some, evG_no, evG_yes, gG_some, pathG_bool, pathG_gd, guardR_q, guardR_u, guardU_some, guardL_nil, guardL_cons, pathP_nil, pathP_cons, pathB_nil, pathB_cons, boolOf_bool, boolOf_gd, askL_nil, askL_cons, knowL_nil, knowL_cons, put_q, put_u, put_n, put_s, upd_at, updM_at, killS_at, ungdS_at, killM_at, killB_cells, kill3_gd', av_t, av_c, ar_t, ar_c, avs_nil, avs_cons, bind1_some', bind2_some', ev_mov, ev_not, ev_neg, ev_conv, ev_extract, ev_nilchk, un1_mov, un1_not, un1_neg, un1_conv, un1_nilchk, un1_extract, toR_some', ev_pick, pick3_some, pickV_bool, ev_arith, arith_add, arith_sub, arith_mul, arith_and, arith_or, arith_xor, arith_andNot, arith_quo, arith_rem, ev_cmp, cmp2_some, cmp_eql, cmp_neq, cmp_lss, cmp_leq, cmp_gtr, cmp_geq, cmp_eqlB, cmp_neqB, cmp_eqlS, cmp_neqS, ev_eqa, eqa2_some, eqaR_agg, eqC_nil, eqC_int, eqC_bool, eqC_str, ev_len, len_lst, len_nil, len_str, ev_minmax, mm_nil, mm_max, mm_min, ev_faddr, faddr_ptr, faddr_ep, ev_iaddrS, ev_iaddrA, iaddrA_ptr, ev_load, load_ptr, load_ep, valOf_agg, valOf_one, ev_store, store_ptr, setC_nil, setC_cons, cells_agg, cells_int, cells_bool, cells_str, cells_lst, cells_ep, cells_ptr, cells_ap, cells_vw, cells_bp, cells_fn, cells_nil, ev_alloc, ev_box, boxR_eq, ev_build, ev_bslice, fillA_nil, fillA_cons, fillS_nil, fillS_cons, ev_call, c0_int, c1_int, c2_int, c0_bool, c1_bool, c2_bool, c0_str, c1_str, c2_str, c0_lst, c1_lst, c2_lst, c0_fn, c1_fn, c2_fn, c0_nil, c1_nil, c2_nil, c1_agg, c2_agg, c2_tup, evC_skip, evC_region, evC_seq, evC_cond, evC_block, evC_loop, evC_exit, evC_ret, kEnd_at, hasG_nil, hasG_no, hasG_yes, kSeq_n, kSeq_e, kSeq_r, kBlk_n, kBlk_r, kBlk_e, kLoop_n, kLoop_e, kLoop_r, kRet_r, kRet_n, retL_nil, retL_cons, retV_t, retV_c, initM_f, initM_t, initS_at, lookL_nil, lookL_cons, lookM_nil, lookM_cons, SL_st, evC_draw, evD_nil, evD_cons, evDk_some, newOK_none, newOK_some, pairD_nil, pairD_cons, pairOK_eq, pairB_t, pairB_f, newMen_none, newMen_some, noMen_eq, noB_none, noB_some, chkR_eq, newI_none, newI_some, optN_none, optN_some, disjN_nil, disjN_cons, pslots_gd, pslots_int, pslots_bool, pslots_str, pslots_agg, pslots_tup, pslots_lst, pslots_ep, pslots_ptr, pslots_fn, pslots_nil, pslots_junk, knowD_nil, knowD_cons, preK_nil, preK_none, preK_some, preB_t, preB_f, needD_alloc, needD_box, killB_cs, needD_mov, needD_pick, needD_arith, needD_cmp, needD_eqa, needD_not, needD_neg, needD_conv, needD_b2s, needD_len, needD_minmax, needD_faddr, needD_fld, needD_iaddrS, needD_iaddrA, needD_load, needD_store, needD_build, needD_bslice, needD_extract, needD_nilchk, needD_call, needD_append, needD_slice, needD_mkslice, needD_copy, ev_append, appR_nil, appR_vw, appK_some, appV_buf, ysOf_nil, ysOf_lst, ysOf_vw, ysV_buf, killB_buf, pslots_vw, len_vw, lenV_buf, iaddrA_t, val_sel2, val_sel3, val_sel4, val_sel5, val_sel6, val_sel7, val_sel8, val_sel9, val_sel10, val_sel11, val_sel12, val_sel13, val_sel14, val_sel15, val_sel16, gv_int, ungd_int, kill3_int, kill1_int, kill0_int, frz3_int, frz1_int, frz0_int, ren3_int, ren1_int, ren0_int, leA_int, leV1_int, gv_bool, ungd_bool, kill3_bool, kill1_bool, kill0_bool, frz3_bool, frz1_bool, frz0_bool, ren3_bool, ren1_bool, ren0_bool, leA_bool, leV1_bool, gv_str, ungd_str, kill3_str, kill1_str, kill0_str, frz3_str, frz1_str, frz0_str, ren3_str, ren1_str, ren0_str, leA_str, leV1_str, gv_agg, ungd_agg, kill3_agg, kill1_agg, frz3_agg, frz1_agg, ren3_agg, ren1_agg, leA_agg, gv_tup, ungd_tup, kill3_tup, frz3_tup, ren3_tup, leA_tup, leV1_tup, gv_lst, ungd_lst, kill3_lst, kill1_lst, kill0_lst, frz3_lst, frz1_lst, frz0_lst, ren3_lst, ren1_lst, ren0_lst, leA_lst, leV1_lst, gv_ep, ungd_ep, kill3_ep, kill1_ep, kill0_ep, frz3_ep, frz1_ep, frz0_ep, ren3_ep, ren1_ep, ren0_ep, leA_ep, leV1_ep, gv_ptr, ungd_ptr, kill3_ptr, kill1_ptr, kill0_ptr, frz3_ptr, frz1_ptr, frz0_ptr, ren3_ptr, ren1_ptr, ren0_ptr, leA_ptr, leV1_ptr, gv_ap, ungd_ap, kill3_ap, kill1_ap, kill0_ap, frz3_ap, frz1_ap, frz0_ap, ren3_ap, ren1_ap, ren0_ap, leA_ap, leV1_ap, gv_vw, ungd_vw, kill3_vw, kill1_vw, kill0_vw, frz3_vw, frz1_vw, frz0_vw, ren3_vw, ren1_vw, ren0_vw, leA_vw, leV1_vw, gv_sv, ungd_sv, kill3_sv, kill1_sv, kill0_sv, frz3_sv, frz1_sv, frz0_sv, ren3_sv, ren1_sv, ren0_sv, leA_sv, leV1_sv, gv_bp, ungd_bp, kill3_bp, kill1_bp, kill0_bp, frz3_bp, frz1_bp, frz0_bp, ren3_bp, ren1_bp, ren0_bp, leA_bp, leV1_bp, gv_fr, ungd_fr, kill3_fr, kill1_fr, kill0_fr, frz3_fr, frz1_fr, frz0_fr, ren3_fr, ren1_fr, ren0_fr, leA_fr, leV1_fr, gv_fp, ungd_fp, kill3_fp, kill1_fp, kill0_fp, frz3_fp, frz1_fp, frz0_fp, ren3_fp, ren1_fp, ren0_fp, leA_fp, leV1_fp, gv_nb, ungd_nb, kill3_nb, kill1_nb, kill0_nb, frz3_nb, frz1_nb, frz0_nb, ren3_nb, ren1_nb, ren0_nb, leA_nb, leV1_nb, gv_fn, ungd_fn, kill3_fn, kill1_fn, kill0_fn, frz3_fn, frz1_fn, frz0_fn, ren3_fn, ren1_fn, ren0_fn, leA_fn, leV1_fn, gv_nil, ungd_nil, kill3_nil, kill1_nil, kill0_nil, frz3_nil, frz1_nil, frz0_nil, ren3_nil, ren1_nil, ren0_nil, gv_junk, ungd_junk, kill3_junk, kill1_junk, kill0_junk, frz3_junk, frz1_junk, frz0_junk, ren3_junk, ren1_junk, ren0_junk, leA_junk, leV1_junk, lk0_int, lk0_bool, lk0_str, lk0_agg, lk0_tup, lk0_lst, lk0_ep, lk0_ptr, lk0_ap, lk0_vw_lst, lk0_vw_vw, lk0_vw_int, lk0_vw_bool, lk0_vw_str, lk0_vw_agg, lk0_vw_tup, lk0_vw_ep, lk0_vw_ptr, lk0_vw_ap, lk0_vw_sv, lk0_vw_bp, lk0_vw_fr, lk0_vw_fp, lk0_vw_nb, lk0_vw_fn, lk0_vw_nil, lk0_vw_junk, lk0_sv_lst, lk0_sv_int, lk0_sv_bool, lk0_sv_str, lk0_sv_agg, lk0_sv_tup, lk0_sv_ep, lk0_sv_ptr, lk0_sv_ap, lk0_sv_vw, lk0_sv_sv, lk0_sv_bp, lk0_sv_fr, lk0_sv_fp, lk0_sv_nb, lk0_sv_fn, lk0_sv_nil, lk0_sv_junk, lk0_bp, lk0_fr, lk0_fp, lk0_nb, lk0_fn, lk0_nil, lk0_junk, lk1_int, lk1_bool, lk1_str, lk1_agg, lk1_tup, lk1_lst, lk1_ep, lk1_ptr, lk1_ap, lk1_vw_lst, lk1_vw_vw, lk1_vw_int, lk1_vw_bool, lk1_vw_str, lk1_vw_agg, lk1_vw_tup, lk1_vw_ep, lk1_vw_ptr, lk1_vw_ap, lk1_vw_sv, lk1_vw_bp, lk1_vw_fr, lk1_vw_fp, lk1_vw_nb, lk1_vw_fn, lk1_vw_nil, lk1_vw_junk, lk1_sv_lst, lk1_sv_int, lk1_sv_bool, lk1_sv_str, lk1_sv_agg, lk1_sv_tup, lk1_sv_ep, lk1_sv_ptr, lk1_sv_ap, lk1_sv_vw, lk1_sv_sv, lk1_sv_bp, lk1_sv_fr, lk1_sv_fp, lk1_sv_nb, lk1_sv_fn, lk1_sv_nil, lk1_sv_junk, lk1_bp, lk1_fr, lk1_fp, lk1_nb, lk1_fn, lk1_nil, lk1_junk, lkS_int, lkS_bool, lkS_str, lkS_agg, lkS_tup, lkS_lst, lkS_ep, lkS_ptr, lkS_ap, lkS_vw_lst, lkS_vw_vw, lkS_vw_int, lkS_vw_bool, lkS_vw_str, lkS_vw_agg, lkS_vw_tup, lkS_vw_ep, lkS_vw_ptr, lkS_vw_ap, lkS_vw_sv, lkS_vw_bp, lkS_vw_fr, lkS_vw_fp, lkS_vw_nb, lkS_vw_fn, lkS_vw_nil, lkS_vw_junk, lkS_sv_lst, lkS_sv_int, lkS_sv_bool, lkS_sv_str, lkS_sv_agg, lkS_sv_tup, lkS_sv_ep, lkS_sv_ptr, lkS_sv_ap, lkS_sv_vw, lkS_sv_sv, lkS_sv_bp, lkS_sv_fr, lkS_sv_fp, lkS_sv_nb, lkS_sv_fn, lkS_sv_nil, lkS_sv_junk, lkS_bp, lkS_fr, lkS_fp, lkS_nb, lkS_fn, lkS_nil_vw, lkS_nil_int, lkS_nil_bool, lkS_nil_str, lkS_nil_agg, lkS_nil_tup, lkS_nil_lst, lkS_nil_ep, lkS_nil_ptr, lkS_nil_ap, lkS_nil_sv, lkS_nil_bp, lkS_nil_fr, lkS_nil_fp, lkS_nil_nb, lkS_nil_fn, lkS_nil_nil, lkS_nil_junk, lkS_junk, lkC0_int, lkC0_bool, lkC0_str, lkC0_agg, lkC0_tup, lkC0_lst, lkC0_ep, lkC0_ptr, lkC0_ap, lkC0_vw_lst, lkC0_vw_vw, lkC0_vw_int, lkC0_vw_bool, lkC0_vw_str, lkC0_vw_agg, lkC0_vw_tup, lkC0_vw_ep, lkC0_vw_ptr, lkC0_vw_ap, lkC0_vw_sv, lkC0_vw_bp, lkC0_vw_fr, lkC0_vw_fp, lkC0_vw_nb, lkC0_vw_fn, lkC0_vw_nil, lkC0_vw_junk, lkC0_sv_lst, lkC0_sv_int, lkC0_sv_bool, lkC0_sv_str, lkC0_sv_agg, lkC0_sv_tup, lkC0_sv_ep, lkC0_sv_ptr, lkC0_sv_ap, lkC0_sv_vw, lkC0_sv_sv, lkC0_sv_bp, lkC0_sv_fr, lkC0_sv_fp, lkC0_sv_nb, lkC0_sv_fn, lkC0_sv_nil, lkC0_sv_junk, lkC0_bp, lkC0_fr, lkC0_fp, lkC0_nb, lkC0_fn, lkC0_nil_vw, lkC0_nil_int, lkC0_nil_bool, lkC0_nil_str, lkC0_nil_agg, lkC0_nil_tup, lkC0_nil_lst, lkC0_nil_ep, lkC0_nil_ptr, lkC0_nil_ap, lkC0_nil_sv, lkC0_nil_bp, lkC0_nil_fr, lkC0_nil_fp, lkC0_nil_nb, lkC0_nil_fn, lkC0_nil_nil, lkC0_nil_junk, lkC0_junk, unfr0_int, unfr0_bool, unfr0_str, unfr0_lst, unfr0_fr, unfr0_fp, unfr0_fn, unfr0_nil, unfr1_int, unfr1_bool, unfr1_str, unfr1_agg, unfr1_lst, unfr1_fr, unfr1_fp, unfr1_fn, unfr1_nil, unfr2_int, unfr2_bool, unfr2_str, unfr2_agg, unfr2_tup, unfr2_lst, unfr2_fr, unfr2_fp, unfr2_fn, unfr2_nil, frs0_int, frs0_bool, frs0_str, frs0_lst, frs0_fr, frs0_fp, frs0_fn, frs0_nil, frs1_int, frs1_bool, frs1_str, frs1_agg, frs1_lst, frs1_fr, frs1_fp, frs1_fn, frs1_nil, frs2_int, frs2_bool, frs2_str, frs2_agg, frs2_tup, frs2_lst, frs2_fr, frs2_fp, frs2_fn, frs2_nil, wfX0_int, wfX0_bool, wfX0_str, wfX0_lst, wfX0_fr, wfX0_fp, wfX0_fn, wfX0_nil, wfX1_int, wfX1_bool, wfX1_str, wfX1_agg, wfX1_lst, wfX1_fr, wfX1_fp, wfX1_fn, wfX1_nil, wfX2_int, wfX2_bool, wfX2_str, wfX2_agg, wfX2_tup, wfX2_lst, wfX2_fr, wfX2_fp, wfX2_fn, wfX2_nil, flatX0_int, flatX0_bool, flatX0_str, flatX0_lst, flatX0_fr, flatX0_fp, flatX0_fn, flatX0_nil, flatX1_int, flatX1_bool, flatX1_str, flatX1_agg, flatX1_lst, flatX1_fr, flatX1_fp, flatX1_fn, flatX1_nil, flatX2_int, flatX2_bool, flatX2_str, flatX2_agg, flatX2_tup, flatX2_lst, flatX2_fr, flatX2_fp, flatX2_fn, flatX2_nil, flat0_int, flat0_bool, flat0_str, flat0_lst, flat0_fn, flat0_nil, flat1_int, flat1_bool, flat1_str, flat1_agg, flat1_lst, flat1_fn, flat1_nil, flat2_int, flat2_bool, flat2_str, flat2_agg, flat2_tup, flat2_lst, flat2_fn, flat2_nil, flatC_int, flatC_bool, flatC_str, flatC_nil, flatC_lst, lendA_int, lendA_bool, lendA_str, lendA_lst, lendA_vw, lendA_sv, lendA_fn, lendA_nil, lend1_int, lend1_bool, lend1_str, lend1_agg, lend1_lst, lend1_vw, lend1_sv, lend1_fn, lend1_nil, vws0_int, vws0_bool, vws0_str, vws0_agg, vws0_tup, vws0_lst, vws0_ep, vws0_ptr, vws0_ap, vws0_vw, vws0_sv, vws0_bp, vws0_fr, vws0_fp, vws0_nb, vws0_fn, vws0_nil, vws0_junk, vws1_int, vws1_bool, vws1_str, vws1_agg, vws1_tup, vws1_lst, vws1_ep, vws1_ptr, vws1_ap, vws1_vw, vws1_sv, vws1_bp, vws1_fr, vws1_fp, vws1_nb, vws1_fn, vws1_nil, vws1_junk, vwsT_ep, vwsT_ptr, vwsT_ap, vwsT_bp, leX0_int, leX1_int, pq0_int, pq1_int, leX0_bool, leX1_bool, pq0_bool, pq1_bool, leX0_str, leX1_str, pq0_str, pq1_str, leX0_lst, leX1_lst, pq0_lst, pq1_lst, leX0_fn, leX1_fn, pq0_fn, pq1_fn, leX0_nil, leX1_nil, pq0_nil, pq1_nil, leX0_fr_vw, leX0_fr_nil, leX0_fp, pq0_fr_vw, pq0_fr_nil, pq0_fp, leX1_fr_vw, leX1_fr_nil, leX1_fp, pq1_fr_vw, pq1_fr_nil, pq1_fp, leX1_agg, pq1_agg, evXV_some, evX_f, evX_t, evXA_some, evXC_cells, evXB_some, evXN_some, evXM_some, evXP_eq, evXS_eq, setB_eq, backX_nil, backX_t, backX_f, putX_eq, putY_eq, addF_nil, addF_cons, frsL_nil, frsL_cons, frsV_nil, frsV_cons, flatL_nil, flatL_buf, flatL_cells, nodupN_nil, nodupN_cons, idsOK_eq, lendC_nil, lendC_cons, lends_nil, lends_cons, consL_some', aggL_some, lendB_buf, lendP_buf, lendQ_t, call_pure, call_state, callN_some, callC_cells, callB_some, callD_t, callP_some, clQ_t, callS_some, clU_t, backOK_nil, backOK_cons, frzL_nil, frzL_cons, frzQ_buf, frzQ_none, frzQ_cells, frzP_t, frzSl_at, frzM_at, frzO_none, frzO_some, frzB_cells, frzB_buf, frz3_gd', renSl_at, renM_at, renO_none, renO_cells, renO_buf, applyL_nil, applyL_frz, applyL_ren, applyL_nls, applyL_nlc, renQ_buf, renQ_none, renP_t, nlV_nil, nlP_t, nlV_vw, nlC1_cells, nlC2_nil, nlR_t, renK_t, renK_f, nlK_buf, nlKc_buf, lkAs_nil, lkAs_cons, lkVs_nil, lkVs_cons, lkC_nil, lkC_cons, lkB_cells, lkB_buf, lkL_nil, lkL_cons, lkM_nil, lkM_cons, SL_ge, SL_ge0, leL_nil, leL_cons, leM_nil, leM_cons, leB_cells, leB_buf, lkR_one, lkR_two, lkT_f, lkT_t, retOK_eq, retOK_f, retOK_t, kRetX_r, kRetX_n, retXG_eq, retX_eq, retX0_eq, resXO_some, wfRes_one, wfRes_two, resX_one, resX_two, leXV_nil, leXV_cons, leXs_nil, leXs_cons, pqR_one, pqR_two, pqV_nil, pqV_cons, pqL_nil, pqL_cons, pqK_nil, pqK_some, pqK_none, leFB_buf, leFC_cells, resXT_f, resXT_t, condK_nb, vwsL_nil, vwsL_cons, vwsG_nil, vwsG_cons, goF_eq, eo_store, eo_bslice, eo_bsliceO, eo_call, evCl_mk, evCl_ext, eo_call_g, eo_mkstr, mkS1_vw, mkS2_buf, eo_mov, eo_pick, eo_arith, eo_cmp, eo_eqa, eo_not, eo_neg, eo_conv, eo_b2s, eo_len, eo_minmax, eo_faddr, eo_fld, eo_iaddrS, eo_iaddrA, eo_load, eo_alloc, eo_box, eo_build, eo_extract, eo_nilchk, eo_append, eo_slice, eo_mkslice, eo_s2b, eo_idxS, eo_idxV, eo_callv, eo_eqnil, eo_shl, eo_shr, ev_bsliceO, ev_eqnil, ev_shl, ev_shr, ev_b2s, ev_s2b, ev_idxS, ev_idxV, ev_slice, ev_mkslice, ev_fld, ev_callv, blO2_some, iaV_some, idxVR_c, ivR_some, clV_some, clW_t, nil_nil, nil_lst, nil_vw, nilV_buf, shl_int, shr_int, shQ_t, b2s_nil, b2s_lst, b2s_vw, b2sB_buf, b2s_sv, b2sP_buf, s2b_str, idxS_str, boundA_none, boundA_some, optS_some, sliceO_some, slice_lst, slL_some, slice_nil, slN_some, slice_vw, slB_buf, slV_some, slice_sv, slX_t, slP_buf, slU_some, loOf_none, loOf_int, hiOf_none, hiOf_int, mk_int, fldR_agg, iaddrS_lst, iaddrS_vw, iasV_buf, iasW_t, iaddrS_sv, iasP_buf, iasX_t, faddr_bp, load_bp, ldP_buf, ldQ_t, store_bp, stP_buf, stQ_t, ysOf_sv, ysP_buf, ysQ_t, cells_fr, cells_sv, needD_bsliceO, needD_eqnil, needD_mkstr, needD_shl, needD_shr, needD_s2b, needD_idxS, needD_idxV, needD_callv, pslots_sv, pslots_bp, pslots_nb, mergeU_eq1, mgC_cells, mgU_some, mergeL_nil, mergeL_cons, mergeA_int, mergeA_bool, mergeA_lst, bits_i64, bits_u8, bits_u16, bits_u32, bits_u64, ungd_gd, gv_gd, reduceIte, Nat.reduceEqDiff, Nat.reduceMul, Nat.reduceAdd, Nat.reduceBEq, Option.getD_some, Option.getD_none, List.length_cons, List.length_nil, List.getElem?_cons_succ, List.getElem?_cons_zero, List.drop_zero, List.drop_succ_cons, List.take_succ_cons, List.take_zero, List.map_cons, List.map_nil, List.all_cons, List.all_nil, List.contains_cons, List.contains_nil, List.nil_append, List.cons_append, List.set_cons_zero, List.set_cons_succ, List.replicate_succ, List.replicate_zero, List.getD_cons_zero, List.getD_cons_succ, beq_self_eq_true, Bool.and_self, Bool.or_false, Bool.true_or, Bool.or_true, Bool.and_true, Bool.true_and, Bool.cond_true_left, Bool.cond_false_right, and_true, true_and, true_imp_iff, and_self, imp_self, implies_true, Nat.mul_one, Nat.reduceLeDiff, decide_true, decide_false, if_true, if_false, Nat.zero_mul, Nat.add_zero, Nat.zero_add, Int.toNat_natCast, Int.reduceToNat, Int.reduceLE, Int.reduceLT, Nat.reduceLT, i64s_len, getE_i64, Bool.not_true, Bool.cond_self, Bool.not_false, Bool.false_eq_true, Bool.true_eq_false, false_imp_iff, List.length_map, getE_u8, u8s_len, CV, CS, CA, CT, CC, CR, CJ, CM, CD, CW, Ck.av, Ck.cs, Ck.eta, E.av, E.cs, E.eta, cks_len, getE_ck, evs_len, getE_ev, W, decI_i64s, CDl, CRl, CDx, CDb, CDy, CDe, CIs, CMk, i64s_rep, i64s_set, List.length_replicate, List.length_set, decE_evs, CRx, Act.cs, acs_len, getE_ac]
  intro _ hl2
  have hl : l.length ≤ 60 := by
    have := of_decide_eq_false hl2; omega
  refine ⟨⟨0, ⟨0, 0, false⟩, [], [], by omega, hl, ha, by simp, by simp, fun _ => rfl, by simp, ⟨rfl, by intro i hi; simp at hi, (by intro x hx; cases hx), by intro i hi; simp at hi, by intro i hi; simp at hi, (by intro x hx; cases hx)⟩, by simp⟩, ⟨rfl, ⟨rfl, rfl, rfl⟩, rfl, rfl⟩, ?_⟩
  rintro ⟨i, c, m, q, hi, hl, ha, ht, hb, hs, hx, hT, hm⟩ _
  dsimp only
  have hv : valid c = true := by
    rw [valid_iff]; exact ⟨ht.1, by omega, hs, by omega, by omega, hx.1, by omega⟩
  have hse := secs_of hv
  have hq := hT.len
  refine ⟨fun hc => ?_, fun hc => ?_⟩
  · have hc := of_decide_eq_true hc
    have hac := ha _ (show l.getD i Act0 ∈ l by rw [List.getD_eq_getElem?_getD, List.getElem?_eq_getElem (show i < l.length by omega)]; exact List.getElem_mem _)
    have hn1 : IntKind.i64.wrap ((i : Int) + 1) = ((i + 1 : Nat) : Int) := by rw [wr_in _ (by omega) (by omega)]; omega
    rw [hn1]
    refine ⟨⟨by omega, by omega⟩, fun _ => ⟨fun _ => ?_, fun _ => ?_⟩⟩
    · have hto : (l.getD i Act0).t.tmod 2000000000 = (l.getD i Act0).t % 2000000000 := Int.tmod_eq_emod_of_nonneg hac.1
      have h0 : 0 ≤ (l.getD i Act0).t % 2000000000 := Int.emod_nonneg _ (by decide)
      have h1 : (l.getD i Act0).t % 2000000000 < 2000000000 := Int.emod_lt_of_pos _ (by decide)
      rw [hto]
      generalize (l.getD i Act0).t % 2000000000 = to at h0 h1 ⊢
      have ok : adjOK c to = true := by
        have e : decide (4294967294 < to) = false := by rw [decide_eq_false_iff_not]; omega
        simp [adjOK, hv, e]
      have e1 : c.t.tdiv 10 = c.t / 10 := Int.tdiv_eq_ediv_of_nonneg ht.1
      have eb : W (W to - W (c.t.tdiv 10)) = to - c.t / 10 := by
        simp only [W, e1]
        rw [wr_in to (by omega) (by omega), wr_in (c.t / 10) (by omega) (by omega), wr_in _ (by omega) (by omega)]
      have eC : adjC c to = ⟨c.t, to - c.t / 10, true⟩ := by simp only [adjC, ok, if_true, eb]
      have eL : adjL c to = [chg (c.t / 10 + c.b) 0, chg to 128] := by
        have : IntKind.u32.wrap (c.t / 10 + c.b) = c.t / 10 + c.b := by rw [IntKind.wrap_u32]; omega
        simp only [adjL, ok, if_true, hse, this]
      have eE : adjE c to = 0 := by simp only [adjE, hv, ok, if_true]
      rw [eC, eL, eE]
      refine ⟨⟨by omega, by omega⟩, by decide, ⟨by omega, by omega⟩, fun _ => ⟨fun h => by simp at h, fun _ => ?_⟩⟩
      simp only [List.length_cons, List.length_nil]
      have T2 := TI_two (c' := ⟨c.t, to - c.t / 10, true⟩) (x := chg (c.t / 10 + c.b) 0) (y := chg to 128) hT ht.1 rfl rfl rfl rfl (by show to = c.t / 10 + (to - c.t / 10); omega) (by show 0 ≤ c.t / 10 + c.b ∧ c.t / 10 + c.b ≤ 4294967295; omega) (by show 0 ≤ to ∧ to ≤ 4294967295; omega)
      refine ⟨by omega, by omega, by omega, by omega, ⟨i + 1, ⟨c.t, to - c.t / 10, true⟩, m ++ [chg (c.t / 10 + c.b) 0] ++ [chg to 128], q ++ [c.t] ++ [c.t], by omega, hl, ha, ⟨ht.1, by dsimp only; omega⟩, by dsimp only; omega, (fun h => by cases h), by dsimp only; omega, T2, by simp only [List.length_append, List.length_singleton]; omega⟩, ⟨rfl, ⟨rfl, rfl, rfl⟩, by simp [evs], by simp [i64s]⟩, by simp only [LT]; omega⟩
    · have hn := modI_bd (n := (l.getD i Act0).n) (m := 100000) (by omega) (by omega)
      generalize modI (l.getD i Act0).n 100000 = n at hn ⊢
      have ew : W (c.t + n) = c.t + n := wr_in _ (by omega) (by omega)
      have hv2 : valid ⟨c.t + n, c.b, c.s⟩ = true := by
        rw [valid_iff]; exact ⟨by dsimp only; omega, by dsimp only; omega, hs, by dsimp only; omega, by dsimp only; omega, by dsimp only; omega, by dsimp only; omega⟩
      have ok : advOK c n = true := by
        have e1 : decide (n < 0) = false := by rw [decide_eq_false_iff_not]; omega
        have e2 : decide (W (17179869184 - c.t) < n) = false := by
          rw [decide_eq_false_iff_not, show W (17179869184 - c.t) = 17179869184 - c.t from wr_in _ (by omega) (by omega)]; omega
        simp [advOK, hv, e1, e2, ew, hv2]
      have eA : adv c n = ⟨c.t + n, c.b, c.s⟩ := by simp only [adv, ok, if_true, ew]
      have eE : advE c n = 0 := by simp only [advE, hv, ok, if_true]
      have es := secs_of hv2
      have eS : stamp ⟨c.t + n, c.b, c.s⟩ = (c.t + n) / 10 + c.b := by
        simp only [stamp, hv2, if_true, es]; rw [IntKind.wrap_u32]; omega
      have eSE : stampE ⟨c.t + n, c.b, c.s⟩ = 0 := by simp only [stampE, hv2, if_true]
      rw [eE, eA, eS, eSE]
      have T1 := TI_one (c' := ⟨c.t + n, c.b, c.s⟩) (x := ⟨0, (c.t + n) / 10 + c.b, 0, 1, 0, 1, false, 0, 0, 0⟩) hT rfl ⟨ht.1, by dsimp only; omega⟩ rfl rfl rfl (by dsimp only; omega)
      refine ⟨⟨by omega, by omega⟩, by decide, fun _ => ⟨fun h => by simp at h, fun _ => ⟨fun h => by simp at h, fun _ => ?_⟩⟩⟩
      exact ⟨by omega, by omega, by omega, by omega, ⟨i + 1, ⟨c.t + n, c.b, c.s⟩, m ++ [⟨0, (c.t + n) / 10 + c.b, 0, 1, 0, 1, false, 0, 0, 0⟩], q ++ [c.t + n], by omega, hl, ha, ⟨by dsimp only; omega, by dsimp only; omega⟩, hb, hs, by dsimp only; omega, T1, by simp only [List.length_append, List.length_singleton]; omega⟩, ⟨rfl, ⟨rfl, rfl, rfl⟩, by simp [evs, E.cs], by simp [i64s]⟩, by simp only [LT]; omega⟩
  · have hc := of_decide_eq_false hc
    refine ⟨by omega, fun _ => ⟨fun h => ?_, fun _ => ⟨⟨0, c, m, q, by omega, hT, hb, by omega, by omega⟩, ⟨⟨rfl, rfl⟩, ⟨rfl, rfl, rfl⟩, rfl⟩, ?_⟩⟩⟩
    · exfalso
      rw [recL_len hT] at h
      simp [recE, TI_ok hT] at h
    rintro ⟨i, c, m, q, hi, hT, hb, ht, hm⟩ _ hc
    have hc := of_decide_eq_true hc
    have hrl := recL_len hT
    have hq := hT.len
    dsimp only at hc ⊢
    rw [hrl] at hc ⊢
    have hg := TI_get hT (by omega) ht (i := i) (by omega)
    have ht1 := hT.top _ (qD_mem (show i < q.length by omega))
    have hw : IntKind.i64.wrap (IntKind.i64.wrap ((q.getD i 0).tdiv 10) + c.b) = q.getD i 0 / 10 + c.b := by
      rw [Int.tdiv_eq_ediv_of_nonneg ht1.1, wr_in (q.getD i 0 / 10) (by omega) (by omega), wr_in _ (by omega) (by omega)]
    have hn1 : IntKind.i64.wrap ((i : Int) + 1) = ((i + 1 : Nat) : Int) := by rw [wr_in _ (by omega) (by omega)]; omega
    have hi1 : IntKind.i64.wrap ((i : Int) - 1) = (i : Int) - 1 := wr_in _ (by omega) (by omega)
    rw [hw, hg, hi1, hn1]
    refine ⟨⟨by omega, by omega⟩, ⟨by omega, by omega⟩, by omega, by decide, fun h => ⟨by omega, by omega⟩, fun h => ?_, fun _ _ => ⟨fun h => ?_, fun _ => ⟨⟨i + 1, c, m, q, by omega, hT, hb, ht, hm⟩, ⟨⟨rfl, rfl⟩, ⟨rfl, rfl, rfl⟩, rfl⟩, by simp only [LTb]; omega⟩⟩⟩
    · have := of_decide_eq_true (Option.some.inj h.2); omega
    · exfalso
      simp only [decide_true, Bool.not_true, Bool.false_or, Bool.and_eq_true, decide_eq_true_eq] at h
      obtain ⟨k, rfl⟩ : ∃ k, i = k + 1 := ⟨i - 1, by omega⟩
      have hg2 := TI_get hT (by omega) ht (i := k) (by omega)
      have hmo := hT.mono k (by omega)
      rw [show (((k + 1 : Nat) : Int) - 1).toNat = k by omega, hg2] at h
      omega
end Go.Proofs.Ytmcaedjlglpdeaa

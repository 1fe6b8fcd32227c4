/- A part of the proof: symbolic evaluation of the program's functions, proved sound against the model; no condition. -/
import Derived.Test.YtknapnleecepaaaEvJA
namespace Go.Proofs.Ytknapnleecepaaa
open Go Go.RowKit Go.Ev
set_option linter.unusedSimpArgs false
set_option linter.unusedVariables false
set_option maxRecDepth 20000
/-- A packet. -/
structure Ck where
  sq : Int
  ak : Int
  ct : Int
  bk : Bool
  d : List Int
  deriving DecidableEq
def Ck.av (c : Ck) : AV := .agg [.int .i64 c.sq, .int .i64 c.ak, .int .i64 c.ct, .bool c.bk, .lst [.int .u8 0] (u8s c.d)]
theorem Ck.eta (c : Ck) : Ck.mk c.sq c.ak c.ct c.bk c.d = c := rfl
/-- A line. -/
structure Ln where
  w : List Int
  wi : Bool
  s : List Int
  sb : Bool
  bu : Bool
  sq : Int
  rc : Int
  ro : Int
  ak : Int
  ct : Int
  deriving DecidableEq
def Ln.av (l : Ln) : AV := .agg [.lst [.int .u8 0] (u8s l.w), .bool l.wi, .lst [.int .u8 0] (u8s l.s), .bool l.sb, .bool l.bu, .int .i64 l.sq, .int .i64 l.rc, .int .i64 l.ro, .int .i64 l.ak, .int .i64 l.ct]
theorem Ln.eta (l : Ln) : Ln.mk l.w l.wi l.s l.sb l.bu l.sq l.rc l.ro l.ak l.ct = l := rfl
abbrev Bd (l : Ln) : Prop := l.w.length ≤ 100000 ∧ l.s.length ≤ 100000
def nx (n : Int) : Int := n.tmod 15 + 1
theorem nx_wr (n : Int) : IntKind.i64.wrap (n.tmod 15 + 1) = nx n := by
  have h1 : -15 < n.tmod 15 := by
    have := Int.tmod_lt_of_pos (-n) (show 0 < (15 : Int) by decide)
    rw [Int.neg_tmod] at this; omega
  have h2 := Int.tmod_lt_of_pos n (show 0 < (15 : Int) by decide)
  rw [wr_in _ (by omega) (by omega), nx]
def ckP (c : Ck) : Prop := (0 ≤ c.sq ∧ c.sq ≤ 15) ∧ (0 ≤ c.ak ∧ c.ak ≤ 15) ∧ (0 ≤ c.ct ∧ c.ct ≤ 64) ∧ c.d.length ≤ 64 ∧ (c.ak = 0 → c.ct = 0) ∧ (c.sq = 0 → c.d.length = 0 ∧ c.bk = false)
instance (c : Ck) : Decidable (ckP c) := by unfold ckP; infer_instance
def lnP (l : Ln) : Prop := (l.w.length + l.s.length ≤ 1024 ∧ l.s.length ≤ 64) ∧ (0 ≤ l.sq ∧ l.sq ≤ 15) ∧ (0 ≤ l.rc ∧ l.rc ≤ 15) ∧ (0 ≤ l.ro ∧ l.ro ≤ 1024) ∧ (l.ak = 0 ∨ l.ak = l.rc) ∧ (0 ≤ l.ct ∧ l.ct ≤ 64) ∧ (l.bu = true → l.sq ≠ 0) ∧ (l.bu = false → l.s.length = 0 ∧ l.sb = false)
instance (l : Ln) : Decidable (lnP l) := by unfold lnP; infer_instance
/-- The bytes of a packet. -/
def enB (c : Ck) : List Int := if ckP c then [c.sq, c.ak, c.ct, if c.bk then 1 else 0] ++ c.d else []
def enE (c : Ck) : Int := if ckP c then 0 else 1
def rwC (b : List Int) : Ck := ⟨b.getD 0 0, b.getD 1 0, b.getD 2 0, decide (b.getD 3 0 = 1), b.drop 4⟩
def c0 : Ck := ⟨0, 0, 0, false, []⟩
def l0 : Ln := ⟨[], false, [], false, false, 0, 0, 0, 0, 0⟩
def deE (b : List Int) : Int := if b.length < 4 then 4 else if 68 < b.length then 3 else if 1 < b.getD 3 0 ∨ ¬ ckP (rwC b) then 6 else 0
def deC (b : List Int) : Ck := if deE b = 0 then rwC b else c0
/-- The steps of a line. -/
def wrN (l : Ln) (b : List Int) : Nat := if lnP l then min b.length (1024 - l.w.length - l.s.length) else 0
def wrL (l : Ln) (b : List Int) : Ln := if lnP l then { l with w := l.w ++ b.take (wrN l b) } else l
def brL (l : Ln) : Ln := if lnP l then { l with wi := true } else l
def grL (l : Ln) (n : Int) : Ln := if lnP l ∧ 0 ≤ n then { l with ro := l.ro + min n (1024 - l.ro) } else l
def poM (l : Ln) : Ln := if l.bu = false ∧ (l.w.length ≠ 0 ∨ l.wi = true) then { l with s := l.w.take 64, w := l.w.drop 64, sb := l.wi, wi := false, bu := true, sq := nx l.sq } else l
def poL (l : Ln) : Ln := if lnP l then { poM l with ak := 0 } else l
def poK (l : Ln) : Bool := decide (lnP l) && ((poM l).bu || decide (l.ak ≠ 0))
def poC (m : Ln) : Ck := ⟨if m.bu then m.sq else 0, m.ak, if m.ak ≠ 0 then m.ct else 0, if m.bu then m.sb else false, if m.bu then m.s else []⟩
def poB (l : Ln) : List Int := if poK l then enB (poC (poM l)) else []
def reA (l : Ln) (c : Ck) : Ln := if l.bu = true ∧ c.ak = l.sq then { l with w := l.s.drop c.ct.toNat ++ l.w, s := [], sb := false, bu := false } else l
def reN (l : Ln) (c : Ck) : Nat := min c.d.length l.ro.toNat
def reL (l : Ln) (c : Ck) : Ln := if c.sq = 0 then l else if c.sq = l.rc then { l with ak := c.sq } else if c.sq = nx l.rc then { l with ro := l.ro - reN l c, rc := c.sq, ak := c.sq, ct := reN l c } else l
def reF (l : Ln) (c : Ck) : Bool := decide (c.sq ≠ 0) && (decide (c.sq ≠ l.rc) && decide (c.sq = nx l.rc))
def reE (l : Ln) (b : List Int) : Int := if lnP l then deE b else 1
def reR (l : Ln) (b : List Int) : Ln := if reE l b = 0 then reL (reA l (rwC b)) (rwC b) else l0
def reD (l : Ln) (b : List Int) : List Int := if reE l b = 0 ∧ reF l (rwC b) = true then (rwC b).d.take (reN l (rwC b)) else []
def reB (l : Ln) (b : List Int) : Bool := decide (reE l b = 0) && (reF l (rwC b) && (rwC b).bk)
/-! Contracts -/
def DCl : Ctr := .own 5 [.int .u8 0] fun xs => match xs with
  | [.lst zz es] => some ((zz = [.int .u8 0] ∧ es = u8s (decU es)) ∧ es.length ≤ 100000, u8s (decU es))
  | _ => none
def DCf : Ctr := .mk false fun _ xs => match xs with
  | [.lst zz es] => some ((zz = [.int .u8 0] ∧ es = u8s (decU es)) ∧ es.length ≤ 100000, .lst [.int .u8 0] (u8s (decU es)), [])
  | _ => none
def DCn : Ctr := .ext false Unit fun _ xs => match xs with
  | [.agg [.lst z1 e1, .bool b1, .lst z2 e2, .bool b2, .bool b3, .int .i64 n1, .int .i64 n2, .int .i64 n3, .int .i64 n4, .int .i64 n5]] => some (((z1 = [.int .u8 0] ∧ e1 = u8s (decU e1)) ∧ (z2 = [.int .u8 0] ∧ e2 = u8s (decU e2))) ∧ e1.length ≤ 100000 ∧ e2.length ≤ 100000,
      fun _ => (True, .agg [.fr 0 5 [.int .u8 0] (u8s (decU e1)), .bool b1, .fr 1 5 [.int .u8 0] (u8s (decU e2)), .bool b2, .bool b3, .int .i64 n1, .int .i64 n2, .int .i64 n3, .int .i64 n4, .int .i64 n5], []))
  | _ => none
def DNx : Ctr := .mk false fun _ xs => match xs with
  | [.int .i64 n] => some (True, .int .i64 (nx n), [])
  | _ => none
def DRt : Ctr := .mk false fun _ xs => match xs with
  | [.int .i64 n] => some (True, .bool (decide (0 ≤ n) && decide (n ≤ 15)), [])
  | _ => none
def DIn : Ctr := .mk false fun _ xs => match xs with
  | [.int .i64 n, .int .i64 a, .int .i64 b] => some (True, .bool (decide (a ≤ n) && decide (n ≤ b)), [])
  | _ => none
def DVa : Ctr := .mk false fun _ xs => match xs with
  | [.agg [.lst z1 e1, .bool b1, .lst z2 e2, .bool b2, .bool b3, .int .i64 n1, .int .i64 n2, .int .i64 n3, .int .i64 n4, .int .i64 n5]] => some (((z1 = [.int .u8 0] ∧ e1 = u8s (decU e1)) ∧ (z2 = [.int .u8 0] ∧ e2 = u8s (decU e2))) ∧ e1.length ≤ 100000 ∧ e2.length ≤ 100000,
      .bool (decide (lnP ⟨decU e1, b1, decU e2, b2, b3, n1, n2, n3, n4, n5⟩)), [])
  | _ => none
def DVc : Ctr := .mk false fun _ xs => match xs with
  | [.agg [.int .i64 a, .int .i64 b, .int .i64 c, .bool k, .lst zz es]] => some ((zz = [.int .u8 0] ∧ es = u8s (decU es)) ∧ es.length ≤ 100000, .bool (decide (ckP ⟨a, b, c, k, decU es⟩)), [])
  | _ => none
def DEn : Ctr := .mk false fun _ xs => match xs with
  | [.agg [.int .i64 a, .int .i64 b, .int .i64 c, .bool k, .lst zz es]] => some ((zz = [.int .u8 0] ∧ es = u8s (decU es)) ∧ es.length ≤ 100000, .tup [.lst [.int .u8 0] (u8s (enB ⟨a, b, c, k, decU es⟩)), .int .i64 (enE ⟨a, b, c, k, decU es⟩)], [])
  | [.agg [.int .i64 a, .int .i64 b, .int .i64 c, .bool k, .nil]] => some (True, .tup [.lst [.int .u8 0] (u8s (enB ⟨a, b, c, k, []⟩)), .int .i64 (enE ⟨a, b, c, k, []⟩)], [])
  | _ => none
def DDe : Ctr := .mk false fun _ xs => match xs with
  | [.lst zz es] => some ((zz = [.int .u8 0] ∧ es = u8s (decU es)) ∧ es.length ≤ 100000 ∧ Okb (decU es), .tup [(deC (decU es)).av, .int .i64 (deE (decU es))], [])
  | _ => none
def DSc : Ctr := .mk false fun _ xs => match xs with
  | [.agg [.int .i64 a, .int .i64 b, .int .i64 c, .bool k, .lst zz es], .agg [.int .i64 a2, .int .i64 b2, .int .i64 c2, .bool k2, .lst z2 e2]] => some ((zz = [.int .u8 0] ∧ es = u8s (decU es)) ∧ (z2 = [.int .u8 0] ∧ e2 = u8s (decU e2)), .bool (decide (a = a2) && (decide (b = b2) && (decide (c = c2) && (decide (k = k2) && decide (b8 (decU es) = b8 (decU e2)))))), [])
  | _ => none
def DNw : Ctr := .mk false fun _ xs => match xs with
  | [] => some (True, { l0 with ro := 1024 }.av, [])
  | _ => none
def DWr : Ctr := .mk false fun _ xs => match xs with
  | [.agg [.lst z1 e1, .bool b1, .lst z2 e2, .bool b2, .bool b3, .int .i64 n1, .int .i64 n2, .int .i64 n3, .int .i64 n4, .int .i64 n5], .lst z3 e3] => some (((z1 = [.int .u8 0] ∧ e1 = u8s (decU e1)) ∧ (z2 = [.int .u8 0] ∧ e2 = u8s (decU e2)) ∧ (z3 = [.int .u8 0] ∧ e3 = u8s (decU e3))) ∧ (e1.length ≤ 100000 ∧ e2.length ≤ 100000) ∧ e3.length ≤ 100000,
      .tup [(wrL ⟨decU e1, b1, decU e2, b2, b3, n1, n2, n3, n4, n5⟩ (decU e3)).av, .int .i64 (wrN ⟨decU e1, b1, decU e2, b2, b3, n1, n2, n3, n4, n5⟩ (decU e3))], [])
  | _ => none
def DBr : Ctr := .mk false fun _ xs => match xs with
  | [.agg [.lst z1 e1, .bool b1, .lst z2 e2, .bool b2, .bool b3, .int .i64 n1, .int .i64 n2, .int .i64 n3, .int .i64 n4, .int .i64 n5]] => some (((z1 = [.int .u8 0] ∧ e1 = u8s (decU e1)) ∧ (z2 = [.int .u8 0] ∧ e2 = u8s (decU e2))) ∧ e1.length ≤ 100000 ∧ e2.length ≤ 100000,
      (brL ⟨decU e1, b1, decU e2, b2, b3, n1, n2, n3, n4, n5⟩).av, [])
  | _ => none
def DGr : Ctr := .mk false fun _ xs => match xs with
  | [.agg [.lst z1 e1, .bool b1, .lst z2 e2, .bool b2, .bool b3, .int .i64 n1, .int .i64 n2, .int .i64 n3, .int .i64 n4, .int .i64 n5], .int .i64 n] => some (((z1 = [.int .u8 0] ∧ e1 = u8s (decU e1)) ∧ (z2 = [.int .u8 0] ∧ e2 = u8s (decU e2))) ∧ e1.length ≤ 100000 ∧ e2.length ≤ 100000,
      (grL ⟨decU e1, b1, decU e2, b2, b3, n1, n2, n3, n4, n5⟩ n).av, [])
  | _ => none
def DPo : Ctr := .mk false fun _ xs => match xs with
  | [.agg [.lst z1 e1, .bool b1, .lst z2 e2, .bool b2, .bool b3, .int .i64 n1, .int .i64 n2, .int .i64 n3, .int .i64 n4, .int .i64 n5]] => some (((z1 = [.int .u8 0] ∧ e1 = u8s (decU e1)) ∧ (z2 = [.int .u8 0] ∧ e2 = u8s (decU e2))) ∧ e1.length ≤ 100000 ∧ e2.length ≤ 100000,
      .tup [(poL ⟨decU e1, b1, decU e2, b2, b3, n1, n2, n3, n4, n5⟩).av, .lst [.int .u8 0] (u8s (poB ⟨decU e1, b1, decU e2, b2, b3, n1, n2, n3, n4, n5⟩)), .bool (poK ⟨decU e1, b1, decU e2, b2, b3, n1, n2, n3, n4, n5⟩)], [])
  | _ => none
def DRe : Ctr := .mk false fun _ xs => match xs with
  | [.agg [.lst z1 e1, .bool b1, .lst z2 e2, .bool b2, .bool b3, .int .i64 n1, .int .i64 n2, .int .i64 n3, .int .i64 n4, .int .i64 n5], .lst z3 e3] => some (((z1 = [.int .u8 0] ∧ e1 = u8s (decU e1)) ∧ (z2 = [.int .u8 0] ∧ e2 = u8s (decU e2)) ∧ (z3 = [.int .u8 0] ∧ e3 = u8s (decU e3))) ∧ (e1.length ≤ 100000 ∧ e2.length ≤ 100000) ∧ e3.length ≤ 100000 ∧ Okb (decU e3),
      .tup [(reR ⟨decU e1, b1, decU e2, b2, b3, n1, n2, n3, n4, n5⟩ (decU e3)).av, .lst [.int .u8 0] (u8s (reD ⟨decU e1, b1, decU e2, b2, b3, n1, n2, n3, n4, n5⟩ (decU e3))), .bool (reB ⟨decU e1, b1, decU e2, b2, b3, n1, n2, n3, n4, n5⟩ (decU e3)), .int .i64 (reE ⟨decU e1, b1, decU e2, b2, b3, n1, n2, n3, n4, n5⟩ (decU e3))], [])
  | _ => none
def DSa : Ctr := .mk false fun _ xs => match xs with
  | [.agg [.lst z1 e1, .bool b1, .lst z2 e2, .bool b2, .bool b3, .int .i64 n1, .int .i64 n2, .int .i64 n3, .int .i64 n4, .int .i64 n5], .agg [.lst z3 e3, .bool c1, .lst z4 e4, .bool c2, .bool c3, .int .i64 m1, .int .i64 m2, .int .i64 m3, .int .i64 m4, .int .i64 m5]] =>
    some ((z1 = [.int .u8 0] ∧ e1 = u8s (decU e1)) ∧ (z2 = [.int .u8 0] ∧ e2 = u8s (decU e2)) ∧ (z3 = [.int .u8 0] ∧ e3 = u8s (decU e3)) ∧ (z4 = [.int .u8 0] ∧ e4 = u8s (decU e4)),
      .bool (decide (b8 (decU e1) = b8 (decU e3)) && (decide (b1 = c1) && (decide (b8 (decU e2) = b8 (decU e4)) && (decide (b2 = c2) && (decide (b3 = c3) && (decide (n1 = m1) && (decide (n2 = m2) && (decide (n3 = m3) && (decide (n4 = m4) && decide (n5 = m5)))))))))), [])
  | _ => none
theorem av_dec {b : Bool} {p : Prop} [Decidable p] (h : b = true ↔ p) : AV.bool b = AV.bool (decide p) := by
  congr 1
  by_cases hp : p
  · rw [decide_eq_true hp]; exact h.2 hp
  · rw [decide_eq_false hp]; cases b with
    | false => rfl
    | true => exact absurd (h.1 rfl) hp
theorem de_c0 {b : List Int} (h : deE b ≠ 0) : deC b = c0 := if_neg h
theorem de_4 {b : List Int} (h : b.length < 4) : deE b = 4 := if_pos h
theorem de_3 {b : List Int} (h : ¬ b.length < 4) (h2 : 68 < b.length) : deE b = 3 := by rw [deE, if_neg h, if_pos h2]
theorem de_6 {b : List Int} (h : ¬ b.length < 4) (h2 : ¬ 68 < b.length) (h3 : 1 < b.getD 3 0 ∨ ¬ ckP (rwC b)) : deE b = 6 := by rw [deE, if_neg h, if_neg h2, if_pos h3]
theorem de_0 {b : List Int} (h : ¬ b.length < 4) (h2 : ¬ 68 < b.length) (h3 : ¬ (1 < b.getD 3 0 ∨ ¬ ckP (rwC b))) : deE b = 0 := by rw [deE, if_neg h, if_neg h2, if_neg h3]
theorem ln_eqs {m : Ln} {w s : List Int} {wi sb bu : Bool} {sq rc ro ak ct : Int} (h : m = ⟨w, wi, s, sb, bu, sq, rc, ro, ak, ct⟩) : AV.lst [AV.int .u8 0] (u8s w) = AV.lst [AV.int .u8 0] (u8s m.w) ∧ AV.bool wi = AV.bool m.wi ∧ AV.lst [AV.int .u8 0] (u8s s) = AV.lst [AV.int .u8 0] (u8s m.s) ∧ AV.bool sb = AV.bool m.sb ∧ AV.bool bu = AV.bool m.bu ∧
    AV.int .i64 sq = AV.int .i64 m.sq ∧ AV.int .i64 rc = AV.int .i64 m.rc ∧ AV.int .i64 ro = AV.int .i64 m.ro ∧ AV.int .i64 ak = AV.int .i64 m.ak ∧ AV.int .i64 ct = AV.int .i64 m.ct := by
  subst h; exact ⟨rfl, rfl, rfl, rfl, rfl, rfl, rfl, rfl, rfl, rfl⟩
theorem vws0_junk' : vws0 AV.junk = [] := by rfl
theorem po_n (w : List Int) : (min (w.length : Int) 64).toNat = min w.length 64 := by omega
theorem tk_min (w : List Int) (k : Nat) : List.take (min w.length k) w = w.take k := by
  by_cases h : w.length ≤ k
  · rw [Nat.min_eq_left h, List.take_of_length_le (Nat.le_refl _), List.take_of_length_le h]
  · rw [Nat.min_eq_right (by omega)]
theorem dr_min (w : List Int) (k : Nat) : List.drop (min w.length k) w = w.drop k := by
  by_cases h : w.length ≤ k
  · rw [Nat.min_eq_left h, List.drop_of_length_le (Nat.le_refl _), List.drop_of_length_le h]
  · rw [Nat.min_eq_right (by omega)]
theorem po_t (w : List Int) : List.take (min w.length 64 - 0) w = w.take 64 := by rw [Nat.sub_zero, tk_min]
theorem po_d (w : List Int) : List.take (w.length - min w.length 64) (List.drop (min w.length 64) w) = w.drop 64 := by
  rw [dr_min, List.take_of_length_le (by rw [List.length_drop]; omega)]
theorem po_y (w : List Int) : List.take (min (w.drop 64).length w.length - 0) (List.take w.length (w.drop 64) ++ List.drop (w.drop 64).length w) = w.drop 64 := by
  have h : (w.drop 64).length ≤ w.length := by rw [List.length_drop]; omega
  rw [Nat.sub_zero, Nat.min_eq_left h, List.take_of_length_le h, List.take_left]
theorem poM_ak (l : Ln) : (poM l).ak = l.ak := by unfold poM; split <;> rfl
theorem po_no {l : Ln} (hP : ¬ lnP l) : poL l = l ∧ poB l = [] ∧ poK l = false := by
  have hk : poK l = false := by rw [poK, decide_eq_false hP]; rfl
  exact ⟨if_neg hP, by rw [poB, hk]; rfl, hk⟩
theorem po_id {l m : Ln} (hP : lnP l) (hm : poM l = m) (hb : m.bu = false) (ha : l.ak = 0) : poL l = m ∧ poB l = [] ∧ poK l = false := by
  have hk : poK l = false := by rw [poK, hm, hb, ha]; simp
  refine ⟨?_, by rw [poB, hk]; rfl, hk⟩
  have e : m.ak = 0 := by rw [← hm, poM_ak, ha]
  rw [poL, if_pos hP, hm, ← e]
theorem po_do {l m : Ln} {c : Ck} (hP : lnP l) (hm : poM l = m) (hb : m.bu = true ∨ l.ak ≠ 0) (hc : poC m = c) : poL l = { m with ak := 0 } ∧ poB l = enB c ∧ poK l = true := by
  have hk : poK l = true := by
    rw [poK, hm, decide_eq_true hP, Bool.true_and]
    rcases hb with h | h
    · rw [h]; rfl
    · rw [decide_eq_true h, Bool.or_true]
  exact ⟨by rw [poL, if_pos hP, hm], by rw [poB, hk, hm, hc]; rfl, hk⟩
theorem re_no {l : Ln} {b : List Int} (hP : ¬ lnP l) : reR l b = l0 ∧ reD l b = [] ∧ reB l b = false ∧ reE l b = 1 := by
  have hE : reE l b = 1 := if_neg hP
  exact ⟨if_neg (by rw [hE]; decide), if_neg (fun h => by rw [hE] at h; exact absurd h.1 (by decide)), by rw [reB, hE]; rfl, hE⟩
theorem re_er {l : Ln} {b : List Int} (hP : lnP l) (he : deE b ≠ 0) : reR l b = l0 ∧ reD l b = [] ∧ reB l b = false ∧ reE l b = deE b := by
  have hE : reE l b = deE b := if_pos hP
  exact ⟨if_neg (by rw [hE]; exact he), if_neg (fun h => by rw [hE] at h; exact he h.1), by rw [reB, hE, decide_eq_false he]; rfl, hE⟩
theorem de_ok {b : List Int} (he : deE b = 0) : deC b = rwC b ∧ ckP (deC b) ∧ 4 ≤ b.length := by
  have hc : deC b = rwC b := if_pos he
  rw [hc]
  simp only [deE] at he
  split at he
  · exact absurd he (by decide)
  · split at he
    · exact absurd he (by decide)
    · split at he
      · exact absurd he (by decide)
      · rename_i h1 h2 h3
        refine ⟨rfl, ?_, by omega⟩
        by_cases hp : ckP (rwC b)
        · exact hp
        · exact absurd (.inr hp) h3
theorem reA_rc (l : Ln) (c : Ck) : (reA l c).rc = l.rc ∧ (reA l c).ro = l.ro := by unfold reA; split <;> exact ⟨rfl, rfl⟩
set_option linter.unusedSectionVars false
section
variable {l m : Ln} {b : List Int} (hP : lnP l) (he : deE b = 0) (hm : reA l (deC b) = m)
include hP he hm
theorem re_R : reR l b = reL m (deC b) ∧ reE l b = 0 := by
  have hE : reE l b = 0 := by rw [reE, if_pos hP, he]
  have hc := (de_ok he).1
  exact ⟨by rw [reR, if_pos hE, ← hc, hm], hE⟩
theorem re_F (h : reF l (deC b) = false) : reD l b = [] ∧ reB l b = false := by
  have hc := (de_ok he).1
  rw [hc] at h
  exact ⟨if_neg (fun h2 => by rw [h] at h2; cases h2.2), by rw [reB, h, Bool.false_and, Bool.and_false]⟩
theorem re_1 (h : (deC b).sq = 0) : reR l b = m ∧ reD l b = [] ∧ reB l b = false ∧ reE l b = 0 := by
  obtain ⟨e1, e2⟩ := re_R hP he hm
  obtain ⟨e3, e4⟩ := re_F hP he hm (by rw [reF, h]; rfl)
  exact ⟨by rw [e1, reL, if_pos h], e3, e4, e2⟩
theorem re_2 (h : (deC b).sq ≠ 0) (h2 : (deC b).sq = l.rc) : reR l b = { m with ak := (deC b).sq } ∧ reD l b = [] ∧ reB l b = false ∧ reE l b = 0 := by
  obtain ⟨e1, e2⟩ := re_R hP he hm
  obtain ⟨e3, e4⟩ := re_F hP he hm (by rw [reF, h2]; simp)
  have hr := (reA_rc l (deC b)).1
  rw [hm] at hr
  exact ⟨by rw [e1, reL, if_neg h, if_pos (by rw [hr]; exact h2)], e3, e4, e2⟩
theorem re_3 (h : (deC b).sq ≠ 0) (h2 : (deC b).sq ≠ l.rc) (h3 : (deC b).sq = nx l.rc) : reR l b = { m with ro := l.ro - reN l (deC b), rc := (deC b).sq, ak := (deC b).sq, ct := reN l (deC b) } ∧ reD l b = (deC b).d.take (reN l (deC b)) ∧ reB l b = (deC b).bk ∧ reE l b = 0 := by
  obtain ⟨e1, e2⟩ := re_R hP he hm
  obtain ⟨hr, hq⟩ := reA_rc l (deC b)
  rw [hm] at hr hq
  have hF : reF l (deC b) = true := by rw [reF, decide_eq_true h, decide_eq_true h2, decide_eq_true h3]; rfl
  have hN : reN m (deC b) = reN l (deC b) := by rw [reN, hq]; rfl
  have hc := (de_ok he).1
  refine ⟨by rw [e1, reL, if_neg h, if_neg (by rw [hr]; exact h2), if_pos (by rw [hr]; exact h3), hN, hq], ?_, ?_, e2⟩
  · rw [hc] at hF ⊢
    exact if_pos ⟨e2, hF⟩
  · rw [hc] at hF ⊢
    rw [reB, e2, hF, Bool.true_and]; rfl
theorem re_4 (h : (deC b).sq ≠ 0) (h2 : (deC b).sq ≠ l.rc) (h3 : (deC b).sq ≠ nx l.rc) : reR l b = m ∧ reD l b = [] ∧ reB l b = false ∧ reE l b = 0 := by
  obtain ⟨e1, e2⟩ := re_R hP he hm
  obtain ⟨e3, e4⟩ := re_F hP he hm (by rw [reF, decide_eq_false h3, Bool.and_false, Bool.and_false])
  have hr := (reA_rc l (deC b)).1
  rw [hm] at hr
  exact ⟨by rw [e1, reL, if_neg h, if_neg (by rw [hr]; exact h2), if_neg (by rw [hr]; exact h3)], e3, e4, e2⟩
end
theorem ln_eqs_s {m : Ln} {w : List Int} {wi sb bu : Bool} {sq rc ro ak ct : Int} (h : m = ⟨w, wi, [], sb, bu, sq, rc, ro, ak, ct⟩) : AV.lst [AV.int .u8 0] (u8s w) = AV.lst [AV.int .u8 0] (u8s m.w) ∧ AV.bool wi = AV.bool m.wi ∧ u8s m.s = [] ∧ AV.bool sb = AV.bool m.sb ∧ AV.bool bu = AV.bool m.bu ∧
    AV.int .i64 sq = AV.int .i64 m.sq ∧ AV.int .i64 rc = AV.int .i64 m.rc ∧ AV.int .i64 ro = AV.int .i64 m.ro ∧ AV.int .i64 ak = AV.int .i64 m.ak ∧ AV.int .i64 ct = AV.int .i64 m.ct := by
  subst h; exact ⟨rfl, rfl, rfl, rfl, rfl, rfl, rfl, rfl, rfl, rfl⟩
theorem ln_eqs_0 {m : Ln} (h : m = l0) : u8s m.w = [] ∧ AV.bool false = AV.bool m.wi ∧ u8s m.s = [] ∧ AV.bool false = AV.bool m.sb ∧ AV.bool false = AV.bool m.bu ∧
    AV.int .i64 0 = AV.int .i64 m.sq ∧ AV.int .i64 0 = AV.int .i64 m.rc ∧ AV.int .i64 0 = AV.int .i64 m.ro ∧ AV.int .i64 0 = AV.int .i64 m.ak ∧ AV.int .i64 0 = AV.int .i64 m.ct := by
  subst h; exact ⟨rfl, rfl, rfl, rfl, rfl, rfl, rfl, rfl, rfl, rfl⟩
theorem re_d (s : List Int) {n : Int} (h : 0 ≤ n) : List.take (s.length - (min n (s.length : Int)).toNat) (List.drop (min n (s.length : Int)).toNat s) = s.drop n.toNat := by
  have e : (min n (s.length : Int)).toNat = min s.length n.toNat := by omega
  rw [e, dr_min, List.take_of_length_le (by rw [List.length_drop]; omega)]
end Go.Proofs.Ytknapnleecepaaa

/- A part of the proof: symbolic evaluation of the program's functions, proved sound against the model; no condition. -/
import Derived.Test.YtofldhooanikcaaEvFA
namespace Go.Proofs.Ytofldhooanikcaa
open Go Go.RowKit Go.Ev
set_option linter.unusedSimpArgs false
set_option linter.unusedVariables false
set_option maxRecDepth 20000
abbrev W (n : Int) : Int := IntKind.i64.wrap n
def decU (es : List (List AV)) : List Int := es.map fun e => match e with
  | [.int _ n] => n
  | _ => 0
theorem decU_u8s (l : List Int) : decU (u8s l) = l := by
  simp only [decU, u8s, List.map_map]
  exact (List.map_congr_left fun _ _ => rfl).trans (List.map_id l)
theorem decI_i64s (l : List Int) : decU (i64s l) = l := by
  simp only [decU, i64s, List.map_map]
  exact (List.map_congr_left fun _ _ => rfl).trans (List.map_id l)
def bls (l : List Bool) : List (List AV) := l.map fun b => [AV.bool b]
def decB (es : List (List AV)) : List Bool := es.map fun e => match e with
  | [.bool b] => b
  | _ => false
theorem decB_bls (l : List Bool) : decB (bls l) = l := by
  simp only [decB, bls, List.map_map]
  exact (List.map_congr_left fun _ _ => rfl).trans (List.map_id l)
theorem bls_len (l : List Bool) : (bls l).length = l.length := by simp [bls]
theorem getE_bl (l : List Bool) (i : Nat) : getE [.bool false] (bls l) i = [.bool (l.getD i false)] := getE_map _ (fun k => [AV.bool k]) false rfl l i
/-- A zone. -/
structure Zn where
  sens : List Int
  tgt : Int
  gain : Int
  intg : Int
  least : Int
  most : Int
  slew : Int
  deriving DecidableEq
theorem Zn.eta (z : Zn) : Zn.mk z.sens z.tgt z.gain z.intg z.least z.most z.slew = z := rfl
def Zn.cs (z : Zn) : List AV := [.lst [.int .u8 0] (u8s z.sens), .int .i64 z.tgt, .int .i64 z.gain, .int .i64 z.intg, .int .i64 z.least, .int .i64 z.most, .int .i64 z.slew]
def Zn.av (z : Zn) : AV := .agg [.lst [.int .u8 0] (u8s z.sens), .int .i64 z.tgt, .int .i64 z.gain, .int .i64 z.intg, .int .i64 z.least, .int .i64 z.most, .int .i64 z.slew]
/-- A speed. -/
structure Sp where
  out : Int
  sum : Int
  deriving DecidableEq
def Sp.av (s : Sp) : AV := .agg [.int .i64 s.out, .int .i64 s.sum]
def Sp.cs (s : Sp) : List AV := [.int .i64 s.out, .int .i64 s.sum]
def noI : Nat → LI := fun _ => ⟨Unit, fun _ => ⟨[], []⟩, fun _ => 0, fun _ _ => True⟩
def wi (v a b : Int) : Bool := decide (a ≤ v) && decide (v ≤ b)
def lim (v a b : Int) : Int := max a (min v b)
def flr (v : Int) : Int := if v.tmod 1000 < 0 then W (W (v.tdiv 1000) - 1) else W (v.tdiv 1000)
def dwn (a b : Int) : Int := if a.tmod b < 0 then W (W (a.tdiv b) - 1) else W (a.tdiv b)
def CWi : Ctr := .mk false fun _ xs => match xs with
  | [.int .i64 v, .int .i64 a, .int .i64 b] => some (True, .bool (wi v a b), [])
  | _ => none
def CLim : Ctr := .mk false fun _ xs => match xs with
  | [.int .i64 v, .int .i64 a, .int .i64 b] => some (True, .int .i64 (lim v a b), [])
  | _ => none
def CFlr : Ctr := .mk false fun _ xs => match xs with
  | [.int .i64 v] => some (True, .int .i64 (flr v), [])
  | _ => none
def CDwn : Ctr := .mk false fun _ xs => match xs with
  | [.int .i64 a, .int .i64 b] => some (b ≠ 0, .int .i64 (dwn a b), [])
  | _ => none
def srt : List Int → Bool
  | [] => true
  | [_] => true
  | a :: b :: l => decide (a < b) && srt (b :: l)
theorem srt_iff : ∀ {l : List Int}, srt l = true ↔ ∀ i, i + 1 < l.length → l.getD i 0 < l.getD (i + 1) 0
  | [] => by simp [srt]
  | [a] => by simp [srt]
  | a :: b :: l => by
    simp only [srt, Bool.and_eq_true, decide_eq_true_eq, srt_iff (l := b :: l)]
    constructor
    · rintro ⟨h1, h2⟩ i hi
      cases i with
      | zero => simpa using h1
      | succ i => have := h2 i (by simpa using hi); simpa using this
    · intro h
      exact ⟨by simpa using h 0 (by simp), fun i hi => by have := h (i + 1) (by simpa using hi); simpa using this⟩
def vz (z : Zn) : Bool := wi z.sens.length 1 8 && (wi z.tgt (-1000000000000) 1000000000000 && (wi z.gain 0 10000 && (wi z.intg 0 10000 && (srt z.sens && (decide (0 ≤ z.least) && (decide (z.least ≤ z.most) && (decide (z.most ≤ 1000) && wi z.slew 1 1000)))))))
def VZ (z : Zn) : Prop := (1 ≤ (z.sens.length : Int) ∧ (z.sens.length : Int) ≤ 8) ∧ (-1000000000000 ≤ z.tgt ∧ z.tgt ≤ 1000000000000) ∧ (0 ≤ z.gain ∧ z.gain ≤ 10000) ∧ (0 ≤ z.intg ∧ z.intg ≤ 10000) ∧ srt z.sens = true ∧ 0 ≤ z.least ∧ z.least ≤ z.most ∧ z.most ≤ 1000 ∧ (1 ≤ z.slew ∧ z.slew ≤ 1000)
theorem vz_iff (z : Zn) : vz z = true ↔ VZ z := by simp only [vz, VZ, wi, Bool.and_eq_true, decide_eq_true_eq]
def CV : Ctr := .mk false fun _ xs => match xs with
  | [.agg [.lst zz es, .int .i64 t, .int .i64 g, .int .i64 i, .int .i64 l, .int .i64 m, .int .i64 s]] => some (zz = [.int .u8 0] ∧ es = u8s (decU es), .bool (vz ⟨decU es, t, g, i, l, m, s⟩), [])
  | _ => none
/-- The loop of Valid. -/
structure K17 (z : Zn) (i0 : Nat) where
  i : Nat
  h0 : i0 ≤ i
  hi : i ≤ max i0 z.sens.length
  hs : ∀ j, j + 1 < i → z.sens.getD j 0 < z.sens.getD (j + 1) 0
def S17 (z : Zn) (p : K17 z 0) : SL := ⟨[(1, .ptr 128 0), (29, .lst [.int .u8 0] (u8s z.sens)), (30, .int .i64 z.sens.length), (31, .int .i64 p.i)], [(128, .cells z.cs)]⟩
def L17 (z : Zn) : LI := ⟨K17 z 0, S17 z, fun p => z.sens.length - p.i, fun _ _ => True⟩
def I17 (z : Zn) : Nat → LI := fun _ => L17 z
theorem I17S (z : Zn) (f : Nat) : (I17 z f).S = S17 z := rfl
theorem I17M (z : Zn) (f : Nat) (p) : (I17 z f).μ p = z.sens.length - p.i := rfl
theorem I17R (z : Zn) (f : Nat) (p q) : (I17 z f).R p q = True := rfl
def S28 (z : Zn) (p : K17 z 1) : SL := ⟨[(1, .ptr 128 0), (3, .int .i64 p.i)], [(128, .cells z.cs)]⟩
def L28 (z : Zn) : LI := ⟨K17 z 1, S28 z, fun p => z.sens.length - p.i, fun _ _ => True⟩
def I28 (z : Zn) : Nat → LI := fun _ => L28 z
theorem I28S (z : Zn) (f : Nat) : (I28 z f).S = S28 z := rfl
theorem I28M (z : Zn) (f : Nat) (p) : (I28 z f).μ p = z.sens.length - p.i := rfl
theorem I28R (z : Zn) (f : Nat) (p q) : (I28 z f).R p q = True := rfl
def topz (z : Zn) : Int := W (1000 * W (z.most - z.least))
def CTop : Ctr := .mk false fun _ xs => match xs with
  | [.agg [.lst zz es, .int .i64 t, .int .i64 g, .int .i64 i, .int .i64 l, .int .i64 m, .int .i64 s]] => some (zz = [.int .u8 0] ∧ es = u8s (decU es), .int .i64 (topz ⟨decU es, t, g, i, l, m, s⟩), [])
  | _ => none
def sd (z : Zn) (s : Sp) : Bool := vz z && (wi s.out z.least z.most && wi s.sum 0 (topz z))
def CSd : Ctr := .mk false fun _ xs => match xs with
  | [.agg [.lst zz es, .int .i64 t, .int .i64 g, .int .i64 i, .int .i64 l, .int .i64 m, .int .i64 s], .agg [.int .i64 o, .int .i64 u]] => some (zz = [.int .u8 0] ∧ es = u8s (decU es), .bool (sd ⟨decU es, t, g, i, l, m, s⟩ ⟨o, u⟩), [])
  | _ => none
def sp0 : Sp := ⟨0, 0⟩
def stt (z : Zn) : Sp := if vz z then ⟨z.most, 0⟩ else sp0
def vE (b : Bool) : Int := if b then 0 else 1
def CSt : Ctr := .mk false fun _ xs => match xs with
  | [.agg [.lst zz es, .int .i64 t, .int .i64 g, .int .i64 i, .int .i64 l, .int .i64 m, .int .i64 s]] => some (zz = [.int .u8 0] ∧ es = u8s (decU es), .tup [(stt ⟨decU es, t, g, i, l, m, s⟩).av, .int .i64 (vE (vz ⟨decU es, t, g, i, l, m, s⟩))], [])
  | _ => none
def ex1 (z : Zn) (r : Int) : Int := lim (flr (W (lim r (-1000000000000) 1000000000000 - z.tgt))) (-100000) 100000
def exV (z : Zn) (l : List Int) : Int := l.foldl (fun o r => max o (ex1 z r)) (-100000)
def exOK (z : Zn) (rs : List Int) (ks : List Bool) : Bool := vz z && (decide (rs.length = z.sens.length) && (decide (ks.length = z.sens.length) && ks.all id))
def exR (z : Zn) (rs : List Int) (ks : List Bool) : Int := if exOK z rs ks then exV z rs else 0
def CEx : Ctr := .mk false fun _ xs => match xs with
  | [.agg [.lst zz es, .int .i64 t, .int .i64 g, .int .i64 i, .int .i64 l, .int .i64 m, .int .i64 s], .lst z1 rs, .lst z2 ks] => some ((zz = [.int .u8 0] ∧ es = u8s (decU es)) ∧ (z1 = [.int .i64 0] ∧ rs = i64s (decU rs)) ∧ (z2 = [.bool false] ∧ ks = bls (decB ks)), .tup [.int .i64 (exR ⟨decU es, t, g, i, l, m, s⟩ (decU rs) (decB ks)), .bool (exOK ⟨decU es, t, g, i, l, m, s⟩ (decU rs) (decB ks))], [])
  | _ => none
def wnt (z : Zn) (sum e : Int) : Int := lim (W (z.least + flr (W (W (z.gain * e) + sum)))) z.least z.most
def CWn : Ctr := .mk false fun _ xs => match xs with
  | [.agg [.lst zz es, .int .i64 t, .int .i64 g, .int .i64 i, .int .i64 l, .int .i64 m, .int .i64 s], .int .i64 u, .int .i64 e] => some ((zz = [.int .u8 0] ∧ es = u8s (decU es)) ∧ vz ⟨decU es, t, g, i, l, m, s⟩ = true ∧ -100000 ≤ e ∧ e ≤ 100000, .int .i64 (wnt ⟨decU es, t, g, i, l, m, s⟩ u e), [])
  | _ => none
def dem (z : Zn) (s : Sp) (e : Int) : Int := if sd z s then wnt z s.sum (lim e (-100000) 100000) else 0
def CDe : Ctr := .mk false fun _ xs => match xs with
  | [.agg [.lst zz es, .int .i64 t, .int .i64 g, .int .i64 i, .int .i64 l, .int .i64 m, .int .i64 s], .agg [.int .i64 o, .int .i64 u], .int .i64 e] => some ((zz = [.int .u8 0] ∧ es = u8s (decU es)) ∧ -9223372036854775808 ≤ e ∧ e ≤ 9223372036854775807, .int .i64 (dem ⟨decU es, t, g, i, l, m, s⟩ ⟨o, u⟩ e), [])
  | _ => none
def mv (slew out to : Int) : Int := lim to (W (out - slew)) (W (out + slew))
def CMv : Ctr := .mk false fun _ xs => match xs with
  | [.agg [.lst zz es, .int .i64 t, .int .i64 g, .int .i64 i, .int .i64 l, .int .i64 m, .int .i64 s], .int .i64 o, .int .i64 e] => some (zz = [.int .u8 0] ∧ es = u8s (decU es), .int .i64 (mv s o e), [])
  | _ => none
def CTw : Ctr := .mk false fun _ xs => match xs with
  | [.int .i64 o, .int .i64 e, .int .i64 s] => some (True, .int .i64 (mv s o e), [])
  | _ => none
def ctl (z : Zn) (s : Sp) (e : Int) : Sp := ⟨mv z.slew s.out (wnt z (lim (W (s.sum + W (z.intg * e))) 0 (topz z)) e), lim (W (s.sum + W (z.intg * e))) 0 (topz z)⟩
def CCt : Ctr := .mk false fun _ xs => match xs with
  | [.agg [.lst zz es, .int .i64 t, .int .i64 g, .int .i64 i, .int .i64 l, .int .i64 m, .int .i64 s], .agg [.int .i64 o, .int .i64 u], .int .i64 e] => some ((zz = [.int .u8 0] ∧ es = u8s (decU es)) ∧ sd ⟨decU es, t, g, i, l, m, s⟩ ⟨o, u⟩ = true ∧ -100000 ≤ e ∧ e ≤ 100000, (ctl ⟨decU es, t, g, i, l, m, s⟩ ⟨o, u⟩ e).av, [])
  | _ => none
def lenOK (z : Zn) (rs : List Int) (ks : List Bool) : Bool := decide (rs.length = z.sens.length) && decide (ks.length = z.sens.length)
def stp (z : Zn) (s : Sp) (rs : List Int) (ks : List Bool) : Sp := if sd z s && lenOK z rs ks then (if exOK z rs ks then ctl z s (exV z rs) else ⟨mv z.slew s.out z.most, s.sum⟩) else sp0
def stpE (z : Zn) (s : Sp) (rs : List Int) (ks : List Bool) : Int := if sd z s then (if lenOK z rs ks then 0 else 2) else 1
def CSp : Ctr := .mk false fun _ xs => match xs with
  | [.agg [.lst zz es, .int .i64 t, .int .i64 g, .int .i64 i, .int .i64 l, .int .i64 m, .int .i64 s], .agg [.int .i64 o, .int .i64 u], .lst z1 rs, .lst z2 ks] => some ((zz = [.int .u8 0] ∧ es = u8s (decU es)) ∧ (z1 = [.int .i64 0] ∧ rs = i64s (decU rs)) ∧ (z2 = [.bool false] ∧ ks = bls (decB ks)), .tup [(stp ⟨decU es, t, g, i, l, m, s⟩ ⟨o, u⟩ (decU rs) (decB ks)).av, .int .i64 (stpE ⟨decU es, t, g, i, l, m, s⟩ ⟨o, u⟩ (decU rs) (decB ks))], [])
  | _ => none
structure K20 (rs : List Int) (ks : List Bool) where
  i : Nat
  hi : i ≤ rs.length
  hk : ∀ j, j < i → ks.getD j false = true
def S20 (z : Zn) (rs : List Int) (ks : List Bool) (p : K20 rs ks) : SL := ⟨[(2, .lst [.bool false] (bls ks)), (3, .ptr 256 0), (8, .int .i64 (exV z (rs.take p.i))), (31, .lst [.int .i64 0] (i64s rs)), (32, .int .i64 rs.length), (33, .int .i64 p.i)], [(256, .cells z.cs)]⟩
def L20 (z : Zn) (rs : List Int) (ks : List Bool) : LI := ⟨K20 rs ks, S20 z rs ks, fun p => rs.length - p.i, fun _ _ => True⟩
def I20 (z : Zn) (rs : List Int) (ks : List Bool) : Nat → LI := fun _ => L20 z rs ks
theorem I20S (z : Zn) (rs : List Int) (ks : List Bool) (f : Nat) : (I20 z rs ks f).S = S20 z rs ks := rfl
theorem I20M (z : Zn) (rs : List Int) (ks : List Bool) (f : Nat) (p) : (I20 z rs ks f).μ p = rs.length - p.i := rfl
theorem I20R (z : Zn) (rs : List Int) (ks : List Bool) (f : Nat) (p q) : (I20 z rs ks f).R p q = True := rfl
def S26 (z : Zn) (rs : List Int) (ks : List Bool) (p : K20 rs ks) : SL := ⟨[(1, .lst [.int .i64 0] (i64s rs)), (2, .lst [.bool false] (bls ks)), (3, .ptr 256 0), (8, .int .i64 (exV z (rs.take p.i))), (9, .int .i64 p.i)], [(256, .cells z.cs)]⟩
def L26 (z : Zn) (rs : List Int) (ks : List Bool) : LI := ⟨K20 rs ks, S26 z rs ks, fun p => rs.length - p.i, fun _ _ => True⟩
def I26 (z : Zn) (rs : List Int) (ks : List Bool) : Nat → LI := fun _ => L26 z rs ks
theorem I26S (z : Zn) (rs : List Int) (ks : List Bool) (f : Nat) : (I26 z rs ks f).S = S26 z rs ks := rfl
theorem I26M (z : Zn) (rs : List Int) (ks : List Bool) (f : Nat) (p) : (I26 z rs ks f).μ p = rs.length - p.i := rfl
theorem I26R (z : Zn) (rs : List Int) (ks : List Bool) (f : Nat) (p q) : (I26 z rs ks f).R p q = True := rfl
theorem lim_bd (e a b : Int) (h : a ≤ b) : a ≤ lim e a b ∧ lim e a b ≤ b := by simp only [lim]; omega
theorem vz_of_sd {z : Zn} {s : Sp} (h : sd z s = true) : vz z = true := by
  simp only [sd, Bool.and_eq_true] at h; exact h.1
theorem dwn_flr (v : Int) : dwn v 1000 = flr v := rfl
theorem exV_take {z : Zn} {rs : List Int} {i : Nat} (h : i < rs.length) : exV z (rs.take (i + 1)) = max (exV z (rs.take i)) (ex1 z (rs.getD i 0)) := by
  simp only [exV]
  rw [List.take_succ_eq_append_getElem h, List.foldl_append]
  simp only [List.foldl_cons, List.foldl_nil]
  simp [List.getD, h]
theorem all_id {ks : List Bool} : ks.all id = true ↔ ∀ j, j < ks.length → ks.getD j false = true := by
  rw [List.all_eq_true]
  constructor
  · intro h j hj
    have := h _ (List.getElem_mem hj)
    simpa [List.getD, List.getElem?_eq_getElem hj] using this
  · intro h b hb
    obtain ⟨j, hj, rfl⟩ := List.getElem_of_mem hb
    have := h j hj
    simpa [List.getD, List.getElem?_eq_getElem hj] using this
theorem exOK_iff {z : Zn} {rs : List Int} {ks : List Bool} : exOK z rs ks = true ↔ vz z = true ∧ rs.length = z.sens.length ∧ ks.length = z.sens.length ∧ ∀ j, j < ks.length → ks.getD j false = true := by
  simp only [exOK, Bool.and_eq_true, decide_eq_true_eq, all_id]
theorem exV_bd (z : Zn) (rs : List Int) : -100000 ≤ exV z rs ∧ exV z rs ≤ 100000 := by
  have : ∀ (rs : List Int) (o : Int), -100000 ≤ o ∧ o ≤ 100000 → -100000 ≤ rs.foldl (fun o r => max o (ex1 z r)) o ∧ rs.foldl (fun o r => max o (ex1 z r)) o ≤ 100000 := by
    intro rs
    induction rs with
    | nil => intro o h; exact h
    | cons r rs ih =>
      intro o h
      have h2 : -100000 ≤ ex1 z r ∧ ex1 z r ≤ 100000 := by simp only [ex1]; exact lim_bd _ _ _ (by decide)
      have h3 : -100000 ≤ max o (ex1 z r) ∧ max o (ex1 z r) ≤ 100000 := by omega
      exact ih _ h3
  exact this rs _ (by decide)
/-! The codes -/
theorem u8s_take (l : List Int) (n : Nat) : (u8s l).take n = u8s (l.take n) := by simp [u8s, List.map_take]
theorem getE_l2 (k : IntKind) (a b : Int) (n : Nat) : getE [.int k 0] [[.int k a], [.int k b]] n = [.int k ([a, b].getD n 0)] := getE_map _ (fun x => [AV.int k x]) 0 rfl [a, b] n
theorem getE_l3 (k : IntKind) (a b c : Int) (n : Nat) : getE [.int k 0] [[.int k a], [.int k b], [.int k c]] n = [.int k ([a, b, c].getD n 0)] := getE_map _ (fun x => [AV.int k x]) 0 rfl [a, b, c] n
theorem getE_l4 (k : IntKind) (a b c d : Int) (n : Nat) : getE [.int k 0] [[.int k a], [.int k b], [.int k c], [.int k d]] n = [.int k ([a, b, c, d].getD n 0)] := getE_map _ (fun x => [AV.int k x]) 0 rfl [a, b, c, d] n
theorem getE_l5 (k : IntKind) (a b c d e : Int) (n : Nat) : getE [.int k 0] [[.int k a], [.int k b], [.int k c], [.int k d], [.int k e]] n = [.int k ([a, b, c, d, e].getD n 0)] := getE_map _ (fun x => [AV.int k x]) 0 rfl [a, b, c, d, e] n
def CLf : Ctr := .mk true fun cs xs => match cs, xs with
  | [.lst zz es, .int .i64 a], [] => some (zz = [.int .u8 0] ∧ es = u8s (decU es), .bool (decide (a < ((decU es).length : Int))), [.lst zz es, .int .i64 a])
  | _, _ => none
def Okb (l : List Int) : Prop := ∀ x ∈ l, 0 ≤ x ∧ x ≤ 255
def nx2 (L : List Int) (a n : Int) : Bool := decide (256 < n) && decide (a + 1 < (L.length : Int))
def nx1 (L : List Int) (a n : Int) : Bool := decide (a < (L.length : Int)) && !decide (n < 1)
def nxX (L : List Int) (a n : Int) : Int := if nx2 L a n then bitsI .or .i64 (W (L.getD a.toNat 0)) (W (W (L.getD (a + 1).toNat 0) * 2 ^ 8)) else W (L.getD a.toNat 0)
def nxV (L : List Int) (a n : Int) : Int := if nx1 L a n then (nxX L a n).tmod n else 0
def nxA (L : List Int) (a n : Int) : Int := if nx1 L a n then (if nx2 L a n then a + 2 else a + 1) else a
def CNx : Ctr := .mk true fun cs xs => match cs, xs with
  | [.lst zz es, .int .i64 a], [.int .i64 n] => some ((zz = [.int .u8 0] ∧ es = u8s (decU es)) ∧ 0 ≤ a, .int .i64 (nxV (decU es) a n), [.lst zz es, .int .i64 (nxA (decU es) a n)])
  | _, _ => none
def CNw : Ctr := .ext false Unit fun _ xs => match xs with
  | [.lst zz es, .int .i64 n] => some ((zz = [.int .u8 0] ∧ es = u8s (decU es)) ∧ 0 ≤ n, fun _ => (True, .fp 0 [.lst [.int .u8 0] (u8s ((decU es).take n.toNat)), .int .i64 0], []))
  | _ => none
/-- A zone that is made of codes. -/
structure GZ (z : Zn) : Prop where
  sb : Okb z.sens
  s1 : 1 ≤ z.sens.length
  s8 : z.sens.length ≤ 3
  t : 0 ≤ z.tgt ∧ z.tgt ≤ 59000000
  g : 0 ≤ z.gain ∧ z.gain ≤ 10000
  i : 0 ≤ z.intg ∧ z.intg ≤ 10000
  l : 0 ≤ z.least ∧ z.least ≤ 1000
  m : 200 ≤ z.most ∧ z.most ≤ 1000
  s : 0 ≤ z.slew ∧ z.slew ≤ 1001
def CZo : Ctr := .ext true (Zn × Int) fun cs xs => match cs, xs with
  | [.lst zz es, .int .i64 a], [] => some (((zz = [.int .u8 0] ∧ es = u8s (decU es)) ∧ Okb (decU es)) ∧ 0 ≤ a, fun q => (GZ q.1 ∧ 0 ≤ q.2, q.1.av, [.lst [.int .u8 0] (u8s (decU es)), .int .i64 q.2]))
  | _, _ => none
/-- A speed that is made of codes. -/
structure GS (s : Sp) : Prop where
  o : 0 ≤ s.out ∧ s.out ≤ 1000
  u : -1 ≤ s.sum ∧ s.sum ≤ 1099511627776
def CSpd : Ctr := .ext true (Sp × Int) fun cs xs => match cs, xs with
  | [.lst zz es, .int .i64 a], [.agg [.lst z1 e1, .int .i64 t, .int .i64 g, .int .i64 i, .int .i64 l, .int .i64 m, .int .i64 s]] => some ((((zz = [.int .u8 0] ∧ es = u8s (decU es)) ∧ Okb (decU es)) ∧ 0 ≤ a) ∧ (z1 = [.int .u8 0] ∧ e1 = u8s (decU e1)) ∧ GZ ⟨decU e1, t, g, i, l, m, s⟩, fun q => (GS q.1 ∧ 0 ≤ q.2, q.1.av, [.lst [.int .u8 0] (u8s (decU es)), .int .i64 q.2]))
  | _, _ => none
structure GR (z : Zn) (rs : List Int) (ks : List Bool) : Prop where
  k : ks.length = z.sens.length
  r : rs.length = z.sens.length ∨ rs.length = z.sens.length + 1
  b : ∀ x ∈ rs, -10000000000000 ≤ x ∧ x ≤ 10000000000000
def CRd : Ctr := .ext true (List Int × List Bool × Int) fun cs xs => match cs, xs with
  | [.lst zz es, .int .i64 a], [.agg [.lst z1 e1, .int .i64 t, .int .i64 g, .int .i64 i, .int .i64 l, .int .i64 m, .int .i64 s]] => some ((((zz = [.int .u8 0] ∧ es = u8s (decU es)) ∧ Okb (decU es)) ∧ 0 ≤ a) ∧ (z1 = [.int .u8 0] ∧ e1 = u8s (decU e1)) ∧ GZ ⟨decU e1, t, g, i, l, m, s⟩, fun q => (GR ⟨decU e1, t, g, i, l, m, s⟩ q.1 q.2.1 ∧ 0 ≤ q.2.2, .tup [.fr 0 2 [.int .i64 0] (i64s q.1), .fr 1 4 [.bool false] (bls q.2.1)], [.lst [.int .u8 0] (u8s (decU es)), .int .i64 q.2.2]))
  | _, _ => none
structure K11 where
  at' : Int
  k : Int
  last : Int
  z : Zn
  ha : 0 ≤ at'
  hk : 0 ≤ k ∧ k ≤ last + 1 ∧ last ≤ 2 ∧ 0 ≤ last
  hl : (z.sens.length : Int) = k
  hb : Okb z.sens
  ht : 0 ≤ z.tgt ∧ z.tgt ≤ 59000000
  hg : 0 ≤ z.gain ∧ z.gain ≤ 10000
  hi : 0 ≤ z.intg ∧ z.intg ≤ 10000
  hle : 0 ≤ z.least ∧ z.least ≤ 1000
  hm : 200 ≤ z.most ∧ z.most ≤ 1000
  hs : 0 ≤ z.slew ∧ z.slew ≤ 1001
def S11 (L : List Int) (p : K11) : SL := ⟨[(0, .ptr 0 0), (2, .ptr 192 0), (3, .ptr 256 0), (4, .int .i64 p.k), (5, .int .i64 p.last)], [(0, .cells [.lst [.int .u8 0] (u8s L), .int .i64 p.at']), (192, .cells [.nil, .int .i64 0, .int .i64 0, .int .i64 0, .int .i64 0, .int .i64 0, .int .i64 0]), (256, .cells [.vw 3200 0 0 0, .int .i64 p.z.tgt, .int .i64 p.z.gain, .int .i64 p.z.intg, .int .i64 p.z.least, .int .i64 p.z.most, .int .i64 p.z.slew]), (3200, .buf 5 [.int .u8 0] (u8s p.z.sens))]⟩
def L11 (L : List Int) : LI := ⟨K11, S11 L, fun p => (p.last + 1 - p.k).toNat, fun _ _ => True⟩
def I11 (L : List Int) : Nat → LI := fun _ => L11 L
theorem I11S (L : List Int) (f : Nat) : (I11 L f).S = S11 L := rfl
theorem I11M (L : List Int) (f : Nat) (p : K11) : (I11 L f).μ p = (p.last + 1 - p.k).toNat := rfl
theorem I11R (L : List Int) (f : Nat) (p q) : (I11 L f).R p q = True := rfl
structure K13 (z : Zn) where
  at' : Int
  i : Nat
  rs : List Int
  ks : List Bool
  ha : 0 ≤ at'
  hi : i ≤ z.sens.length
  hr : rs.length = i
  hk : ks.length = i
  hb : ∀ x ∈ rs, -10000000000000 ≤ x ∧ x ≤ 10000000000000
def S13 (L : List Int) (z : Zn) (p : K13 z) : SL := ⟨[(0, .ptr 0 0), (3, .ptr 256 0), (6, .vw 1920 0 0 0), (7, .vw 2304 0 0 0), (11, .int .i64 z.sens.length), (12, .int .i64 p.i)], [(0, .cells [.lst [.int .u8 0] (u8s L), .int .i64 p.at']), (256, .cells z.cs), (1920, .buf 2 [.int .i64 0] (i64s p.rs)), (2304, .buf 4 [.bool false] (bls p.ks))]⟩
def L13 (L : List Int) (z : Zn) : LI := ⟨K13 z, S13 L z, fun p => z.sens.length - p.i, fun _ _ => True⟩
def I13 (L : List Int) (z : Zn) : Nat → LI := fun _ => L13 L z
theorem I13S (L : List Int) (z : Zn) (f : Nat) : (I13 L z f).S = S13 L z := rfl
theorem I13M (L : List Int) (z : Zn) (f : Nat) (p : K13 z) : (I13 L z f).μ p = z.sens.length - p.i := rfl
theorem I13R (L : List Int) (z : Zn) (f : Nat) (p q) : (I13 L z f).R p q = True := rfl
theorem u8s_app (l : List Int) (x : Int) : u8s l ++ [[.int .u8 x]] = u8s (l ++ [x]) := by simp [u8s]
theorem i64s_app (l : List Int) (x : Int) : i64s l ++ [[.int .i64 x]] = i64s (l ++ [x]) := by simp [i64s]
theorem bls_app (l : List Bool) (x : Bool) : bls l ++ [[.bool x]] = bls (l ++ [x]) := by simp [bls]
theorem or_bd (x y : Int) (hx : 0 ≤ x ∧ x < 65536) (hy : 0 ≤ y ∧ y < 65536) : 0 ≤ bitsI .or .i64 x y ∧ bitsI .or .i64 x y < 65536 := by
  obtain ⟨m, rfl⟩ := Int.eq_ofNat_of_zero_le hx.1
  obtain ⟨n, rfl⟩ := Int.eq_ofNat_of_zero_le hy.1
  have e : (BitVec.ofInt IntKind.i64.bits (m : Int) ||| BitVec.ofInt IntKind.i64.bits (n : Int)).toNat = m ||| n := by
    show (BitVec.ofInt 64 (m : Int) ||| BitVec.ofInt 64 (n : Int)).toNat = m ||| n
    rw [BitVec.toNat_or, BitVec.ofInt_natCast, BitVec.ofInt_natCast, BitVec.toNat_ofNat, BitVec.toNat_ofNat, Nat.mod_eq_of_lt (by omega), Nat.mod_eq_of_lt (by omega)]
  have h2 : m ||| n < 2 ^ 16 := Nat.or_lt_two_pow (by omega) (by omega)
  simp only [bitsI, e]
  rw [wr_in _ (by omega) (by omega)]
  omega
theorem okb_get {L : List Int} (h : Okb L) (i : Nat) : 0 ≤ L.getD i 0 ∧ L.getD i 0 ≤ 255 := getD_all (p := fun x => 0 ≤ x ∧ x ≤ 255) h (by decide) i
theorem nxX_nn {L : List Int} (h : Okb L) (a n : Int) : 0 ≤ nxX L a n := by
  have h1 := okb_get h a.toNat
  have h2 := okb_get h (a + 1).toNat
  simp only [nxX, W]
  rw [wr_in (L.getD a.toNat 0) (by omega) (by omega), wr_in (L.getD (a + 1).toNat 0) (by omega) (by omega)]
  split
  · rw [wr_in _ (by omega) (by omega)]
    exact (or_bd _ _ (by omega) (by omega)).1
  · omega
theorem nx_bd {L : List Int} (h : Okb L) (a : Int) {n : Int} (hn : 1 ≤ n) : 0 ≤ nxV L a n ∧ nxV L a n < n := by
  have h1 := nxX_nn h a n
  simp only [nxV]
  split
  · rw [Int.tmod_eq_emod_of_nonneg h1]
    exact ⟨Int.emod_nonneg _ (by omega), Int.emod_lt_of_pos _ (by omega)⟩
  · omega
theorem nxA_nn {L : List Int} {a : Int} (ha : 0 ≤ a) (n : Int) : 0 ≤ nxA L a n := by
  simp only [nxA]; split <;> (try split) <;> omega
theorem walk31 {Phi : Nat → Option Ctr} (v a b : Int) : evC Phi (noI) rc31 ⟨initS [.int .i64 v, .int .i64 a, .int .i64 b], initM false []⟩ (kRet rv31 (.bool (wi v a b)) false []) := by
  simp only [rc31, initM_f, rv31, evC_seq, evC_region, eo_mov, evG_no, Option.getD_some, ev_mov, av_c, gv_bool, bind1_some', un1_mov, goOp_some, put_q, evOps_nil, kEnd_at, hasG_no, hasG_nil, kEndB_f, kSeq_n, av_t, upd_at, Nat.reduceEqDiff, initS_at, List.getD_cons_zero, if_false, gv_int, List.getD_cons_succ, eo_cmp, ev_cmp, if_true, cmp2_some, cmp_geq, toR_some', evG_yes, pathG_bool, gG_some, guardR_q, guardL_nil, gv_gd, List.contains_cons, List.contains_nil, Bool.or_false, List.all_cons, beq_self_eq_true, List.all_nil, Bool.and_self, gvB_true, cmp_leq, eo_pick, ev_pick, List.nil_append, pick3_some, pickV_bool, Bool.cond_false_right, hasG_yes, kEndB_t, evC_ret, kRet_r, retOK_eq, retL_cons, retV_t, ungdS_at, ungd_bool, retL_nil, consO_some, lkR_one, lk1_bool, lkT_f, applyL_nil, retOK_f, rtO_some, resV_one, leV1_bool, and_true, knowL_nil, askL_nil]
  rfl
theorem walk32 {Phi : Nat → Option Ctr} (v a b : Int) : evC Phi (noI) rc32 ⟨initS [.int .i64 v, .int .i64 a, .int .i64 b], initM false []⟩ (kRet rv32 (.bool (wi v a b)) false []) := by
  simp only [rc32, initM_f, rv32, evC_seq, evC_region, eo_mov, evG_no, Option.getD_some, ev_mov, av_c, gv_bool, bind1_some', un1_mov, goOp_some, put_q, evOps_nil, kEnd_at, hasG_no, hasG_nil, kEndB_f, kSeq_n, av_t, upd_at, Nat.reduceEqDiff, initS_at, List.getD_cons_zero, if_false, gv_int, List.getD_cons_succ, eo_cmp, ev_cmp, if_true, cmp2_some, cmp_geq, toR_some', evG_yes, pathG_bool, gG_some, guardR_q, guardL_nil, gv_gd, List.contains_cons, List.contains_nil, Bool.or_false, List.all_cons, beq_self_eq_true, List.all_nil, Bool.and_self, gvB_true, cmp_leq, eo_pick, ev_pick, List.nil_append, pick3_some, pickV_bool, Bool.cond_false_right, hasG_yes, kEndB_t, evC_ret, kRet_r, retOK_eq, retL_cons, retV_t, ungdS_at, ungd_bool, retL_nil, consO_some, lkR_one, lk1_bool, lkT_f, applyL_nil, retOK_f, rtO_some, resV_one, leV1_bool, and_true, knowL_nil, askL_nil]
  rfl
theorem walk37 {Phi : Nat → Option Ctr} (v a b : Int) : evC Phi (noI) rc37 ⟨initS [.int .i64 v, .int .i64 a, .int .i64 b], initM false []⟩ (kRet rv37 (.int .i64 (lim v a b)) false []) := by
  simp only [rc37, initM_f, rv37, evC_seq, evC_region, eo_mov, evG_no, Option.getD_some, ev_mov, av_c, gv_int, bind1_some', un1_mov, goOp_some, put_q, evOps_nil, kEnd_at, hasG_no, hasG_nil, kEndB_f, kSeq_n, av_t, upd_at, Nat.reduceEqDiff, initS_at, List.getD_cons_succ, List.getD_cons_zero, if_false, eo_minmax, ev_minmax, avs_cons, if_true, avs_nil, consO_some, mmO_some, mm_min, mm_nil, toR_some', mm_max, evC_ret, kRet_r, retOK_eq, retL_cons, retV_t, retL_nil, lkR_one, lk1_int, lkT_f, List.nil_append, applyL_nil, retOK_f, rtO_some, resV_one, leV1_int, and_true, knowL_nil, askL_nil]
  rfl
theorem walk39 {Phi : Nat → Option Ctr} (v a b : Int) : evC Phi (noI) rc39 ⟨initS [.int .i64 v, .int .i64 a, .int .i64 b], initM false []⟩ (kRet rv39 (.int .i64 (lim v a b)) false []) := by
  simp only [rc39, initM_f, rv39, evC_seq, evC_region, eo_mov, evG_no, Option.getD_some, ev_mov, av_c, gv_int, bind1_some', un1_mov, goOp_some, put_q, evOps_nil, kEnd_at, hasG_no, hasG_nil, kEndB_f, kSeq_n, av_t, upd_at, Nat.reduceEqDiff, initS_at, List.getD_cons_succ, List.getD_cons_zero, if_false, eo_minmax, ev_minmax, avs_cons, if_true, avs_nil, consO_some, mmO_some, mm_min, mm_nil, toR_some', mm_max, evC_ret, kRet_r, retOK_eq, retL_cons, retV_t, retL_nil, lkR_one, lk1_int, lkT_f, List.nil_append, applyL_nil, retOK_f, rtO_some, resV_one, leV1_int, and_true, knowL_nil, askL_nil]
  rfl
theorem walk41 {Phi : Nat → Option Ctr} (v a b : Int) : evC Phi (noI) rc41 ⟨initS [.int .i64 v, .int .i64 a, .int .i64 b], initM false []⟩ (kRet rv41 (.int .i64 (lim v a b)) false []) := by
  simp only [rc41, initM_f, rv41, evC_seq, evC_region, eo_mov, evG_no, Option.getD_some, ev_mov, av_c, gv_int, bind1_some', un1_mov, goOp_some, put_q, evOps_nil, kEnd_at, hasG_no, hasG_nil, kEndB_f, kSeq_n, av_t, upd_at, Nat.reduceEqDiff, initS_at, List.getD_cons_succ, List.getD_cons_zero, if_false, eo_minmax, ev_minmax, avs_cons, if_true, avs_nil, consO_some, mmO_some, mm_min, mm_nil, toR_some', mm_max, evC_ret, kRet_r, retOK_eq, retL_cons, retV_t, retL_nil, lkR_one, lk1_int, lkT_f, List.nil_append, applyL_nil, retOK_f, rtO_some, resV_one, leV1_int, and_true, knowL_nil, askL_nil]
  rfl
theorem walk36 {Phi : Nat → Option Ctr} (v : Int) : evC Phi (noI) rc36 ⟨initS [.int .i64 v], initM false []⟩ (kRet rv36 (.int .i64 (flr v)) false []) := by
  simp only [rc36, initM_f, rv36, evC_seq, evC_region, eo_mov, evG_no, Option.getD_some, ev_mov, av_c, gv_int, bind1_some', un1_mov, goOp_some, put_q, evOps_nil, kEnd_at, hasG_no, hasG_nil, kEndB_f, kSeq_n, av_t, upd_at, Nat.reduceEqDiff, initS_at, List.getD_cons_zero, if_false, eo_arith, ev_arith, List.getD_cons_succ, if_true, bind2_some', arith_quo, arith_rem, eo_cmp, ev_cmp, cmp2_some, cmp_lss, toR_some', evC_cond, arith_sub, evC_ret, kRet_r, retOK_eq, retL_cons, retV_t, retL_nil, consO_some, lkR_one, lk1_int, lkT_f, List.nil_append, applyL_nil, retOK_f, rtO_some, resV_one, leV1_int, and_true, knowL_nil, askL_nil, evC_skip, ar_t, condK_bool, askL_cons]
  exact ⟨by decide, by decide, fun h => AV.int_inj' (by simp only [flr, if_pos (of_decide_eq_true h)]), fun h => AV.int_inj' (by simp only [flr, if_neg (of_decide_eq_false h)])⟩
theorem walk42 {Phi : Nat → Option Ctr} (a b : Int) (hb : b ≠ 0) : evC Phi (noI) rc42 ⟨initS [.int .i64 a, .int .i64 b], initM false []⟩ (kRet rv42 (.int .i64 (dwn a b)) false []) := by
  simp only [rc42, initM_f, rv42, evC_seq, evC_region, eo_mov, evG_no, Option.getD_some, ev_mov, av_c, gv_int, bind1_some', un1_mov, goOp_some, put_q, evOps_nil, kEnd_at, hasG_no, hasG_nil, kEndB_f, kSeq_n, av_t, upd_at, Nat.reduceEqDiff, initS_at, List.getD_cons_zero, if_false, List.getD_cons_succ, eo_arith, ev_arith, if_true, bind2_some', arith_quo, arith_rem, eo_cmp, ev_cmp, cmp2_some, cmp_lss, toR_some', evC_cond, arith_sub, evC_ret, kRet_r, retOK_eq, retL_cons, retV_t, retL_nil, consO_some, lkR_one, lk1_int, lkT_f, List.nil_append, applyL_nil, retOK_f, rtO_some, resV_one, leV1_int, and_true, knowL_nil, askL_nil, evC_skip, ar_t, condK_bool, askL_cons]
  exact ⟨hb, hb, fun h => AV.int_inj' (by simp only [dwn, if_pos (of_decide_eq_true h)]), fun h => AV.int_inj' (by simp only [dwn, if_neg (of_decide_eq_false h)])⟩
end Go.Proofs.Ytofldhooanikcaa

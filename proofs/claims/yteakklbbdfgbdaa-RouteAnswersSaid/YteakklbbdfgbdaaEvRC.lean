/- A part of the proof: symbolic evaluation of the program's functions, proved sound against the model; no condition. -/
import Derived.Test.YteakklbbdfgbdaaEvRB
import Derived.Test.YteakklbbdfgbdaaEvRA
namespace Go.Proofs.Yteakklbbdfgbdaa
open Go Go.RowKit Go.Ev
set_option linter.unusedSimpArgs false
set_option linter.unusedVariables false
set_option maxRecDepth 20000
def Br.cs (b : Br) : List AV := [.int .u8 b.ad, .int .i64 b.l, .int .i64 b.r]
def Br.av (b : Br) : AV := .agg [.int .u8 b.ad, .int .i64 b.l, .int .i64 b.r]
theorem Br.eta (b : Br) : Br.mk b.ad b.l b.r = b := rfl
abbrev b0 : Br := ⟨0, 0, 0⟩
def brs (l : List Br) : List (List AV) := l.map Br.cs
def decBr (es : List (List AV)) : List Br := es.map fun e => match e with
  | [.int .u8 a, .int .i64 l, .int .i64 r] => ⟨a, l, r⟩
  | _ => b0
theorem decBr_brs (l : List Br) : decBr (brs l) = l := by
  simp only [decBr, brs, List.map_map]
  conv => rhs; rw [← List.map_id l]
  rfl
theorem brs_len (l : List Br) : (brs l).length = l.length := by simp [brs]
theorem brs_join (a b : List Br) : brs a ++ brs b = brs (a ++ b) := by simp [brs]
theorem brs_snoc (l : List Br) (a x y : Int) : brs l ++ [[AV.int .u8 a, .int .i64 x, .int .i64 y]] = brs (l ++ [⟨a, x, y⟩]) := by simp [brs, Br.cs]
theorem brs_take (l : List Br) (k : Nat) : (brs l).take k = brs (l.take k) := by simp [brs, List.map_take]
theorem getE_br' (l : List Br) (i : Nat) (h : i < l.length) : getE [.int .u8 0, .int .i64 0, .int .i64 0] (brs l) i = [.int .u8 (l.getD i b0).ad, .int .i64 (l.getD i b0).l, .int .i64 (l.getD i b0).r] := by
  simp only [getE, brs, List.getD_eq_getElem?_getD, List.getElem?_map, List.getElem?_eq_getElem h]
  rfl
theorem getE_br (l : List Br) (i : Nat) : getE [.int .u8 0, .int .i64 0, .int .i64 0] (brs l) i = [.int .u8 (l.getD i b0).ad, .int .i64 (l.getD i b0).l, .int .i64 (l.getD i b0).r] := by
  simp only [getE, brs, List.getD_eq_getElem?_getD, List.getElem?_map]
  cases l[i]? <;> rfl
structure Ep where
  id : Int
  ad : Int
  bu : Int
  deriving DecidableEq
def Ep.cs (e : Ep) : List AV := [.int .u8 e.id, .int .u8 e.ad, .int .i64 e.bu]
def Ep.av (e : Ep) : AV := .agg [.int .u8 e.id, .int .u8 e.ad, .int .i64 e.bu]
theorem Ep.eta (e : Ep) : Ep.mk e.id e.ad e.bu = e := rfl
abbrev e0 : Ep := ⟨0, 0, 0⟩
def eps (l : List Ep) : List (List AV) := l.map Ep.cs
def decEp (es : List (List AV)) : List Ep := es.map fun e => match e with
  | [.int .u8 a, .int .u8 l, .int .i64 r] => ⟨a, l, r⟩
  | _ => e0
theorem decEp_eps (l : List Ep) : decEp (eps l) = l := by
  simp only [decEp, eps, List.map_map]
  conv => rhs; rw [← List.map_id l]
  rfl
theorem eps_len (l : List Ep) : (eps l).length = l.length := by simp [eps]
theorem eps_join (a b : List Ep) : eps a ++ eps b = eps (a ++ b) := by simp [eps]
theorem eps_snoc (l : List Ep) (a x y : Int) : eps l ++ [[AV.int .u8 a, .int .u8 x, .int .i64 y]] = eps (l ++ [⟨a, x, y⟩]) := by simp [eps, Ep.cs]
theorem getE_ep (l : List Ep) (i : Nat) : getE [.int .u8 0, .int .u8 0, .int .i64 0] (eps l) i = [.int .u8 (l.getD i e0).id, .int .u8 (l.getD i e0).ad, .int .i64 (l.getD i e0).bu] := by
  simp only [getE, eps, List.getD_eq_getElem?_getD, List.getElem?_map]
  cases l[i]? <;> rfl
/-- A network. -/
structure Nt where
  N : Int
  bs : List Br
  es : List Ep
def Nt.av (n : Nt) : AV := .agg [.int .i64 n.N, .lst [.int .u8 0, .int .i64 0, .int .i64 0] (brs n.bs), .lst [.int .u8 0, .int .u8 0, .int .i64 0] (eps n.es)]
theorem Nt.eta (n : Nt) : Nt.mk n.N n.bs n.es = n := rfl
def sdV (b : Br) (x : Int) : Int := (sd b x).getD 0
def sdK (b : Br) (x : Int) : Bool := (sd b x).isSome
def far (d : Int) : Int := if d < 0 then 8 else if 7 < d then 40 else 0
def okA (a : Int) : Bool := decide (8 ≤ a) && decide (a ≤ 119)
def CSd : Ctr := .mk false fun _ xs => match xs with
  | [.agg [.int .u8 a, .int .i64 l, .int .i64 r], .int .i64 x] => some (True, .tup [.int .i64 (sdV ⟨a, l, r⟩ x), .bool (sdK ⟨a, l, r⟩ x)], [])
  | _ => none
def CFa : Ctr := .mk false fun _ xs => match xs with
  | [.int .i64 d] => some (True, .int .i64 (far d), [])
  | _ => none
def CAd : Ctr := .mk false fun _ xs => match xs with
  | [.int .u8 a] => some (True, .bool (okA a), [])
  | _ => none
/-- The first endpoint with an identifier. -/
def epF (es : List Ep) (id : Int) : Ep := (es.find? fun e => decide (e.id = id)).getD e0
def epK (es : List Ep) (id : Int) : Bool := es.any fun e => decide (e.id = id)
def CEp : Ctr := .mk false fun _ xs => match xs with
  | [.agg [.int .i64 n, .lst z1 e1, .lst z2 e2], .int .u8 id] => some ((z1 = [.int .u8 0, .int .i64 0, .int .i64 0] ∧ e1 = brs (decBr e1)) ∧ (z2 = [.int .u8 0, .int .u8 0, .int .i64 0] ∧ e2 = eps (decEp e2)) ∧ e2.length ≤ 1000, .tup [(epF (decEp e2) id).av, .bool (epK (decEp e2) id)], [])
  | _ => none
/-- Is an address taken? -/
def tk1 (x a : Int) (b : Br) : Bool := decide (b.ad = a) && (decide (b.l = x) || decide (b.r = x))
def tk (l : List Br) (x a : Int) : Bool := l.any (tk1 x a)
def CTk : Ctr := .mk false fun _ xs => match xs with
  | [.lst zz es, .int .i64 x, .int .u8 a] => some ((zz = [.int .u8 0, .int .i64 0, .int .i64 0] ∧ es = brs (decBr es)) ∧ es.length ≤ 1000, .bool (tk (decBr es) x a), [])
  | _ => none
theorem find_pre {α : Type} (p : α → Bool) : ∀ (l : List α) (i : Nat) (d : α), (∀ j, j < i → p (l.getD j d) = false) → i < l.length → p (l.getD i d) = true → l.find? p = some (l.getD i d)
  | [], i, d, _, h, _ => by simp at h
  | x :: l, 0, d, _, _, hp => by
    have hp : p x = true := hp
    simp [List.find?, hp]
  | x :: l, i + 1, d, h, hi, hp => by
    have h0 : p x = false := h 0 (by omega)
    have := find_pre p l i d (fun j hj => h (j + 1) (by omega)) (by simpa using hi) hp
    simp only [List.find?, h0]
    exact this
theorem any_pre {α : Type} (p : α → Bool) (l : List α) (i : Nat) (d : α) (hi : i < l.length) (hp : p (l.getD i d) = true) : l.any p = true := by
  rw [List.getD_eq_getElem?_getD, List.getElem?_eq_getElem hi] at hp
  exact List.any_eq_true.2 ⟨_, List.getElem_mem hi, hp⟩
theorem any_not {α : Type} (p : α → Bool) (l : List α) (d : α) (h : ∀ j, j < l.length → p (l.getD j d) = false) : l.any p = false := by
  rw [List.any_eq_false]
  intro x hx
  obtain ⟨j, hj, rfl⟩ := List.getElem_of_mem hx
  have := h j hj
  rw [List.getD_eq_getElem?_getD, List.getElem?_eq_getElem hj] at this
  simpa using this
theorem find_not {α : Type} (p : α → Bool) (l : List α) (d : α) (h : ∀ j, j < l.length → p (l.getD j d) = false) : l.find? p = none := by
  rw [List.find?_eq_none]
  intro x hx
  obtain ⟨j, hj, rfl⟩ := List.getElem_of_mem hx
  have := h j hj
  rw [List.getD_eq_getElem?_getD, List.getElem?_eq_getElem hj] at this
  simpa using this
/-- The first error of the bridges, of the endpoints, of a network. -/
def brE1 (N : Int) (pre : List Br) (b : Br) : Int := if b.l < 0 ∨ N ≤ b.l ∨ b.r < 0 ∨ N ≤ b.r then 2 else if b.l = b.r then 1 else if b.ad < 8 ∨ 119 < b.ad ∨ tk pre b.l b.ad = true ∨ tk pre b.r b.ad = true then 13 else 0
def brF (N : Int) (bs : List Br) : Nat → Nat → Int
  | 0, _ => 0
  | f + 1, i => if brE1 N (bs.take i) (bs.getD i b0) = 0 then brF N bs f (i + 1) else brE1 N (bs.take i) (bs.getD i b0)
def brE (N : Int) (bs : List Br) : Int := brF N bs bs.length 0
def pl1 (x y : Ep) : Bool := decide (y.bu = x.bu) && decide (y.ad = x.ad)
def epE1 (N : Int) (bs : List Br) (pre : List Ep) (x : Ep) : Int := if x.bu < 0 ∨ N ≤ x.bu then 2 else if x.ad < 8 ∨ 119 < x.ad ∨ tk bs x.bu x.ad = true ∨ pre.any (pl1 x) = true then 13 else if pre.any (fun y => decide (y.id = x.id)) = true then 7 else 0
def epE (N : Int) (bs : List Br) (es : List Ep) : Nat → Nat → Int
  | 0, _ => 0
  | f + 1, i => if epE1 N bs (es.take i) (es.getD i e0) = 0 then epE N bs es f (i + 1) else epE1 N bs (es.take i) (es.getD i e0)
def vl (n : Nt) : Int := if n.N < 1 ∨ 16 < n.N then 2 else if 16 < n.bs.length ∨ 32 < n.es.length then 3 else if brE n.N n.bs ≠ 0 then brE n.N n.bs else epE n.N n.bs n.es n.es.length 0
def CBr : Ctr := .mk false fun _ xs => match xs with
  | [.agg [.int .i64 n, .lst z1 e1, .lst z2 e2]] => some ((z1 = [.int .u8 0, .int .i64 0, .int .i64 0] ∧ e1 = brs (decBr e1)) ∧ (z2 = [.int .u8 0, .int .u8 0, .int .i64 0] ∧ e2 = eps (decEp e2)) ∧ e1.length ≤ 1000, .int .i64 (brE n (decBr e1)), [])
  | _ => none
def CVl : Ctr := .mk false fun _ xs => match xs with
  | [.agg [.int .i64 n, .lst z1 e1, .lst z2 e2]] => some ((z1 = [.int .u8 0, .int .i64 0, .int .i64 0] ∧ e1 = brs (decBr e1)) ∧ (z2 = [.int .u8 0, .int .u8 0, .int .i64 0] ∧ e2 = eps (decEp e2)), .int .i64 (vl ⟨n, decBr e1, decEp e2⟩), [])
  | _ => none
theorem brF_next {N : Int} {bs : List Br} {f i : Nat} (h : brE1 N (bs.take i) (bs.getD i b0) = 0) : brF N bs (f + 1) i = brF N bs f (i + 1) := by rw [brF, if_pos h]
theorem brF_stop {N : Int} {bs : List Br} {f i : Nat} {e : Int} (h : brE1 N (bs.take i) (bs.getD i b0) = e) (h0 : e ≠ 0) : brF N bs (f + 1) i = e := by rw [brF, h, if_neg h0]
theorem epE_next {N : Int} {bs : List Br} {es : List Ep} {f i : Nat} (h : epE1 N bs (es.take i) (es.getD i e0) = 0) : epE N bs es (f + 1) i = epE N bs es f (i + 1) := by rw [epE, if_pos h]
theorem epE_stop {N : Int} {bs : List Br} {es : List Ep} {f i : Nat} {e : Int} (h : epE1 N bs (es.take i) (es.getD i e0) = e) (h0 : e ≠ 0) : epE N bs es (f + 1) i = e := by rw [epE, h, if_neg h0]
theorem brE1_a {N : Int} {p : List Br} {b : Br} (h : b.l < 0 ∨ N ≤ b.l ∨ b.r < 0 ∨ N ≤ b.r) : brE1 N p b = 2 := if_pos h
theorem brE1_b {N : Int} {p : List Br} {b : Br} (h : ¬ (b.l < 0 ∨ N ≤ b.l ∨ b.r < 0 ∨ N ≤ b.r)) (h2 : b.l = b.r) : brE1 N p b = 1 := by rw [brE1, if_neg h, if_pos h2]
theorem brE1_c {N : Int} {p : List Br} {b : Br} (h : ¬ (b.l < 0 ∨ N ≤ b.l ∨ b.r < 0 ∨ N ≤ b.r)) (h2 : ¬ b.l = b.r) (h3 : b.ad < 8 ∨ 119 < b.ad ∨ tk p b.l b.ad = true ∨ tk p b.r b.ad = true) : brE1 N p b = 13 := by rw [brE1, if_neg h, if_neg h2, if_pos h3]
theorem brE1_0 {N : Int} {p : List Br} {b : Br} (h : ¬ (b.l < 0 ∨ N ≤ b.l ∨ b.r < 0 ∨ N ≤ b.r)) (h2 : ¬ b.l = b.r) (h3 : ¬ (b.ad < 8 ∨ 119 < b.ad ∨ tk p b.l b.ad = true ∨ tk p b.r b.ad = true)) : brE1 N p b = 0 := by rw [brE1, if_neg h, if_neg h2, if_neg h3]
theorem epE1_a {N : Int} {bs : List Br} {p : List Ep} {x : Ep} (h : x.bu < 0 ∨ N ≤ x.bu) : epE1 N bs p x = 2 := if_pos h
theorem epE1_b {N : Int} {bs : List Br} {p : List Ep} {x : Ep} (h : ¬ (x.bu < 0 ∨ N ≤ x.bu)) (h2 : x.ad < 8 ∨ 119 < x.ad ∨ tk bs x.bu x.ad = true ∨ p.any (pl1 x) = true) : epE1 N bs p x = 13 := by rw [epE1, if_neg h, if_pos h2]
theorem epE1_c {N : Int} {bs : List Br} {p : List Ep} {x : Ep} (h : ¬ (x.bu < 0 ∨ N ≤ x.bu)) (h2 : ¬ (x.ad < 8 ∨ 119 < x.ad ∨ tk bs x.bu x.ad = true ∨ p.any (pl1 x) = true)) (h3 : p.any (fun y => decide (y.id = x.id)) = true) : epE1 N bs p x = 7 := by rw [epE1, if_neg h, if_neg h2, if_pos h3]
theorem epE1_0 {N : Int} {bs : List Br} {p : List Ep} {x : Ep} (h : ¬ (x.bu < 0 ∨ N ≤ x.bu)) (h2 : ¬ (x.ad < 8 ∨ 119 < x.ad ∨ tk bs x.bu x.ad = true ∨ p.any (pl1 x) = true)) (h3 : p.any (fun y => decide (y.id = x.id)) = false) : epE1 N bs p x = 0 := by rw [epE1, if_neg h, if_neg h2, if_neg (by rw [h3]; decide)]
theorem any_take {α : Type} (p : α → Bool) (l : List α) (d : α) {k : Nat} (h : k < l.length) : (l.take (k + 1)).any p = ((l.take k).any p || p (l.getD k d)) := by
  rw [List.take_add_one, List.any_append, List.getD_eq_getElem?_getD, List.getElem?_eq_getElem h]
  simp
def bd0 (bs : List Br) (x : Ep) : Bool := decide (x.ad < 8) || decide (119 < x.ad) || tk bs x.bu x.ad
theorem take_getD {α : Type} (l : List α) (d : α) {k i : Nat} (h : k < i) : (l.take i).getD k d = l.getD k d := by
  simp [List.getD_eq_getElem?_getD, List.getElem?_take, h]
theorem bd_t {bs : List Br} {p : List Ep} {x : Ep} (h : (bd0 bs x || p.any (pl1 x)) = true) : x.ad < 8 ∨ 119 < x.ad ∨ tk bs x.bu x.ad = true ∨ p.any (pl1 x) = true := by
  simpa only [bd0, Bool.or_eq_true, decide_eq_true_eq, or_assoc] using h
theorem bd_f {bs : List Br} {p : List Ep} {x : Ep} (h : (bd0 bs x || p.any (pl1 x)) = false) : ¬ (x.ad < 8 ∨ 119 < x.ad ∨ tk bs x.bu x.ad = true ∨ p.any (pl1 x) = true) := by
  intro h2
  have : (bd0 bs x || p.any (pl1 x)) = true := by simpa only [bd0, Bool.or_eq_true, decide_eq_true_eq, or_assoc] using h2
  rw [h] at this; cases this
def CFr : Ctr := .mk false fun _ xs => match xs with
  | [.agg [.int .i64 n, .lst z1 e1, .lst z2 e2], .int .i64 x] => some ((z1 = [.int .u8 0, .int .i64 0, .int .i64 0] ∧ e1 = brs (decBr e1)) ∧ (z2 = [.int .u8 0, .int .u8 0, .int .i64 0] ∧ e2 = eps (decEp e2)) ∧ e1.length ≤ 1000 ∧ Vd n.toNat (decBr e1) ∧ (0 ≤ n ∧ n ≤ 16) ∧ In n.toNat x, .lst [.int .i64 0] (i64s (ds n.toNat (decBr e1) x)), [])
  | _ => none
theorem sd_of {b : Br} {x : Int} (h : sdK b x = true) : sd b x = some (sdV b x) := by
  unfold sdK at h; unfold sdV
  cases e : sd b x with
  | none => rw [e] at h; cases h
  | some v => rfl
theorem sd_not {b : Br} {x : Int} (h : sdK b x = false) : sd b x = none := by
  unfold sdK at h
  cases e : sd b x with
  | none => rfl
  | some v => rw [e] at h; cases h
theorem i64s_set (l : List Int) (i : Nat) (v : Int) : (i64s l).set i [.int .i64 v] = i64s (l.set i v) := by simp [i64s, List.map_set]
theorem rep_set {i n : Nat} (h : i < n) : (List.replicate i (-1) ++ List.replicate (n - i) 0 : List Int).set i (-1) = List.replicate (i + 1) (-1) ++ List.replicate (n - (i + 1)) 0 := by
  rw [List.set_append_right _ _ (by simp), List.length_replicate, Nat.sub_self, show n - i = (n - (i + 1)) + 1 by omega, List.replicate_succ, List.set_cons_zero, List.replicate_succ', List.append_assoc]
  rfl
theorem drop_cons (l : List Int) {i : Nat} (h : i < l.length) : l.drop i = l.getD i 0 :: l.drop (i + 1) := by
  rw [List.drop_eq_getElem_cons h, List.getD_eq_getElem?_getD, List.getElem?_eq_getElem h]; rfl
theorem getD_app (l k : List Int) {i : Nat} (h : i < l.length) : (l ++ k).getD i 0 = l.getD i 0 := by
  rw [List.getD_eq_getElem?_getD, List.getD_eq_getElem?_getD, List.getElem?_append_left h]
theorem br_mem {l : List Br} {k : Nat} (h : k < l.length) : l.getD k b0 ∈ l := by
  rw [List.getD_eq_getElem?_getD, List.getElem?_eq_getElem h]; exact List.getElem_mem h
theorem mem_take_succ {l : List Br} {k : Nat} (h : k < l.length) {b : Br} (hb : b ∈ l.take (k + 1)) : b ∈ l.take k ∨ b = l.getD k b0 := by
  rw [List.take_add_one, List.mem_append] at hb
  rcases hb with hb | hb
  · exact .inl hb
  · rw [List.getElem?_eq_getElem h] at hb
    rw [List.getD_eq_getElem?_getD, List.getElem?_eq_getElem h]
    exact .inr (by simpa using hb)
theorem Bf.eq_ds {N : Nat} {bs : List Br} {x : Int} {o : List Int} (hv : Vd N bs) (hx : In N x) (B : Bf N bs x o []) : o = ds N bs x := by
  have D := ds_ok hv hx
  refine List.ext_getElem (by rw [B.len, D.len]) fun i h1 h2 => ?_
  have hi : In N (i : Int) := ⟨by omega, by rw [B.len] at h1; omega⟩
  have := (B.isD hv hi).uniq (D.isD hv hi)
  simpa [nat, List.getD_eq_getElem?_getD, List.getElem?_eq_getElem h1, List.getElem?_eq_getElem h2] using this
theorem brF_0 {N : Int} {bs : List Br} : ∀ (f i : Nat), brF N bs f i = 0 → ∀ j, i ≤ j → j < i + f → brE1 N (bs.take j) (bs.getD j b0) = 0
  | 0, i, _, j, h1, h2 => by omega
  | f + 1, i, h, j, h1, h2 => by
    by_cases e : brE1 N (bs.take i) (bs.getD i b0) = 0
    · rw [brF_next e] at h
      by_cases ej : j = i
      · subst ej; exact e
      · exact brF_0 f (i + 1) h j (by omega) (by omega)
    · rw [brF_stop rfl e] at h; exact absurd h e
theorem epE_0 {N : Int} {bs : List Br} {es : List Ep} : ∀ (f i : Nat), epE N bs es f i = 0 → ∀ j, i ≤ j → j < i + f → epE1 N bs (es.take j) (es.getD j e0) = 0
  | 0, i, _, j, h1, h2 => by omega
  | f + 1, i, h, j, h1, h2 => by
    by_cases e : epE1 N bs (es.take i) (es.getD i e0) = 0
    · rw [epE_next e] at h
      by_cases ej : j = i
      · subst ej; exact e
      · exact epE_0 f (i + 1) h j (by omega) (by omega)
    · rw [epE_stop rfl e] at h; exact absurd h e
theorem brE1_in {N : Int} {p : List Br} {b : Br} (h : brE1 N p b = 0) : (0 ≤ b.l ∧ b.l < N) ∧ (0 ≤ b.r ∧ b.r < N) := by
  by_cases c : b.l < 0 ∨ N ≤ b.l ∨ b.r < 0 ∨ N ≤ b.r
  · rw [brE1_a c] at h; cases h
  · omega
theorem epE1_in {N : Int} {bs : List Br} {p : List Ep} {x : Ep} (h : epE1 N bs p x = 0) : (0 ≤ x.bu ∧ x.bu < N) ∧ p.any (fun y => decide (y.id = x.id)) = false := by
  by_cases c : x.bu < 0 ∨ N ≤ x.bu
  · rw [epE1_a c] at h; cases h
  · refine ⟨by omega, ?_⟩
    cases e : p.any (fun y => decide (y.id = x.id)) with
    | false => rfl
    | true =>
      by_cases c2 : x.ad < 8 ∨ 119 < x.ad ∨ tk bs x.bu x.ad = true ∨ p.any (pl1 x) = true
      · rw [epE1_b c c2] at h; cases h
      · rw [epE1_c c c2 e] at h; cases h
/-- What a valid network is. -/
structure Ok (n : Nt) : Prop where
  N : 1 ≤ n.N ∧ n.N ≤ 16
  b : n.bs.length ≤ 16
  e : n.es.length ≤ 32
  v : Vd n.N.toNat n.bs
  x : ∀ e ∈ n.es, In n.N.toNat e.bu
  u : ∀ i j, i < j → j < n.es.length → (n.es.getD i e0).id ≠ (n.es.getD j e0).id
theorem vl_ok {n : Nt} (h : vl n = 0) : Ok n := by
  unfold vl at h
  split at h
  · cases h
  · rename_i h1
    split at h
    · cases h
    · rename_i h2
      split at h
      · rename_i h3; exact absurd h h3
      · rename_i h3
        have h3 : brE n.N n.bs = 0 := by simpa using h3
        have hB := fun j (hj : j < n.bs.length) => brE1_in (brF_0 _ _ h3 j (Nat.zero_le _) (by omega))
        have hE := fun j (hj : j < n.es.length) => epE1_in (epE_0 _ _ h j (Nat.zero_le _) (by omega))
        have hN : (n.N.toNat : Int) = n.N := by omega
        refine ⟨by omega, by omega, by omega, fun b hb => ?_, fun e he => ?_, fun i j hij hj e => ?_⟩
        · obtain ⟨j, hj, rfl⟩ := List.getElem_of_mem hb
          have := hB j hj
          rw [List.getD_eq_getElem?_getD, List.getElem?_eq_getElem hj] at this
          have t : (some n.bs[j]).getD b0 = n.bs[j] := rfl
          rw [t] at this
          unfold In
          rw [hN]; exact this
        · obtain ⟨j, hj, rfl⟩ := List.getElem_of_mem he
          have := (hE j hj).1
          rw [List.getD_eq_getElem?_getD, List.getElem?_eq_getElem hj] at this
          have t : (some n.es[j]).getD e0 = n.es[j] := rfl
          rw [t] at this
          unfold In
          rw [hN]; exact this
        · have := any_pre (fun y : Ep => decide (y.id = (n.es.getD j e0).id)) (n.es.take j) i e0 (by rw [List.length_take]; omega) (by rw [take_getD n.es e0 hij]; exact decide_eq_true e)
          rw [(hE j hj).2] at this; cases this
/-- The distance of two buses in a network, and its error. -/
def dsE (n : Nt) (a b : Int) : Int := if vl n ≠ 0 then vl n else if a < 0 ∨ n.N ≤ a ∨ b < 0 ∨ n.N ≤ b then 2 else far (nat (ds n.N.toNat n.bs a) b)
def dsV (n : Nt) (a b : Int) : Int := if dsE n a b = 0 then nat (ds n.N.toNat n.bs a) b else 0
def CDi : Ctr := .mk false fun _ xs => match xs with
  | [.agg [.int .i64 n, .lst z1 e1, .lst z2 e2], .int .i64 a, .int .i64 b] => some ((z1 = [.int .u8 0, .int .i64 0, .int .i64 0] ∧ e1 = brs (decBr e1)) ∧ (z2 = [.int .u8 0, .int .u8 0, .int .i64 0] ∧ e2 = eps (decEp e2)), .tup [.int .i64 (dsV ⟨n, decBr e1, decEp e2⟩ a b), .int .i64 (dsE ⟨n, decBr e1, decEp e2⟩ a b)], [])
  | _ => none
/-- The next bridge of a way. -/
def hopP (o : List Int) (u : Int) (b : Br) : Bool := sdK b u && decide (nat o (sdV b u) = nat o u - 1)
def hop (bs : List Br) (o : List Int) (u : Int) : Nat := bs.findIdx (hopP o u)
theorem hop_ex {N : Nat} {bs : List Br} (hv : Vd N bs) {t u : Int} (ht : In N t) (hu : In N u) (h0 : 0 < nat (ds N bs t) u) : ∃ b ∈ bs, hopP (ds N bs t) u b = true := by
  rcases ds_isD hv ht hu with ⟨h1, _⟩ | ⟨k, h1, h2, h3⟩
  · omega
  · cases h2 with
    | refl => omega
    | @step k' _ y _ hw a =>
      obtain ⟨b, hb, hs⟩ := a.symm
      have hy := sd_in hv hb hs
      refine ⟨b, hb, ?_⟩
      have hd : nat (ds N bs t) y = k' := by
        rcases ds_isD hv ht hy with ⟨_, g2⟩ | ⟨j, g1, g2, g3⟩
        · exact absurd hw (g2 k')
        · have e1 := g3 k' hw
          have e2 := h3 (j + 1) (.step g2 a)
          omega
      have e1 : sdK b u = true := by rw [sdK, hs]; rfl
      have e2 : sdV b u = y := by rw [sdV, hs]; rfl
      rw [hopP, e1, e2, hd, h1, Bool.true_and]
      exact decide_eq_true (by omega)
theorem idx_pre {α : Type} (p : α → Bool) : ∀ (l : List α) (i : Nat) (d : α), (∀ j, j < i → p (l.getD j d) = false) → i < l.length → p (l.getD i d) = true → l.findIdx p = i
  | [], i, d, _, h, _ => by simp at h
  | x :: l, 0, d, _, _, hp => by
    have hp : p x = true := hp
    simp [List.findIdx_cons, hp]
  | x :: l, i + 1, d, h, hi, hp => by
    have h0 : p x = false := h 0 (by omega)
    have := idx_pre p l i d (fun j hj => h (j + 1) (by omega)) (by simpa using hi) hp
    simp [List.findIdx_cons, h0, this]
def nxO (m : Nt) (id : Int) : List Int := ds m.N.toNat m.bs (epF m.es id).bu
def nxE (m : Nt) (u id : Int) : Int := if vl m ≠ 0 then vl m else if u < 0 ∨ m.N ≤ u then 2 else if epK m.es id = false then 13 else far (nat (nxO m id) u)
def nxI (m : Nt) (u id : Int) : Int := if nxE m u id ≠ 0 then 0 else if nat (nxO m id) u = 0 then -1 else hop m.bs (nxO m id) u
def nxA (m : Nt) (u id : Int) : Int := if nxE m u id ≠ 0 then 0 else if nat (nxO m id) u = 0 then (epF m.es id).ad else (m.bs.getD (hop m.bs (nxO m id) u) b0).ad
def CNx : Ctr := .mk false fun _ xs => match xs with
  | [.agg [.int .i64 n, .lst z1 e1, .lst z2 e2], .int .i64 u, .int .u8 id] => some ((z1 = [.int .u8 0, .int .i64 0, .int .i64 0] ∧ e1 = brs (decBr e1)) ∧ (z2 = [.int .u8 0, .int .u8 0, .int .i64 0] ∧ e2 = eps (decEp e2)), .tup [.int .u8 (nxA ⟨n, decBr e1, decEp e2⟩ u id), .int .i64 (nxI ⟨n, decBr e1, decEp e2⟩ u id), .int .i64 (nxE ⟨n, decBr e1, decEp e2⟩ u id)], [])
  | _ => none
theorem epF_mem {es : List Ep} {id : Int} (h : epK es id = true) : epF es id ∈ es := by
  unfold epK at h
  unfold epF
  cases e : es.find? (fun e => decide (e.id = id)) with
  | none =>
    rw [List.find?_eq_none] at e
    obtain ⟨y, hy, hp⟩ := List.any_eq_true.1 h
    exact absurd hp (e y hy)
  | some y => exact List.mem_of_find?_eq_some e
theorem ep_eq {m : Nt} (O : Ok m) {id : Int} {x : Nat} (hx : x < m.es.length) (h : decide ((m.es.getD x e0).id = id) = true) : m.es.getD x e0 = epF m.es id ∧ epK m.es id = true := by
  have hn : ∀ j, j < x → (fun e : Ep => decide (e.id = id)) (m.es.getD j e0) = false := fun j hj => by
    refine decide_eq_false fun e => O.u j x hj hx ?_
    rw [e, of_decide_eq_true h]
  have e := find_pre (fun e : Ep => decide (e.id = id)) m.es x e0 hn hx h
  have k := any_pre (fun e : Ep => decide (e.id = id)) m.es x e0 hx h
  rw [epF, e, epK, k]; exact ⟨rfl, rfl⟩
/-- One bridge of a way, and the way. -/
def stp (m : Nt) (id u : Int) : Int := sdV (m.bs.getD (hop m.bs (nxO m id) u) b0) u
def way (m : Nt) (id : Int) : Nat → Int → List Int
  | 0, _ => []
  | k + 1, u => (hop m.bs (nxO m id) u : Int) :: way m id k (stp m id u)
def ptL (m : Nt) (u id : Int) : List Int := if nxE m u id ≠ 0 then [] else way m id (nat (nxO m id) u).toNat u
theorem nx_0 {m : Nt} {u id : Int} (h : nxE m u id = 0) : Ok m ∧ In m.N.toNat u ∧ epK m.es id = true ∧ In m.N.toNat (epF m.es id).bu ∧ 0 ≤ nat (nxO m id) u ∧ nat (nxO m id) u ≤ 7 := by
  unfold nxE at h
  split at h
  · rename_i h1; exact absurd h h1
  · rename_i h1
    have h1 : vl m = 0 := by simpa using h1
    have O := vl_ok h1
    have oN := O.N
    split at h
    · cases h
    · rename_i h2
      split at h
      · cases h
      · rename_i h3
        have k : epK m.es id = true := by simpa using h3
        refine ⟨O, ⟨by omega, by omega⟩, k, O.x _ (epF_mem k), ?_⟩
        unfold far at h
        split at h
        · cases h
        · split at h
          · cases h
          · omega
theorem nx_s {m : Nt} {u id : Int} (h : nxE m u id = 0) (h0 : nat (nxO m id) u ≠ 0) : hop m.bs (nxO m id) u < m.bs.length ∧ sdK (m.bs.getD (hop m.bs (nxO m id) u) b0) u = true ∧ nat (nxO m id) (stp m id u) = nat (nxO m id) u - 1 ∧ nxE m (stp m id u) id = 0 := by
  obtain ⟨O, hu, k, ht, h1, h2⟩ := nx_0 h
  have hx := hop_ex O.v ht hu (show 0 < nat (nxO m id) u by omega)
  have hlt : hop m.bs (nxO m id) u < m.bs.length := List.findIdx_lt_length_of_exists (by obtain ⟨b, hb, hp⟩ := hx; exact ⟨b, hb, hp⟩)
  have hp : hopP (nxO m id) u (m.bs.getD (hop m.bs (nxO m id) u) b0) = true := by
    have := List.findIdx_getElem (w := hlt) (p := hopP (nxO m id) u) (xs := m.bs)
    rw [List.getD_eq_getElem?_getD, List.getElem?_eq_getElem hlt]
    exact this
  rw [hopP, Bool.and_eq_true] at hp
  have hK := hp.1
  have hD : nat (nxO m id) (stp m id u) = nat (nxO m id) u - 1 := of_decide_eq_true hp.2
  have hv := sd_in O.v (br_mem hlt) (sd_of hK)
  refine ⟨hlt, hK, hD, ?_⟩
  have hv1 := hv.1
  have hv2 := hv.2
  have oN := O.N
  have hvl : vl m = 0 := by
    unfold nxE at h
    split at h
    · rename_i c; exact absurd h c
    · rename_i c; simpa using c
  rw [nxE, if_neg (by rw [hvl]; simp), if_neg (by show ¬ (stp m id u < 0 ∨ m.N ≤ stp m id u); unfold stp; omega), if_neg (by rw [k]; decide), hD, far, if_neg (by omega), if_neg (by omega)]
theorem nxI_0 {m : Nt} {u id : Int} (h : nxE m u id = 0) : nxI m u id = if nat (nxO m id) u = 0 then (-1 : Int) else (hop m.bs (nxO m id) u : Int) := by rw [nxI, if_neg (by rw [h]; simp)]
def CPt : Ctr := .mk false fun _ xs => match xs with
  | [.agg [.int .i64 n, .lst z1 e1, .lst z2 e2], .int .i64 u, .int .u8 id] => some ((z1 = [.int .u8 0, .int .i64 0, .int .i64 0] ∧ e1 = brs (decBr e1)) ∧ (z2 = [.int .u8 0, .int .u8 0, .int .i64 0] ∧ e2 = eps (decEp e2)), .tup [.lst [.int .i64 0] (i64s (ptL ⟨n, decBr e1, decEp e2⟩ u id)), .int .i64 (nxE ⟨n, decBr e1, decEp e2⟩ u id)], [])
  | _ => none
end Go.Proofs.Yteakklbbdfgbdaa

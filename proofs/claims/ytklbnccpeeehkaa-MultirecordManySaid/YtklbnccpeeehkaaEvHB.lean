/- A part of the proof: symbolic evaluation of the program's functions, proved sound against the model; no condition. -/
import Derived.Test.YtklbnccpeeehkaaEvHA
namespace Go.Proofs.Ytklbnccpeeehkaa
open Go Go.RowKit Go.Ev
set_option linter.unusedSimpArgs false
set_option linter.unusedVariables false
set_option maxRecDepth 20000
/-- A record. -/
structure Rc where
  ty : Int
  d : List Int
  deriving DecidableEq
def Rc.cs (r : Rc) : List AV := [.int .u8 r.ty, .lst [.int .u8 0] (u8s r.d)]
def Rc.av (r : Rc) : AV := .agg [.int .u8 r.ty, .lst [.int .u8 0] (u8s r.d)]
theorem Rc.eta (r : Rc) : Rc.mk r.ty r.d = r := rfl
abbrev r0 : Rc := ⟨0, []⟩
def recs (l : List Rc) : List (List AV) := l.map Rc.cs
def decR (es : List (List AV)) : List Rc := es.map fun e => match e with
  | [.int _ n, .lst _ ds] => ⟨n, decU ds⟩
  | _ => r0
theorem decR_recs (l : List Rc) : decR (recs l) = l := by
  simp only [decR, recs, List.map_map]
  refine (List.map_congr_left fun r _ => ?_).trans (List.map_id l)
  simp only [Function.comp, Rc.cs, decU_u8s]
  rfl
theorem recs_len (l : List Rc) : (recs l).length = l.length := by simp [recs]
theorem recs_nil : recs [] = [] := by rfl
theorem recs_join (a b : List Rc) : recs a ++ recs b = recs (a ++ b) := by simp [recs]
theorem recs_one (t : Int) (d : List Int) : [[AV.int .u8 t, .lst [.int .u8 0] (u8s d)]] = recs [⟨t, d⟩] := by rfl
theorem recs_snoc (l : List Rc) (t : Int) (d : List Int) : recs l ++ [[AV.int .u8 t, .lst [.int .u8 0] (u8s d)]] = recs (l ++ [⟨t, d⟩]) := by simp [recs, Rc.cs]
theorem recs_set (l : List Rc) (i : Nat) (t : Int) (d : List Int) : (recs l).set i [AV.int .u8 t, .lst [.int .u8 0] (u8s d)] = recs (l.set i ⟨t, d⟩) := by simp [recs, List.map_set, Rc.cs]
theorem u8s_rep (n : Nat) : List.replicate n [AV.int .u8 0] = u8s (List.replicate n 0) := by simp [u8s]
theorem getE_rec' (l : List Rc) (i : Nat) (h : i < l.length) : getE [.int .u8 0, .nil] (recs l) i = [.int .u8 (l.getD i r0).ty, .lst [.int .u8 0] (u8s (l.getD i r0).d)] := by
  simp only [getE, recs, List.getD_eq_getElem?_getD, List.getElem?_map, List.getElem?_eq_getElem h]
  rfl
theorem getE_rec (l : List Rc) (i : Nat) (h : decide ((i : Int) < (l.length : Int)) = true) : getE [.int .u8 0, .nil] (recs l) i = [.int .u8 (l.getD i r0).ty, .lst [.int .u8 0] (u8s (l.getD i r0).d)] :=
  getE_rec' l i (by have := of_decide_eq_true h; omega)
theorem recs_inj {a b : List Rc} (h : recs a = recs b) : a = b := by rw [← decR_recs a, h, decR_recs]
/-- Valid lists. -/
def szR : List Rc → Int
  | [] => 0
  | r :: l => 5 + r.d.length + szR l
def vlR (l : List Rc) : Bool := decide (l.length ≤ 16) && (l.all (fun r => decide (r.d.length ≤ 255)) && decide (szR l ≤ 2048))
theorem szR_app : ∀ (a b : List Rc), szR (a ++ b) = szR a + szR b
  | [], b => by simp [szR]
  | r :: a, b => by simp only [List.cons_append, szR, szR_app a b]; omega
theorem szR_one (r : Rc) : szR [r] = 5 + r.d.length := by simp [szR]
theorem szR_nn : ∀ l : List Rc, 0 ≤ szR l
  | [] => by simp [szR]
  | r :: l => by have := szR_nn l; simp only [szR]; omega
def CVl : Ctr := .mk false fun _ xs => match xs with
  | [.lst zz es] => some (zz = [.int .u8 0, .nil] ∧ es = recs (decR es), .bool (vlR (decR es)), [])
  | _ => none
def lgR (l : List Rc) : Bool := decide (l.length ≤ 40) && l.all (fun r => decide (r.d.length ≤ 400))
def CLg : Ctr := .mk false fun _ xs => match xs with
  | [.lst zz es] => some (zz = [.int .u8 0, .nil] ∧ es = recs (decR es), .bool (lgR (decR es)), [])
  | _ => none
def CCl : Ctr := .mk false fun _ xs => match xs with
  | [.lst zz es] => some ((zz = [.int .u8 0] ∧ es = u8s (decU es)) ∧ es.length ≤ 100000, .lst [.int .u8 0] (u8s (decU es)), [])
  | _ => none
def CCp : Ctr := .mk false fun _ xs => match xs with
  | [.lst zz es] => some (((zz = [.int .u8 0, .nil] ∧ es = recs (decR es)) ∧ ∀ r ∈ decR es, r.d.length ≤ 1000) ∧ es.length ≤ 1000, .lst [.int .u8 0, .nil] (recs (decR es)), [])
  | _ => none
def CSb : Ctr := .mk false fun _ xs => match xs with
  | [.lst z1 e1, .lst z2 e2] => some ((z1 = [.int .u8 0] ∧ e1 = u8s (decU e1)) ∧ (z2 = [.int .u8 0] ∧ e2 = u8s (decU e2)), .bool (decide (decU e1 = decU e2)), [])
  | [.lst z1 e1, .nil] => some (z1 = [.int .u8 0] ∧ e1 = u8s (decU e1), .bool (decide (decU e1 = [])), [])
  | _ => none
def CSm : Ctr := .mk false fun _ xs => match xs with
  | [.lst z1 e1, .lst z2 e2] => some ((z1 = [.int .u8 0, .nil] ∧ e1 = recs (decR e1)) ∧ (z2 = [.int .u8 0, .nil] ∧ e2 = recs (decR e2)), .bool (decide (decR e1 = decR e2)), [])
  | _ => none
/-- The first place of a type. -/
def fdN (l : List Rc) (k : Int) : Nat → Nat → Int
  | 0, _ => -1
  | n + 1, i => if (l.getD i r0).ty = k then i else fdN l k n (i + 1)
def fdI (l : List Rc) (k a : Int) : Int := fdN l k (l.length - a.toNat) a.toNat
def CFi : Ctr := .mk false fun _ xs => match xs with
  | [.lst zz es, .int .u8 k, .int .i64 a] => some ((zz = [.int .u8 0, .nil] ∧ es = recs (decR es)) ∧ es.length ≤ 1000, .int .i64 (fdI (decR es) k a), [])
  | _ => none
/-- One record replaced. -/
def rpX (l : List Rc) (i : Int) (r : Rc) : List Rc := if i = l.length then l ++ [r] else l.set i.toNat r
def rpE (l : List Rc) (i : Int) (r : Rc) : Int := if i < 0 ∨ i > l.length then 2 else if vlR (rpX l i r) then 0 else 1
def rpL (l : List Rc) (i : Int) (r : Rc) : List Rc := if rpE l i r = 0 then rpX l i r else []
def CRp : Ctr := .mk false fun _ xs => match xs with
  | [.lst zz es, .int .i64 i, .agg [.int .u8 t, .lst z2 ds]] => some ((((zz = [.int .u8 0, .nil] ∧ es = recs (decR es)) ∧ (z2 = [.int .u8 0] ∧ ds = u8s (decU ds))) ∧ (∀ r ∈ decR es, r.d.length ≤ 1000)) ∧ es.length ≤ 1000 ∧ ds.length ≤ 1000, .tup [.lst [.int .u8 0, .nil] (recs (rpL (decR es) i ⟨t, decU ds⟩)), .int .i64 (rpE (decR es) i ⟨t, decU ds⟩)], [])
  | _ => none
/-- The checksum. -/
def m8 (l : List Int) : Int := l.foldl (fun a c => IntKind.u8.wrap (a + c)) 0
def c8 (l : List Int) : Int := IntKind.u8.wrap (-(m8 l))
def CSu : Ctr := .mk false fun _ xs => match xs with
  | [.lst zz es] => some ((zz = [.int .u8 0] ∧ es = u8s (decU es)) ∧ es.length ≤ 100000, .int .u8 (c8 (decU es)), [])
  | _ => none
def CSe : Ctr := .mk false fun _ xs => match xs with
  | [.lst zz es] => some ((zz = [.int .u8 0] ∧ es = u8s (decU es)) ∧ es.length ≤ 99999, .lst [.int .u8 0] (u8s (decU es ++ [c8 (decU es)])), [])
  | _ => none
def modI (n m : Int) : Int := if n.tmod m < 0 then W (n.tmod m + m) else n.tmod m
def CMd : Ctr := .mk false fun _ xs => match xs with
  | [.int .i64 n, .int .i64 m] => some (m ≠ 0, .int .i64 (modI n m), [])
  | _ => none
theorem modI_bd {n m : Int} (h : 1 ≤ m) (h2 : m ≤ 4611686018427387904) : 0 ≤ modI n m ∧ modI n m < m := by
  have h3 : -m < n.tmod m := by
    have := Int.tmod_lt_of_pos (-n) (show 0 < m by omega)
    rw [Int.neg_tmod] at this; omega
  have h4 := Int.tmod_lt_of_pos n (show 0 < m by omega)
  simp only [modI]
  split
  · rw [show W (n.tmod m + m) = n.tmod m + m from wr_in _ (by omega) (by omega)]; omega
  · omega
/-- The dice: the next value, the next place. -/
def dxV (L : List Int) (a n : Int) : Int := if a < (L.length : Int) then modI (L.getD a.toNat 0) n else 0
def dxA (L : List Int) (a : Int) : Int := if a < (L.length : Int) then a + 1 else a
def CDl : Ctr := .mk false fun _ xs => match xs with
  | [.lst zz es] => some (zz = [.int .i64 0] ∧ es = i64s (decU es), .bool (decide (((decU es).length : Int) ≤ 600)), [])
  | _ => none
def CRl : Ctr := .ext false Unit fun _ xs => match xs with
  | [.lst zz es] => some (zz = [.int .i64 0] ∧ es = i64s (decU es), fun _ => (True, .fp 0 [.lst [.int .i64 0] (i64s (decU es)), .int .i64 0], []))
  | _ => none
def CDx : Ctr := .mk true fun cs xs => match cs, xs with
  | [.lst zz es, .int .i64 a], [.int .i64 n] => some ((zz = [.int .i64 0] ∧ es = i64s (decU es)) ∧ 0 ≤ a ∧ n ≠ 0, .int .i64 (dxV (decU es) a n), [.lst zz es, .int .i64 (dxA (decU es) a)])
  | _, _ => none
def CDb : Ctr := .mk true fun cs xs => match cs, xs with
  | [.lst zz es, .int .i64 a], [.int .i64 n] => some ((zz = [.int .i64 0] ∧ es = i64s (decU es)) ∧ 0 ≤ a ∧ n ≠ 0, .bool (decide (dxV (decU es) a n = W (n - 1))), [.lst zz es, .int .i64 (dxA (decU es) a)])
  | _, _ => none
theorem dxA_nn {L : List Int} {a : Int} (h : 0 ≤ a) : 0 ≤ dxA L a := by simp only [dxA]; split <;> omega
theorem dx_bd {L : List Int} {a m : Int} (h : 1 ≤ m) (h2 : m ≤ 4611686018427387904) : 0 ≤ dxV L a m ∧ dxV L a m < m := by
  simp only [dxV]; split
  · exact modI_bd h h2
  · omega
def dyV (L : List Int) (a : Int) : Int := if dxV L a 3 = 2 then ([0, 1, 127, 128, 254, 255, 15, 240] : List Int).getD (sel 8 (dxV L (dxA L a) 8)) 0 else IntKind.u8.wrap (dxV L (dxA L a) 256)
def dyA (L : List Int) (a : Int) : Int := dxA L (dxA L a)
def CDy : Ctr := .mk true fun cs xs => match cs, xs with
  | [.lst zz es, .int .i64 a], [] => some ((zz = [.int .i64 0] ∧ es = i64s (decU es)) ∧ 0 ≤ a, .int .u8 (dyV (decU es) a), [.lst zz es, .int .i64 (dyA (decU es) a)])
  | _, _ => none
theorem dyA_nn {L : List Int} {a : Int} (h : 0 ≤ a) : 0 ≤ dyA L a := dxA_nn (dxA_nn h)
/-- Drawn bytes, drawn records: any, of a bounded length. -/
def CDB : Ctr := .ext true (List Int × Int) fun cs xs => match cs, xs with
  | [.lst zz es, .int .i64 a], [.int .i64 n] => some ((zz = [.int .i64 0] ∧ es = i64s (decU es)) ∧ 0 ≤ a ∧ 0 ≤ n ∧ n ≤ 1000, fun q => (q.1.length ≤ n ∧ 0 ≤ q.2, .lst [.int .u8 0] (u8s q.1), [.lst [.int .i64 0] (i64s (decU es)), .int .i64 q.2]))
  | _, _ => none
def CDR : Ctr := .ext true (List Rc × Int) fun cs xs => match cs, xs with
  | [.lst zz es, .int .i64 a], [.int .i64 n] => some ((zz = [.int .i64 0] ∧ es = i64s (decU es)) ∧ 0 ≤ a ∧ 0 ≤ n ∧ n ≤ 100, fun q => (q.1.length ≤ n ∧ (∀ r ∈ q.1, r.d.length ≤ 1000) ∧ 0 ≤ q.2, .lst [.int .u8 0, .nil] (recs q.1), [.lst [.int .i64 0] (i64s (decU es)), .int .i64 q.2]))
  | _, _ => none
theorem getD_mem (l : List Rc) (i : Nat) (h : i < l.length) : l.getD i r0 ∈ l := by
  rw [List.getD_eq_getElem?_getD, List.getElem?_eq_getElem h]; exact List.getElem_mem h
theorem take_all {l : List Rc} {i n : Nat} (h : i < l.length) (hb : ∀ r ∈ l.take i, r.d.length ≤ n) (h2 : (l.getD i r0).d.length ≤ n) : ∀ r ∈ l.take (i + 1), r.d.length ≤ n := by
  rw [take_snoc l r0 i h]
  intro r hr
  rcases List.mem_append.1 hr with h | h
  · exact hb r h
  · rw [List.mem_singleton.1 h]; exact h2
theorem szR_take {l : List Rc} {i : Nat} (h : i < l.length) : szR (l.take (i + 1)) = szR (l.take i) + (5 + (l.getD i r0).d.length) := by
  rw [take_snoc l r0 i h, szR_app, szR_one]
theorem vlR_len {l : List Rc} (h : 16 < l.length) : vlR l = false := by
  simp only [vlR]; rw [decide_eq_false (by omega)]; rfl
theorem vlR_no {l : List Rc} {r : Rc} (h : r ∈ l) (h2 : 255 < r.d.length) : vlR l = false := by
  have : l.all (fun r => decide (r.d.length ≤ 255)) = false := by
    rw [Bool.eq_false_iff]; intro h3
    have := of_decide_eq_true (List.all_eq_true.1 h3 r h)
    omega
  simp only [vlR]; rw [this, Bool.false_and, Bool.and_false]
theorem vlR_yes {l : List Rc} (h : l.length ≤ 16) (h2 : ∀ r ∈ l, r.d.length ≤ 255) : vlR l = decide (szR l ≤ 2048) := by
  have : l.all (fun r => decide (r.d.length ≤ 255)) = true := List.all_eq_true.2 fun r hr => decide_eq_true (h2 r hr)
  simp only [vlR]; rw [this, decide_eq_true h, Bool.true_and, Bool.true_and]
theorem lgR_no {l : List Rc} {r : Rc} (h : r ∈ l) (h2 : 400 < r.d.length) : lgR l = false := by
  have : l.all (fun r => decide (r.d.length ≤ 400)) = false := by
    rw [Bool.eq_false_iff]; intro h3
    have := of_decide_eq_true (List.all_eq_true.1 h3 r h)
    omega
  simp only [lgR]; rw [this, Bool.and_false]
theorem lgR_yes {l : List Rc} (h : l.length ≤ 40) (h2 : ∀ r ∈ l, r.d.length ≤ 400) : lgR l = true := by
  have : l.all (fun r => decide (r.d.length ≤ 400)) = true := List.all_eq_true.2 fun r hr => decide_eq_true (h2 r hr)
  simp only [lgR]; rw [this, decide_eq_true h]; rfl
theorem lgR_iff {l : List Rc} (h : lgR l = true) : l.length ≤ 40 ∧ ∀ r ∈ l, r.d.length ≤ 400 := by
  simp only [lgR, Bool.and_eq_true, decide_eq_true_eq, List.all_eq_true] at h
  exact h
theorem fdN_at (l : List Rc) (k : Int) : ∀ (n j i : Nat), j ≤ i → i < j + n → (∀ m, j ≤ m → m < i → ¬ (l.getD m r0).ty = k) → (l.getD i r0).ty = k → fdN l k n j = i
  | 0, j, i, h1, h2, _, _ => by omega
  | n + 1, j, i, h1, h2, h3, h4 => by
    simp only [fdN]
    split
    · rename_i h
      have : j = i := by
        by_cases e : j = i
        · exact e
        · exact absurd h (h3 j (by omega) (by omega))
      rw [this]
    · rename_i h
      have : j ≠ i := fun e => h (e ▸ h4)
      exact fdN_at l k n (j + 1) i (by omega) (by omega) (fun m h5 h6 => h3 m (by omega) h6) h4
theorem fdN_no (l : List Rc) (k : Int) : ∀ (n j : Nat), (∀ m, j ≤ m → m < j + n → ¬ (l.getD m r0).ty = k) → fdN l k n j = -1
  | 0, _, _ => rfl
  | n + 1, j, h => by
    simp only [fdN]
    rw [if_neg (h j (by omega) (by omega))]
    exact fdN_no l k n (j + 1) fun m h1 h2 => h m (by omega) (by omega)
theorem m8_snoc (l : List Int) (c : Int) : m8 (l ++ [c]) = IntKind.u8.wrap (m8 l + c) := by simp [m8]
theorem setE_rec (l : List Rc) (i : Nat) (x y : AV) : ((getE [.int .u8 0, .nil] (recs l) i).set 0 x).set 1 y = [x, y] := by
  by_cases h : i < l.length
  · rw [getE_rec' l i h]; rfl
  · simp only [getE, recs, List.getD_eq_getElem?_getD, List.getElem?_eq_none (show (l.map Rc.cs).length ≤ i by rw [List.length_map]; omega)]; rfl
theorem getD_le {l : List Rc} {n : Nat} (h : ∀ r ∈ l, r.d.length ≤ n) (i : Nat) : (l.getD i r0).d.length ≤ n := by
  by_cases h2 : i < l.length
  · exact h _ (getD_mem l i h2)
  · rw [List.getD_eq_getElem?_getD, List.getElem?_eq_none (by omega)]; exact Nat.zero_le _
theorem vlR_iff {l : List Rc} (h : vlR l = true) : l.length ≤ 16 ∧ (∀ r ∈ l, r.d.length ≤ 255) ∧ szR l ≤ 2048 := by
  simp only [vlR, Bool.and_eq_true, decide_eq_true_eq, List.all_eq_true] at h
  exact h
theorem rp_rng {l : List Rc} {i : Int} {r : Rc} (h : i < 0 ∨ (l.length : Int) < i) : rpE l i r = 2 ∧ rpL l i r = [] := by
  have e : rpE l i r = 2 := by simp only [rpE]; exact if_pos h
  exact ⟨e, by simp only [rpL]; rw [e]; rfl⟩
theorem rp_bad {l : List Rc} {i : Int} {r : Rc} (h : ¬ (i < 0 ∨ (l.length : Int) < i)) (hv : vlR (rpX l i r) = false) : rpE l i r = 1 ∧ rpL l i r = [] := by
  have e : rpE l i r = 1 := by simp only [rpE]; rw [if_neg h, hv]; rfl
  exact ⟨e, by simp only [rpL]; rw [e]; rfl⟩
theorem rp_ok {l : List Rc} {i : Int} {r : Rc} (h : ¬ (i < 0 ∨ (l.length : Int) < i)) (hv : vlR (rpX l i r) = true) : rpE l i r = 0 ∧ rpL l i r = rpX l i r := by
  have e : rpE l i r = 0 := by simp only [rpE]; rw [if_neg h, hv]; rfl
  exact ⟨e, by simp only [rpL]; rw [e]; rfl⟩
end Go.Proofs.Ytklbnccpeeehkaa

/- A part of the proof: symbolic evaluation of the program's functions, proved sound against the model; no condition. -/
/-
  The framework 'Ev', part C: what abstract values stand for, and that steps of the world keep it.
  Conditions: none; a text of lemmas.
-/
import Derived.Test.YteakklbbdfgbdaaEvB
import Derived.ChangeKeysEq
namespace Go.Ev
open Go Go.RowKit
set_option linter.unusedVariables false

def th0 : Nat → Value := fun _ => .nilIface
def cellAt (es : List (List AV)) (i j : Nat) : Option AV := (es[i]?).bind fun e => e[j]?

/-- What an abstract value stands for: Z are the blocks that nobody writes any more, θ the kept blocks' values. -/
inductive Rep (Z : Nat → Prop) (w : World) : (Nat → Value) → AV → Value → Prop
  | int (θ : Nat → Value) (k : IntKind) (n : Int) : Rep Z w θ (.int k n) (.int k n)
  | bool (θ : Nat → Value) (b : Bool) : Rep Z w θ (.bool b) (.bool b)
  | str (θ : Nat → Value) (s : List UInt8) : Rep Z w θ (.str s) (.string ⟨s.toArray⟩)
  | agg (θ : Nat → Value) (cs : List AV) (vs : List Value) (hl : vs.length = cs.length) (ha : ∀ c ∈ cs, c.atom = true) (h1 : ∀ v ∈ vs, v.oneCell' = true)
      (h : ∀ (i : Nat) (c : AV) (v : Value), cs[i]? = some c → vs[i]? = some v → Rep Z w θ c v) : Rep Z w θ (.agg cs) (.agg vs.toArray)
  | tup (θ : Nat → Value) (cs : List AV) (vs : List Value) (hl : vs.length = cs.length) (ha : ∀ c ∈ cs, c.lev1 = true)
      (h : ∀ (i : Nat) (c : AV) (v : Value), cs[i]? = some c → vs[i]? = some v → Rep Z w θ c v) : Rep Z w θ (.tup cs) (.tuple vs.toArray)
  | lst (θ : Nat → Value) (z : List AV) (es : List (List AV)) (a : Option Addr) (cap : Nat) (f : Nat → Nat → Value)
      (hc : es.length ≤ cap) (hm : cap ≤ maxLen) (hz : ∀ e ∈ es, e.length = z.length) (hat : ∀ e ∈ es, ∀ c ∈ e, c.atom = true)
      (hmem : es ≠ [] → ∃ b o, a = some ⟨b, o, none⟩ ∧ Z b ∧ ∀ (i j : Nat) (c : AV), cellAt es i j = some c → w.cell? ⟨b, o + (i * z.length + j), none⟩ = some (f i j))
      (h1 : ∀ (i j : Nat) (c : AV), cellAt es i j = some c → (f i j).oneCell' = true)
      (h : ∀ (i j : Nat) (c : AV), cellAt es i j = some c → Rep Z w th0 c (f i j)) : Rep Z w θ (.lst z es) (.slice a es.length cap)
  | ep (θ : Nat → Value) (z : List AV) (es : List (List AV)) (i off b o : Nat) (f : Nat → Nat → Value)
      (hi : i < es.length) (hz : ∀ e ∈ es, e.length = z.length) (hat : ∀ e ∈ es, ∀ c ∈ e, c.atom = true) (hb : Z b)
      (hmem : ∀ (i j : Nat) (c : AV), cellAt es i j = some c → w.cell? ⟨b, o + (i * z.length + j), none⟩ = some (f i j))
      (h1 : ∀ (i j : Nat) (c : AV), cellAt es i j = some c → (f i j).oneCell' = true)
      (h : ∀ (i j : Nat) (c : AV), cellAt es i j = some c → Rep Z w th0 c (f i j)) : Rep Z w θ (.ep z es i off) (.pointer (some ⟨b, o + (i * z.length + off), none⟩))
  | ptr (θ : Nat → Value) (r off b : Nat) (h : θ r = .pointer (some ⟨b, 0, none⟩)) : Rep Z w θ (.ptr r off) (.pointer (some ⟨b, off, none⟩))
  | vw (θ : Nat → Value) (r x y z : Nat) (a : Option Addr) (n c : Nat) (h : θ r = .slice a n c) : Rep Z w θ (.vw r x y z) (.slice a n c)
  | ap (θ : Nat → Value) (r x y z : Nat) (v : Value) (h : θ r = v) (h0 : v ≠ .nilIface) (h1 : v.oneCell' = true) : Rep Z w θ (.ap r x y z) v
  | bp (θ : Nat → Value) (r sz i off b o n c : Nat) (h : θ r = .slice (some ⟨b, o, none⟩) n c) : Rep Z w θ (.bp r sz i off) (.pointer (some ⟨b, o + (i * sz + off), none⟩))
  | sv (θ : Nat → Value) (r sz lo hi : Nat) (a : Option Addr) (n c : Nat) (a' : Option Addr) (c' : Nat) (h : θ r = .slice a n c) (h1 : lo ≤ hi) (h2 : hi ≤ n)
      (h3 : lo < hi → ∃ g, a = some ⟨g, 0, none⟩ ∧ a' = some ⟨g, lo * sz, none⟩) (h4 : hi - lo ≤ c') (h5 : c' ≤ maxLen) : Rep Z w θ (.sv r sz lo hi) (.slice a' (hi - lo) c')
  | nb (θ : Nat → Value) (e b : Bool) (h : b = true → e = true) : Rep Z w θ (.nb e) (.bool b)
  | fn (θ : Nat → Value) (f : Nat) : Rep Z w θ (.fn f) (.func (.func f) #[] #[])
  | nil (θ : Nat → Value) : Rep Z w θ .nil (.slice none 0 0)
  | junk (θ : Nat → Value) (v : Value) : Rep Z w θ .junk v

/-- The world goes on: what is frozen stays. -/
structure Goes (Z : Nat → Prop) (w : World) (Z' : Nat → Prop) (w' : World) : Prop where
  sub : ∀ b, Z b → Z' b
  same : ∀ b, Z b → w'.heap[b]? = w.heap[b]?

theorem Goes.refl (Z : Nat → Prop) (w : World) : Goes Z w Z w := ⟨fun _ h => h, fun _ _ => rfl⟩
theorem Goes.trans {Z Z' Z'' : Nat → Prop} {w w' w'' : World} (h : Goes Z w Z' w') (k : Goes Z' w' Z'' w'') : Goes Z w Z'' w'' :=
  ⟨fun b hb => k.sub b (h.sub b hb), fun b hb => (k.same b (h.sub b hb)).trans (h.same b hb)⟩

theorem Goes.cell {Z Z' : Nat → Prop} {w w' : World} (h : Goes Z w Z' w') {b o : Nat} (hb : Z b) : w'.cell? ⟨b, o, none⟩ = w.cell? ⟨b, o, none⟩ :=
  World.cell?_of_block (w := w) (a := ⟨b, o, none⟩) (h.same b hb)

theorem Rep.step {Z Z' : Nat → Prop} {w w' : World} (g : Goes Z w Z' w') {θ : Nat → Value} {x : AV} {v : Value} (h : Rep Z w θ x v) : Rep Z' w' θ x v := by
  induction h with
  | int θ k n => exact .int θ k n
  | bool θ b => exact .bool θ b
  | str θ s => exact .str θ s
  | agg θ cs vs hl ha h1 h ih => exact .agg θ cs vs hl ha h1 ih
  | tup θ cs vs hl ha h ih => exact .tup θ cs vs hl ha ih
  | lst θ z es a cap f hc hm hz hat hmem h1 h ih =>
    refine .lst θ z es a cap f hc hm hz hat (fun hne => ?_) h1 ih
    obtain ⟨b, o, ha, hb, hcell⟩ := hmem hne
    exact ⟨b, o, ha, g.sub b hb, fun i j c hi => (g.cell hb).trans (hcell i j c hi)⟩
  | ep θ z es i off b o f hi hz hat hb hmem h1 h ih =>
    exact .ep θ z es i off b o f hi hz hat (g.sub b hb) (fun i j c hi => (g.cell hb).trans (hmem i j c hi)) h1 ih
  | ptr θ r off b h => exact .ptr θ r off b h
  | vw θ r x y z a n c h => exact .vw θ r x y z a n c h
  | ap θ r x y z v h h0 h1 => exact .ap θ r x y z v h h0 h1
  | bp θ r sz i off b o n c h => exact .bp θ r sz i off b o n c h
  | sv θ r sz lo hi a n c a' c' h h1 h2 h3 h4 h5 => exact .sv θ r sz lo hi a n c a' c' h h1 h2 h3 h4 h5
  | nb θ e b h => exact .nb θ e b h
  | fn θ f => exact .fn θ f
  | nil θ => exact .nil θ
  | junk θ v => exact .junk θ v

theorem Rep.oneCell {Z : Nat → Prop} {w : World} {θ : Nat → Value} {x : AV} {v : Value} (h : Rep Z w θ x v) (ha : x.atom = true) (hj : x ≠ .junk) : v.oneCell' = true := by
  cases h <;> first | rfl | assumption | (simp [AV.atom] at ha; done) | exact absurd rfl hj

/-- A value that refers to no kept block stands for the same whatever these are. -/
theorem Rep.th_clean0 {Z : Nat → Prop} {w : World} {θ : Nat → Value} {x : AV} {v : Value} (h : Rep Z w θ x v) (hx : x.clean0 = true) (θ' : Nat → Value) : Rep Z w θ' x v := by
  cases h with
  | int => exact .int _ _ _
  | bool => exact .bool _ _
  | str => exact .str _ _
  | agg => simp [AV.clean0] at hx
  | tup => simp [AV.clean0] at hx
  | lst _ z es a cap f hc hm hz hat hmem h1 h => exact .lst _ _ _ _ _ f hc hm hz hat hmem h1 h
  | ep _ z es i off b o f hi hz hat hb hmem h1 h => exact .ep _ _ _ _ _ _ _ f hi hz hat hb hmem h1 h
  | ptr => simp [AV.clean0] at hx
  | vw => simp [AV.clean0] at hx
  | ap => simp [AV.clean0] at hx
  | bp => simp [AV.clean0] at hx
  | sv => simp [AV.clean0] at hx
  | nb => simp [AV.clean0] at hx
  | fn => exact .fn _ _
  | nil => exact .nil _
  | junk => simp [AV.clean0] at hx

theorem Rep.th_clean1 {Z : Nat → Prop} {w : World} {θ : Nat → Value} {x : AV} {v : Value} (h : Rep Z w θ x v) (hx : x.clean1 = true) (θ' : Nat → Value) : Rep Z w θ' x v := by
  cases x with
  | agg cs =>
    cases h with
    | agg _ _ vs hl ha h1 h =>
      simp only [AV.clean1, List.all_eq_true] at hx
      exact .agg θ' cs vs hl ha h1 fun i c v hc hv => (h i c v hc hv).th_clean0 (hx c (List.mem_of_getElem? hc)) θ'
  | _ => exact h.th_clean0 hx θ'

theorem Rep.th_clean2 {Z : Nat → Prop} {w : World} {θ : Nat → Value} {x : AV} {v : Value} (h : Rep Z w θ x v) (hx : x.clean2 = true) (θ' : Nat → Value) : Rep Z w θ' x v := by
  cases x with
  | tup cs =>
    cases h with
    | tup _ _ vs hl ha h =>
      simp only [AV.clean2, List.all_eq_true] at hx
      exact .tup θ' cs vs hl ha fun i c v hc hv => (h i c v hc hv).th_clean1 (hx c (List.mem_of_getElem? hc)) θ'
  | _ => exact h.th_clean1 hx θ'

/-! ### Another value for one kept block: what referred to it is forgotten -/
theorem Rep.kill0 {Z : Nat → Prop} {w : World} {θ : Nat → Value} {x : AV} {v : Value} (h : Rep Z w θ x v) (hx : x.atom = true) (r : Nat) {θ' : Nat → Value} (ht : ∀ k, k ≠ r → θ' k = θ k) :
    Rep Z w θ' (Ev.kill0 r x) v := by
  cases h with
  | int => exact .int _ _ _
  | bool => exact .bool _ _
  | str => exact .str _ _
  | agg => simp [AV.atom] at hx
  | tup => simp [AV.atom] at hx
  | lst _ z es a cap f hc hm hz hat hmem h1 h => exact .lst _ _ _ _ _ f hc hm hz hat hmem h1 h
  | ep _ z es i off b o f hi hz hat hb hmem h1 h => exact .ep _ _ _ _ _ _ _ f hi hz hat hb hmem h1 h
  | ptr _ r' off b h =>
    simp only [Ev.kill0]
    split
    · exact .junk _ _
    · rename_i hne; exact .ptr _ _ _ _ ((ht r' hne).trans h)
  | vw _ r' x y z a n c h =>
    simp only [Ev.kill0]
    split
    · exact .junk _ _
    · rename_i hne; exact .vw _ _ _ _ _ _ _ _ ((ht r' hne).trans h)
  | ap _ r' x y z v h h0 h1 =>
    simp only [Ev.kill0]
    split
    · exact .junk _ _
    · rename_i hne; exact .ap _ _ _ _ _ _ ((ht r' hne).trans h) h0 h1
  | bp _ r' sz i off b o n c h =>
    simp only [Ev.kill0]
    split
    · exact .junk _ _
    · rename_i hne; exact .bp _ _ _ _ _ _ _ _ _ ((ht r' hne).trans h)
  | sv _ r' sz lo hi a n c a' c' h h1 h2 h3 h4 h5 =>
    simp only [Ev.kill0]
    split
    · exact .junk _ _
    · rename_i hne; exact .sv _ _ _ _ _ a n c _ _ ((ht r' hne).trans h) h1 h2 h3 h4 h5
  | nb _ e b h => exact .nb _ _ _ h
  | fn => exact .fn _ _
  | nil => exact .nil _
  | junk => exact .junk _ _

theorem kill0_atom (r : Nat) (x : AV) (hx : x.atom = true) : (kill0 r x).atom = true := by
  cases x <;> simp only [kill0] <;> (try split) <;> first | rfl | exact hx

theorem Rep.kill1 {Z : Nat → Prop} {w : World} {θ : Nat → Value} {x : AV} {v : Value} (h : Rep Z w θ x v) (hx : x.lev1 = true) (r : Nat) {θ' : Nat → Value} (ht : ∀ k, k ≠ r → θ' k = θ k) :
    Rep Z w θ' (Ev.kill1 r x) v := by
  cases x with
  | agg cs =>
    cases h with
    | agg _ _ vs hl ha h1 h =>
      simp only [Ev.kill1]
      refine .agg θ' _ vs (by simpa using hl) ?_ h1 ?_
      · intro c hc
        obtain ⟨c', hc', rfl⟩ := List.mem_map.1 hc
        exact kill0_atom r c' (ha c' hc')
      · intro i c v hc hv
        rw [List.getElem?_map] at hc
        obtain ⟨c', hc', rfl⟩ := Option.map_eq_some_iff.1 hc
        exact (h i c' v hc' hv).kill0 (ha c' (List.mem_of_getElem? hc')) r ht
  | tup cs => simp [AV.lev1] at hx
  | gd p y => simp [AV.lev1] at hx
  | _ => exact h.kill0 rfl r ht

theorem kill1_lev1 (r : Nat) (x : AV) (hx : x.lev1 = true) : (kill1 r x).lev1 = true := by
  cases x <;> simp only [kill1, kill0] <;> (try split) <;> first | rfl | exact hx

theorem Rep.kill2 {Z : Nat → Prop} {w : World} {θ : Nat → Value} {x : AV} {v : Value} (h : Rep Z w θ x v) (r : Nat) {θ' : Nat → Value} (ht : ∀ k, k ≠ r → θ' k = θ k) :
    Rep Z w θ' (Ev.kill2 r x) v := by
  cases x with
  | tup cs =>
    cases h with
    | tup _ _ vs hl ha h =>
      simp only [Ev.kill2]
      refine .tup θ' _ vs (by simpa using hl) ?_ ?_
      · intro c hc
        obtain ⟨c', hc', rfl⟩ := List.mem_map.1 hc
        exact kill1_lev1 r c' (ha c' hc')
      · intro i c v hc hv
        rw [List.getElem?_map] at hc
        obtain ⟨c', hc', rfl⟩ := Option.map_eq_some_iff.1 hc
        exact (h i c' v hc' hv).kill1 (ha c' (List.mem_of_getElem? hc')) r ht
  | gd p y => cases h
  | _ => exact h.kill1 rfl r ht

/-! ### Structs and blocks of cells -/
theorem Rep.agg_inv {Z : Nat → Prop} {w : World} {θ : Nat → Value} {cs : List AV} {v : Value} (h : Rep Z w θ (.agg cs) v) :
    ∃ vs : List Value, v = .agg vs.toArray ∧ vs.length = cs.length ∧ (∀ c ∈ cs, c.atom = true) ∧ (∀ v ∈ vs, v.oneCell' = true) ∧
      ∀ (i : Nat) (c : AV) (v : Value), cs[i]? = some c → vs[i]? = some v → Rep Z w θ c v := by
  cases h with
  | agg _ _ vs hl ha h1 h => exact ⟨vs, rfl, hl, ha, h1, h⟩

/-- Lists of cells stand for lists of values. -/
structure Cells (Z : Nat → Prop) (w : World) (θ : Nat → Value) (cs : List AV) (vs : List Value) : Prop where
  len : vs.length = cs.length
  at1 : ∀ c ∈ cs, c.atom = true
  one : ∀ v ∈ vs, v.oneCell' = true
  rep : ∀ (i : Nat) (c : AV) (v : Value), cs[i]? = some c → vs[i]? = some v → Rep Z w θ c v

theorem Cells.agg {Z : Nat → Prop} {w : World} {θ : Nat → Value} {cs : List AV} {vs : List Value} (h : Cells Z w θ cs vs) : Rep Z w θ (.agg cs) (.agg vs.toArray) :=
  .agg θ cs vs h.len h.at1 h.one h.rep
theorem Rep.cells {Z : Nat → Prop} {w : World} {θ : Nat → Value} {cs : List AV} {v : Value} (h : Rep Z w θ (.agg cs) v) : ∃ vs : List Value, v = .agg vs.toArray ∧ Cells Z w θ cs vs := by
  obtain ⟨vs, rfl, a, b, c, d⟩ := h.agg_inv
  exact ⟨vs, rfl, a, b, c, d⟩
theorem Cells.step {Z Z' : Nat → Prop} {w w' : World} (g : Goes Z w Z' w') {θ : Nat → Value} {cs : List AV} {vs : List Value} (h : Cells Z w θ cs vs) : Cells Z' w' θ cs vs :=
  ⟨h.len, h.at1, h.one, fun i c v hc hv => (h.rep i c v hc hv).step g⟩
theorem Cells.get {Z : Nat → Prop} {w : World} {θ : Nat → Value} {cs : List AV} {vs : List Value} (h : Cells Z w θ cs vs) {i : Nat} {c : AV} (hc : cs[i]? = some c) : ∃ v, vs[i]? = some v ∧ Rep Z w θ c v := by
  have hi : i < vs.length := by rw [h.len]; exact (List.getElem?_eq_some_iff.1 hc).1
  exact ⟨vs[i], List.getElem?_eq_getElem hi, h.rep i c _ hc (List.getElem?_eq_getElem hi)⟩
theorem Cells.kill {Z : Nat → Prop} {w : World} {θ θ' : Nat → Value} {cs : List AV} {vs : List Value} (h : Cells Z w θ cs vs) (r : Nat) (ht : ∀ k, k ≠ r → θ' k = θ k) : Cells Z w θ' (cs.map (kill0 r)) vs := by
  refine ⟨by simpa using h.len, ?_, h.one, ?_⟩
  · intro c hc
    obtain ⟨c', hc', rfl⟩ := List.mem_map.1 hc
    exact kill0_atom r c' (h.at1 c' hc')
  · intro i c v hc hv
    rw [List.getElem?_map] at hc
    obtain ⟨c', hc', rfl⟩ := Option.map_eq_some_iff.1 hc
    exact (h.rep i c' v hc' hv).kill0 (h.at1 c' (List.mem_of_getElem? hc')) r ht
theorem Cells.take {Z : Nat → Prop} {w : World} {θ : Nat → Value} {cs : List AV} {vs : List Value} (h : Cells Z w θ cs vs) (n : Nat) : Cells Z w θ (cs.take n) (vs.take n) := by
  refine ⟨by simp [h.len], fun c hc => h.at1 c (List.mem_of_mem_take hc), fun v hv => h.one v (List.mem_of_mem_take hv), fun i c v hc hv => ?_⟩
  rw [List.getElem?_take] at hc hv
  split at hc <;> simp_all
  exact h.rep i c v hc hv
theorem Cells.drop {Z : Nat → Prop} {w : World} {θ : Nat → Value} {cs : List AV} {vs : List Value} (h : Cells Z w θ cs vs) (n : Nat) : Cells Z w θ (cs.drop n) (vs.drop n) := by
  refine ⟨by simp [h.len], fun c hc => h.at1 c (List.mem_of_mem_drop hc), fun v hv => h.one v (List.mem_of_mem_drop hv), fun i c v hc hv => ?_⟩
  rw [List.getElem?_drop] at hc hv
  exact h.rep _ c v hc hv
theorem Cells.append {Z : Nat → Prop} {w : World} {θ : Nat → Value} {cs ds : List AV} {vs us : List Value} (h : Cells Z w θ cs vs) (k : Cells Z w θ ds us) : Cells Z w θ (cs ++ ds) (vs ++ us) := by
  refine ⟨by simp [h.len, k.len], ?_, ?_, fun i c v hc hv => ?_⟩
  · intro c hc; rcases List.mem_append.1 hc with hc | hc
    · exact h.at1 c hc
    · exact k.at1 c hc
  · intro c hc; rcases List.mem_append.1 hc with hc | hc
    · exact h.one c hc
    · exact k.one c hc
  · by_cases hi : i < cs.length
    · rw [List.getElem?_append_left hi] at hc
      rw [List.getElem?_append_left (by rw [h.len]; exact hi)] at hv
      exact h.rep i c v hc hv
    · rw [List.getElem?_append_right (by omega)] at hc
      rw [List.getElem?_append_right (by rw [h.len]; omega), h.len] at hv
      exact k.rep _ c v hc hv
theorem Cells.nil (Z : Nat → Prop) (w : World) (θ : Nat → Value) : Cells Z w θ [] [] := ⟨rfl, by simp, by simp, by simp⟩
theorem Cells.one' {Z : Nat → Prop} {w : World} {θ : Nat → Value} {c : AV} {v : Value} (h : Rep Z w θ c v) (ha : c.atom = true) (h1 : v.oneCell' = true) : Cells Z w θ [c] [v] := by
  refine ⟨rfl, by simpa using ha, by simpa using h1, fun i c' v' hc hv => ?_⟩
  cases i with
  | zero => simp at hc hv; subst hc; subst hv; exact h
  | succ i => simp at hc
theorem Cells.th_clean {Z : Nat → Prop} {w : World} {θ : Nat → Value} {cs : List AV} {vs : List Value} (h : Cells Z w θ cs vs) (hx : cs.all AV.clean0 = true) (θ' : Nat → Value) : Cells Z w θ' cs vs :=
  ⟨h.len, h.at1, h.one, fun i c v hc hv => (h.rep i c v hc hv).th_clean0 (List.all_eq_true.1 hx c (List.mem_of_getElem? hc)) θ'⟩

theorem cellsOfAV_spec {Z : Nat → Prop} {w : World} {θ : Nat → Value} {n : Nat} {x : AV} {cs : List AV} {v : Value} (hx : cellsOfAV n x = some cs) (h : Rep Z w θ x v) :
    cs.length = n ∧ ∃ vs : List Value, v.cells = vs.toArray ∧ Cells Z w θ cs vs := by
  cases h with
  | agg _ cs' vs hl ha h1 h =>
    simp only [cellsOfAV] at hx
    split at hx <;> simp at hx
    subst hx
    exact ⟨by assumption, vs, rfl, hl, ha, h1, h⟩
  | tup => simp [cellsOfAV] at hx
  | junk => simp [cellsOfAV] at hx
  | int => simp only [cellsOfAV] at hx; split at hx <;> simp at hx; subst hx; exact ⟨by simp [*], [_], rfl, .one' (.int _ _ _) rfl rfl⟩
  | bool => simp only [cellsOfAV] at hx; split at hx <;> simp at hx; subst hx; exact ⟨by simp [*], [_], rfl, .one' (.bool _ _) rfl rfl⟩
  | str => simp only [cellsOfAV] at hx; split at hx <;> simp at hx; subst hx; exact ⟨by simp [*], [_], rfl, .one' (.str _ _) rfl rfl⟩
  | lst _ z es a cap f hc hm hz hat hmem h1 h => simp only [cellsOfAV] at hx; split at hx <;> simp at hx; subst hx; exact ⟨by simp [*], [_], rfl, .one' (.lst _ _ _ _ _ f hc hm hz hat hmem h1 h) rfl rfl⟩
  | ep _ z es i off b o f hi hz hat hb hmem h1 h => simp only [cellsOfAV] at hx; split at hx <;> simp at hx; subst hx; exact ⟨by simp [*], [_], rfl, .one' (.ep _ _ _ _ _ _ _ f hi hz hat hb hmem h1 h) rfl rfl⟩
  | ptr _ r off b h => simp only [cellsOfAV] at hx; split at hx <;> simp at hx; subst hx; exact ⟨by simp [*], [_], rfl, .one' (.ptr _ _ _ _ h) rfl rfl⟩
  | vw _ r x y z a n c h => simp only [cellsOfAV] at hx; split at hx <;> simp at hx; subst hx; exact ⟨by simp [*], [_], rfl, .one' (.vw _ _ _ _ _ _ _ _ h) rfl rfl⟩
  | ap _ r x y z v h h0 h1 =>
    simp only [cellsOfAV] at hx; split at hx <;> simp at hx; subst hx
    exact ⟨by simp [*], [v], by cases v <;> first | rfl | simp [Value.oneCell'] at h1, .one' (.ap _ _ _ _ _ _ h h0 h1) rfl h1⟩
  | bp _ r sz i off b o n c h => simp only [cellsOfAV] at hx; split at hx <;> simp at hx; subst hx; exact ⟨by simp [*], [_], rfl, .one' (.bp _ _ _ _ _ _ _ _ _ h) rfl rfl⟩
  | sv _ r sz lo hi a n c a' c' h h1 h2 h3 h4 h5 => simp only [cellsOfAV] at hx; split at hx <;> simp at hx; subst hx; exact ⟨by simp [*], [_], rfl, .one' (.sv _ _ _ _ _ a n c _ _ h h1 h2 h3 h4 h5) rfl rfl⟩
  | nb _ e b h => simp only [cellsOfAV] at hx; split at hx <;> simp at hx; subst hx; exact ⟨by simp [*], [_], rfl, .one' (.nb _ _ _ h) rfl rfl⟩
  | fn => simp only [cellsOfAV] at hx; split at hx <;> simp at hx; subst hx; exact ⟨by simp [*], [_], rfl, .one' (.fn _ _) rfl rfl⟩
  | nil => simp only [cellsOfAV] at hx; split at hx <;> simp at hx; subst hx; exact ⟨by simp [*], [_], rfl, .one' (.nil _) rfl rfl⟩

theorem setCells_eq : ∀ (vs : List AV) (cs : List AV) (off : Nat), off + vs.length ≤ cs.length → setCells cs off vs = cs.take off ++ vs ++ cs.drop (off + vs.length)
  | [], cs, off, _ => by simp [setCells]
  | v :: vs, cs, off, h => by
    simp only [List.length_cons] at h
    rw [setCells, setCells_eq vs (cs.set off v) (off + 1) (by simp; omega)]
    apply List.ext_getElem?
    intro j
    simp only [List.getElem?_append, List.getElem?_take, List.getElem?_drop, List.getElem?_set, List.length_append, List.length_take, List.length_set, List.length_cons]
    have e1 : min (off + 1) cs.length = off + 1 := by omega
    have e2 : min off cs.length = off := by omega
    rw [e1, e2]
    by_cases h1 : j < off
    · have : ¬ off = j := by omega
      simp [h1, this, show j < off + 1 + vs.length by omega, show j < off + 1 by omega, show j < off + (vs.length + 1) by omega]
    · by_cases h2 : j = off
      · subst h2
        simp [show j < j + 1 + vs.length by omega, show j < j + (vs.length + 1) by omega, show j < cs.length by omega]
      · by_cases h3 : j < off + 1 + vs.length
        · simp [h1, h3, show ¬ j < off + 1 by omega, show j < off + (vs.length + 1) by omega]
          rw [show j - off = (j - (off + 1)) + 1 by omega, List.getElem?_cons_succ]
        · simp [h3, show ¬ j < off + (vs.length + 1) by omega]
          have : ¬ off = off + 1 + vs.length + (j - (off + 1 + vs.length)) := by omega
          simp [this]
          congr 1
          omega

theorem Cells.set {Z : Nat → Prop} {w : World} {θ : Nat → Value} {cs ds : List AV} {vs us : List Value} (h : Cells Z w θ cs vs) (k : Cells Z w θ ds us) {off : Nat} (ho : off + ds.length ≤ cs.length) :
    Cells Z w θ (setCells cs off ds) (vs.take off ++ us ++ vs.drop (off + us.length)) := by
  rw [setCells_eq ds cs off ho, k.len]
  exact ((h.take off).append k).append (h.drop _)

theorem setCells_length (vs : List AV) (cs : List AV) (off : Nat) : (setCells cs off vs).length = cs.length := by
  induction vs generalizing cs off with
  | nil => rfl
  | cons v vs ih => simp [setCells, ih]

end Go.Ev

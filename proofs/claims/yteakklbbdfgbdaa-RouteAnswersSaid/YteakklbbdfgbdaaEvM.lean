/- A part of the proof: symbolic evaluation of the program's functions, proved sound against the model; no condition. -/
import Derived.Test.YteakklbbdfgbdaaEvU
import Derived.WalkKit
import Derived.ProofKit
import Derived.OpenShut
import Derived.ShutString
import Derived.ChangeOld
import Derived.Below
namespace Go.Ev
open Go Go.RowKit
set_option linter.unusedVariables false

/-! ### What an argument's cells are, by its type -/
inductive CD where
  | int (k : IntKind)
  | bool
  | str
  | sl (e : List CD)

def CD.zero : CD → AV
  | .int k => .int k 0
  | .bool => .bool false
  | .str => .str []
  | .sl _ => .nil

mutual
def okA : CD → AV → Prop
  | .int k, a => ∃ n, a = .int k n ∧ (Lit.int k n).wf = true
  | .bool, a => ∃ b, a = .bool b
  | .str, a => ∃ s, a = .str s ∧ s.length ≤ maxLen
  | .sl e, a => ∃ es, a = .lst (e.map CD.zero) es ∧ es.length ≤ maxLen ∧ ∀ r ∈ es, okAs e r
def okAs : List CD → List AV → Prop
  | [], [] => True
  | d :: ds, a :: as => okA d a ∧ okAs ds as
  | _, _ => False
end

theorem okAs_len : ∀ {ds : List CD} {as : List AV}, okAs ds as → as.length = ds.length
  | [], [], _ => rfl
  | [], _ :: _, h => by simp [okAs] at h
  | _ :: _, [], h => by simp [okAs] at h
  | _ :: ds, _ :: as, h => by
    simp only [okAs] at h
    simp [okAs_len h.2]
theorem okAs_append : ∀ {ds ds' : List CD} {as as' : List AV}, okAs ds as → okAs ds' as' → okAs (ds ++ ds') (as ++ as')
  | [], ds', [], as', _, h => h
  | [], _, _ :: _, _, h, _ => by simp [okAs] at h
  | _ :: _, _, [], _, h, _ => by simp [okAs] at h
  | _ :: ds, ds', _ :: as, as', h, h' => by
    simp only [okAs] at h
    simp only [List.cons_append, okAs]
    exact ⟨h.1, okAs_append h.2 h'⟩

theorem okAs_uncons {d : CD} {ds : List CD} {ys : List AV} (h : okAs (d :: ds) ys) : ∃ a l, ys = a :: l ∧ okA d a ∧ okAs ds l := by
  cases ys with
  | nil => simp [okAs] at h
  | cons a l => simp only [okAs] at h; exact ⟨a, l, rfl, h.1, h.2⟩
theorem okAs_unnil {ys : List AV} (h : okAs [] ys) : ys = [] := by
  cases ys with
  | nil => rfl
  | cons a l => simp [okAs] at h
theorem un_int {k : IntKind} {ds : List CD} {ys : List AV} (h : okAs (.int k :: ds) ys) : ∃ n l, ys = .int k n :: l ∧ (Lit.int k n).wf = true ∧ okAs ds l := by
  obtain ⟨a, l, rfl, h1, h2⟩ := okAs_uncons h
  simp only [okA] at h1
  obtain ⟨n, rfl, hw⟩ := h1
  exact ⟨n, l, rfl, hw, h2⟩
theorem un_bool {ds : List CD} {ys : List AV} (h : okAs (.bool :: ds) ys) : ∃ b l, ys = .bool b :: l ∧ okAs ds l := by
  obtain ⟨a, l, rfl, h1, h2⟩ := okAs_uncons h
  simp only [okA] at h1
  obtain ⟨n, rfl⟩ := h1
  exact ⟨n, l, rfl, h2⟩
theorem un_str {ds : List CD} {ys : List AV} (h : okAs (.str :: ds) ys) : ∃ s l, ys = .str s :: l ∧ s.length ≤ maxLen ∧ okAs ds l := by
  obtain ⟨a, l, rfl, h1, h2⟩ := okAs_uncons h
  simp only [okA] at h1
  obtain ⟨n, rfl, hw⟩ := h1
  exact ⟨n, l, rfl, hw, h2⟩
theorem un_sl {e : List CD} {ds : List CD} {ys : List AV} (h : okAs (.sl e :: ds) ys) : ∃ es l, ys = .lst (e.map CD.zero) es :: l ∧ es.length ≤ maxLen ∧ (∀ r ∈ es, okAs e r) ∧ okAs ds l := by
  obtain ⟨a, l, rfl, h1, h2⟩ := okAs_uncons h
  simp only [okA] at h1
  obtain ⟨n, rfl, hw, hr⟩ := h1
  exact ⟨n, l, rfl, hw, hr, h2⟩
/-- The fields one behind the other. -/
def catF (P : Program) (go : TypeId → Option (List CD)) : List Field → Nat → Option (List CD)
  | [], _ => some []
  | f :: fs, p => match go f.type, catF P go fs (p + P.cellsOf f.type) with
    | some d, some ds => if f.offset = p ∧ d.length = P.cellsOf f.type then some (d ++ ds) else none
    | _, _ => none
def catN : Nat → List CD → List CD
  | 0, _ => []
  | n + 1, d => d ++ catN n d

def flat (P : Program) : Nat → TypeId → Option (List CD)
  | 0, _ => none
  | n + 1, t => match P.underlying t with
    | some .bool => some [.bool]
    | some (.int k) => some [.int k]
    | some .string => some [.str]
    | some (.slice e) => match flat P n e with
      | some d => if d.length = P.cellsOf e ∧ d ≠ [] then some [.sl d] else none
      | none => none
    | some (.struct fs) => match catF P (flat P n) fs.toList 0 with
      | some d => if d.length = P.cellsOf t then some d else none
      | none => none
    | some (.array k e) => match flat P n e with
      | some d => if d.length = P.cellsOf e ∧ k * d.length = P.cellsOf t then some (catN k d) else none
      | none => none
    | _ => none

theorem Cells.one1 {Z : Nat → Prop} {w : World} {θ : Nat → Value} {a : AV} {v : Value} (h : Rep Z w θ a v) (ha : a.atom = true) (hv : v.oneCell' = true) : Cells Z w θ [a] [v] := by
  refine ⟨rfl, by simpa using ha, by simpa using hv, ?_⟩
  intro i c u hc hu
  cases i with
  | zero => simp at hc hu; subst hc hu; exact h
  | succ i => simp at hc
theorem addr_add (b o n : Nat) : (⟨b, o, none⟩ : Addr).add n = ⟨b, o + n, none⟩ := by
  unfold Addr.add; split <;> simp_all

section
variable {H : Type} {enc : TypeId × Value → H} {P : Program} {w : World} {base : Nat} {spare : Nat → Bool} {held : Bool} {Z : Nat → Prop}

theorem cells?_get {a : Addr} {n : Nat} {cs : List Value} (h : w.cells? base a n = some cs) : cs.length = n ∧ ∀ i, i < n → w.cell? (a.add i) = cs[i]? := by
  unfold World.cells? at h
  split at h
  · exact ⟨by simpa using mapM_some_length h, fun i hi => mapM_some_get h i i (by simp [hi])⟩
  · cases h

theorem cell_lt {a : Addr} {v : Value} (h : w.cell? a = some v) : a.block < w.heap.size := by
  by_cases hb : a.block < w.heap.size
  · exact hb
  · have : w.heap[a.block]? = none := by simp; omega
    simp [World.cell?, this] at h

/-- A list of rows, each with what it has. -/
theorem rows_of {α : Type} (p : Nat → α → Prop) (n : Nat) (h : ∀ i, i < n → ∃ a, p i a) : ∃ l : List α, l.length = n ∧ ∀ i a, l[i]? = some a → p i a := by
  induction n with
  | zero => exact ⟨[], rfl, by simp⟩
  | succ n ih =>
    obtain ⟨l, hl, hp⟩ := ih (fun i hi => h i (by omega))
    obtain ⟨a, ha⟩ := h n (by omega)
    refine ⟨l ++ [a], by simp [hl], fun i b hb => ?_⟩
    by_cases hi : i < l.length
    · rw [List.getElem?_append_left hi] at hb; exact hp i b hb
    · rw [List.getElem?_append_right (by omega)] at hb
      have : i = n := by
        by_cases h0 : i - l.length = 0
        · omega
        · obtain ⟨k, hk⟩ := Nat.exists_eq_succ_of_ne_zero h0
          rw [hk] at hb; simp at hb
      subst this
      simp [hl] at hb; subst hb; exact ha

theorem trod_flat (hZ : ∀ b, b < w.heap.size → Z b) : ∀ (n : Nat) (t : TypeId) (D : List CD) (m : Nat) (cs : List Value) (x : DataW H × List MemPlace), flat P n t = some D → DataW.trod enc P w base spare held m t cs = some x →
    ∃ as, okAs D as ∧ Cells Z w th0 as cs := by
  intro n
  induction n with
  | zero => intro t D m cs x hD; simp [flat] at hD
  | succ n ih =>
    intro t D m cs x hD hx
    simp only [flat] at hD
    split at hD
    · rename_i ht
      obtain ⟨b, rfl, _⟩ := DataW.trod_bool ht hx
      cases hD
      exact ⟨[.bool b], ⟨⟨b, rfl⟩, trivial⟩, Cells.one1 (.bool _ b) rfl rfl⟩
    · rename_i k ht
      obtain ⟨b, rfl, _, hw⟩ := DataW.trod_int ht hx
      cases hD
      exact ⟨[.int k b], ⟨⟨b, rfl, hw⟩, trivial⟩, Cells.one1 (.int _ k b) rfl rfl⟩
    · rename_i ht
      obtain ⟨s, rfl, _, hs⟩ := DataW.trod_string ht hx
      cases hD
      refine ⟨[.str s.data.toList], ⟨⟨s.data.toList, rfl, by simpa using hs⟩, trivial⟩, Cells.one1 ?_ rfl rfl⟩
      have h := Rep.str (Z := Z) (w := w) th0 s.data.toList
      simpa using h
    · rename_i e ht
      split at hD
      · rename_i d hd
        split at hD
        · rename_i hdl
          cases hD
          rcases DataW.trod_slice ht hx with ⟨rfl, _⟩ | ⟨a, len, cap, elems, rest, m', _, rfl, _, hb, hl, hm, hlen, hel, _, _⟩
          · refine ⟨[.lst (d.map CD.zero) []], ⟨⟨[], rfl, by simp [maxLen], by simp⟩, trivial⟩, Cells.one1 ?_ rfl rfl⟩
            exact .lst _ _ [] none 0 (fun _ _ => undef) (by simp) (by simp) (by simp) (by simp) (by simp) (by simp [cellAt]) (by simp [cellAt])
          · have hrow : ∀ i, i < len → ∃ as : List AV × List Value, okAs d as.1 ∧ Cells Z w th0 as.1 as.2 ∧ as.2.length = P.cellsOf e ∧ ∀ j, j < P.cellsOf e → w.cell? ((a.add (i * P.cellsOf e)).add j) = as.2[j]? := by
              intro i hi
              have h1 := hel i hi
              have h2 : i < elems.length := by omega
              rw [List.getElem?_eq_getElem h2] at h1
              obtain ⟨cs', hc, hx'⟩ := Option.bind_eq_some_iff.1 h1
              obtain ⟨hcl, hcg⟩ := cells?_get hc
              obtain ⟨as, ha, hcells⟩ := ih e d _ cs' _ hd hx'
              exact ⟨(as, cs'), ha, hcells, hcl, hcg⟩
            obtain ⟨l, hll, hlp⟩ := rows_of (fun i (as : List AV × List Value) => okAs d as.1 ∧ Cells Z w th0 as.1 as.2 ∧ as.2.length = P.cellsOf e ∧ ∀ j, j < P.cellsOf e → w.cell? ((a.add (i * P.cellsOf e)).add j) = as.2[j]?) len hrow
            have hmem : ∀ r ∈ l.map (·.1), okAs d r := by
              intro r hr
              obtain ⟨y, hy, rfl⟩ := List.mem_map.1 hr
              obtain ⟨i, hi⟩ := List.getElem?_of_mem hy
              exact (hlp i y hi).1
            have hpos : 0 < P.cellsOf e := by
              rw [← hdl.1]
              rcases List.length_pos_iff.2 hdl.2 with h; exact h
            have cellv : ∀ (i j : Nat) (c : AV), cellAt (l.map (·.1)) i j = some c → ∃ y, l[i]? = some y ∧ y.1[j]? = some c ∧ j < P.cellsOf e ∧ ∃ v, y.2[j]? = some v := by
              intro i j c hc
              simp only [cellAt, List.getElem?_map] at hc
              cases hy : l[i]? with
              | none => simp [hy] at hc
              | some y =>
                simp [hy] at hc
                have hk := (hlp i y hy).2.1.len
                have hk2 := (hlp i y hy).2.2.1
                have hj : j < y.1.length := by
                  by_cases h : j < y.1.length
                  · exact h
                  · simp [List.getElem?_eq_none (by omega : y.1.length ≤ j)] at hc
                exact ⟨y, rfl, hc, by omega, _, List.getElem?_eq_getElem (by omega)⟩
            let f : Nat → Nat → Value := fun i j => (((l[i]?).map (·.2)).bind (·[j]?)).getD undef
            have hf : ∀ (i j : Nat) (c : AV), cellAt (l.map (·.1)) i j = some c → ∃ y v, l[i]? = some y ∧ y.1[j]? = some c ∧ j < P.cellsOf e ∧ y.2[j]? = some v ∧ f i j = v := by
              intro i j c hc
              obtain ⟨y, hy, h1, h2, v, hv⟩ := cellv i j c hc
              exact ⟨y, v, hy, h1, h2, hv, by simp [f, hy, hv]⟩
            refine ⟨[.lst (d.map CD.zero) (l.map (·.1))], ⟨⟨_, rfl, by simp; omega, hmem⟩, trivial⟩, Cells.one1 ?_ rfl rfl⟩
            have hR : Rep Z w th0 (.lst (d.map CD.zero) (l.map (·.1))) (.slice (some a) (l.map (·.1)).length cap) := by
              refine .lst _ _ _ (some a) cap f (by simp; omega) hm ?_ ?_ ?_ ?_ ?_
              · intro r hr
                rw [okAs_len (hmem r hr)]; simp
              · intro r hr
                obtain ⟨y, hy, rfl⟩ := List.mem_map.1 hr
                obtain ⟨i, hi⟩ := List.getElem?_of_mem hy
                exact (hlp i y hi).2.1.at1
              · intro hne
                obtain ⟨y, hy⟩ : ∃ y, l[0]? = some y := by
                  cases l with
                  | nil => simp at hne
                  | cons y l => exact ⟨y, rfl⟩
                have h0 := (hlp 0 y hy).2.2
                have h1 := h0.2 0 hpos
                rw [List.getElem?_eq_getElem (by rw [h0.1]; exact hpos)] at h1
                have hs := World.cell?_spot h1
                have hlt := cell_lt h1
                obtain ⟨b, o, s⟩ := a
                have hs' : s = none := by simpa [Addr.add] using hs
                subst hs'
                refine ⟨b, o, rfl, hZ b (by simpa [Addr.add] using hlt), ?_⟩
                intro i j c hc
                obtain ⟨y, v, hy, h1, h2, hv, hfv⟩ := hf i j c hc
                have := (hlp i y hy).2.2.2 j h2
                rw [hv] at this
                rw [hfv, ← this, addr_add, addr_add]
                simp [hdl.1, Nat.add_assoc]
              · intro i j c hc
                obtain ⟨y, v, hy, h1, h2, hv, hfv⟩ := hf i j c hc
                rw [hfv]
                exact (hlp i y hy).2.1.one v (List.mem_of_getElem? hv)
              · intro i j c hc
                obtain ⟨y, v, hy, h1, h2, hv, hfv⟩ := hf i j c hc
                rw [hfv]
                exact (hlp i y hy).2.1.rep j c v h1 hv
            have : (l.map (·.1)).length = len := by simp [hll]
            rwa [this] at hR
        · cases hD
      · cases hD
    · rename_i fs ht
      split at hD
      · rename_i d hd
        split at hD
        · rename_i hdl
          cases hD
          obtain ⟨xs, m', _, _, hcl, hxl, hf⟩ := DataW.trod_struct ht hx
          have go : ∀ (l : List Field) (p : Nat) (E : List CD), catF P (flat P n) l p = some E → (∀ f ∈ l, ∃ y, DataW.trod enc P w base spare held m' f.type ((cs.drop f.offset).take (P.cellsOf f.type)) = some y) →
              ∃ as, okAs E as ∧ Cells Z w th0 as ((cs.drop p).take E.length) := by
            intro l
            induction l with
            | nil =>
              intro p E hE _
              simp only [catF] at hE; cases hE
              exact ⟨[], trivial, by simpa using Cells.nil _ _ _⟩
            | cons f l ihl =>
              intro p E hE hl
              simp only [catF] at hE
              split at hE
              · rename_i d1 ds1 h1 h2
                split at hE
                · rename_i hh
                  cases hE
                  obtain ⟨y, hy⟩ := hl f (by simp)
                  obtain ⟨as, ha, hc⟩ := ih _ _ _ _ _ h1 hy
                  obtain ⟨bs, hb, hc'⟩ := ihl _ _ h2 (fun g hg => hl g (by simp [hg]))
                  refine ⟨as ++ bs, okAs_append ha hb, ?_⟩
                  have e1 : (cs.drop p).take (d1 ++ ds1).length = (cs.drop f.offset).take (P.cellsOf f.type) ++ (cs.drop (p + P.cellsOf f.type)).take ds1.length := by
                    rw [List.length_append, hh.1, hh.2, List.take_add, List.drop_drop]
                  rw [e1]
                  exact hc.append hc'
                · cases hE
              · cases hE
          obtain ⟨as, ha, hc⟩ := go fs.toList 0 D hd (by
            intro f hfm
            obtain ⟨i, hi⟩ := List.getElem?_of_mem hfm
            have hi' : fs[i]? = some f := by simpa using hi
            have h1 := hf i f hi'
            have h2 : i < xs.length := by
              rw [hxl]
              by_cases h : i < fs.size
              · exact h
              · simp [Array.getElem?_eq_none (by omega : fs.size ≤ i)] at hi'
            rw [List.getElem?_eq_getElem h2] at h1
            exact ⟨_, h1⟩)
          refine ⟨as, ha, ?_⟩
          have : (cs.drop 0).take D.length = cs := by simp [hdl, ← hcl]
          rwa [this] at hc
        · cases hD
      · cases hD
    · rename_i k e ht
      split at hD
      · rename_i d hd
        split at hD
        · rename_i hdl
          cases hD
          obtain ⟨xs, m', _, _, hcl, hxl, hf⟩ := DataW.trod_array ht hx
          have go : ∀ (j p : Nat), p + j = k → ∃ as, okAs (catN j d) as ∧ Cells Z w th0 as ((cs.drop (p * d.length)).take (j * d.length)) := by
            intro j
            induction j with
            | zero => intro p _; exact ⟨[], trivial, by simpa using Cells.nil _ _ _⟩
            | succ j ihj =>
              intro p hp
              obtain ⟨bs, hb, hc'⟩ := ihj (p + 1) (by omega)
              have h1 := hf p (by omega)
              rw [List.getElem?_eq_getElem (by omega)] at h1
              obtain ⟨as, ha, hc⟩ := ih _ _ _ _ _ hd h1
              refine ⟨as ++ bs, okAs_append ha hb, ?_⟩
              have e1 : (cs.drop (p * d.length)).take ((j + 1) * d.length) = (cs.drop (p * P.cellsOf e)).take (P.cellsOf e) ++ (cs.drop ((p + 1) * d.length)).take (j * d.length) := by
                rw [← hdl.1, show (j + 1) * d.length = d.length + j * d.length by rw [Nat.succ_mul, Nat.add_comm], List.take_add, List.drop_drop, show (p + 1) * d.length = p * d.length + d.length by rw [Nat.succ_mul]]
              rw [e1]
              exact hc.append hc'
          obtain ⟨as, ha, hc⟩ := go k 0 (by omega)
          refine ⟨as, ha, ?_⟩
          have : (cs.drop (0 * d.length)).take (k * d.length) = cs := by simp [hdl.2, ← hcl]
          rwa [this] at hc
        · cases hD
      · cases hD
    · cases hD


variable {t : TypeId} {v : Value} {d : DataW H} {ps : List MemPlace} {r : Reach} {b0 : Nat}
theorem arg_int (hZ : ∀ b, b < w.heap.size → Z b) {k : IntKind} (ht : P.underlying t = some (.int k)) (hv : Value.okWide P w r b0 t v) (hd : DataW.Trod enc P w base spare held t v d ps) :
    ∃ n, (Lit.int k n).wf = true ∧ Rep Z w th0 (.int k n) v := by
  obtain ⟨n, rfl⟩ := WideShapes.okWide_int ht hv
  obtain ⟨fuel, hf⟩ := hd
  obtain ⟨n', h, _, hw⟩ := DataW.trod_int ht hf
  simp [Value.cells] at h
  subst h
  exact ⟨_, hw, .int _ _ _⟩
theorem arg_bool (hZ : ∀ b, b < w.heap.size → Z b) (ht : P.underlying t = some .bool) (hv : Value.okWide P w r b0 t v) (hd : DataW.Trod enc P w base spare held t v d ps) :
    ∃ b, Rep Z w th0 (.bool b) v := by
  obtain ⟨n, rfl⟩ := WideShapes.okWide_bool ht hv
  exact ⟨_, .bool _ _⟩
theorem arg_str (hZ : ∀ b, b < w.heap.size → Z b) (ht : P.underlying t = some .string) (hv : Value.okWide P w r b0 t v) (hd : DataW.Trod enc P w base spare held t v d ps) :
    ∃ s, s.length ≤ maxLen ∧ Rep Z w th0 (.str s) v := by
  obtain ⟨s, rfl⟩ := WideShapes.okWide_string ht hv
  obtain ⟨fuel, hf⟩ := hd
  obtain ⟨s', h, _, hw⟩ := DataW.trod_string ht hf
  simp [Value.cells] at h
  subst h
  refine ⟨s.data.toList, by simpa using hw, ?_⟩
  have h := Rep.str (Z := Z) (w := w) th0 s.data.toList
  simpa using h
theorem arg_sl (hZ : ∀ b, b < w.heap.size → Z b) {e : TypeId} (ht : P.underlying t = some (.slice e)) (n : Nat) {D : List CD} (hD : flat P n t = some [.sl D]) (hv : Value.okWide P w r b0 t v) (hd : DataW.Trod enc P w base spare held t v d ps) :
    ∃ es, es.length ≤ maxLen ∧ (∀ r ∈ es, okAs D r) ∧ Rep Z w th0 (.lst (D.map CD.zero) es) v := by
  obtain ⟨a, len, cap, rfl⟩ := WideShapes.okWide_slice ht hv
  obtain ⟨fuel, hf⟩ := hd
  obtain ⟨as, ha, hc⟩ := trod_flat hZ n t _ _ _ _ hD hf
  match as, ha with
  | [a'], ⟨⟨es, h1, h2, h3⟩, _⟩ =>
    subst h1
    exact ⟨es, h2, h3, hc.rep 0 _ _ rfl (by simp [Value.cells])⟩
theorem arg_agg (hZ : ∀ b, b < w.heap.size → Z b) {fs : Array Field} (ht : P.underlying t = some (.struct fs)) (n : Nat) {D : List CD} (hD : flat P n t = some D) (hv : Value.okWide P w r b0 t v) (hd : DataW.Trod enc P w base spare held t v d ps) :
    ∃ as, okAs D as ∧ Rep Z w th0 (.agg as) v := by
  obtain ⟨cs, rfl, _⟩ := WideShapes.okWide_struct ht hv
  obtain ⟨fuel, hf⟩ := hd
  obtain ⟨as, ha, hc⟩ := trod_flat hZ n t _ _ _ _ hD hf
  refine ⟨as, ha, ?_⟩
  have h := hc.agg
  simpa [Value.cells] using h

theorem Reps.nil' : Reps Z w th0 [] [] := ⟨rfl, by simp⟩
theorem Reps.cons' {x : AV} {v : Value} {xs : List AV} {vs : List Value} (h : Rep Z w th0 x v) (k : Reps Z w th0 xs vs) : Reps Z w th0 (x :: xs) (v :: vs) := by
  refine ⟨by simp [k.len], ?_⟩
  intro i c u hc hu
  cases i with
  | zero => simp at hc hu; subst hc hu; exact h
  | succ i => exact k.rep i c u (by simpa using hc) (by simpa using hu)

theorem law_calls {f : FuncId} {C : List AV → List AV → Option (Prop × AV × List AV)} (hS : Sound P f (.mk false C)) {xs : List AV} {vs : List Value} (hr : Reps (fun b => b < w.heap.size) w th0 xs vs) {q : Prop} {cs' : List AV} (hC : C [] xs = some (q, .bool true, cs')) (hq : q) :
    Calls P f vs.toArray w fun e w' => e = .returned (.bool true) ∧ Below w.heap.size w w' := by
  refine (hS _ w xs vs q _ cs' (fun _ h => h) hr hC hq).mono ?_
  rintro e w' ⟨u, Z', rfl, hF, _, hR⟩
  cases hR
  exact ⟨rfl, hF.os, hF.tape, hF.output, hF.size, fun k hk => hF.block k hk (by simp)⟩
theorem ex_map {α : Type} {f : α → List AV} {p : α → Prop} : ∀ {es : List (List AV)}, (∀ r ∈ es, ∃ x, r = f x ∧ p x) → ∃ l : List α, es = l.map f ∧ ∀ x ∈ l, p x
  | [], _ => ⟨[], rfl, by simp⟩
  | r :: es, h => by
    obtain ⟨l, hl, hp⟩ := ex_map (es := es) (f := f) (p := p) (fun r hr => h r (List.mem_cons_of_mem _ hr))
    obtain ⟨x, hx, hpx⟩ := h r (by simp)
    exact ⟨x :: l, by simp [hx, hl], by simp; exact ⟨hpx, hp⟩⟩
theorem ex_u8s {es : List (List AV)} (h : ∀ r ∈ es, okAs [.int .u8] r) : ∃ l : List Int, es = u8s l ∧ ∀ k ∈ l, 0 ≤ k ∧ k ≤ 255 := by
  refine ex_map (fun r hr => ?_)
  match r, h r hr with
  | [a], ⟨⟨n, ha, hw⟩, _⟩ =>
    subst ha
    exact ⟨n, rfl, bounds_u8 hw⟩
end
end Go.Ev

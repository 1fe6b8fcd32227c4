/- A part of the proof: symbolic evaluation of the program's functions, proved sound against the model; no condition. -/
/-
  The framework 'Ev', part P: the operations on buffers, on parts of slices and on strings.
  Conditions: none; a text of lemmas.
-/
import Derived.Test.YteakklbbdfgbdaaEvO
import Derived.Laws.IdiomStrings
import Derived.Laws.Strings
import Derived.Laws.Cover3
namespace Go.Ev
open Go Go.RowKit
set_option linter.unusedVariables false
set_option linter.unusedSectionVars false
set_option linter.unusedSimpArgs false

section
variable {P : Program} {X : Cx} {Z : Nat → Prop} {w : World} {θ : Nat → Value} {a : Act} {σ : St} {p : List (Nat × Bool)}

theorem elem_of {t e : TypeId} (h : P.underlying t = some (.slice e)) : P.underlying t = some (.slice (P.elem t)) ∧ P.elem t = e := by
  have : P.elem t = e := by simp [Program.elem, h]
  exact ⟨by rw [this]; exact h, this⟩

/-- A part of a slice. -/
theorem run_slice_opt {t e : TypeId} (hu : P.underlying t = some (.slice e)) {s : Nat} (hs : sizeP P e = some s) (ad : Option Addr) (len cap : Nat) {lo hi : Option Value} {l h : Int}
    (hl : (lo = none ∧ l = 0) ∨ ∃ k, lo = some (.int k l)) (hh : (hi = none ∧ h = len) ∨ ∃ k, hi = some (.int k h)) (h0 : 0 ≤ l) (h1 : l ≤ h) (h2 : h ≤ len) (h3 : len ≤ cap) :
    (Instr.sliceAt t (.slice ad len cap) lo hi none).run P w = .ok (.slice (if cap = l.toNat then ad else ad.map (·.add (l.toNat * s))) (h.toNat - l.toNat) (cap - l.toNat)) w := by
  obtain ⟨hu', he⟩ := elem_of hu
  have hsz : (sizeOf (P.elem t)).run P w = .ok s w := by rw [he]; exact run_sizeP hs w
  rw [run_sliceAt_slice w t _ _ _ _ hu']
  rcases hl with ⟨rfl, rfl⟩ | ⟨kl, rfl⟩
  · rcases hh with ⟨rfl, rfl⟩ | ⟨kh, rfl⟩
    · rw [run_slice_all w t ad len cap hu', hsz]; simp [sliced]
    · rw [run_slice_h w t ad len cap hu' kh h (by omega) (by omega), hsz]; simp [sliced]
  · rcases hh with ⟨rfl, rfl⟩ | ⟨kh, rfl⟩
    · rw [run_slice_l w t ad len cap hu' kl l h0 h1, hsz]; simp [sliced]
    · rw [run_slice_lh w t ad len cap hu' kl kh l h h0 h1 (by omega), hsz]; simp [sliced]

variable (hs : ∀ k, SRep Z w θ a.tmps (σ.s k) (a.tmps.getD k undef)) (hp : pathT a.tmps p)
include hs hp

theorem bound_lo {x : Option Operand} {x' : Option A} (hc : compO x = some x') {y : Option AV} (h : boundA σ p x' = some y) {l : Int} (hl : loOf y = some l) : (x.map a.eval = none ∧ l = 0) ∨ ∃ k, x.map a.eval = some (.int k l) := by
  cases x with
  | none =>
    simp only [compO, Option.some.injEq] at hc; subst hc
    simp only [boundA, Option.some.injEq] at h; subst h
    simp only [loOf, Option.some.injEq] at hl; subst hl
    exact .inl ⟨rfl, rfl⟩
  | some x =>
    simp only [compO] at hc
    obtain ⟨x1, hx, rfl⟩ := Option.map_eq_some_iff.1 hc
    simp only [boundA] at h
    obtain ⟨v, hv, rfl⟩ := Option.map_eq_some_iff.1 h
    have hr := av_rep hs hp hx hv
    cases v <;> simp [loOf] at hl
    subst hl
    simp only [Option.map_some]
    generalize a.eval x = u at hr
    cases hr
    exact .inr ⟨_, rfl⟩
theorem bound_hi {x : Option Operand} {x' : Option A} (hc : compO x = some x') {y : Option AV} (h : boundA σ p x' = some y) {n : Nat} {l : Int} (hl : hiOf n y = some l) : (x.map a.eval = none ∧ l = n) ∨ ∃ k, x.map a.eval = some (.int k l) := by
  cases x with
  | none =>
    simp only [compO, Option.some.injEq] at hc; subst hc
    simp only [boundA, Option.some.injEq] at h; subst h
    simp only [hiOf, Option.some.injEq] at hl; subst hl
    exact .inl ⟨rfl, rfl⟩
  | some x =>
    simp only [compO] at hc
    obtain ⟨x1, hx, rfl⟩ := Option.map_eq_some_iff.1 hc
    simp only [boundA] at h
    obtain ⟨v, hv, rfl⟩ := Option.map_eq_some_iff.1 h
    have hr := av_rep hs hp hx hv
    cases v <;> simp [hiOf] at hl
    subst hl
    simp only [Option.map_some]
    generalize a.eval x = u at hr
    cases hr
    exact .inr ⟨_, rfl⟩

omit hs hp in
/-- A part of a list. -/
theorem lst_part {z : List AV} {es : List (List AV)} {ad : Option Addr} {cap : Nat} (h : Rep Z w θ (.lst z es) (.slice ad es.length cap)) {l h' : Nat} (h0 : l ≤ h') (h1 : h' ≤ es.length) (sz : Nat) (hsz : z.length = sz) :
    Rep Z w θ (.lst z ((es.drop l).take (h' - l))) (.slice (if cap = l then ad else ad.map (·.add (l * sz))) (h' - l) (cap - l)) := by
  subst hsz
  generalize hv : Value.slice ad es.length cap = v at h
  cases h with
  | lst _ _ _ a cap' f hc hm hz hat hmem h1' h =>
    simp only [Value.slice.injEq, true_and] at hv
    obtain ⟨rfl, rfl⟩ := hv
    have hlen : ((es.drop l).take (h' - l)).length = h' - l := by simp; omega
    have hcell : ∀ (i j : Nat) (c : AV), cellAt ((es.drop l).take (h' - l)) i j = some c → cellAt es (l + i) j = some c := by
      intro i j c hcc
      unfold cellAt at hcc ⊢
      rw [List.getElem?_take] at hcc
      split at hcc
      · rw [List.getElem?_drop] at hcc; exact hcc
      · cases hcc
    have hmemE : ∀ e ∈ (es.drop l).take (h' - l), e ∈ es := fun e he => List.mem_of_mem_drop (List.mem_of_mem_take he)
    conv => arg 5; arg 2; rw [← hlen]
    refine .lst θ z _ _ _ (fun i j => f (l + i) j) (by rw [hlen]; omega) (by omega) (fun e he => hz e (hmemE e he)) (fun e he => hat e (hmemE e he)) ?_ (fun i j c hcc => h1' _ j c (hcell i j c hcc)) (fun i j c hcc => h _ j c (hcell i j c hcc))
    intro hne
    have hlt : l < h' := by
      rcases Nat.lt_or_ge l h' with h | h
      · exact h
      · rw [show h' - l = 0 by omega] at hne; simp at hne
    have hne' : es ≠ [] := by rintro rfl; simp at h1; omega
    obtain ⟨b, o, rfl, hZ, hmm⟩ := hmem hne'
    refine ⟨b, o + l * z.length, ?_, hZ, fun i j c hcc => ?_⟩
    · rw [if_neg (by omega)]
      simp [add_none]
    · have := hmm _ j c (hcell i j c hcc)
      rw [show o + l * z.length + (i * z.length + j) = o + ((l + i) * z.length + j) by rw [Nat.add_mul]; omega]
      exact this

theorem ok_slice (hm : Mem X Z w θ σ.m) {o : Oper} {t e : TypeId} {x : Operand} {lo hi : Option Operand} (ho : o.op = .slice t x lo hi none) (hu : P.underlying t = some (.slice e)) {sz : Nat} (hsz : sizeP P e = some sz)
    {x' : A} {lo' hi' : Option A} (hx : compA x = some x') (hl : compO lo = some lo') (hh : compO hi = some hi') {r : Res} (he : sliceO σ.m sz (av σ p x') (boundA σ p lo') (boundA σ p hi') = some r) (hpre : ∀ q ∈ r.pre, q) : Calm P Z w θ a o r := by
  unfold sliceO at he
  split at he <;> try (cases he; done)
  rename_i vx vl vh hvx hvl hvh
  have hrx := av_rep hs hp hx hvx
  have hrun : ∀ (ad : Option Addr) (len cap : Nat) (l h : Int), a.eval x = .slice ad len cap → loOf vl = some l → hiOf len vh = some h → 0 ≤ l → l ≤ h → h ≤ len → len ≤ cap →
      (execOp a.eval o).run P w = .ok (.value (.slice (if cap = l.toNat then ad else ad.map (·.add (l.toNat * sz))) (h.toNat - l.toNat) (cap - l.toNat))) w := by
    intro ad len cap l h hv h1 h2 h3 h4 h5 h6
    have := run_slice_opt (P := P) (w := w) hu hsz ad len cap (bound_lo hs hp hl hvl h1) (bound_hi hs hp hh hvh h2) h3 h4 h5 h6
    simp only [execOp, ho, Sem.run_bind, hv]
    simp only [Option.map_none]
    rw [this]; rfl
  generalize hv : a.eval x = v at hrx hrun
  unfold sliceR at he
  split at he
  · rename_i z es
    split at he <;> try (cases he; done)
    rename_i l h h1 h2 h3
    have h3 : z.length = sz := by simpa using h3
    simp only [Option.some.injEq] at he; subst he
    obtain ⟨hb1, hb2, hb3⟩ := hpre (0 ≤ l ∧ l ≤ h ∧ h ≤ es.length) (by simp)
    have hrx0 := hrx
    cases hrx with
    | lst _ _ _ ad cap f hc hmx hz hat hmem h1' hh' =>
      refine ⟨rfl, rfl, by simp, _, hrun ad es.length cap l h rfl h1 h2 hb1 hb2 hb3 hc, ?_⟩
      exact lst_part hrx0 (by omega) (by omega) sz h3
  · split at he <;> try (cases he; done)
    rename_i l h h1 h2
    simp only [Option.some.injEq] at he; subst he
    obtain ⟨hb1, hb2⟩ := hpre (l = 0 ∧ h = 0) (by simp)
    subst hb1; subst hb2
    cases hrx
    refine ⟨rfl, rfl, by simp, _, hrun none 0 0 0 0 rfl h1 h2 (by omega) (by omega) (by omega) (by omega), ?_⟩
    simp only [Int.toNat_zero, if_true, Nat.sub_self]
    exact .nil θ
  · rename_i r0 _ _ _
    unfold slB at he
    split at he <;> try (cases he; done)
    rename_i T z es hmr
    split at he <;> try (cases he; done)
    rename_i l h h1 h2 h3
    have h3 : z.length = sz := by simpa using h3
    simp only [Option.some.injEq] at he; subst he
    obtain ⟨hb1, hb2, hb3⟩ := hpre (0 ≤ l ∧ l ≤ h ∧ h ≤ es.length) (by simp)
    obtain ⟨hz0, hrows, xs, hown, _, hcs⟩ := hm.brep r0 _ hmr
    cases hrx with
    | vw _ _ _ _ _ a' n' c' hθ =>
      rw [hθ] at hown
      have key : n' = es.length ∧ es.length ≤ c' ∧ c' ≤ maxLen ∧ (0 < n' → ∃ g, a' = some ⟨g, 0, none⟩) := by
        rcases hown.2 with ⟨hv, h0⟩ | ⟨g, cap, cur, hv, _, _, hnc, hcm, _⟩
        · cases hv; exact ⟨h0.symm, by omega, by unfold maxLen; omega, by omega⟩
        · cases hv; exact ⟨rfl, hnc, hcm, fun _ => ⟨g, rfl⟩⟩
      obtain ⟨k1, k2, k3, k4⟩ := key
      subst k1
      refine ⟨rfl, rfl, by simp, _, hrun a' es.length c' l h rfl h1 h2 hb1 hb2 hb3 k2, ?_⟩
      refine .sv _ _ _ _ _ a' es.length c' _ _ hθ (by omega) (by omega) ?_ (by omega) (by omega)
      intro hlt
      obtain ⟨g, rfl⟩ := k4 (by omega)
      refine ⟨g, rfl, ?_⟩
      rw [if_neg (by omega)]
      simp [add_none]
  · rename_i r0 sz' lo0 hi0
    split at he <;> try (cases he; done)
    rename_i hsz'
    have hsz' : sz' = sz := by simpa using hsz'
    subst hsz'
    unfold slP at he
    split at he <;> try (cases he; done)
    rename_i T z es hmr
    split at he <;> try (cases he; done)
    rename_i l h h1 h2 h3
    simp only [Option.some.injEq] at he; subst he
    obtain ⟨hb1, hb2, hb3⟩ := hpre (0 ≤ l ∧ l ≤ h ∧ h ≤ ((hi0 - lo0 : Nat) : Int)) (by simp)
    cases hrx with
    | sv _ _ _ _ _ a0 n0 c0 a' c' hθ e1 e2 e3 e4 e5 =>
      refine ⟨rfl, rfl, by simp, _, hrun a' (hi0 - lo0) c' l h rfl h1 h2 hb1 hb2 hb3 e4, ?_⟩
      have := Rep.sv (Z := Z) (w := w) θ r0 sz' (lo0 + l.toNat) (lo0 + h.toNat) a0 n0 c0 (if c' = l.toNat then a' else a'.map (·.add (l.toNat * sz'))) (c' - l.toNat) hθ (by omega) (by omega) ?_ (by omega) (by omega)
      · rw [show lo0 + h.toNat - (lo0 + l.toNat) = h.toNat - l.toNat by omega] at this
        exact this
      · intro hlt
        obtain ⟨g, ea, eb⟩ := e3 (by omega)
        refine ⟨g, ea, ?_⟩
        rw [if_neg (by omega), eb]
        simp only [Option.map_some, add_none]
        rw [Nat.add_mul]
  · cases he

/-! ### make -/
omit hs hp in
theorem toList_madeCells (vs : List Value) (s : Nat) (hl : vs.length = s) (hs0 : s ≠ 0) (n : Nat) : (madeCells vs.toArray (n * s)).toList = (List.replicate n vs).flatten := by
  have := range_zero vs n s hl hs0
  unfold madeCells
  rw [this]
theorem ok_mkslice (hm : Mem X Z w θ σ.m) {o : Oper} {d : Nat} {t e : TypeId} {l c : Operand} (ho : o.op = .makeSlice t l c) (hu : P.underlying t = some (.slice e)) {i : TypeInfo} (hi : P.info? e = some i) {z : List AV} (hz : zeroP P e = some z) (hzl : z.length = i.size) (hs0 : i.size ≠ 0)
    {l' c' : A} (hl : compA l = some l') (hc : compA c = some c') {r : Res} (he : bind2 (av σ p l') (av σ p c') (mkR e i.bytes z d) = some r) (hpre : ∀ q ∈ r.pre, q) : OpOK P X Z w θ σ.m a o d r := by
  obtain ⟨vl, vc, hvl, hvc, h⟩ := bind2_some he
  have hrl := av_rep hs hp hl hvl
  have hrc := av_rep hs hp hc hvc
  unfold mkR at h
  split at h <;> try (cases h; done)
  rename_i kl ln kc cn
  simp only [Option.some.injEq] at h; subst h
  obtain ⟨h0, h1, h2, h3⟩ := hpre (0 ≤ ln ∧ ln ≤ cn ∧ (i.bytes : Int) * cn ≤ 281474976710656 ∧ cn ≤ 9223372036854775807) (by simp)
  generalize el : a.eval l = v1 at hrl
  generalize ec : a.eval c = v2 at hrc
  cases hrl; cases hrc
  obtain ⟨zv, hzv, hzc⟩ : ∃ zv, i.zero = some zv ∧ constAVs zv.cells.toList = some z := by
    unfold zeroP at hz
    rw [hi] at hz
    simp only [Option.bind_some] at hz
    split at hz
    · rename_i zv hzv; exact ⟨zv, hzv, hz⟩
    · cases hz
  have hcells := (constAVs_cells (Z := Z) (w := w) (θ := th0) hzc).1
  have hrun := run_make (P := P) w t e i zv hu hi hzv kl kc ln cn h0 h1 h2 h3
  have hex : (execOp a.eval o).run P w = .ok (.value (.slice (some ⟨w.heap.size, 0, none⟩) ln.toNat cn.toNat)) (w.alloc (.cells (madeCells zv.cells (cn.toNat * i.size)) e)) := by
    simp only [execOp, ho, Sem.run_bind, el, ec]
    rw [hrun]; rfl
  have hzl' : zv.cells.toList.length = i.size := by rw [hcells.len, hzl]
  have hlist : (madeCells zv.cells (cn.toNat * i.size)).toList = (List.replicate cn.toNat zv.cells.toList).flatten := by
    have := toList_madeCells zv.cells.toList i.size hzl' hs0 cn.toNat
    simpa using this
  have hll : (List.replicate ln.toNat z).length = ln.toNat := by simp
  have hrows : ∀ e ∈ List.replicate ln.toNat z, e.length = z.length := fun e he => by rw [(List.mem_replicate.1 he).2]
  have hcl := replicate_cells (hcells) ln.toNat
  rw [← hll] at hex
  refine ok_newB hm (by rintro rfl; simp at hzl; omega) hrows hcl ?_ hex
  have hsz : (madeCells zv.cells (cn.toNat * i.size)).size = cn.toNat * i.size := size_madeCells _ _
  refine ⟨?_, .inr ⟨w.heap.size, cn.toNat, _, by rw [hll], Nat.zero_le _, heap_alloc_new w _, by rw [hll]; omega, by unfold maxLen; omega, by rw [hzl]; exact hsz, ?_⟩⟩
  · rw [hcl.len, flatten_len hrows]
  · rw [hlist, hll, hzl]
    have hz' : ∀ e ∈ List.replicate cn.toNat zv.cells.toList, e.length = i.size := fun e he => by rw [(List.mem_replicate.1 he).2, hzl']
    have e1 : ∀ (n k : Nat), k ≤ n → ((List.replicate n zv.cells.toList).flatten).take (k * i.size) = (List.replicate k zv.cells.toList).flatten := by
      intro n
      induction n with
      | zero => intro k hk; simp at hk; subst hk; simp
      | succ n ih =>
        intro k hk
        cases k with
        | zero => simp
        | succ k =>
          rw [List.replicate_succ, List.replicate_succ, List.flatten_cons, List.flatten_cons, show (k + 1) * i.size = zv.cells.toList.length + k * i.size by rw [hzl', Nat.add_mul]; omega, List.take_length_add_append, ih k (by omega)]
    exact e1 _ _ (by omega)

/-- A slice that is made and never written. -/
theorem ok_mkF (hm : Mem X Z w θ σ.m) {o : Oper} {d : Nat} {t e : TypeId} {l c : Operand} (ho : o.op = .makeSlice t l c) (hu : P.underlying t = some (.slice e)) {i : TypeInfo} (hi : P.info? e = some i) {z : List AV} (hz : zeroP P e = some z) (hzl : z.length = i.size) (hs0 : i.size ≠ 0)
    {l' c' : A} (hl : compA l = some l') (hc : compA c = some c') {r : Res} (he : bind2 (av σ p l') (av σ p c') (mkFR i.bytes z) = some r) (hpre : ∀ q ∈ r.pre, q) : OpOK P X Z w θ σ.m a o d r := by
  obtain ⟨vl, vc, hvl, hvc, h⟩ := bind2_some he
  have hrl := av_rep hs hp hl hvl
  have hrc := av_rep hs hp hc hvc
  unfold mkFR at h
  split at h <;> try (cases h; done)
  rename_i kl ln kc cn
  simp only [Option.some.injEq] at h; subst h
  obtain ⟨h0, h1, h2, h3⟩ := hpre (0 ≤ ln ∧ ln ≤ cn ∧ (i.bytes : Int) * cn ≤ 281474976710656 ∧ cn ≤ 9223372036854775807) (by simp)
  generalize el : a.eval l = v1 at hrl
  generalize ec : a.eval c = v2 at hrc
  cases hrl; cases hrc
  obtain ⟨zv, hzv, hzc⟩ : ∃ zv, i.zero = some zv ∧ constAVs zv.cells.toList = some z := by
    unfold zeroP at hz
    rw [hi] at hz
    simp only [Option.bind_some] at hz
    split at hz
    · rename_i zv hzv; exact ⟨zv, hzv, hz⟩
    · cases hz
  have hcells := (constAVs_cells (Z := Z) (w := w) (θ := th0) hzc).1
  have hrun := run_make (P := P) w t e i zv hu hi hzv kl kc ln cn h0 h1 h2 h3
  have hex : (execOp a.eval o).run P w = .ok (.value (.slice (some ⟨w.heap.size, 0, none⟩) ln.toNat cn.toNat)) (w.alloc (.cells (madeCells zv.cells (cn.toNat * i.size)) e)) := by
    simp only [execOp, ho, Sem.run_bind, el, ec]
    rw [hrun]; rfl
  have hzl' : zv.cells.toList.length = i.size := by rw [hcells.len, hzl]
  have hlist : (madeCells zv.cells (cn.toNat * i.size)).toList = (List.replicate cn.toNat zv.cells.toList).flatten := by
    have := toList_madeCells zv.cells.toList i.size hzl' hs0 cn.toNat
    simpa using this
  have hll : (List.replicate ln.toNat z).length = ln.toNat := by simp
  have hrows : ∀ e ∈ List.replicate ln.toNat z, e.length = z.length := fun e he => by rw [(List.mem_replicate.1 he).2]
  have hcl := replicate_cells (hcells) ln.toNat
  have hsz : (madeCells zv.cells (cn.toNat * i.size)).size = cn.toNat * i.size := size_madeCells _ _
  intro K Q hK
  obtain ⟨h1, g⟩ := hm.alloc (.cells (madeCells zv.cells (cn.toNat * i.size)) e) (fun b => Z b ∨ b = w.heap.size) (fun _ h => .inl h) (fun _ h => h)
  refine wp_value hex (hK _ _ _ θ ⟨?_, g, fun _ _ => rfl, h1, by simp⟩)
  have hnew : (w.alloc (.cells (madeCells zv.cells (cn.toNat * i.size)) e)).heap[w.heap.size]? = some (.cells (madeCells zv.cells (cn.toNat * i.size)) e (0, 0)) := heap_alloc_new w _
  have e1 : ∀ (n k : Nat), k ≤ n → ((List.replicate n zv.cells.toList).flatten).take (k * i.size) = (List.replicate k zv.cells.toList).flatten := by
    intro n
    induction n with
    | zero => intro k hk; simp at hk; subst hk; simp
    | succ n ih =>
      intro k hk
      cases k with
      | zero => simp
      | succ k =>
        have hz' : zv.cells.toList.length = i.size := hzl'
        rw [List.replicate_succ, List.replicate_succ, List.flatten_cons, List.flatten_cons, show (k + 1) * i.size = zv.cells.toList.length + k * i.size by rw [hz', Nat.add_mul]; omega, List.take_length_add_append, ih k (by omega)]
  have e2 := e1 cn.toNat ln.toNat (by omega)
  have hfl : ((List.replicate ln.toNat zv.cells.toList).flatten).length = ln.toNat * i.size := by
    rw [hcl.len, flatten_len hrows, hll, hzl]
  have := rep_lst (Z := fun b => Z b ∨ b = w.heap.size) (w := w.alloc (.cells (madeCells zv.cells (cn.toNat * i.size)) e)) (θ := θ) (z := z) (es := List.replicate ln.toNat z) (us := (List.replicate ln.toNat zv.cells.toList).flatten) (b := w.heap.size) (cap := cn.toNat) hrows ((hcl).step g) (by rw [hll]; omega) (by unfold maxLen; omega) (.inr rfl) (fun j v hj => by
    rw [cell_of_row _ _ _ _ _ _ hnew]
    have hlt : j < ln.toNat * i.size := by
      have := (List.getElem?_eq_some_iff.1 hj).1
      omega
    have e3 : (madeCells zv.cells (cn.toNat * i.size))[j]? = (madeCells zv.cells (cn.toNat * i.size)).toList[j]? := by simp
    rw [← e2, List.getElem?_take_of_lt hlt] at hj
    rw [hlist] at e3
    simpa [e3] using hj)
  rw [hll] at this; exact this

/-! ### Bytes and strings -/
omit hs hp in
theorem run_b2s_cells {src dst e : TypeId} (h1 : P.underlying src = some (.slice e)) (he : P.underlying e = some (.int .u8)) (hd : P.underlying dst = some .string) {es : List (List AV)} (hB : ByteE es) {ad : Option Addr} {c : Nat} {news : List Value} (hn : es.length ≠ 0 → ad.isSome = true) (hl : news.length = es.length * 1)
    (hcell : ∀ a0, ad = some a0 → ∀ (j : Nat) (u : Value), news[j]? = some u → w.cell? (a0.add j) = some u) (hcs : Cells Z w th0 es.flatten news) : (convert src dst (.slice ad es.length c)).run P w = .ok (.string ⟨(bytesOf es).toArray⟩) w := by
  have key : ∀ (es : List (List AV)) (news : List Value), ByteE es → Cells Z w th0 es.flatten news → ∃ ns : List Int, news = ns.map (Value.int .u8) ∧ bytesOf es = ns.map (fun n => UInt8.ofNat n.toNat) := by
    intro es
    induction es with
    | nil =>
      intro news _ hc
      have := hc.len
      simp at this
      subst this
      exact ⟨[], rfl, rfl⟩
    | cons e0 es ih =>
      intro news hB hc
      obtain ⟨n, rfl⟩ := hB e0 (by simp)
      cases news with
      | nil => have := hc.len; simp at this
      | cons u us =>
        have h0 := hc.rep 0 (.int .u8 n) u (by simp) rfl
        cases h0
        obtain ⟨ns, rfl, hb⟩ := ih us (fun e he => hB e (by simp [he])) (by have := hc.drop 1; simpa using this)
        exact ⟨n :: ns, rfl, by simp [bytesOf, byteOf] at hb ⊢; exact hb⟩
  obtain ⟨ns, rfl, hb⟩ := key es news hB hcs
  rw [run_convert_bytes_string w src dst e ad _ c h1 he hd]
  have hfold : ∀ (ns : List Int) (r : ByteArray), ns.foldl (fun r n => r.push (UInt8.ofNat n.toNat)) r = ⟨r.data ++ (ns.map fun n => UInt8.ofNat n.toNat).toArray⟩ := by
    intro ns
    induction ns with
    | nil => intro r; simp
    | cons n ns ih =>
      intro r
      simp only [List.foldl_cons, ih, List.map_cons]
      simp [ByteArray.push]
  cases ad with
  | none =>
    have : es.length = 0 := by
      rcases Nat.eq_zero_or_pos es.length with h | h
      · exact h
      · have := hn (by omega); simp at this
    have : ns = [] := by
      rw [this] at hl; simp at hl; exact hl
    subst this
    simp at hb
    simp [Conv.bytesToString, hb]
    rfl
  | some a0 =>
    have hload := run_loadCells_list (P := P) w a0 (ns.map (Value.int .u8)) (hcell a0 rfl)
    rw [hl, Nat.mul_one] at hload
    rw [run_bytesToString w a0 es.length c ns hload, hfold, hb]
    have he0 : ByteArray.empty.data = #[] := rfl
    rw [he0]
    simp

theorem calm_b2s (hm : Mem X Z w θ σ.m) {o : Oper} {src dst e : TypeId} {x : Operand} (ho : o.op = .convert src dst x) (h1 : P.underlying src = some (.slice e)) (he' : P.underlying e = some (.int .u8)) (hd : P.underlying dst = some .string) {x' : A} (hx : compA x = some x') {r : Res}
    (he : bind1 (av σ p x') (b2sR σ.m) = some r) (hpre : ∀ q ∈ r.pre, q) : Calm P Z w θ a o r := by
  obtain ⟨y, hy, h⟩ := bind1_some he
  have hr := av_rep hs hp hx hy
  have hrun : ∀ (v : Value) (s : List UInt8), a.eval x = v → (convert src dst v).run P w = .ok (.string ⟨s.toArray⟩) w → (execOp a.eval o).run P w = .ok (.value (.string ⟨s.toArray⟩)) w := by
    intro v s hv hc
    simp only [execOp, ho, Sem.run_bind, hv]
    rw [hc]; rfl
  generalize hv : a.eval x = v at hr hrun
  unfold b2sR at h
  split at h
  · simp only [Res.q, Option.some.injEq] at h; subst h
    cases hr
    refine ⟨rfl, rfl, by simp, _, hrun _ [] rfl ?_, .str _ _⟩
    have := run_b2s_cells (P := P) (Z := Z) (w := w) h1 he' hd (es := []) (by intro e he; cases he) (ad := none) (c := 0) (news := []) (by simp) (by simp) (by simp) (Cells.nil _ _ _)
    simpa [bytesOf] using this
  · rename_i z es
    split at h <;> try (cases h; done)
    rename_i hz1
    simp only [Option.some.injEq] at h; subst h
    have hB := hpre (ByteE es) (by simp)
    obtain ⟨hrows, ad, c, news, hv', hn, hl, hcell, hcs⟩ := reads_lst (by omega) hr
    rw [hz1] at hl
    subst hv'
    exact ⟨rfl, rfl, by simp, _, hrun _ _ rfl (run_b2s_cells h1 he' hd hB hn hl hcell hcs), .str _ _⟩
  · rename_i r0 _ _ _
    unfold b2sB at h
    split at h <;> try (cases h; done)
    rename_i T z es hmr
    split at h <;> try (cases h; done)
    rename_i hz1
    simp only [Option.some.injEq] at h; subst h
    have hB := hpre (ByteE es) (by simp)
    obtain ⟨⟨hrows, ad, c, news, hv', hn, hl, hcell, hcs⟩, _⟩ := reads_buf hm hmr hr
    rw [hz1] at hl
    subst hv'
    exact ⟨rfl, rfl, by simp, _, hrun _ _ rfl (run_b2s_cells h1 he' hd hB hn hl hcell hcs), .str _ _⟩
  · rename_i r0 sz lo hi
    unfold b2sP at h
    split at h <;> try (cases h; done)
    rename_i T z es hmr
    split at h <;> try (cases h; done)
    rename_i hz1
    simp only [Bool.and_eq_true, beq_iff_eq] at hz1
    obtain ⟨hz1, rfl⟩ := hz1
    simp only [Option.some.injEq] at h; subst h
    have hB := hpre (ByteE ((es.drop lo).take (hi - lo))) (by simp)
    rw [← hz1] at hr
    obtain ⟨hrows, ad, c, news, hv', hn, hl, hcell, hcs⟩ := reads_part hm hmr hr
    rw [hz1] at hl
    subst hv'
    exact ⟨rfl, rfl, by simp, _, hrun _ _ rfl (run_b2s_cells h1 he' hd hB hn hl hcell hcs), .str _ _⟩
  · cases h

theorem ok_s2b (hm : Mem X Z w θ σ.m) {o : Oper} {d : Nat} {src dst e : TypeId} {x : Operand} (ho : o.op = .convert src dst x) (h1 : P.underlying src = some .string) (hd : P.underlying dst = some (.slice e)) (he' : P.underlying e = some (.int .u8)) {x' : A} (hx : compA x = some x') {r : Res}
    (he : bind1 (av σ p x') s2bR = some r) (hpre : ∀ q ∈ r.pre, q) : OpOK P X Z w θ σ.m a o d r := by
  obtain ⟨y, hy, h⟩ := bind1_some he
  have hr := av_rep hs hp hx hy
  unfold s2bR at h
  split at h <;> try (cases h; done)
  rename_i s
  simp only [Option.some.injEq] at h; subst h
  have hlen : s.length ≤ 9223372036854775807 := hpre _ (by simp)
  generalize hv : a.eval x = v at hr
  cases hr
  have hrun := run_bytes_of_string (P := P) w src dst e ⟨s.toArray⟩ h1 hd he'
  have hsz : (ByteArray.mk s.toArray).size = s.length := rfl
  rw [hsz] at hrun
  have hex : (execOp a.eval o).run P w = .ok (.value (.slice (some ⟨w.heap.size, 0, none⟩) s.length (grownCap w s.length 0 e)))
      (w.drew.alloc (.cells (bytesRow ⟨s.toArray⟩ (grownCap w s.length 0 e)) e ((bytesRow ⟨s.toArray⟩ (grownCap w s.length 0 e)).size, (bytesRow ⟨s.toArray⟩ (grownCap w s.length 0 e)).size + 1))) := by
    simp only [execOp, ho, Sem.run_bind, hv]
    rw [hrun]; rfl
  generalize hw' : w.drew.alloc (.cells (bytesRow ⟨s.toArray⟩ (grownCap w s.length 0 e)) e ((bytesRow ⟨s.toArray⟩ (grownCap w s.length 0 e)).size, (bytesRow ⟨s.toArray⟩ (grownCap w s.length 0 e)).size + 1)) = w' at hex
  have hsize : w'.heap.size = w.heap.size + 1 := by subst hw'; exact World.size_alloc ..
  have hold : ∀ k, k < w.heap.size → w'.heap[k]? = w.heap[k]? := fun k hk => by subst hw'; exact heap_alloc_eq w.drew _ k hk
  obtain ⟨m1, g⟩ := hm.stepW (w' := w') (m' := σ.m) (Z' := fun b => Z b ∨ b = w.heap.size) none (fun _ h => .inl h) (fun b hb => hb.imp id (fun e => by omega)) (fun b hb => by
    rcases hb with h | h
    · have := hm.zlt b h; omega
    · omega) (by subst hw'; rfl) (by subst hw'; rfl) (by subst hw'; rfl) (by omega) (fun k hk _ => hold k hk) (fun _ _ => rfl) (fun r h => by cases h)
  intro K Q hK
  refine wp_value hex (hK _ _ _ θ ⟨?_, g, fun _ _ => rfl, m1, by simp⟩)
  have hll : (bytesE s).length = s.length := by simp [bytesE]
  have hrows : ∀ e ∈ bytesE s, e.length = 1 := by
    intro e he
    obtain ⟨b, _, rfl⟩ := List.mem_map.1 he; rfl
  have hcs : ∀ s : List UInt8, Cells (fun b => Z b ∨ b = w.heap.size) w' th0 (bytesE s).flatten (s.map fun b => Value.int .u8 b.toNat) := by
    intro s
    induction s with
    | nil => exact .nil _ _ _
    | cons b s ih => exact Cells.append (Cells.one' (.int _ _ _) rfl rfl) ih
  have := rep_lst_at (Z := fun b => Z b ∨ b = w.heap.size) (w := w') (θ := θ) (z := [.int .u8 0]) (es := bytesE s) (us := s.map fun b => Value.int .u8 b.toNat) (b := w.heap.size) (o := 0) (cap := grownCap w s.length 0 e) hrows (hcs s) (by rw [hll]; exact grownCap_ge _ _ _ _) (grownCap_le_maxLen _ _ _ _ (by unfold maxLen; omega)) (.inr rfl) (fun j v hj => by
    subst hw'
    have := World.cell?_alloc_mark w.drew (bytesRow ⟨s.toArray⟩ (grownCap w s.length 0 e)) e ((bytesRow ⟨s.toArray⟩ (grownCap w s.length 0 e)).size, (bytesRow ⟨s.toArray⟩ (grownCap w s.length 0 e)).size + 1) (0 + j)
    rw [show (w.drew.heap.size) = w.heap.size from rfl] at this
    rw [this, Nat.zero_add]
    have hjl : j < s.length := by have := (List.getElem?_eq_some_iff.1 hj).1; simpa using this
    simp only [bytesRow]
    rw [Array.getElem?_append_left (by simpa using hjl)]
    simpa using hj)
  rw [hll] at this
  exact this

theorem calm_idxS {o : Oper} {t : TypeId} {x i : Operand} (ho : o.op = .index t x i) (hu : P.underlying t = some .string) {x' i' : A} (hx : compA x = some x') (hi : compA i = some i') {r : Res} (he : bind2 (av σ p x') (av σ p i') idxSR = some r) (hpre : ∀ q ∈ r.pre, q) : Calm P Z w θ a o r := by
  obtain ⟨vx, vi, hvx, hvi, h⟩ := bind2_some he
  have hrx := av_rep hs hp hx hvx
  have hri := av_rep hs hp hi hvi
  generalize ex : a.eval x = v1 at hrx
  generalize ei : a.eval i = v2 at hri
  unfold idxSR at h
  split at h <;> try (cases h; done)
  rename_i s k n
  simp only [Option.some.injEq] at h; subst h
  have hb : 0 ≤ n ∧ n < (s.length : Int) := hpre _ (by simp)
  cases hrx; cases hri
  refine ⟨rfl, rfl, by simp, _, ?_, .int _ _ _⟩
  have hsz : (ByteArray.mk s.toArray).size = s.length := rfl
  have hrun := run_index_string (P := P) w t ⟨s.toArray⟩ k n hu
  rw [dif_pos (by rw [hsz]; exact hb)] at hrun
  simp only [execOp, ho, Sem.run_bind, ex, ei]
  rw [hrun]
  have hlt : n.toNat < s.length := by omega
  have e1 : (ByteArray.mk s.toArray)[n.toNat]'(by rw [hsz]; omega) = s.getD n.toNat 0 := by
    show s.toArray[n.toNat]'(by simpa using hlt) = _
    simp [List.getD, List.getElem?_eq_getElem hlt]
  simp only [Sem.run_pure, Result.andThen_ok, e1]

/-! ### Fields and elements of values -/
omit hs hp in
theorem run_part_val {t : TypeId} {n : Nat} (hn : sizeP P t = some n) {u : TypeDesc} (hu : P.underlying t = some u) {cs : List AV} {vs : List Value} (hc : Cells Z w θ cs vs) {off : Nat} {v : AV} (hv : valOf (aggP P t) n cs off = some v) : ∃ res, (part t vs.toArray off).run P w = .ok res w ∧ Rep Z w θ v res := by
  obtain ⟨us, hl, hus, res, hres, hag⟩ := cells_val hc hv
  refine ⟨res, ?_, hres⟩
  rcases hag with ⟨ha, rfl⟩ | ⟨ha, rfl⟩
  · unfold valOf at hv
    rw [ha] at hv
    simp only at hv
    split at hv <;> try (cases hv; done)
    rename_i hle
    have e1 : us = (vs.drop off).take n := by
      apply List.ext_getElem?
      intro j
      by_cases hj : j < n
      · have h1 : us[j]? = some us[j] := List.getElem?_eq_getElem (by omega)
        rw [h1, List.getElem?_take, if_pos hj, List.getElem?_drop, hus j _ h1]
      · rw [List.getElem?_eq_none (by omega), List.getElem?_take, if_neg hj]
    simp [part, run_isAggP hu, ha, run_sizeP hn, List.extract, e1]
  · have h0 := hus 0 res rfl
    simp only [Nat.add_zero] at h0
    simp [part, run_isAggP hu, ha, h0]

theorem calm_fld {o : Oper} {t : TypeId} {x : Operand} {f : Nat} (ho : o.op = .field t x f) {fs : Array Field} (hu : P.underlying t = some (.struct fs)) {fd : Field} (hf : fs[f]? = some fd) {n : Nat} (hn : sizeP P fd.type = some n) {u : TypeDesc} (huf : P.underlying fd.type = some u)
    {x' : A} (hc : compA x = some x') {r : Res} (he : bind1 (av σ p x') (fldR fd.offset n (aggP P fd.type)) = some r) : Calm P Z w θ a o r := by
  obtain ⟨y, hy, h⟩ := bind1_some he
  have hr := av_rep hs hp hc hy
  unfold fldR at h
  split at h <;> try (cases h; done)
  split at h <;> try (cases h; done)
  rename_i v hv
  generalize hvx : a.eval x = vx at hr
  obtain ⟨vs, rfl, hcs⟩ := hr.cells
  obtain ⟨res, hres, hrep⟩ := run_part_val (w := w) hn huf hcs hv
  exact .q h (v := res) (by simp [execOp, ho, hvx, Instr.field, run_underlying hu, hf, asAgg, hres]) hrep

theorem calm_idxV {o : Oper} {t e : TypeId} {len : Nat} {x i : Operand} (ho : o.op = .index t x i) (hu : P.underlying t = some (.array len e)) {n : Nat} (hn : sizeP P e = some n) {u : TypeDesc} (hue : P.underlying e = some u)
    {x' i' : A} (hx : compA x = some x') (hi : compA i = some i') {r : Res} (he : bind1 (av σ p x') (fun v => idxVR len n (aggP P e) v i') = some r) (hpre : ∀ q ∈ r.pre, q) : Calm P Z w θ a o r := by
  obtain ⟨y, hy, h⟩ := bind1_some he
  have hr := av_rep hs hp hx hy
  unfold idxVR at h
  split at h <;> try (cases h; done)
  rename_i cs k j
  split at h <;> try (cases h; done)
  rename_i v hv
  simp only [Option.some.injEq] at h; subst h
  have hb : 0 ≤ j ∧ j < (len : Int) := hpre _ (by simp)
  have hei : a.eval i = .int k j := by
    have hri := av_rep hs hp hi (show av σ p (.c (.int k j)) = some (.int k j) from rfl)
    generalize a.eval i = v at hri
    cases hri; rfl
  generalize hvx : a.eval x = vx at hr
  obtain ⟨vs, rfl, hcs⟩ := hr.cells
  obtain ⟨res, hres, hrep⟩ := run_part_val (w := w) hn hue hcs hv
  exact ⟨rfl, rfl, by simp, res, by simp [execOp, ho, hvx, hei, Instr.index, asIntOf, run_underlying hu, hb, run_sizeP hn, hres], hrep⟩

/-! ### Shifts, nil slices -/
theorem calm_shl {o : Oper} {t u : TypeId} {x y : Operand} (ho : o.op = .binOp .shl t x y u) {io : IOp} (hc : compShift true x y = some io) {r : Res} :
    ∃ n x', io = .shl n x' ∧ (bind1 (av σ p x') (shR true n) = some r → Calm P Z w θ a o r) := by
  unfold compShift at hc
  split at hc <;> try (cases hc; done)
  rename_i k n
  rw [Option.map_eq_some_iff] at hc
  obtain ⟨x', hx, hio⟩ := hc
  refine ⟨n, x', hio.symm, fun he => ?_⟩
  obtain ⟨y, hy, h⟩ := bind1_some he
  have hr := av_rep hs hp hx hy
  have ho' : o.op = .binOp .shl t x (.const (.int k (n : Int))) u := ho
  have hey : a.eval (.const (.int k (n : Int))) = .int k (n : Int) := rfl
  unfold shR at h
  split at h <;> try (cases h; done)
  rename_i k' n'
  generalize hv : a.eval x = v at hr
  cases hr
  split at h <;> try (cases h; done)
  all_goals try (rename_i hcc _; cases hcc; done)
  rename_i hb
  have hb : n ≤ k'.bits := by simpa using hb
  refine .q h (v := .int k' (k'.wrap (n' * 2 ^ n))) ?_ (.int _ _ _)
  have hn0 : ¬ ((n : Int) < 0) := by omega
  simp [execOp, ho', hv, hey, eqGuard, binOp, Op.shift, Nat.min_eq_left hb, hn0]

theorem calm_shr {o : Oper} {t u : TypeId} {x y : Operand} (ho : o.op = .binOp .shr t x y u) {io : IOp} (hc : compShift false x y = some io) {r : Res} :
    ∃ n x', io = .shr n x' ∧ (bind1 (av σ p x') (shR false n) = some r → Calm P Z w θ a o r) := by
  unfold compShift at hc
  split at hc <;> try (cases hc; done)
  rename_i k n
  rw [Option.map_eq_some_iff] at hc
  obtain ⟨x', hx, hio⟩ := hc
  refine ⟨n, x', hio.symm, fun he => ?_⟩
  obtain ⟨y, hy, h⟩ := bind1_some he
  have hr := av_rep hs hp hx hy
  have ho' : o.op = .binOp .shr t x (.const (.int k (n : Int))) u := ho
  have hey : a.eval (.const (.int k (n : Int))) = .int k (n : Int) := rfl
  unfold shR at h
  split at h <;> try (cases h; done)
  rename_i k' n'
  generalize hv : a.eval x = v at hr
  cases hr
  split at h <;> try (cases h; done)
  all_goals try (rename_i hcc _; cases hcc; done)
  rename_i hb
  have hb : n ≤ k'.bits := by simpa using hb
  refine .q h (v := .int k' (n'.fdiv (2 ^ n))) ?_ (.int _ _ _)
  have hn0 : ¬ ((n : Int) < 0) := by omega
  simp [execOp, ho', hv, hey, eqGuard, binOp, Op.shift, Nat.min_eq_left hb, hn0]

theorem calm_eqnil (hm : Mem X Z w θ σ.m) {o : Oper} {op : BinOp} {t u e : TypeId} {x y : Operand} (ho : o.op = .binOp op t x y u) (hop : isEq op = true) (hu : P.underlying t = some (.slice e)) (hn : isNilC y = true) {x' : A} (hx : compA x = some x') {r : Res}
    (he : bind1 (av σ p x') (nilR σ.m (isNeq op)) = some r) : Calm P Z w θ a o r := by
  obtain ⟨z, hz, h⟩ := bind1_some he
  have hr := av_rep hs hp hx hz
  have hy : a.eval y = .slice none 0 0 := by
    unfold isNilC at hn
    split at hn
    · rfl
    · cases hn
  have hrun : ∀ (ad : Option Addr) (n c : Nat), a.eval x = .slice ad n c → (execOp a.eval o).run P w = .ok (.value (.bool (match isNeq op with | true => !ad.isNone | false => ad.isNone))) w := by
    intro ad n c hv
    have hq := run_equal_slice_nil (P := P) w t e ad n c hu
    cases op <;> simp only [isEq] at hop <;> try (cases hop; done)
    · simp [execOp, ho, hv, hy, eqGuard, binOp, isNeq, hq]
    · simp [execOp, ho, hv, hy, eqGuard, binOp, isNeq, hq]
  generalize hv : a.eval x = v at hr hrun
  unfold nilR at h
  split at h
  · cases hr
    have := hrun none 0 0 rfl
    refine .q h this ?_
    cases isNeq op <;> exact .bool _ _
  · rename_i zz es
    split at h <;> try (cases h; done)
    rename_i hneq
    cases hr with
    | lst _ _ _ ad cap f hc hmx hzz hat hmem h1' hh' =>
      have := hrun ad es.length cap rfl
      rw [hneq] at this
      refine .q h this (.nb _ _ _ fun hb => ?_)
      cases es with
      | nil => rfl
      | cons e0 es =>
        obtain ⟨b, o', rfl, _⟩ := hmem (by simp)
        cases hb
  · rename_i r0 _ _ _
    unfold nilV at h
    split at h <;> try (cases h; done)
    rename_i T zz es hmr
    split at h <;> try (cases h; done)
    rename_i hneq
    simp only [Option.some.injEq] at h; subst h
    cases hr with
    | vw _ _ _ _ _ a' n' c' hθ =>
      obtain ⟨hz0, hrows, xs, hown, _, hcs⟩ := hm.brep r0 _ hmr
      rw [hθ] at hown
      have := hrun a' n' c' rfl
      rw [hneq] at this
      refine ⟨rfl, rfl, by simp, _, this, .nb _ _ _ fun hb => ?_⟩
      rcases hown.2 with ⟨hv, h0⟩ | ⟨g, cap, cur, hv, _⟩
      · have : es = [] := List.eq_nil_of_length_eq_zero h0
        subst this; rfl
      · cases hv; cases hb
  · cases h

/-! ### An element's place -/
theorem ok_iaddrS (hm : Mem X Z w θ σ.m) {o : Oper} {t e : TypeId} {x i : Operand} (ho : o.op = .indexAddr t x i) (hu : P.underlying t = some (.slice e)) {sz : Nat} (hsz : sizeP P e = some sz) {zero : List AV} (hzero : zero.length = sz)
    {x' i' : A} (hx : compA x = some x') (hi : compA i = some i') {r : Res} (he : bind2 (av σ p x') (av σ p i') (iaddrSM σ.m zero) = some r) (hpre : ∀ q ∈ r.pre, q) : Calm P Z w θ a o r := by
  obtain ⟨vx, vi, hvx, hvi, h⟩ := bind2_some he
  have hrun : ∀ (g off n c : Nat) (k : IntKind) (j : Int), a.eval x = .slice (some ⟨g, off, none⟩) n c → a.eval i = .int k j → 0 ≤ j → j < n → (execOp a.eval o).run P w = .ok (.value (.pointer (some ⟨g, off + j.toNat * sz, none⟩))) w := by
    intro g off n c k j e1 e2 h1 h2
    simp [execOp, ho, e1, e2, Instr.indexAt, asIntOf, run_underlying hu, h1, h2, run_sizeP hsz, add_none]
  unfold iaddrSM at h
  split at h
  · rename_i r0 _ _ _ k n
    have hrx := av_rep hs hp hx hvx
    have hri := av_rep hs hp hi hvi
    unfold iasV at h
    split at h <;> try (cases h; done)
    · rename_i T z es hmr
      split at h <;> try (cases h; done)
      rename_i hzz
      have hzz : z.length = zero.length := by simpa using hzz
      simp only [Option.some.injEq] at h; subst h
      obtain ⟨hb1, hb2⟩ := hpre (0 ≤ n ∧ n < (es.length : Int)) (by simp)
      obtain ⟨hz0, hrows, xs, hown, _, hcs⟩ := hm.brep r0 _ hmr
      generalize ex : a.eval x = v1 at hrx
      generalize ei : a.eval i = v2 at hri
      cases hri
      cases hrx with
      | vw _ _ _ _ _ a' n' c' hθ =>
        rw [hθ] at hown
        rcases hown.2 with ⟨hv, h0⟩ | ⟨g, o0, cap, cur, hv, _, hnc, hcm, _⟩
        · omega
        · cases hv
          refine ⟨rfl, rfl, ?_, _, hrun g o0 _ _ k n ex ei hb1 hb2, ?_⟩
          · intro q hq
            simp only [List.mem_singleton] at hq
            subst hq
            unfold maxLen at hcm; omega
          · rw [← Nat.add_zero (n.toNat * sz), ← hzero]
            exact .bp _ _ _ _ _ _ _ _ _ hθ
    rename_i T z es hmr
    split at h <;> try (cases h; done)
    rename_i hzz
    have hzz : z.length = zero.length := by simpa using hzz
    simp only [Option.some.injEq] at h; subst h
    obtain ⟨hb1, hb2⟩ := hpre (0 ≤ n ∧ n < (es.length : Int)) (by simp)
    obtain ⟨hz0, hrows, xs, hown, _, hcs⟩ := hm.brep r0 _ hmr
    generalize ex : a.eval x = v1 at hrx
    generalize ei : a.eval i = v2 at hri
    cases hri
    cases hrx with
    | vw _ _ _ _ _ a' n' c' hθ =>
      rw [hθ] at hown
      rcases hown.2 with ⟨hv, h0⟩ | ⟨g, cap, cur, hv, _, _, hnc, hcm, _⟩
      · omega
      · cases hv
        refine ⟨rfl, rfl, ?_, _, hrun g 0 _ _ k n ex ei hb1 hb2, ?_⟩
        · intro q hq
          simp only [List.mem_singleton] at hq
          subst hq
          unfold maxLen at hcm; omega
        · rw [← Nat.add_zero (n.toNat * sz), ← hzero]
          exact .bp _ _ _ _ _ _ _ _ _ hθ
  · rename_i r0 sz' lo hi0 k n
    have hrx := av_rep hs hp hx hvx
    have hri := av_rep hs hp hi hvi
    unfold iasP at h
    split at h <;> try (cases h; done)
    rename_i T z es hmr
    split at h <;> try (cases h; done)
    rename_i hzz
    simp only [Bool.and_eq_true, beq_iff_eq] at hzz
    obtain ⟨hzz, hzs⟩ := hzz
    simp only [Option.some.injEq] at h; subst h
    obtain ⟨hb1, hb2, _, _⟩ := hpre (0 ≤ n ∧ n < ((hi0 - lo : Nat) : Int) ∧ lo ≤ hi0 ∧ hi0 ≤ es.length) (by simp)
    generalize ex : a.eval x = v1 at hrx
    generalize ei : a.eval i = v2 at hri
    cases hri
    cases hrx with
    | sv _ _ _ _ _ a0 n0 c0 a' c' hθ e1 e2 e3 e4 e5 =>
      obtain ⟨g, rfl, rfl⟩ := e3 (by omega)
      refine ⟨rfl, rfl, by simp, _, hrun g _ _ _ k n ex ei hb1 hb2, ?_⟩
      rw [show lo * sz' + n.toNat * sz = 0 + ((lo + n.toNat) * zero.length + 0) by rw [← hzs, hzz, hzero, Nat.add_mul]; omega]
      exact .bp _ _ _ _ _ _ _ _ _ hθ
  · exact calm_iaddrS hs hp ho hu hsz hzero hx hi (by rw [hvx, hvi]; exact h) hpre

end
end Go.Ev

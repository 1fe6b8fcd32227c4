/- A part of the proof: symbolic evaluation of the program's functions, proved sound against the model; no condition. -/
/-
  The framework 'Ev', part H: stores, slices' literals, calls by contract; each operation meets its outcome.
  Conditions: none; a text of lemmas.
-/
import Derived.Test.YteakklbbdfgbdaaEvG
namespace Go.Ev
open Go Go.RowKit
set_option linter.unusedVariables false
set_option linter.unusedSectionVars false
set_option linter.unusedSimpArgs false

/-! ### What a contract says -/
structure Grow (Z : Nat → Prop) (w : World) (Z' : Nat → Prop) (w' : World) : Prop where
  sub : ∀ b, Z b → Z' b
  new : ∀ b, Z' b → Z b ∨ w.heap.size ≤ b
  lt : ∀ b, Z' b → b < w'.heap.size

/-- Blocks that a call hands back for the caller's own. -/
structure FrOK (Z' : Nat → Prop) (w w' : World) (θ : Nat → Value) (l : List (Nat × Blk)) : Prop where
  rep : ∀ j blk, (j, blk) ∈ l → BRep Z' w' θ j blk
  new : ∀ j blk, (j, blk) ∈ l → ∀ b, bk (θ j) = some b → w.heap.size ≤ b
  dis : ∀ j blk j' blk', (j, blk) ∈ l → (j', blk') ∈ l → ∀ b, bk (θ j) = some b → bk (θ j') = some b → j = j'

/-- The numbers as they are told. -/
def told0 : AV → AV
  | .fr j _ _ _ => .vw j 0 0 0
  | .fp j _ => .ptr j 0
  | .int k n => .int k n
  | .bool b => .bool b
  | .str s => .str s
  | .lst z es => .lst z es
  | .fn f => .fn f
  | .nil => .nil
  | _ => .junk
def told1 : AV → AV
  | .agg cs => .agg (cs.map told0)
  | x => told0 x
def told2 : AV → AV
  | .tup vs => .tup (vs.map told1)
  | x => told1 x

/-- A slice of a function's own, as handed back. -/
structure OwnRow (Z' : Nat → Prop) (w w' : World) (T : Nat) (z : List AV) (es : List (List AV)) (v : Value) : Prop where
  z0 : z ≠ []
  rows : ∀ e ∈ es, e.length = z.length
  sl : ∃ ad n c, v = .slice ad n c
  new : ∀ b, bk v = some b → w.heap.size ≤ b ∧ ¬ Z' b
  own : ∃ us, w'.ownsRow 0 T z.length v es.length us ∧ Cells Z' w' th0 es.flatten us

/-- The contract holds of the program's function f. -/
def Sound (P : Program) (f : FuncId) : Ctr → Prop
  | .ext false ι fn => ∀ (Z : Nat → Prop) (w : World) (xs : List AV) (vs : List Value) (q : Prop) (g : ι → Prop × AV × List AV), (∀ b, Z b → b < w.heap.size) → Reps Z w th0 xs vs → fn [] xs = some (q, g) → q →
      Calls P f vs.toArray w fun e w' => ∃ i v Z' θ, (g i).1 ∧ e = .returned v ∧ FrameBut none w w' ∧ Grow Z w Z' w' ∧ Rep Z' w' θ (told2 (g i).2.1) v ∧ FrOK Z' w w' θ (frs2 (g i).2.1)
  | .ext true ι fn => ∀ (Z : Nat → Prop) (w : World) (b : Nat) (T : TypeId) (cs : List AV) (us : List Value) (xs : List AV) (vs : List Value) (q : Prop) (g : ι → Prop × AV × List AV), (∀ b, Z b → b < w.heap.size) →
      w.heap[b]? = some (.cells us.toArray T (0, 0)) → ¬ Z b → Cells Z w th0 cs us → Reps Z w th0 xs vs → fn cs xs = some (q, g) → q →
      Calls P f (pt b :: vs).toArray w fun e w' => ∃ i v Z' θ T' us', (g i).1 ∧ e = .returned v ∧ FrameBut (some b) w w' ∧ Grow Z w Z' w' ∧ w'.heap[b]? = some (.cells (List.toArray us') T' (0, 0)) ∧ Cells Z' w' th0 (g i).2.2 us' ∧ Rep Z' w' θ (told2 (g i).2.1) v ∧ FrOK Z' w w' θ (frs2 (g i).2.1)
  | .own T z fn => ∀ (Z : Nat → Prop) (w : World) (xs : List AV) (vs : List Value) (q : Prop) (es : List (List AV)), (∀ b, Z b → b < w.heap.size) → Reps Z w th0 xs vs → fn xs = some (q, es) → q →
      Calls P f vs.toArray w fun e w' => ∃ v Z', e = .returned v ∧ FrameBut none w w' ∧ Grow Z w Z' w' ∧ OwnRow Z' w w' T z es v
  | .mk false fn => ∀ (Z : Nat → Prop) (w : World) (xs : List AV) (vs : List Value) (q : Prop) (r : AV) (cs' : List AV), (∀ b, Z b → b < w.heap.size) → Reps Z w th0 xs vs → fn [] xs = some (q, r, cs') → q →
      Calls P f vs.toArray w fun e w' => ∃ v Z', e = .returned v ∧ FrameBut none w w' ∧ Grow Z w Z' w' ∧ Rep Z' w' th0 r v
  | .mk true fn => ∀ (Z : Nat → Prop) (w : World) (b : Nat) (T : TypeId) (cs : List AV) (us : List Value) (xs : List AV) (vs : List Value) (q : Prop) (r : AV) (cs' : List AV), (∀ b, Z b → b < w.heap.size) →
      w.heap[b]? = some (.cells us.toArray T (0, 0)) → ¬ Z b → Cells Z w th0 cs us → Reps Z w th0 xs vs → fn cs xs = some (q, r, cs') → q →
      Calls P f (pt b :: vs).toArray w fun e w' => ∃ v Z' T' us', e = .returned v ∧ FrameBut (some b) w w' ∧ Grow Z w Z' w' ∧ w'.heap[b]? = some (.cells (List.toArray us') T' (0, 0)) ∧ Cells Z' w' th0 cs' us' ∧ Rep Z' w' th0 r v

section
variable {P : Program} {X : Cx} {Z : Nat → Prop} {w : World} {θ : Nat → Value} {a : Act} {σ : St} {p : List (Nat × Bool)}

theorem Cells.of_th0 {cs : List AV} {vs : List Value} (h : Cells Z w th0 cs vs) (θ : Nat → Value) : Cells Z w θ cs vs :=
  ⟨h.len, h.at1, h.one, fun i c v hc hv => (h.rep i c v hc hv).of_th0 rfl θ⟩

theorem Reps.clean {xs : List AV} {vs : List Value} (h : Reps Z w θ xs vs) (hx : xs.all AV.clean1 = true) (θ' : Nat → Value) : Reps Z w θ' xs vs :=
  ⟨h.len, fun i c v hc hv => (h.rep i c v hc hv).th_clean1 (List.all_eq_true.1 hx c (List.mem_of_getElem? hc)) θ'⟩

theorem heap_setRow_same (w : World) (b : Nat) (cs : List Value) (T : TypeId) (vs : Array Value) (h : w.heap[b]? = some (.cells vs T (0, 0))) : (w.setRow b cs.toArray).heap[b]? = some (.cells cs.toArray T (0, 0)) := by
  simp [World.setRow, Array.getElem?_modify, h]

theorem heap_setRow_other (w : World) (b k : Nat) (cs : Array Value) (h : k ≠ b) : (w.setRow b cs).heap[k]? = w.heap[k]? := by
  simp only [World.setRow, Array.getElem?_modify]
  rw [if_neg (by omega)]

theorem flatten_get {α : Type} {es : List (List α)} {n : Nat} (hz : ∀ e ∈ es, e.length = n) {i j : Nat} {e : List α} (hi : es[i]? = some e) (hj : j < n) : es.flatten[i * n + j]? = e[j]? := by
  induction es generalizing i with
  | nil => simp at hi
  | cons x es ih =>
    have hx := hz x (by simp)
    cases i with
    | zero =>
      simp at hi; subst hi
      rw [List.flatten_cons, Nat.zero_mul, Nat.zero_add, List.getElem?_append_left (by omega)]
    | succ i =>
      simp at hi
      rw [List.flatten_cons, List.getElem?_append_right (by rw [hx, Nat.add_mul]; omega)]
      rw [show (i + 1) * n + j - x.length = i * n + j by rw [hx, Nat.add_mul]; omega]
      exact ih (fun e he => hz e (by simp [he])) hi

theorem flatten_len {α : Type} {es : List (List α)} {n : Nat} (hz : ∀ e ∈ es, e.length = n) : es.flatten.length = es.length * n := by
  induction es with
  | nil => simp
  | cons x es ih =>
    rw [List.flatten_cons, List.length_append, ih (fun e he => hz e (by simp [he])), hz x (by simp), List.length_cons, Nat.add_mul]
    omega

theorem flatten_set {n : Nat} : ∀ {es : List (List AV)} (hz : ∀ e ∈ es, e.length = n) {i : Nat} {ds : List AV} (hd : ds.length = n) (hi : i < es.length), (es.set i ds).flatten = setCells es.flatten (i * n) ds := by
  intro es
  induction es with
  | nil => intro _ i ds _ hi; simp at hi
  | cons x es ih =>
    intro hz i ds hd hi
    have hx := hz x (by simp)
    have hl := flatten_len (es := x :: es) hz
    have hmul : i * n + n ≤ (es.length + 1) * n := by
      have := Nat.mul_le_mul_right n (show i + 1 ≤ es.length + 1 by simp at hi; omega)
      rw [Nat.add_mul] at this; omega
    rw [setCells_eq _ _ _ (by rw [hl, hd]; simpa using hmul)]
    cases i with
    | zero => simp [hd, ← hx]
    | succ i =>
      rw [List.set_cons_succ, List.flatten_cons, ih (fun e he => hz e (by simp [he])) hd (by simpa using hi), setCells_eq _ _ _ (by
        rw [flatten_len (fun e he => hz e (by simp [he])), hd]
        have := Nat.mul_le_mul_right n (show i + 1 ≤ es.length by simp at hi; omega)
        rw [Nat.add_mul] at this; omega), List.flatten_cons]
      have e1 : (i + 1) * n = x.length + i * n := by rw [hx, Nat.add_mul]; omega
      rw [e1, List.take_length_add_append, Nat.add_assoc, List.drop_length_add_append]
      simp


theorem dtd {α : Type} (G : List α) (m n : Nat) (h : m ≤ n) : (G.take n).drop m ++ G.drop n = G.drop m := by
  rw [List.drop_take]
  conv => rhs; rw [← List.take_append_drop (n - m) (G.drop m)]
  rw [List.drop_drop, show m + (n - m) = n by omega]
/-- A part of a row written over. -/
theorem flatten_put {n : Nat} {z : List AV} {es : List (List AV)} (hz : ∀ e ∈ es, e.length = n) {i off : Nat} {vs : List AV} (ho : off + vs.length ≤ n) (hi : i < es.length) :
    (es.set i (setCells (getE z es i) off vs)).flatten = setCells es.flatten (i * n + off) vs := by
  have hrow : (getE z es i).length = n := by
    have : getE z es i = es[i] := by simp [getE, List.getD, List.getElem?_eq_getElem hi]
    rw [this]; exact hz _ (List.getElem_mem hi)
  have hl := flatten_len hz
  have hmul : i * n + n ≤ es.length * n := by
    have := Nat.mul_le_mul_right n (show i + 1 ≤ es.length by omega)
    rw [Nat.add_mul] at this; omega
  rw [flatten_set hz (by rw [setCells_length, hrow]) hi]
  rw [setCells_eq _ _ _ (by rw [setCells_length, hrow, hl]; omega), setCells_length, hrow, setCells_eq vs (getE z es i) off (by rw [hrow]; exact ho), setCells_eq vs es.flatten (i * n + off) (by rw [hl]; omega)]
  rw [← flat_row (z := z) hz hi, List.take_add]
  have e1 : ((es.flatten.drop (i * n)).take n).take off = (es.flatten.drop (i * n)).take off := by rw [List.take_take, Nat.min_eq_left (by omega)]
  have e2 : ((es.flatten.drop (i * n)).take n).drop (off + vs.length) ++ es.flatten.drop (i * n + n) = es.flatten.drop (i * n + off + vs.length) := by
    have d1 : es.flatten.drop (i * n + n) = (es.flatten.drop (i * n)).drop n := by rw [List.drop_drop]
    have d2 : es.flatten.drop (i * n + off + vs.length) = (es.flatten.drop (i * n)).drop (off + vs.length) := by rw [List.drop_drop, Nat.add_assoc]
    rw [d1, d2]
    exact dtd _ _ _ ho
  rw [e1]
  simp only [List.append_assoc]
  rw [e2]

theorem take_put {α : Type} {C us : List α} {o N : Nat} (h : o + us.length ≤ N) (hN : N ≤ C.length) : (C.take o ++ us ++ C.drop (o + us.length)).take N = (C.take N).take o ++ us ++ (C.take N).drop (o + us.length) := by
  rw [List.take_take, Nat.min_eq_left (by omega), List.drop_take, List.take_append, List.length_append, List.length_take, Nat.min_eq_left (by omega : o ≤ C.length), List.take_of_length_le (by simp; omega)]

variable (hs : ∀ k, SRep Z w θ a.tmps (σ.s k) (a.tmps.getD k undef)) (hp : pathT a.tmps p)
include hs hp

theorem ok_storeB {o : Oper} {d : Nat} (hm : Mem X Z w θ σ.m) {t : TypeId} {x v : Operand} (ho : o.op = .store t x v) {n : Nat} (hn : sizeP P t = some n) {x' v' : A} (hx : compA x = some x') (hv : compA v = some v') {vv : AV} (hrv : Rep Z w θ vv (a.eval v))
    {r0 sz i off : Nat} (hrx : Rep Z w θ (.bp r0 sz i off) (a.eval x)) {ds : List AV} (hds : cellsOfAV n vv = some ds) {T : Nat} {z : List AV} {es : List (List AV)} (hmr : σ.m r0 = some (.buf T z es)) (hsz : z.length = sz) (hcl : ds.all AV.clean0 = true) (hle : off + n ≤ z.length) (hi : i < es.length) :
    OpOK P X Z w θ σ.m a o d ⟨[i < es.length], [], .junk, [(r0, .buf T z (es.set i (setCells (getE z es i) off ds)))], none, [r0]⟩ := by
  subst hsz
  obtain ⟨hdl, us, hus, hcu⟩ := cellsOfAV_spec hds hrv
  obtain ⟨hz0, hz, xs, hown, hnz, hcs⟩ := hm.brep r0 _ hmr
  have hul : us.length = n := by rw [hcu.len, hdl]
  generalize ex : a.eval x = u at hrx
  cases hrx with
  | bp _ _ _ _ _ b o0 nn c hθ =>
    have hown0 := hown
    rw [hθ] at hown
    obtain rfl := row_off hown
    simp only [Nat.zero_add] at ex
    rcases hown.2 with ⟨h, _⟩ | ⟨g, cap, cur, hvv, _, hheap, hnc, hcm, hcsz, htake⟩
    · cases h
    · simp only [Value.slice.injEq, Option.some.injEq, Addr.mk.injEq, and_true, true_and] at hvv
      obtain ⟨rfl, rfl, rfl⟩ := hvv
      have hmul : i * z.length + z.length ≤ es.length * z.length := by
        have := Nat.mul_le_mul_right z.length (show i + 1 ≤ es.length by omega)
        rw [Nat.add_mul] at this; omega
      have hcap : es.length * z.length ≤ c * z.length := Nat.mul_le_mul_right _ hnc
      have hrun : (execOp a.eval o).run P w = .ok .skip (w.setRow b (cur.toList.take (i * z.length + off) ++ us ++ cur.toList.drop (i * z.length + off + us.length)).toArray) := by
        have hst := run_storeCells_at P b (i * z.length + off) T us 0 cur w hheap (by rw [hcsz, hul]; omega) hcu.one
        simp only [Nat.add_zero] at hst
        simp [execOp, ho, ex, Instr.storeAt, Instr.sureAddr, storeVar, run_sizeP hn, hus, hul, hst]
      intro K Q hK
      refine wp_skip_op hrun (hK _ Z _ θ ?_)
      have hst := hm.stepW (w' := w.setRow b (cur.toList.take (i * z.length + off) ++ us ++ cur.toList.drop (i * z.length + off + us.length)).toArray) (m' := updL σ.m [(r0, .buf T z (es.set i (setCells (getE z es i) off ds)))]) (some r0) (fun _ h => h) (fun _ h => .inl h)
        (fun b hb => by simpa using hm.zlt b hb) rfl rfl rfl (by simp) (fun k hk hne => heap_setRow_other w b k _ (by
          intro e; subst e; exact hne r0 rfl (by rw [hθ]; rfl))) (fun r' hr' => by
          have : r' ≠ r0 := fun e => hr' (by rw [e])
          simp [updL, updM, this]) (fun r' hr' => by
          simp only [Option.some.injEq] at hr'; subst hr'
          refine ⟨by simp [hmr], fun blk hblk => ?_⟩
          simp [updL, updM] at hblk
          subst hblk
          have g : Goes Z w Z (w.setRow b (cur.toList.take (i * z.length + off) ++ us ++ cur.toList.drop (i * z.length + off + us.length)).toArray) := ⟨fun _ h => h, fun k hk => heap_setRow_other w b k _ (by intro e; subst e; exact hnz k (by rw [hθ]; rfl) hk)⟩
          refine ⟨hz0, ?_, (xs.take (i * z.length + off) ++ us ++ xs.drop (i * z.length + off + us.length)), ?_, hnz, ?_⟩
          · intro e he
            rcases List.mem_or_eq_of_mem_set he with h | h
            · exact hz e h
            · rw [h, setCells_length]
              have : getE z es i = es[i] := by simp [getE, List.getD, List.getElem?_eq_getElem hi]
              rw [this]; exact hz _ (List.getElem_mem hi)
          · rw [hθ, List.length_set]
            have hxl := hown.1
            refine ⟨?_, .inr ⟨b, c, _, rfl, Nat.zero_le _, heap_setRow_same w b _ T _ hheap, hnc, hcm, ?_, ?_⟩⟩
            · simp only [List.length_append, List.length_take, List.length_drop, hxl]
              rw [hul]; omega
            · simp only [List.size_toArray, List.length_append, List.length_take, List.length_drop, Array.length_toList]
              rw [hcsz, hul]; omega
            · rw [List.toList_toArray, take_put (by rw [hul]; omega) (by rw [show cur.toList.length = cur.size from Array.length_toList, hcsz]; exact hcap), htake]
          · rw [flatten_put hz (by rw [hdl]; exact hle) hi]
            exact (hcs.set (hcu.th_clean hcl th0) (by rw [flatten_len hz, hdl]; omega)).step g)
      exact ⟨.junk _ _, hst.2, fun _ _ => rfl, hst.1, by simp⟩

theorem ok_store {o : Oper} {d : Nat} (hm : Mem X Z w θ σ.m) {t : TypeId} {x v : Operand} (ho : o.op = .store t x v) {n : Nat} (hn : sizeP P t = some n) {x' v' : A} (hx : compA x = some x') (hv : compA v = some v') {r : Res}
    (he : bind2 (av σ p x') (av σ p v') (storeR σ.m n) = some r) (hpre : ∀ q ∈ r.pre, q) : OpOK P X Z w θ σ.m a o d r := by
  obtain ⟨ax, vv, hax, hvv, h⟩ := bind2_some he
  have hrx := av_rep hs hp hx hax
  have hrv := av_rep hs hp hv hvv
  unfold storeR at h
  split at h <;> try (cases h; done)
  case h_2 r0 sz i off =>
    split at h <;> try (cases h; done)
    rename_i ds T z es hds hmr
    split at h <;> try (cases h; done)
    rename_i hc
    simp only [Bool.and_eq_true, beq_iff_eq, decide_eq_true_eq] at hc
    simp only [Option.some.injEq] at h; subst h
    exact ok_storeB hs hp hm ho hn hx hv hrv hrx hds hmr hc.1 hc.2.1 hc.2.2 (hpre _ (by simp))
  rename_i r0 off
  split at h <;> try (cases h; done)
  rename_i ds cs hds hmr
  split at h <;> try (cases h; done)
  rename_i hle
  simp only [Option.some.injEq] at h; subst h
  obtain ⟨hdl, us, hus, hcu⟩ := cellsOfAV_spec hds hrv
  obtain ⟨b, T, vs, hθ, hheap, hnZ, hcs⟩ := hm.brep r0 _ hmr
  have hul : us.length = n := by rw [hcu.len, hdl]
  generalize ex : a.eval x = u at hrx
  cases hrx with
  | ptr _ _ _ b' hθ' =>
    rw [hθ] at hθ'; simp at hθ'; subst hθ'
    have hrun : (execOp a.eval o).run P w = .ok .skip (w.setRow b (vs.take off ++ us ++ vs.drop (off + us.length)).toArray) := by
      have hst := run_storeCells_at P b off T us 0 vs.toArray w hheap (by simp [hcs.len, hul]; omega) hcu.one
      simp only [Nat.add_zero, List.toList_toArray] at hst
      simp [execOp, ho, ex, Instr.storeAt, Instr.sureAddr, storeVar, run_sizeP hn, hus, hul, hst]
    intro K Q hK
    refine wp_skip_op hrun (hK _ Z _ θ ?_)
    have hlt := lt_of_get hheap
    have hst := hm.stepW (w' := w.setRow b (vs.take off ++ us ++ vs.drop (off + us.length)).toArray) (m' := updL σ.m [(r0, .cells (setCells cs off ds))]) (some r0) (fun _ h => h) (fun _ h => .inl h)
      (fun b hb => by simpa using hm.zlt b hb) rfl rfl rfl (by simp) (fun k hk hne => heap_setRow_other w b k _ (by
        intro e; subst e; exact hne r0 rfl (by rw [hθ]; rfl))) (fun r' hr' => by
        have : r' ≠ r0 := fun e => hr' (by rw [e])
        simp [updL, updM, this]) (fun r' hr' => by
        simp only [Option.some.injEq] at hr'; subst hr'
        refine ⟨by simp [hmr], fun blk hblk => ?_⟩
        simp [updL, updM] at hblk
        subst hblk
        have g : Goes Z w Z (w.setRow b (vs.take off ++ us ++ vs.drop (off + us.length)).toArray) := ⟨fun _ h => h, fun k hk => heap_setRow_other w b k _ (by intro e; subst e; exact hnZ hk)⟩
        exact ⟨b, T, _, hθ, heap_setRow_same w b _ T _ hheap, hnZ, (hcs.set hcu (by rw [hdl]; exact hle)).step g⟩)
    exact ⟨.junk _ _, hst.2, fun _ _ => rfl, hst.1, by simp⟩

/-! ### Slices' literals -/
omit hs hp in
theorem replicate_cells {z : List AV} {vs : List Value} (h : Cells Z w θ z vs) : ∀ n, Cells Z w θ (List.replicate n z).flatten (List.replicate n vs).flatten
  | 0 => .nil _ _ _
  | n + 1 => by
    rw [List.replicate_succ, List.replicate_succ, List.flatten_cons, List.flatten_cons]
    exact h.append (replicate_cells h n)

omit hs hp in
theorem range_zero (vs : List Value) (n s : Nat) (hl : vs.length = s) (hs0 : s ≠ 0) : ((Array.range (n * s)).map (vs.toArray[· % vs.toArray.size]!)) = (List.replicate n vs).flatten.toArray := by
  apply Array.ext'
  simp only [Array.toList_map, Array.toList_range, List.size_toArray, hl]
  apply List.ext_getElem?
  intro j
  by_cases hj : j < n * s
  · have h1 : (List.range (n * s))[j]? = some j := by simp [hj]
    have hdiv : j / s < n := by
      rw [Nat.div_lt_iff_lt_mul (by omega)]; exact hj
    have hmod : j % s < s := Nat.mod_lt _ (by omega)
    have h2 := flatten_get (es := List.replicate n vs) (n := s) (by intro e he; rw [(List.mem_replicate.1 he).2, hl]) (i := j / s) (j := j % s) (e := vs) (by simp [hdiv]) hmod
    rw [show j / s * s + j % s = j by rw [Nat.mul_comm]; exact Nat.div_add_mod j s] at h2
    rw [h2, List.getElem?_map, h1]
    simp [List.getElem?_eq_getElem (show j % s < vs.length by omega)]
  · rw [List.getElem?_eq_none (by simp; omega), List.getElem?_eq_none]
    rw [flatten_len (n := s) (by intro e he; rw [(List.mem_replicate.1 he).2, hl])]
    simp; omega

/-- The parts of a slice's literal. -/
theorem fill_partsS (n : Nat) :
    ∀ (ps : List (Nat × Operand)) (qs : List (Nat × A)) (es xs : List (List AV)) (vs : List Value), compPartsS ps = some qs → fillS σ p n es qs = some xs → (∀ e ∈ es, e.length = n) → Cells Z w th0 es.flatten vs →
      xs.length = es.length ∧ (∀ e ∈ xs, e.length = n) ∧ ∃ us, Instr.fill (fun i => some (i * n, n)) vs.toArray (ps.map fun x => (x.1, a.eval x.2)) = some (List.toArray us) ∧ Cells Z w th0 xs.flatten us
  | [], qs, es, xs, vs, hc, hf, hz, hcs => by
    simp [compPartsS] at hc; subst hc
    simp [fillS] at hf; subst hf
    exact ⟨rfl, hz, vs, by simp [Instr.fill], hcs⟩
  | (i, x) :: ps, qs, es, xs, vs, hc, hf, hz, hcs => by
    unfold compPartsS at hc
    split at hc <;> try (cases hc; done)
    rename_i x' rs hx' hrs
    simp only [Option.some.injEq] at hc
    subst hc
    unfold fillS at hf
    split at hf <;> try (cases hf; done)
    rename_i y hy
    split at hf <;> try (cases hf; done)
    rename_i ds hds
    split at hf <;> try (cases hf; done)
    rename_i hle
    have hr := av_rep hs hp hx' hy
    obtain ⟨hlen, us, hus, hcu⟩ := cellsOfAV_spec hds hr
    have hul : us.length = n := by rw [hcu.len, hlen]
    have hfl := flatten_len hz
    have hfit : i * n + n ≤ es.flatten.length := by
      rw [hfl]
      have := Nat.mul_le_mul_right n (show i + 1 ≤ es.length from hle.1)
      rw [Nat.add_mul] at this; omega
    rw [List.map_cons, fill_step rfl hus hul (by rw [hcs.len]; exact hfit)]
    have hz' : ∀ e ∈ es.set i ds, e.length = n := by
      intro e he
      rcases List.mem_or_eq_of_mem_set he with h | h
      · exact hz e h
      · rw [h, hlen]
    have := fill_partsS n ps rs (es.set i ds) xs _ hrs hf hz' (by
      rw [flatten_set hz hlen hle.1]
      exact hcs.set (hcu.th_clean hle.2 th0) (by rw [hlen]; exact hfit))
    refine ⟨by rw [this.1]; simp, this.2⟩

omit hs hp in
/-- A list that lies in one block, from a place on. -/
theorem rep_lst_at {z : List AV} {es : List (List AV)} {us : List Value} {b o cap : Nat} (hzl : ∀ e ∈ es, e.length = z.length) (hc : Cells Z w th0 es.flatten us) (hcap : es.length ≤ cap) (hmax : cap ≤ maxLen) (hb : Z b)
    (hcell : ∀ (j : Nat) (v : Value), us[j]? = some v → w.cell? ⟨b, o + j, none⟩ = some v) : Rep Z w θ (.lst z es) (.slice (some ⟨b, o, none⟩) es.length cap) := by
  have key : ∀ (i j : Nat) (c : AV), cellAt es i j = some c → es.flatten[i * z.length + j]? = some c := by
    intro i j c hcc
    unfold cellAt at hcc
    rw [Option.bind_eq_some_iff] at hcc
    obtain ⟨e, he, hj⟩ := hcc
    rw [flatten_get hzl he (by rw [← hzl e (List.mem_of_getElem? he)]; exact (List.getElem?_eq_some_iff.1 hj).1), hj]
  refine .lst θ z es _ cap (fun i j => us.getD (i * z.length + j) undef) hcap hmax hzl ?_ ?_ ?_ ?_
  · intro e he c hce
    exact hc.at1 c (List.mem_flatten.2 ⟨e, he, hce⟩)
  · intro _
    refine ⟨b, o, rfl, hb, fun i j c hcc => ?_⟩
    obtain ⟨v, hv, _⟩ := hc.get (key i j c hcc)
    rw [hcell _ v hv]
    simp [List.getD, hv]
  · intro i j c hcc
    obtain ⟨v, hv, _⟩ := hc.get (key i j c hcc)
    have := hc.one v (List.mem_of_getElem? hv)
    simpa [List.getD, hv] using this
  · intro i j c hcc
    obtain ⟨v, hv, hr⟩ := hc.get (key i j c hcc)
    simpa [List.getD, hv] using hr

omit hs hp in
theorem rep_lst {z : List AV} {es : List (List AV)} {us : List Value} {b cap : Nat} (hzl : ∀ e ∈ es, e.length = z.length) (hc : Cells Z w th0 es.flatten us) (hcap : es.length ≤ cap) (hmax : cap ≤ maxLen) (hb : Z b)
    (hcell : ∀ (j : Nat) (v : Value), us[j]? = some v → w.cell? ⟨b, j, none⟩ = some v) : Rep Z w θ (.lst z es) (.slice (some ⟨b, 0, none⟩) es.length cap) :=
  rep_lst_at hzl hc hcap hmax hb fun j v hj => by rw [Nat.zero_add]; exact hcell j v hj

/-- A slice's literal: the new block. -/
theorem bslice_run {o : Oper} {n : Nat} {t e : TypeId} {ps : Array (Nat × Operand)} (ho : o.op = .buildSlice t n ps) (hu : P.underlying t = some (.slice e)) {s : Nat} (hsz : sizeP P e = some s) {z : List AV} (hz : zeroP P e = some z)
    {qs : List (Nat × A)} (hc : compPartsS ps.toList = some qs) (hn : n * s ≤ 16777216) (hzs : z.length = s) (hs0 : s ≠ 0) {xs : List (List AV)} (hxs : fillS σ p z.length (List.replicate n z) qs = some xs) :
    ∃ us : List Value, (execOp a.eval o).run P w = .ok (.value (.slice (some ⟨w.heap.size, 0, none⟩) n n)) (w.alloc (.cells us.toArray e)) ∧ Cells Z w th0 xs.flatten us ∧ xs.length = n ∧ (∀ e ∈ xs, e.length = z.length) ∧ n ≤ maxLen := by
  obtain ⟨v, hzero, vs, hvs, hcs, hcl⟩ := zeroP_spec (Z := Z) (w := w) (θ := th0) hz
  have hvl : vs.length = s := by rw [hcs.len, hzs]
  obtain ⟨hxl, hxz, us, hfill, hcu⟩ := fill_partsS hs hp z.length ps.toList qs (List.replicate n z) xs _ hc hxs (by intro e he; rw [(List.mem_replicate.1 he).2]) (replicate_cells hcs n)
  have hxn : xs.length = n := by rw [hxl]; simp
  have hparts : (ps.map fun x => (x.1, a.eval x.2)).toList = ps.toList.map fun x => (x.1, a.eval x.2) := by simp
  have hfill' : Instr.fill (fun i => some (i * s, s)) (List.replicate n vs).flatten.toArray (ps.toList.map fun x => (x.1, a.eval x.2)) = some (List.toArray us) := by rw [← hzs]; exact hfill
  have hrun : (execOp a.eval o).run P w = .ok (.value (.slice (some ⟨w.heap.size, 0, none⟩) n n)) (w.alloc (.cells us.toArray e)) := by
    by_cases hn0 : n = 0
    · subst hn0
      simp only [List.replicate_zero, List.flatten_nil] at hfill'
      simp only [execOp, ho, Instr.buildSlice, Sem.run_bind, run_underlying hu, Result.andThen_ok, run_sizeP hsz, Nat.zero_mul, Sem.run_ite, hparts]
      have e0 : Array.map (fun i : Nat => (#[] : Array Value)[i % (#[] : Array Value).size]!) (Array.range 0) = #[] := by
        apply Array.ext'
        simp
      simp only [if_true, Sem.run_pure, Result.andThen_ok, e0, hfill', newRow, Sem.run_bind, run_newObj_alloc]
      rfl
    · have h2 : ¬ n * s > 2 ^ 24 := by omega
      have h3 : ¬ n * s = 0 := by
        intro h; rcases Nat.mul_eq_zero.1 h with h | h
        · exact hn0 h
        · exact hs0 h
      simp only [execOp, ho, Instr.buildSlice, Sem.run_bind, run_underlying hu, Result.andThen_ok, run_sizeP hsz, Sem.run_ite, h2, h3, if_false, hzero, Sem.run_pure, hvs, hparts, range_zero vs n s hvl hs0, hfill', newRow, run_newObj_alloc]
  refine ⟨us, hrun, hcu, hxn, hxz, ?_⟩
  unfold maxLen
  have : n ≤ n * s := Nat.le_mul_of_pos_right n (by omega)
  omega

theorem ok_bslice {o : Oper} {d n : Nat} (hm : Mem X Z w θ σ.m) {t e : TypeId} {ps : Array (Nat × Operand)} (ho : o.op = .buildSlice t n ps) (hu : P.underlying t = some (.slice e)) {s : Nat} (hsz : sizeP P e = some s) {z : List AV} (hz : zeroP P e = some z)
    {qs : List (Nat × A)} (hc : compPartsS ps.toList = some qs) (hn : n * s ≤ 16777216) (hzs : z.length = s) (hs0 : s ≠ 0) {r : Res}
    (he : (match fillS σ p z.length (List.replicate n z) qs with | some es => Res.q (.lst z es) | none => none) = some r) : OpOK P X Z w θ σ.m a o d r := by
  split at he <;> try (cases he; done)
  rename_i xs hxs
  simp only [Res.q, Option.some.injEq] at he; subst he
  obtain ⟨us, hrun, hcu, hxn, hxz, hmax⟩ := bslice_run hs hp ho hu hsz hz hc hn hzs hs0 hxs
  intro K Q hK
  obtain ⟨h1, g⟩ := hm.alloc (.cells us.toArray e) (fun b => Z b ∨ b = w.heap.size) (fun _ h => .inl h) (fun _ h => h)
  refine wp_value hrun (hK _ _ _ θ ⟨?_, g, fun _ _ => rfl, h1, by simp⟩)
  have hnew : (w.alloc (.cells us.toArray e)).heap[w.heap.size]? = some (.cells us.toArray e (0, 0)) := heap_alloc_new w _
  have := rep_lst (Z := fun b => Z b ∨ b = w.heap.size) (w := w.alloc (.cells us.toArray e)) (θ := θ) (z := z) (es := xs) (us := us) (b := w.heap.size) (cap := n) hxz (hcu.step g) (by omega) hmax (.inr rfl) (fun j v hj => by
    rw [cell_of_row _ _ _ _ _ _ hnew]; simpa using hj)
  rw [hxn] at this; exact this

omit hs hp in
/-- A new buffer. -/
theorem ok_newB {o : Oper} {d : Nat} {m : Nat → Option Blk} (hm : Mem X Z w θ m) {T : TypeId} {z : List AV} {es : List (List AV)} {us : List Value} {c : Nat} {all : Array Value} (hz : z ≠ []) (hrows : ∀ e ∈ es, e.length = z.length) (hcs : Cells Z w th0 es.flatten us)
    (hown : (w.alloc (.cells all T)).ownsRow 0 T z.length (.slice (some ⟨w.heap.size, 0, none⟩) es.length c) es.length us)
    (hrun : (execOp a.eval o).run P w = .ok (.value (.slice (some ⟨w.heap.size, 0, none⟩) es.length c)) (w.alloc (.cells all T))) {pre : List Prop} : OpOK P X Z w θ m a o d ⟨pre, [], .vw (64 * d + 64) 0 0 0, [], some (64 * d + 64, .buf T z es), []⟩ := by
  intro K Q hK
  obtain ⟨h1, g⟩ := hm.alloc (.cells all T) Z (fun _ h => h) (fun _ h => .inl h)
  refine wp_value hrun (hK _ Z _ (fun k => if k = 64 * d + 64 then .slice (some ⟨w.heap.size, 0, none⟩) es.length c else θ k) ⟨.vw _ _ _ _ _ _ _ _ (by simp), g, fun k hk => ?_, ?_, by simp⟩)
  · have := hk _ _ rfl
    simp [this]
  · refine h1.put1 (64 * d + 64) _ (.buf T z es) (by omega) ?_ ?_ ?_
    · refine ⟨hz, hrows, us, by simpa using hown, ?_, hcs.step g⟩
      intro b hb hzb
      simp [bk] at hb; subst hb
      exact absurd (hm.zlt _ hzb) (Nat.lt_irrefl _)
    · intro r' blk' _ hr' b hb hb2
      simp [bk] at hb; subst hb
      exact absurd (hm.lt hr' hb2) (Nat.lt_irrefl _)
    · intro b hb
      simp [bk] at hb; subst hb
      exact hm.frame.size

theorem ok_bsliceO {o : Oper} {d n : Nat} (hm : Mem X Z w θ σ.m) {t e : TypeId} {ps : Array (Nat × Operand)} (ho : o.op = .buildSlice t n ps) (hu : P.underlying t = some (.slice e)) {s : Nat} (hsz : sizeP P e = some s) {z : List AV} (hz : zeroP P e = some z)
    {qs : List (Nat × A)} (hc : compPartsS ps.toList = some qs) (hn : n * s ≤ 16777216) (hzs : z.length = s) (hs0 : s ≠ 0) {r : Res}
    (he : (match fillS σ p z.length (List.replicate n z) qs with | some es => some ⟨[], [], .vw (64 * d + 64) 0 0 0, [], some (64 * d + 64, .buf e z es), []⟩ | none => none) = some r) : OpOK P X Z w θ σ.m a o d r := by
  split at he <;> try (cases he; done)
  rename_i xs hxs
  simp only [Option.some.injEq] at he; subst he
  obtain ⟨us, hrun, hcu, hxn, hxz, hmax⟩ := bslice_run hs hp ho hu hsz hz hc hn hzs hs0 hxs
  subst hxn
  refine ok_newB hm (by rintro rfl; simp at hzs; omega) hxz hcu ?_ hrun
  rw [hzs]
  exact World.ownsRow_lit w us.toArray _ (Nat.zero_le _) hmax (by
    have := hcu.len
    rw [flatten_len hxz, hzs] at this
    simpa using this)

end
end Go.Ev

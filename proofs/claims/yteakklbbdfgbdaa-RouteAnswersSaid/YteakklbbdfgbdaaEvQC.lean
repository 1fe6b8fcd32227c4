/- A part of the proof: symbolic evaluation of the program's functions, proved sound against the model; no condition. -/
/-
  The framework 'Ev', part QC: maps whose values are all true; function values that capture a pointer.
  Conditions: none; a text of lemmas.
-/
import Derived.Test.YteakklbbdfgbdaaEvQB
import Derived.WideMake
namespace Go.Ev
open Go Go.RowKit
set_option linter.unusedVariables false
set_option linter.unusedSectionVars false
set_option linter.unusedSimpArgs false

section
variable {P : Program} {w : World}
theorem keyN_spec {kt : TypeId} {n : Nat} (h : keyN P kt = some n) :
    (n = 0 ∧ P.underlying kt = some (.int .u8)) ∨ (n = 2 ∧ ∃ e, P.underlying kt = some (.array 2 e) ∧ P.underlying e = some (.int .i64) ∧ shapeOf P 60 kt = some [0, 0] ∧ sizeP P e = some 1) := by
  unfold keyN at h
  split at h
  · simp only [Option.some.injEq] at h; subst h
    exact .inl ⟨rfl, by assumption⟩
  · split at h
    · simp only [Option.some.injEq] at h; subst h
      exact .inr ⟨rfl, _, by assumption, by assumption, by assumption, by assumption⟩
    · cases h
  · cases h
theorem mapN_spec {t : TypeId} {n : Nat} (h : mapN P t = some n) : ∃ kt et, P.underlying t = some (.map kt et) ∧ (P.info? et).bind (·.zero) = some (.bool false) ∧ keyN P kt = some n := by
  unfold mapN at h
  split at h <;> try (cases h; done)
  split at h <;> try (cases h; done)
  exact ⟨_, _, by assumption, by assumption, h⟩

theorem run_equal2 {kt e : TypeId} (hk : P.underlying kt = some (.array 2 e)) (hs : shapeOf P 60 kt = some [0, 0]) (a b c d : Int) :
    (Op.equal kt (keyV 2 [a, b]) (keyV 2 [c, d])).run P w = .ok (decide ([a, b] = [c, d])) w := by
  have mk : ∀ x y : Int, Cells (fun _ => False) w th0 [.int .i64 x, .int .i64 y] [.int .i64 x, .int .i64 y] := fun x y =>
    (Cells.one' (.int _ _ _) rfl rfl).append (Cells.one' (.int _ _ _) rfl rfl)
  have := ((shape_both P 60).1 kt [0, 0] hs Op.maxDepth (by decide) (fun _ => False) w th0 _ _ _ _ (decide (a = c) && (decide (b = d) && true)) (mk a b) (mk c d) (by simp [eqCells])).1 (by simp [aggP, hk])
  simp only [Op.equal, keyV, List.map_cons, List.map_nil]
  rw [this]
  congr 1
  simp
theorem run_check2n {kt e : TypeId} (hk : P.underlying kt = some (.array 2 e)) (he : P.underlying e = some (.int .i64)) (hsz : sizeP P e = some 1) (em : Bool) (a b : Int) (n : Nat) :
    (Instr.checkKey em (n + 2) kt (keyV 2 [a, b])).run P w = .ok () w := by
  have h1 : ∀ v : Int, (Instr.checkKey em (n + 1) e (.int .i64 v)).run P w = .ok () w := fun v => by
    rw [Instr.checkKey]
    simp [run_underlying he]
  have h2 : ∀ (i : Nat) (v : Value), (#[Value.int .i64 a, .int .i64 b])[i]? = some v → (part e #[Value.int .i64 a, .int .i64 b] i).run P w = .ok v w := fun i v h => by
    simp [part, isAgg, run_underlying he, h]
  have p0 := h2 0 (.int .i64 a) rfl
  have p1 := h2 1 (.int .i64 b) rfl
  rw [Instr.checkKey]
  simp only [keyV, List.map_cons, List.map_nil, Sem.run_bind, run_underlying hk, Result.andThen_ok]
  simp [Std.Legacy.Range.forIn_eq_forIn_range', Std.Legacy.Range.size, List.range', run_sizeP hsz, p0, p1, h1, Result.andThen]
theorem run_check2 {kt e : TypeId} (hk : P.underlying kt = some (.array 2 e)) (he : P.underlying e = some (.int .i64)) (hsz : sizeP P e = some 1) (em : Bool) (a b : Int) :
    (Instr.checkKey em 10000 kt (keyV 2 [a, b])).run P w = .ok () w := run_check2n hk he hsz em a b 9998

/-- The entries, the first one first. -/
def KE (n : Nat) (l : List (List Int)) (E : List MapEntry) : Prop := E.map (fun e => (e.key, e.val)) = l.map (fun k => (keyV n k, Value.bool true))
theorem find0 (a : Int) : ∀ (l : List (List Int)) (E : List MapEntry) (i : Nat), KE 0 l E → (∀ k ∈ l, k.length = 1) →
    ([a] ∉ l → Instr.findNow (.int .u8) (.int .u8 a) E i = some none) ∧ ([a] ∈ l → ∃ j, Instr.findNow (.int .u8) (.int .u8 a) E i = some (some (j, .bool true)))
  | [], [], i, _, _ => ⟨fun _ => rfl, fun h => by simp at h⟩
  | [], e :: E, i, h, _ => by simp [KE] at h
  | p :: es, [], i, h, _ => by simp [KE] at h
  | k :: l, e :: E, i, h, hl => by
    simp only [KE, List.map_cons, List.cons.injEq, Prod.mk.injEq] at h
    obtain ⟨⟨h1, h2⟩, h3⟩ := h
    obtain ⟨r1, r2⟩ := find0 a l E (i + 1) h3 (fun k hk => hl k (by simp [hk]))
    obtain ⟨b, rfl⟩ : ∃ b, k = [b] := by
      have := hl k (by simp)
      match k, this with
      | [b], _ => exact ⟨b, rfl⟩
    simp only [keyV] at h1
    by_cases hk : a = b
    · subst hk
      refine ⟨fun hn => absurd (by simp) hn, fun _ => ⟨i, ?_⟩⟩
      simp [Instr.findNow, Instr.sameNow, h1, h2]
    · have hnk : (a == b) = false := by simpa using hk
      refine ⟨fun hn => ?_, fun hn => ?_⟩
      · simp only [Instr.findNow, Instr.sameNow, h1, hnk, if_true]
        exact r1 (fun hm => hn (by simp [hm]))
      · simp only [List.mem_cons] at hn
        obtain ⟨j, hj⟩ := r2 (hn.resolve_left (by simpa using hk))
        exact ⟨j, by simp only [Instr.findNow, Instr.sameNow, h1, hnk, hj, if_true]⟩
theorem find2 {kt e0 : TypeId} (hk : P.underlying kt = some (.array 2 e0)) (hs : shapeOf P 60 kt = some [0, 0]) (a b : Int) : ∀ (l : List (List Int)) (E : List MapEntry) (i : Nat), KE 2 l E → (∀ k ∈ l, k.length = 2) →
    ([a, b] ∉ l → (Instr.findAsking kt (keyV 2 [a, b]) E i).run P w = .ok none w) ∧ ([a, b] ∈ l → ∃ j, (Instr.findAsking kt (keyV 2 [a, b]) E i).run P w = .ok (some (j, .bool true)) w)
  | [], [], i, _, _ => ⟨fun _ => rfl, fun h => by simp at h⟩
  | [], e :: E, i, h, _ => by simp [KE] at h
  | p :: es, [], i, h, _ => by simp [KE] at h
  | k :: l, e :: E, i, h, hl => by
    simp only [KE, List.map_cons, List.cons.injEq, Prod.mk.injEq] at h
    obtain ⟨⟨h1, h2⟩, h3⟩ := h
    obtain ⟨r1, r2⟩ := find2 hk hs a b l E (i + 1) h3 (fun k hk => hl k (by simp [hk]))
    obtain ⟨c, d, rfl⟩ : ∃ c d, k = [c, d] := by
      have := hl k (by simp)
      match k, this with
      | [c, d], _ => exact ⟨c, d, rfl⟩
    have heq := run_equal2 (P := P) (w := w) hk hs a b c d
    by_cases hkk : [a, b] = [c, d]
    · rw [decide_eq_true hkk] at heq
      refine ⟨fun hn => absurd (by rw [hkk]; simp) hn, fun _ => ⟨i, ?_⟩⟩
      simp only [Instr.findAsking, Sem.run_bind, h1, heq, Result.andThen_ok, if_true, Sem.run_pure, h2]
    · rw [decide_eq_false hkk] at heq
      refine ⟨fun hn => ?_, fun hn => ?_⟩
      · simp only [Instr.findAsking, Sem.run_bind, h1, heq, Result.andThen_ok, Bool.false_eq_true, if_false]
        exact r1 (fun hm => hn (by simp only [List.mem_cons]; exact .inr hm))
      · simp only [List.mem_cons] at hn
        obtain ⟨j, hj⟩ := r2 (hn.resolve_left hkk)
        exact ⟨j, by simp only [Instr.findAsking, Sem.run_bind, h1, heq, Result.andThen_ok, Bool.false_eq_true, if_false]; exact hj⟩

theorem run_find {kt : TypeId} {n : Nat} (hk : keyN P kt = some n) {x : AV} {k : List Int} (hx : keyA n x = some k) {ks : List (List Int)} {E : List MapEntry} (h : KeysOf n ks E) :
    (∀ em, (Instr.checkKey em 10000 kt (keyV n k)).run P w = .ok () w) ∧ k.length = (if n = 0 then 1 else n) ∧ (k ∉ ks → (Instr.findKey kt (keyV n k) E).run P w = .ok none w) ∧ (k ∈ ks → ∃ j, (Instr.findKey kt (keyV n k) E).run P w = .ok (some (j, .bool true)) w) := by
  rcases keyN_spec hk with ⟨rfl, hu⟩ | ⟨rfl, e, hu, he, hs, hsz⟩
  · unfold keyA at hx
    split at hx <;> (try (cases hx; done)) <;> rename_i e0 <;> (try (cases e0; done))
    simp only [Option.some.injEq] at hx; subst hx
    rename_i a
    obtain ⟨h1, h2⟩ := find0 a ks.reverse E 0 h.1 (fun k hk => by simpa using h.2 k (by simpa using hk))
    refine ⟨fun em => MapKept.run_checkKey (k := .int .u8 a) hu (by simp [MapKept.IsKey]) em 9999, rfl, fun hn => MapKept.run_findKey hu (h1 (by simpa using hn)), fun hn => ?_⟩
    obtain ⟨j, hj⟩ := h2 (by simpa using hn)
    exact ⟨j, MapKept.run_findKey hu hj⟩
  · unfold keyA at hx
    split at hx <;> (try (cases hx; done)) <;> rename_i e0 <;> (try (cases e0; done))
    simp only [Option.some.injEq] at hx; subst hx
    rename_i a b
    obtain ⟨h1, h2⟩ := find2 (P := P) (w := w) hu hs a b ks.reverse E 0 h.1 (fun k hk => by simpa using h.2 k (by simpa using hk))
    have hfk := run_findKey_eq (P := P) w (k := kt) (by rw [hu]) (keyV 2 [a, b]) E
    refine ⟨fun em => run_check2 hu he hsz em a b, rfl, fun hn => ?_, fun hn => ?_⟩
    · rw [hfk]; exact h1 (by simpa using hn)
    · obtain ⟨j, hj⟩ := h2 (by simpa using hn)
      exact ⟨j, by rw [hfk]; exact hj⟩
end

section
variable {P : Program} {X : Cx} {Z : Nat → Prop} {w : World} {θ : Nat → Value} {a : Act} {σ : St} {p : List (Nat × Bool)}
theorem keyA_val {n : Nat} {x : AV} {k : List Int} (hx : keyA n x = some k) {v : Value} (h : Rep Z w θ x v) : v = keyV n k := by
  unfold keyA at hx
  split at hx <;> try (cases hx; done)
  · simp only [Option.some.injEq] at hx; subst hx
    cases h; rfl
  · simp only [Option.some.injEq] at hx; subst hx
    obtain ⟨vs, rfl, hc⟩ := h.cells
    have hl := hc.len
    match vs, hl with
    | [u1, u2], _ =>
      have r1 := hc.rep 0 _ u1 rfl rfl
      have r2 := hc.rep 1 _ u2 rfl rfl
      cases r1; cases r2; rfl

theorem ok_newX {o : Oper} {d : Nat} {m : Nat → Option Blk} (hm : Mem X Z w θ m) {v : Value} {blk : Blk} {w' : World} {pre : List Prop} (hk : killB (64 * d + 64) blk = blk) (h0 : v ≠ .nilIface) (h1 : v.oneCell' = true)
    (hb : ∀ b, bk v = some b → w.heap.size ≤ b) (hg : w.grownBy w' none) (hB : ∀ θ', Goes Z w Z w' → θ' (64 * d + 64) = v → BRep Z w' θ' (64 * d + 64) blk)
    (hrun : (execOp a.eval o).run P w = .ok (.value v) w') : OpOK P X Z w θ m a o d ⟨pre, [], .ap (64 * d + 64) 0 0 0, [], some (64 * d + 64, blk), []⟩ := by
  intro K Q hK
  refine wp_value hrun (hK _ Z w' (fun k => if k = 64 * d + 64 then v else θ k) ?_)
  obtain ⟨q1, q2⟩ := hm.stepW (w' := w') (m' := m) none (fun _ h => h) (fun _ h => .inl h) (fun b hb' => Nat.lt_of_lt_of_le (hm.zlt b hb') hg.size) hg.os hg.tape hg.output hg.size (fun k hk _ => hg.block k hk (by simp)) (fun _ _ => rfl) (fun r h => by cases h)
  have hput := q1.put1 (64 * d + 64) v blk (by omega) (by rw [hk]; exact hB _ q2 (by simp)) (by
    intro r' blk' hne hr' b hb' hb2
    have := hb b hb'
    have := hm.lt hr' hb2
    omega) (fun b hb' => by have := hb b hb'; have := hm.frame.size; omega)
  exact ⟨.ap _ _ _ _ _ _ (by simp) h0 h1, q2, fun k hk => by have := hk _ _ rfl; simp [this], hput, by simp⟩

theorem ok_mkmap {o : Oper} {d : Nat} {m : Nat → Option Blk} (hm : Mem X Z w θ m) {t : TypeId} (ho : o.op = .makeMap t none) (n : Nat) : OpOK P X Z w θ m a o d ⟨[], [], .ap (64 * d + 64) 0 0 0, [], some (64 * d + 64, .ms n []), []⟩ := by
  refine ok_newX (v := .map (some w.heap.size)) (w' := w.alloc (.map #[] 0)) hm rfl (by simp) rfl (fun b hb => ?_) ⟨rfl, rfl, rfl, by simp, fun k hk _ => heap_alloc_eq w _ k hk⟩ (fun θ' hg hθ => ?_) ?_
  · simp [bk] at hb; omega
  · exact ⟨w.heap.size, #[], 0, hθ, heap_alloc_new w _, fun hz => absurd (hm.zlt _ hz) (Nat.lt_irrefl _), by simp [KeysOf]⟩
  · simp [execOp, ho, run_makeMap_plain]

theorem Out.tch {m : Nat → Option Blk} {d : Nat} {r r' : Res} (h1 : r'.val = r.val) (h2 : r'.post = r.post) (h3 : r'.ups = r.ups) (h4 : r'.new = r.new) {v : Value} {Z' : Nat → Prop} {w' : World} {θ' : Nat → Value} (h : Out X Z w θ m d r v Z' w' θ') : Out X Z w θ m d r' v Z' w' θ' := by
  refine ⟨by rw [h1]; exact h.val, h.goes, by rw [h4]; exact h.th, ?_, by rw [h2]; exact h.post⟩
  have := h.mem
  unfold newM at this ⊢
  rw [h3, h4]
  exact this

variable (hs : ∀ k, SRep Z w θ a.tmps (σ.s k) (a.tmps.getD k undef)) (hp : pathT a.tmps p)
include hs hp

theorem ok_mkclo {o : Oper} {d f : Nat} (hm : Mem X Z w θ σ.m) {x : Operand} {fi ca : Array Operand} (ho : o.op = .makeFunc (.func f) fi ca) (h1 : fi.toList = []) (h2 : ca.toList = [x]) {x' : A} (hx : compA x = some x') {r : Res}
    (he : bind1 (av σ p x') (cloR f d) = some r) : OpOK P X Z w θ σ.m a o d r := by
  obtain ⟨y, hy, h⟩ := bind1_some he
  have hr := av_rep hs hp hx hy
  unfold cloR at h
  split at h <;> try (cases h; done)
  rename_i z es i off
  simp only [Option.some.injEq] at h; subst h
  refine ok_newX (v := .func (.func f) #[] #[a.eval x]) (w' := w) hm rfl (by simp) rfl (fun b hb => by cases hb) ⟨rfl, rfl, rfl, Nat.le_refl _, fun _ _ _ => rfl⟩ (fun θ' hg hθ => ?_) ?_
  · exact ⟨a.eval x, hθ, hr.th_clean0 rfl th0⟩
  · have e1 : fi = #[] := by apply Array.ext'; simpa using h1
    have e2 : ca = #[x] := by apply Array.ext'; simpa using h2
    simp [execOp, ho, e1, e2, Instr.makeFunc]

theorem ok_mlook {o : Oper} (hm : Mem X Z w θ σ.m) {t : TypeId} {n : Nat} {x i : Operand} (ho : o.op = .lookup t x i false) (hn : mapN P t = some n) {x' i' : A} (hx : compA x = some x') (hi : compA i = some i') {r : Res}
    (he : bind2 (av σ p x') (av σ p i') (lookR σ.m n) = some r) : Calm P Z w θ a o r := by
  obtain ⟨vx, vi, hvx, hvi, h⟩ := bind2_some he
  have hrx := av_rep hs hp hx hvx
  have hri := av_rep hs hp hi hvi
  unfold lookR at h
  split at h <;> try (cases h; done)
  rename_i r0 _ _ _
  unfold lookM1 at h
  split at h <;> try (cases h; done)
  rename_i n' ks hr0
  split at h <;> try (cases h; done)
  rename_i k hnn hka
  have hnn : n' = n := by simpa using hnn
  subst hnn
  simp only [Option.some.injEq] at h; subst h
  obtain ⟨b, E, clock, hθ, hheap, hnZ, hK⟩ := hm.brep r0 _ hr0
  obtain ⟨kt, et, hu, hz, hkn⟩ := mapN_spec hn
  have hv : a.eval x = .map (some b) := by
    generalize a.eval x = v at hrx
    cases hrx with
    | ap _ _ _ _ _ _ h _ _ => rw [← h, hθ]
  have hk := keyA_val hka hri
  obtain ⟨hc, _, f1, f2⟩ := run_find (P := P) (w := w) hkn hka hK
  have hz' : (zeroValue et).run P w = .ok (.bool false) w := by
    obtain ⟨i, hi, hz⟩ := Option.bind_eq_some_iff.1 hz
    simp [zeroValue, run_typeInfo w hi, hz]
  refine ⟨rfl, rfl, by simp, .bool (decide (k ∈ ks)), ?_, .bool _ _⟩
  by_cases hmem : k ∈ ks
  · obtain ⟨j, hj⟩ := f2 hmem
    simp [execOp, ho, hv, hk, Instr.lookup, run_underlying hu, MapKept.run_getObj_map hheap, hc, hj, Result.andThen, hmem]
  · simp [execOp, ho, hv, hk, Instr.lookup, run_underlying hu, MapKept.run_getObj_map hheap, hc, f1 hmem, hz', Result.andThen, hmem]

theorem ok_mput {o : Oper} {d : Nat} (hm : Mem X Z w θ σ.m) {t : TypeId} {n : Nat} {x i v : Operand} (ho : o.op = .mapUpdate t x i v) (hn : mapN P t = some n) (hvt : isTrueC v = true) {x' i' : A} (hx : compA x = some x') (hi : compA i = some i') {r : Res}
    (he : bind2 (av σ p x') (av σ p i') (putR σ.m n) = some r) (hpre : ∀ q ∈ r.pre, q) : OpOK P X Z w θ σ.m a o d r := by
  obtain ⟨vx, vi, hvx, hvi, h⟩ := bind2_some he
  have hrx := av_rep hs hp hx hvx
  have hri := av_rep hs hp hi hvi
  unfold putR at h
  split at h <;> try (cases h; done)
  rename_i r0 _ _ _
  unfold putM1 at h
  split at h <;> try (cases h; done)
  rename_i n' ks hr0
  split at h <;> try (cases h; done)
  rename_i k hnn hka
  have hnn : n' = n := by simpa using hnn
  subst hnn
  simp only [Option.some.injEq] at h; subst h
  have hmem := hpre (k ∉ ks) (by simp)
  obtain ⟨b, E, clock, hθ, hheap, hnZ, hK⟩ := hm.brep r0 _ hr0
  obtain ⟨kt, et, hu, hz, hkn⟩ := mapN_spec hn
  have hv : a.eval x = .map (some b) := by
    generalize a.eval x = v at hrx
    cases hrx with
    | ap _ _ _ _ _ _ h _ _ => rw [← h, hθ]
  have hk := keyA_val hka hri
  obtain ⟨hc, hlen, f1, f2⟩ := run_find (P := P) (w := w) hkn hka hK
  have hvv : a.eval v = .bool true := by
    unfold isTrueC at hvt
    split at hvt
    · rfl
    · cases hvt
  have hrun : (execOp a.eval o).run P w = .ok .skip { w with heap := w.heap.setIfInBounds b (.map (E.push { key := keyV n' k, val := .bool true, born := clock }) (clock + 1)) } := by
    simp [execOp, ho, hv, hk, hvv, Instr.mapUpdate, run_underlying hu, MapKept.run_getObj_map hheap, hc, f1 hmem, MapKept.run_setObj_map _ hheap, Result.andThen]
  have hlt := lt_of_get hheap
  intro K Q hK'
  refine wp_skip_op hrun (hK' _ Z _ θ ?_)
  have hst := hm.stepW (w' := { w with heap := w.heap.setIfInBounds b (.map (E.push { key := keyV n' k, val := .bool true, born := clock }) (clock + 1)) }) (m' := updL σ.m [(r0, .ms n' (k :: ks))]) (some r0) (fun _ h => h) (fun _ h => .inl h)
    (fun b hb => by simpa using hm.zlt b hb) rfl rfl rfl (by simp) (fun j hj hne => by
      have hjb : b ≠ j := by
        intro e; subst e; exact hne r0 rfl (by rw [hθ]; rfl)
      simp only
      rw [Array.getElem?_setIfInBounds, if_neg hjb]) (fun r' hr' => by
      have : r' ≠ r0 := fun e => hr' (by rw [e])
      simp [updL, updM, this]) (fun r' hr' => by
      simp only [Option.some.injEq] at hr'; subst hr'
      refine ⟨by simp [hr0], fun blk hblk => ?_⟩
      simp [updL, updM] at hblk
      subst hblk
      refine ⟨b, E.push { key := keyV n' k, val := .bool true, born := clock }, clock + 1, hθ, by simp [hlt], hnZ, ?_, ?_⟩
      · simp only [Array.toList_push, List.map_append, List.map_cons, List.map_nil, List.reverse_cons, hK.1]
      · intro k' hk'
        rcases List.mem_cons.1 hk' with h | h
        · rw [h]; exact hlen
        · exact hK.2 k' h)
  exact ⟨.junk _ _, hst.2, fun _ _ => rfl, hst.1, by simp⟩

theorem run_callclo {o : Oper} {c : Call} {f : Nat} {t : Nat} {u : Value} (ho : o.op = .call c) (hc : c.callee = .value (.tmp t)) (hv : a.eval (.tmp t) = .func (.func f) #[] #[u]) {fn : Func} (hf : P.funcs[f]? = some fn) (hb : fn.body.isSome = true) (hn : (fn.name == "runtime.NumGoroutine") = false) :
    (execOp a.eval o).run P w = .ok (.enter f (c.args.map a.eval ++ #[u])) w := by
  have hb' : fn.body.isNone = false := by
    cases h : fn.body with
    | none => rw [h] at hb; cases hb
    | some _ => rfl
  have hn' : ¬ fn.name = "runtime.NumGoroutine" := by simpa using hn
  have hb'' : ¬ fn.body = none := by rintro h; rw [h] at hb'; cases hb'
  simp [execOp, ho, resolve, hc, hv, Deferred.ofValue, invoke, callFunc, hf, hn', hb'']

end
end Go.Ev

/- A part of the proof: symbolic evaluation of the program's functions, proved sound against the model; no condition. -/
/-
  The framework 'Ev', part NX: a literal of a map that is looked up at once.
  Conditions: none; a text of lemmas.
-/
import Derived.Test.YteakklbbdfgbdaaEvT
import Derived.WideMake
namespace Go.Ev
open Go Go.RowKit
set_option linter.unusedVariables false
set_option linter.unusedSectionVars false
set_option linter.unusedSimpArgs false
variable {P : Program} {X : Cx} {N : Nat}

/-- What stands in the block. -/
def Ent (es : List (Int × Int)) (E : List MapEntry) : Prop := E.map (fun e => (e.key, e.val)) = es.map (fun p => (Value.int .u8 p.1, Value.int .i64 p.2))
theorem fn_ent (n : Int) : ∀ (es : List (Int × Int)) (E : List MapEntry) (i : Nat), Ent es E →
    (n ∉ es.map (·.1) → Instr.findNow (.int .u8) (.int .u8 n) E i = some none ∧ lookI n es = 0) ∧ (n ∈ es.map (·.1) → ∃ j, Instr.findNow (.int .u8) (.int .u8 n) E i = some (some (j, .int .i64 (lookI n es))))
  | [], [], i, _ => ⟨fun _ => ⟨rfl, rfl⟩, fun h => by simp at h⟩
  | [], e :: E, i, h => by simp [Ent] at h
  | p :: es, [], i, h => by simp [Ent] at h
  | (k, v) :: es, e :: E, i, h => by
    simp only [Ent, List.map_cons, List.cons.injEq, Prod.mk.injEq] at h
    obtain ⟨⟨h1, h2⟩, h3⟩ := h
    obtain ⟨r1, r2⟩ := fn_ent n es E (i + 1) h3
    by_cases hk : n = k
    · subst hk
      refine ⟨fun hn => absurd (by simp) hn, fun _ => ⟨i, ?_⟩⟩
      simp [Instr.findNow, Instr.sameNow, h1, h2, lookI]
    · have hnk : (n == k) = false := by simpa using hk
      refine ⟨fun hn => ?_, fun hn => ?_⟩
      · obtain ⟨q1, q2⟩ := r1 (fun hm => hn (by simp only [List.map_cons, List.mem_cons]; exact .inr hm))
        refine ⟨?_, by simp [lookI, hk, q2]⟩
        simp only [Instr.findNow, Instr.sameNow, h1, hnk, q1, if_true]
      · simp only [List.map_cons, List.mem_cons] at hn
        obtain ⟨j, hj⟩ := r2 (hn.resolve_left hk)
        refine ⟨j, ?_⟩
        simp only [Instr.findNow, Instr.sameNow, h1, hnk, hj, lookI, if_neg hk, if_true]

section
variable {mty kt et : TypeId} {w : World} {r clock : Nat} {E : Array MapEntry}
theorem run_ins (hm : P.underlying mty = some (.map kt et)) (hk : P.underlying kt = some (.int .u8)) (hb : w.heap[r]? = some (.map E clock)) (k : Int) (val : Value) (hn : Instr.findNow (.int .u8) (.int .u8 k) E.toList 0 = some none) :
    (Instr.mapUpdate mty (.map (some r)) (.int .u8 k) val).run P w = .ok () { w with heap := w.heap.setIfInBounds r (.map (E.push { key := .int .u8 k, val := val, born := clock }) (clock + 1)) } := by
  have hc : (Instr.checkKey false 10000 kt (.int .u8 k)).run P w = .ok () w := MapKept.run_checkKey (k := .int .u8 k) hk (by simp [MapKept.IsKey]) false 9999
  simp [Instr.mapUpdate, run_underlying hm, MapKept.run_getObj_map hb, hc, MapKept.run_findKey hk hn, MapKept.run_setObj_map _ hb, Result.andThen]
theorem run_look (hm : P.underlying mty = some (.map kt et)) (hk : P.underlying kt = some (.int .u8)) (hz : (P.info? et).bind (·.zero) = some (.int .i64 0)) (hb : w.heap[r]? = some (.map E clock)) {es : List (Int × Int)} (he : Ent es E.toList) (n : Int) :
    (Instr.lookup mty (.map (some r)) (.int .u8 n) false).run P w = .ok (.int .i64 (lookI n es)) w := by
  have hc : (Instr.checkKey E.isEmpty 10000 kt (.int .u8 n)).run P w = .ok () w := MapKept.run_checkKey (k := .int .u8 n) hk (by simp [MapKept.IsKey]) _ 9999
  have hz' : (zeroValue et).run P w = .ok (.int .i64 0) w := by
    obtain ⟨i, hi, hz⟩ := Option.bind_eq_some_iff.1 hz
    simp [zeroValue, run_typeInfo w hi, hz]
  obtain ⟨h1, h2⟩ := fn_ent n es E.toList 0 he
  by_cases hn : n ∈ es.map (·.1)
  · obtain ⟨j, hj⟩ := h2 hn
    simp [Instr.lookup, run_underlying hm, MapKept.run_getObj_map hb, hc, MapKept.run_findKey hk hj, Result.andThen]
  · obtain ⟨q1, q2⟩ := h1 hn
    simp [Instr.lookup, run_underlying hm, MapKept.run_getObj_map hb, hc, MapKept.run_findKey hk q1, hz', Result.andThen, q2]
end
/-- The worlds differ in one block, that is new. -/
structure Bsd (w w' : World) : Prop where
  os : w'.os = w.os
  tape : w'.tape = w.tape
  output : w'.output = w.output
  size : w'.heap.size = w.heap.size + 1
  blocks : ∀ k, k < w.heap.size → w'.heap[k]? = w.heap[k]?
theorem mapIns_ok {ops : Array Oper} {Q : Exit → Act → World → Prop} {mty kt et : TypeId} {m : Nat} {w0 : World} (hm : P.underlying mty = some (.map kt et)) (hk : P.underlying kt = some (.int .u8)) :
    ∀ (l : List Oper) (pre : List (Int × Int)) (E : Array MapEntry) (clock : Nat) (a : Act) (w : World), a.eval (.tmp m) = .map (some w0.heap.size) → w.heap[w0.heap.size]? = some (.map E clock) → Ent pre E.toList → Bsd w0 w → ((pre ++ (mapIns m mty l).1).map (·.1)).Nodup →
      (∀ (w' : World) (E' : Array MapEntry) (clock' : Nat), w'.heap[w0.heap.size]? = some (.map E' clock') → Ent (pre ++ (mapIns m mty l).1) E'.toList → Bsd w0 w' → wpList P ops Q (mapIns m mty l).2 a w') → wpList P ops Q l a w
  | [], pre, E, clock, a, w, ha, hb, he, hw, hnd, hQ => by
    have := hQ w E clock hb (by simpa [mapIns] using he) hw
    simpa [mapIns] using this
  | o :: l, pre, E, clock, a, w, ha, hb, he, hw, hnd, hQ => by
    unfold mapIns at hnd hQ
    split at hnd
    · rename_i T' m' k v hd ho hg
      split at hnd
      · rename_i hc
        obtain ⟨rfl, rfl⟩ := hc
        simp only [hd, ho, hg, and_self, if_true] at hQ
        refine wpList_plain hg fun K hK => ?_
        have hkn : k ∉ pre.map (·.1) := by
          intro hmem
          rw [List.map_append, List.nodup_append] at hnd
          exact hnd.2.2 k hmem k (by simp) rfl
        obtain ⟨q1, _⟩ := (fn_ent k pre E.toList 0 he).1 hkn
        refine wp_skip_op (w' := { w with heap := w.heap.setIfInBounds w0.heap.size (.map (E.push { key := .int .u8 k, val := .int .i64 v, born := clock }) (clock + 1)) }) ?_ ?_
        · have hr := run_ins hm hk hb k (.int .i64 v) q1
          have hev : a.eval (.const (.int .u8 k)) = .int .u8 k := rfl
          have hev2 : a.eval (.const (.int .i64 v)) = .int .i64 v := rfl
          simp [execOp, ho, ha, hev, hev2, hr]
        · rw [hd]
          refine hK _ _ ?_
          have hlt : w0.heap.size < w.heap.size := (Array.getElem?_eq_some_iff.1 hb).1
          refine mapIns_ok hm hk l (pre ++ [(k, v)]) (E.push { key := .int .u8 k, val := .int .i64 v, born := clock }) (clock + 1) a _ ha (by simp [hlt]) ?_ ⟨hw.os, hw.tape, hw.output, by simpa using hw.size, fun j hj => ?_⟩ (by simpa using hnd) ?_
          · simp only [Ent, Array.toList_push, List.map_append, List.map_cons, List.map_nil] at he ⊢
            rw [he]
          · simp only
            rw [Array.getElem?_setIfInBounds, if_neg (by omega)]
            exact hw.blocks j hj
          · intro w' E' clock' h1 h2 h3
            exact hQ w' E' clock' h1 (by simpa using h2) h3
      · rename_i hc
        simp only [hd, ho, hg, if_neg hc] at hQ
        exact hQ w E clock hb (by simpa using he) hw
    · rename_i hne
      split at hQ
      · rename_i T' m' k v hd ho hg
        exact absurd hg (hne _ _ _ _ hd ho)
      · exact hQ w E clock hb (by simpa using he) hw
theorem Inv.bsd {G : Prop} {Z : Nat → Prop} {w w' : World} {θ : Nat → Value} {W : List Nat} {σ : St} {tm : Array Value} (h : Inv X N G Z w θ W σ tm) (hb : Bsd w w') : Inv X N G Z w' θ W σ tm := by
  obtain ⟨hm, hg⟩ := h.mem.stepW none (fun _ h => h) (fun _ h => .inl h) (fun b hz => by have := h.mem.zlt b hz; have := hb.size; omega) hb.os hb.tape hb.output (by have := hb.size; omega) (fun k hk _ => hb.blocks k hk) (fun _ _ => rfl) (by simp)
  exact ⟨fun k => (h.slot k).goes hg (fun _ => rfl) (fun _ _ _ => Iff.rfl), hm, h.path, h.nog, h.size⟩
theorem Inv.pv {Z : Nat → Prop} {w : World} {θ : Nat → Value} {σ : St} {a : Act} (inv : Inv X N False Z w θ [] σ a.tmps) {d : Nat} (hd : d < N) {x : AV} {v : Value} (hv : Rep Z w θ x v) : Inv X N False Z w θ [] ⟨upd σ.s d x, σ.m⟩ (a.put (some d) v).tmps := by
  have hi := inv.put (d := d) (by simp) hd (r := ⟨[], [], x, [], none, []⟩) (v := v) ⟨hv, .refl _ _, fun _ _ => rfl, inv.mem, by simp⟩
  exact ⟨hi.slot, hi.mem, fun k q y e => absurd e ((hi.nog.resolve_left _root_.id) k q y), hi.nog, hi.size⟩
theorem eval_put_same {a : Act} {d : Nat} {v : Value} (h : d < a.tmps.size) : (a.put (some d) v).eval (.tmp d) = v := by
  simp [Act.put, Act.eval, h]
theorem size_put {a : Act} {d : Nat} {v : Value} : (a.put (some d) v).tmps.size = a.tmps.size := by simp [Act.put]
theorem defers_put {a : Act} {d : Nat} {v : Value} : (a.put (some d) v).defers = a.defers := rfl
theorem int_of_ar {Z : Nat → Prop} {w : World} {θ : Nat → Value} {σ : St} {a : Act} (inv : Inv X N False Z w θ [] σ a.tmps) {x : A} {x0 : Operand} (hc : compA x0 = some x) {q : IntKind} {n : Int} (h : ar σ x = .int q n) : a.eval x0 = .int q n := by
  have := av_rep (p := []) inv.slot (by intro q hq; cases hq) hc (y := ar σ x) (by
    show gv [] (ar σ x) = some (ar σ x)
    rw [h]; rfl)
  rw [h] at this
  generalize a.eval x0 = v at this ⊢
  cases this
  rfl
theorem mreg_sound {ops : Array Oper} {Q : Exit → Act → World → Prop} {K : Exit → St → Prop} {Φ : Nat → Option Ctr} {I : Nat → LI} {l : List Oper} {rc : RC} (hc : compM P N l = some rc) {σ : St} {a : Act} {w : World} (hev : evC Φ I rc σ K) (hb : BInv X N σ a w)
    (hQ : ∀ e σ' a' w', K e σ' → BInv X N σ' a' w' → Q e a' w') : wpList P ops Q l a w := by
  unfold compM at hc
  split at hc <;> try (cases hc; done)
  rename_i o0 rest
  split at hc <;> try (cases hc; done)
  rename_i m T hd0 ho0 hg0
  split at hc <;> try (cases hc; done)
  rename_i o1 o2 o3 o4 hins
  unfold compM2 at hc
  split at hc <;> try (cases hc; done)
  rename_i sa m' hd1 ho1 hg1
  split at hc <;> try (cases hc; done)
  rename_i sb x0 hd2 ho2 hg2
  split at hc <;> try (cases hc; done)
  rename_i sc T' a' b' hd3 ho3 hg3
  split at hc <;> try (cases hc; done)
  rename_i sd c' hd4 ho4 hg4
  split at hc <;> try (cases hc; done)
  rename_i x kt et hx hT
  split at hc <;> try (cases hc; done)
  rename_i hkt hz
  split at hc <;> try (cases hc; done)
  rename_i hcond
  obtain ⟨rfl, rfl, rfl, rfl, rfl, hnd, hmN, haN, hbN, hcN, hdN, hab⟩ := hcond
  cases hc
  have hmN : @LT.lt Nat instLTNat m' N := hmN
  have haN : @LT.lt Nat instLTNat a' N := haN
  have hbN : @LT.lt Nat instLTNat b' N := hbN
  have hcN : @LT.lt Nat instLTNat c' N := hcN
  simp only [evC] at hev
  unfold mregS at hev
  split at hev <;> try (exact hev.elim)
  rename_i n hxn
  obtain ⟨Z, θ, hs, hm, hsz, hdf⟩ := hb
  have inv : Inv X N False Z w θ [] σ a.tmps := ⟨fun k => .of_rep (hs k), hm, fun k q y h => absurd h (rep_nogd (hs k) q y), .inr fun k q y => rep_nogd (hs k) q y, hsz⟩
  refine wpList_plain hg0 fun K0 hK0 => wp_value (v := .map (some w.heap.size)) (w' := w.alloc (.map #[] 0)) ?_ ?_
  · simp [execOp, ho0, run_makeMap_plain]
  rw [hd0]
  refine hK0 _ _ ?_
  have hsz1 : (World.alloc w (.map #[] 0)).heap.size = w.heap.size + 1 := World.size_alloc ..
  refine mapIns_ok (w0 := w) hT hkt rest [] #[] 0 _ _ (eval_put_same (by omega)) ?_ (by simp [Ent]) ⟨rfl, rfl, rfl, hsz1, fun k hk => heap_alloc_eq w _ k hk⟩ (by simpa using hnd) ?_
  · show (w.heap.push _)[w.heap.size]? = _
    simp
  intro w' E' clk hb' he' hw'
  rw [hins]
  have i1 := (inv.bsd hw').pv (a := a) hmN (x := .junk) (v := .map (some w.heap.size)) (.junk _ _)
  have e1 : (a.put (some m') (.map (some w.heap.size))).eval (.tmp m') = .map (some w.heap.size) := eval_put_same (by omega)
  generalize ha1 : a.put (some m') (.map (some w.heap.size)) = a1 at i1 e1 ⊢
  have hs1 : a1.tmps.size = N := by rw [← ha1, size_put, hsz]
  have hf1 : a1.defers = [] := by rw [← ha1]; exact hdf
  refine wpList_plain hg1 fun K1 hK1 => wp_value (v := .map (some w.heap.size)) (w' := w') (by simp [execOp, ho1, e1]) ?_
  rw [hd1]
  refine hK1 _ _ ?_
  have i2 := i1.pv (a := a1) haN (x := .junk) (v := .map (some w.heap.size)) (.junk _ _)
  have e2 : (a1.put (some a') (.map (some w.heap.size))).eval (.tmp a') = .map (some w.heap.size) := eval_put_same (by omega)
  generalize ha2 : a1.put (some a') (.map (some w.heap.size)) = a2 at i2 e2 ⊢
  have hs2 : a2.tmps.size = N := by rw [← ha2, size_put, hs1]
  have hf2 : a2.defers = [] := by rw [← ha2]; exact hf1
  have ex : a2.eval x0 = .int .u8 n := int_of_ar i2 hx hxn
  refine wpList_plain hg2 fun K2 hK2 => wp_value (v := .int .u8 n) (w' := w') (by simp [execOp, ho2, ex]) ?_
  rw [hd2]
  refine hK2 _ _ ?_
  have i3 := i2.pv (a := a2) hbN (x := .int .u8 n) (v := .int .u8 n) (.int _ _ _)
  have e3 : (a2.put (some b') (.int .u8 n)).eval (.tmp b') = .int .u8 n := eval_put_same (by omega)
  have e3' : (a2.put (some b') (.int .u8 n)).eval (.tmp a') = .map (some w.heap.size) := by
    rw [Act.eval_put (by intro d hd; cases hd; intro h; cases h; exact hab rfl)]; exact e2
  generalize ha3 : a2.put (some b') (.int .u8 n) = a3 at i3 e3 e3' ⊢
  have hs3 : a3.tmps.size = N := by rw [← ha3, size_put, hs2]
  have hf3 : a3.defers = [] := by rw [← ha3]; exact hf2
  refine wpList_plain hg3 fun K3 hK3 => wp_value (v := .int .i64 (lookI n (mapIns m' T' rest).1)) (w' := w') ?_ ?_
  · simp [execOp, ho3, e3, e3', run_look hT hkt hz hb' he']
  rw [hd3]
  refine hK3 _ _ ?_
  have i4 := i3.pv (a := a3) hcN (x := .int .i64 (lookI n (mapIns m' T' rest).1)) (v := .int .i64 (lookI n (mapIns m' T' rest).1)) (.int _ _ _)
  have e4 : (a3.put (some c') (.int .i64 (lookI n (mapIns m' T' rest).1))).eval (.tmp c') = .int .i64 (lookI n (mapIns m' T' rest).1) := eval_put_same (by omega)
  generalize ha4 : a3.put (some c') (.int .i64 (lookI n (mapIns m' T' rest).1)) = a4 at i4 e4 ⊢
  have hs4 : a4.tmps.size = N := by rw [← ha4, size_put, hs3]
  have hf4 : a4.defers = [] := by rw [← ha4]; exact hf3
  refine wpList_plain hg4 fun K4 hK4 => wp_value (v := .int .i64 (lookI n (mapIns m' T' rest).1)) (w' := w') (by simp [execOp, ho4, e4]) ?_
  rw [hd4]
  refine hK4 _ _ ?_
  have i5 := i4.pv (a := a4) hdN (x := .int .i64 (lookI n (mapIns m' T' rest).1)) (v := .int .i64 (lookI n (mapIns m' T' rest).1)) (.int _ _ _)
  exact hQ _ _ _ _ hev (i5.binv hf4)
theorem compM_mreg {l : List Oper} {rc : RC} (hc : compM P N l = some rc) : ∃ m es a b x c d, rc = .mreg m es a b x c d := by
  unfold compM at hc
  split at hc <;> try (cases hc; done)
  split at hc <;> try (cases hc; done)
  split at hc <;> try (cases hc; done)
  unfold compM2 at hc
  split at hc <;> try (cases hc; done)
  split at hc <;> try (cases hc; done)
  split at hc <;> try (cases hc; done)
  split at hc <;> try (cases hc; done)
  split at hc <;> try (cases hc; done)
  split at hc <;> try (cases hc; done)
  split at hc <;> try (cases hc; done)
  cases hc
  exact ⟨_, _, _, _, _, _, _, rfl⟩
end Go.Ev

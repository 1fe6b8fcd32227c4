/- A part of the proof: symbolic evaluation of the program's functions, proved sound against the model; no condition. -/
/-
  The framework 'Ev', part D: '==' on structs and arrays, cell by cell.
  Conditions: none; a text of lemmas.
-/
import Derived.Test.YteakklbbdfgbdaaEvC
import Derived.DeepKeys
namespace Go.Ev
open Go Go.RowKit
set_option linter.unusedVariables false

theorem beq_dec {α : Type} [BEq α] [LawfulBEq α] [DecidableEq α] (a b : α) : (a == b) = decide (a = b) := by
  rw [Bool.eq_iff_iff]; simp

theorem eqCells_append : ∀ (s1 s2 : List Nat) (xs ys : List AV) (b : Bool), eqCells (s1 ++ s2) xs ys = some b →
    ∃ b1 b2, eqCells s1 (xs.take s1.length) (ys.take s1.length) = some b1 ∧ eqCells s2 (xs.drop s1.length) (ys.drop s1.length) = some b2 ∧ b = (b1 && b2)
  | [], s2, xs, ys, b, h => ⟨true, b, by simp [eqCells], by simpa using h, by simp⟩
  | k :: s1, s2, xs, ys, b, h => by
    rw [List.cons_append] at h
    unfold eqCells at h
    split at h
    · exfalso; simp_all
    · rename_i sh k1 a xs' k2 c ys' h0
      simp only [List.cons.injEq] at h0
      obtain ⟨rfl, rfl⟩ := h0
      split at h
      · rename_i hk
        simp only [Option.map_eq_some_iff] at h
        obtain ⟨b', hb', rfl⟩ := h
        obtain ⟨b1, b2, e1, e2, rfl⟩ := eqCells_append s1 s2 xs' ys' b' hb'
        exact ⟨_, b2, by simp [eqCells, hk, e1]; rfl, by simpa using e2, by simp [Bool.and_assoc]⟩
      · cases h
    · rename_i sh a xs' c ys' h0
      simp only [List.cons.injEq] at h0
      obtain ⟨rfl, rfl⟩ := h0
      simp only [Option.map_eq_some_iff] at h
      obtain ⟨b', hb', rfl⟩ := h
      obtain ⟨b1, b2, e1, e2, rfl⟩ := eqCells_append s1 s2 xs' ys' b' hb'
      exact ⟨_, b2, by simp [eqCells, e1]; rfl, by simpa using e2, by simp [Bool.and_assoc]⟩
    · rename_i sh a xs' c ys' h0
      simp only [List.cons.injEq] at h0
      obtain ⟨rfl, rfl⟩ := h0
      simp only [Option.map_eq_some_iff] at h
      obtain ⟨b', hb', rfl⟩ := h
      obtain ⟨b1, b2, e1, e2, rfl⟩ := eqCells_append s1 s2 xs' ys' b' hb'
      exact ⟨_, b2, by simp [eqCells, e1]; rfl, by simpa using e2, by simp [Bool.and_assoc]⟩
    · cases h

theorem eqCells_len : ∀ (s : List Nat) (xs ys : List AV) (b : Bool), eqCells s xs ys = some b → xs.length = s.length ∧ ys.length = s.length := by
  intro s
  induction s with
  | nil =>
    intro xs ys b h
    unfold eqCells at h
    split at h
    · simp
    all_goals first | (rename_i h0; cases h0; done) | cases h
    all_goals (rename_i h0 _; simp at h0)
  | cons k s ih =>
    intro xs ys b h
    unfold eqCells at h
    split at h
    · exfalso; simp_all
    · rename_i sh k1 a xs' k2 c ys' h0
      simp only [List.cons.injEq] at h0
      obtain ⟨rfl, rfl⟩ := h0
      split at h
      · simp only [Option.map_eq_some_iff] at h
        obtain ⟨b', hb', rfl⟩ := h
        have := ih xs' ys' b' hb'
        simp [this.1, this.2]
      · cases h
    · rename_i sh a xs' c ys' h0
      simp only [List.cons.injEq] at h0
      obtain ⟨rfl, rfl⟩ := h0
      simp only [Option.map_eq_some_iff] at h
      obtain ⟨b', hb', rfl⟩ := h
      have := ih xs' ys' b' hb'
      simp [this.1, this.2]
    · rename_i sh a xs' c ys' h0
      simp only [List.cons.injEq] at h0
      obtain ⟨rfl, rfl⟩ := h0
      simp only [Option.map_eq_some_iff] at h
      obtain ⟨b', hb', rfl⟩ := h
      have := ih xs' ys' b' hb'
      simp [this.1, this.2]
    · cases h

section
variable {P : Program} {Z : Nat → Prop} {w : World} {θ : Nat → Value}

/-- One cell of a plain type. -/
theorem run_eq_one {t : TypeId} {s : Nat} (hu : (P.underlying t = some .bool ∧ s = 1) ∨ (∃ k, P.underlying t = some (.int k) ∧ s = 0) ∨ (P.underlying t = some .string ∧ s = 2)) (D : Nat)
    {xs ys : List AV} {vs us : List Value} (hx : Cells Z w θ xs vs) (hy : Cells Z w θ ys us) {b : Bool} (he : eqCells [s] xs ys = some b) :
    ∃ u v, vs = [u] ∧ us = [v] ∧ (Op.equalIn (D + 1) t u v).run P w = .ok b w := by
  have hl := eqCells_len _ _ _ _ he
  match xs, ys, hl with
  | [x], [y], _ =>
    have lv : vs.length = 1 := hx.len
    have lu : us.length = 1 := hy.len
    match vs, us, lv, lu with
    | [u], [v], _, _ =>
      have rx := hx.rep 0 x u rfl rfl
      have ry := hy.rep 0 y v rfl rfl
      refine ⟨u, v, rfl, rfl, ?_⟩
      rcases hu with ⟨hu, rfl⟩ | ⟨k, hu, rfl⟩ | ⟨hu, rfl⟩
      · unfold eqCells at he
        split at he <;> simp_all [eqCells]
        cases rx; cases ry
        rw [run_equalIn_bool w D t _ _ hu, he]
      · unfold eqCells at he
        split at he <;> simp_all [eqCells]
        cases rx; cases ry
        simp [Op.equalIn, run_underlying hu]
        obtain ⟨rfl, rfl⟩ := he
        simp [beq_dec]
      · unfold eqCells at he
        split at he <;> simp_all [eqCells]
        cases rx; cases ry
        rw [run_equalIn_string w D t _ _ hu]
        simp [ByteArray.toList_eq, ← he, beq_dec]


/-- What '==' answers at a type, for whatever cells stand for the two sides. -/
def ShapeOK (P : Program) (D : Nat) (t : TypeId) (sh : List Nat) : Prop :=
  ∀ (Z : Nat → Prop) (w : World) (θ : Nat → Value) (xs ys : List AV) (vs us : List Value) (b : Bool), Cells Z w θ xs vs → Cells Z w θ ys us → eqCells sh xs ys = some b →
    (aggP P t = true → (Op.equalIn D t (.agg vs.toArray) (.agg us.toArray)).run P w = .ok b w) ∧
    (aggP P t = false → ∃ u v, vs = [u] ∧ us = [v] ∧ (Op.equalIn D t u v).run P w = .ok b w)

theorem run_isAggP {t : TypeId} {d : TypeDesc} (h : P.underlying t = some d) (w : World) : (isAgg t).run P w = .ok (aggP P t) w := by
  unfold isAgg aggP
  rw [h]
  cases d <;> simp [run_underlying h]

theorem und_of_shape {d : Nat} {t : TypeId} {sh : List Nat} (h : shapeOf P d t = some sh) : ∃ u, P.underlying t = some u := by
  cases d with
  | zero => simp [shapeOf] at h
  | succ d =>
    unfold shapeOf at h
    cases hu : P.underlying t with
    | none => simp [hu] at h
    | some u => exact ⟨u, rfl⟩

/-- One part of two structs. -/
theorem run_part_eq {D : Nat} {t : TypeId} {s : List Nat} (hs : ShapeOK P D t s) {i : TypeInfo} (hi : P.info? t = some i) (hn : i.size = s.length) {u : TypeDesc} (hu : P.underlying t = some u)
    {xs ys : List AV} {vs us : List Value} (hx : Cells Z w θ xs vs) (hy : Cells Z w θ ys us) {off : Nat} {b : Bool} (he : eqCells s ((xs.drop off).take s.length) ((ys.drop off).take s.length) = some b) :
    ∃ x y, (part t vs.toArray off).run P w = .ok x w ∧ (part t us.toArray off).run P w = .ok y w ∧ (Op.equalIn D t x y).run P w = .ok b w := by
  have h := hs Z w θ _ _ _ _ b ((hx.drop off).take s.length) ((hy.drop off).take s.length) he
  have hsz : P.cellsOf t = s.length := by simp [Program.cellsOf, hi, hn]
  cases ha : aggP P t with
  | true =>
    refine ⟨.agg (vs.toArray.extract off (off + s.length)), .agg (us.toArray.extract off (off + s.length)), ?_, ?_, ?_⟩
    · simp [part, run_isAggP hu, ha, run_sizeOf w hi, hsz]
    · simp [part, run_isAggP hu, ha, run_sizeOf w hi, hsz]
    · have := h.1 ha
      have e1 : vs.toArray.extract off (off + s.length) = ((vs.drop off).take s.length).toArray := by simp [List.extract]
      have e2 : us.toArray.extract off (off + s.length) = ((us.drop off).take s.length).toArray := by simp [List.extract]
      rw [e1, e2]; exact this
  | false =>
    obtain ⟨x, y, e1, e2, e3⟩ := h.2 ha
    have k1 : vs[off]? = some x := by
      have := congrArg (·[0]?) e1
      simp [List.getElem?_take, List.getElem?_drop] at this
      exact this.2
    have k2 : us[off]? = some y := by
      have := congrArg (·[0]?) e2
      simp [List.getElem?_take, List.getElem?_drop] at this
      exact this.2
    refine ⟨x, y, ?_, ?_, e3⟩
    · simp [part, run_isAggP hu, ha, k1]
    · simp [part, run_isAggP hu, ha, k2]

theorem shape_both (P : Program) : ∀ (d : Nat),
    (∀ t sh, shapeOf P d t = some sh → ∀ D, d ≤ D → ShapeOK P D t sh) ∧
    (∀ fs off sh, shapeFields P d fs off = some sh → ∀ D, d ≤ D → ∀ (Z : Nat → Prop) (w : World) (θ : Nat → Value) (xs ys : List AV) (vs us : List Value) (b : Bool),
      Cells Z w θ xs vs → Cells Z w θ ys us → eqCells sh (xs.drop off) (ys.drop off) = some b → (Op.eqFields D vs.toArray us.toArray fs).run P w = .ok b w)
  | 0 => by
    refine ⟨fun t sh h => by simp [shapeOf] at h, fun fs off sh h D _ Z w θ xs ys vs us b _ _ he => ?_⟩
    cases fs with
    | nil =>
      simp [shapeFields] at h; subst h
      have := eqCells_len _ _ _ _ he
      unfold eqCells at he
      split at he <;> simp_all [Op.eqFields]
    | cons f fs => simp [shapeFields] at h
  | d + 1 => by
    obtain ⟨ihA, ihF⟩ := shape_both P d
    constructor
    · intro t sh h D hD
      obtain ⟨D, rfl⟩ : ∃ D', D = D' + 1 := ⟨D - 1, by omega⟩
      unfold shapeOf at h
      split at h
      · rename_i hu
        simp at h; subst h
        intro Z w θ xs ys vs us b hx hy he
        refine ⟨fun ha => by simp [aggP, hu] at ha, fun _ => run_eq_one (.inl ⟨hu, rfl⟩) D hx hy he⟩
      · rename_i k hu
        simp at h; subst h
        intro Z w θ xs ys vs us b hx hy he
        refine ⟨fun ha => by simp [aggP, hu] at ha, fun _ => run_eq_one (.inr (.inl ⟨k, hu, rfl⟩)) D hx hy he⟩
      · rename_i hu
        simp at h; subst h
        intro Z w θ xs ys vs us b hx hy he
        refine ⟨fun ha => by simp [aggP, hu] at ha, fun _ => run_eq_one (.inr (.inr ⟨hu, rfl⟩)) D hx hy he⟩
      · rename_i fs hu
        split at h
        · cases h
        · rename_i hst
          intro Z w θ xs ys vs us b hx hy he
          refine ⟨fun _ => ?_, fun ha => by simp [aggP, hu] at ha⟩
          have hf : P.fieldsOf t = fs := by simp [Program.fieldsOf, hu]
          rw [run_equalIn_struct w D t _ _ (by rw [hf]; exact hu) (by simpa using hst), hf]
          exact ihF fs.toList 0 sh h D (by omega) Z w θ xs ys vs us b hx hy (by simpa using he)
      · rename_i n e hu
        split at h
        · rename_i s i hs hi
          split at h
          · rename_i hsz
            simp at h; subst h
            intro Z w θ xs ys vs us b hx hy he
            refine ⟨fun _ => ?_, fun ha => by simp [aggP, hu] at ha⟩
            obtain ⟨u, hue⟩ := und_of_shape hs
            have hc : P.cellsOf e = s.length := by simp [Program.cellsOf, hi, hsz]
            rw [run_equalIn_array w D _ _ hu hi, hc, List.range_eq_range']
            have key : ∀ (n i0 : Nat) (b : Bool), eqCells (List.replicate n s).flatten (xs.drop (i0 * s.length)) (ys.drop (i0 * s.length)) = some b →
                (Op.eqItems D e s.length vs.toArray us.toArray (List.range' i0 n)).run P w = .ok b w := by
              intro n
              induction n with
              | zero =>
                intro i0 b he
                simp at he
                unfold eqCells at he
                split at he <;> simp_all [Op.eqItems]
              | succ n ih =>
                intro i0 b he
                rw [List.replicate_succ, List.flatten_cons] at he
                obtain ⟨b1, b2, e1, e2, rfl⟩ := eqCells_append _ _ _ _ _ he
                obtain ⟨x, y, p1, p2, p3⟩ := run_part_eq (ihA e s hs D (by omega)) hi hsz hue hx hy e1
                have e2' := ih (i0 + 1) b2 (by
                  rw [List.drop_drop, List.drop_drop] at e2
                  have : (i0 + 1) * s.length = i0 * s.length + s.length := by rw [Nat.add_mul]; omega
                  rw [this]; exact e2)
                rw [List.range'_succ]
                simp only [Op.eqItems, Sem.run_bind, p1, p2, p3, Result.andThen_ok]
                cases b1 <;> simp [e2']
            exact key n 0 b (by simpa using he)
          · cases h
        · cases h
      · cases h
    · intro fs off sh h D hD Z w θ xs ys vs us b hx hy he
      cases fs with
      | nil =>
        simp [shapeFields] at h; subst h
        unfold eqCells at he
        split at he <;> simp_all [Op.eqFields]
      | cons f fs =>
        unfold shapeFields at h
        split at h
        · cases h
        · rename_i hno
          split at h
          · rename_i s i hs hi
            split at h
            · rename_i hsz
              simp only [Option.map_eq_some_iff] at h
              obtain ⟨sh', hsh', rfl⟩ := h
              have hname : f.name ≠ "_" := fun e => hno (.inl e)
              have hoff : f.offset = off := Decidable.byContradiction fun e => hno (.inr e)
              obtain ⟨u, hue⟩ := und_of_shape hs
              obtain ⟨b1, b2, e1, e2, rfl⟩ := eqCells_append _ _ _ _ _ he
              obtain ⟨x, y, p1, p2, p3⟩ := run_part_eq (ihA f.type s hs D (by omega)) hi hsz hue hx hy e1
              have e2' := ihF fs (off + s.length) sh' hsh' D (by omega) Z w θ xs ys vs us b2 hx hy (by simpa [List.drop_drop] using e2)
              simp only [Op.eqFields, ne_eq, hname, not_false_eq_true, if_true, hoff, Sem.run_bind, p1, p2, p3, Result.andThen_ok]
              cases b1 <;> simp [e2']
            · cases h
          · cases h

/-- '==' and '!=' on structs and arrays. -/
theorem run_eqa {t : TypeId} {sh : List Nat} {d : Nat} (hs : shapeOf P d t = some sh) (hd : d ≤ 10000) (ha : aggP P t = true) (hg : P.eqGuardType P.depth t = false) {neg : Bool} {x y r : AV} {vx vy : Value}
    (he : eqaR neg sh x y = some r) (hx : Rep Z w θ x vx) (hy : Rep Z w θ y vy) (ox oy : Operand) :
    ∃ v, Rep Z w θ r v ∧ Sem.run P (do eqGuard (match neg with | true => .neq | false => .eql) t ox oy vx vy; binOp (match neg with | true => .neq | false => .eql) t vx vy) w = .ok v w := by
  cases x with
  | agg xs =>
    cases y with
    | agg ys =>
      obtain ⟨vs, rfl, hcx⟩ := hx.cells
      obtain ⟨us, rfl, hcy⟩ := hy.cells
      simp only [eqaR] at he
      split at he
      · rename_i b hb
        have hb' := ((shape_both P d).1 t sh hs 10000 hd Z w θ xs ys vs us b hcx hcy hb).1 ha
        cases neg with
        | true =>
          simp at he; subst he
          refine ⟨_, .bool θ _, ?_⟩
          simp only [Sem.run_bind, run_eqGuard_agg w _ t ox oy _ _ hg, Result.andThen_ok, run_neq_struct, hb']
        | false =>
          simp at he; subst he
          refine ⟨_, .bool θ _, ?_⟩
          simp only [Sem.run_bind, run_eqGuard_agg w _ t ox oy _ _ hg, Result.andThen_ok, run_eql_struct, hb']
      · cases he
    | _ => simp [eqaR] at he
  | _ => simp [eqaR] at he

end
end Go.Ev

/- A part of the proof: symbolic evaluation of the program's functions, proved sound against the model; no condition. -/
/-
  The framework 'Ev', part V: functions with an outcome of a family.
  Conditions: none; a text of lemmas.
-/
import Derived.Test.YteakklbbdfgbdaaEvK
namespace Go.Ev
open Go Go.RowKit
set_option linter.unusedVariables false
set_option linter.unusedSectionVars false
set_option linter.unusedSimpArgs false

def nilS : Value := .slice none 0 0
def valQ (θ : Nat → Value) : Option Nat → Value
  | some k => θ k
  | none => nilS
def lookQ (θ : Nat → Value) : List (Nat × Option Nat) → Nat → Value
  | [], _ => nilS
  | (i, o) :: l, j => if j = i then valQ θ o else lookQ θ l j
theorem nodupN_iff : ∀ {l : List Nat}, nodupN l = true ↔ l.Nodup
  | [] => by simp [nodupN]
  | x :: l => by simp [nodupN, nodupN_iff]
theorem lookQ_mem {θ : Nat → Value} : ∀ {l : List (Nat × Option Nat)}, (l.map (·.1)).Nodup → ∀ e ∈ l, lookQ θ l e.1 = valQ θ e.2
  | (i, o) :: l, h, e, he => by
    simp only [List.map_cons, List.nodup_cons] at h
    simp only [lookQ]
    rcases List.mem_cons.1 he with rfl | he
    · simp
    · have hne : e.1 ≠ i := fun h' => h.1 (List.mem_map.2 ⟨e, he, h'⟩)
      simp only [hne, if_false]
      exact lookQ_mem h.2 e he
theorem pqK_mem : ∀ {l : List (Nat × Option Nat)} {j k : Nat}, (j, some k) ∈ l → k ∈ pqK l
  | (i, some k') :: l, j, k, h => by
    simp only [pqK]
    rcases List.mem_cons.1 h with h | h
    · cases h; simp
    · exact List.mem_cons_of_mem _ (pqK_mem h)
  | (i, none) :: l, j, k, h => by
    simp only [pqK]
    rcases List.mem_cons.1 h with h | h
    · cases h
    · exact pqK_mem h
theorem pqK_inj : ∀ {l : List (Nat × Option Nat)}, (pqK l).Nodup → ∀ {j j' k : Nat}, (j, some k) ∈ l → (j', some k) ∈ l → j = j'
  | (i, some k') :: l, hn, j, j', k, h, h' => by
    simp only [pqK, List.nodup_cons] at hn
    rcases List.mem_cons.1 h with h | h
    · cases h
      rcases List.mem_cons.1 h' with h' | h'
      · cases h'; rfl
      · exact absurd (pqK_mem h') hn.1
    · rcases List.mem_cons.1 h' with h' | h'
      · cases h'; exact absurd (pqK_mem h) hn.1
      · exact pqK_inj hn.2 h h'
  | (i, none) :: l, hn, j, j', k, h, h' => by
    simp only [pqK] at hn
    rcases List.mem_cons.1 h with h | h
    · cases h
    · rcases List.mem_cons.1 h' with h' | h'
      · cases h'
      · exact pqK_inj hn h h'

section
variable {X : Cx} {Z : Nat → Prop} {w : World} {θ θR : Nat → Value} {m : Nat → Option Blk}

/-- What is told of a block, for its number here. -/
structure Told (Z : Nat → Prop) (w : World) (θR : Nat → Value) (m : Nat → Option Blk) (fr : List (Nat × Blk)) (pq : List (Nat × Option Nat)) : Prop where
  ids : pq.map (·.1) = fr.map (·.1)
  rep : ∀ e ∈ fr, BRep Z w θR e.1 e.2
  some' : ∀ j k, (j, some k) ∈ pq → (m k).isSome = true
theorem Told.nil : Told Z w θR m [] [] := ⟨rfl, by simp, by simp⟩
theorem Told.app {f1 f2 : List (Nat × Blk)} {p1 p2 : List (Nat × Option Nat)} (h1 : Told Z w θR m f1 p1) (h2 : Told Z w θR m f2 p2) : Told Z w θR m (f1 ++ f2) (p1 ++ p2) :=
  ⟨by simp [h1.ids, h2.ids], fun e he => (List.mem_append.1 he).elim (h1.rep e) (h2.rep e), fun j k h => (List.mem_append.1 h).elim (h1.some' j k) (h2.some' j k)⟩

theorem leX0_told (hm : Mem X Z w θ m) {x y : AV} {v : Value} (h : leX0 m x y) (hw : wfX0 y = true) (hr : Rep Z w θ x v) (hθ : ∀ e ∈ pq0 x y, θR e.1 = valQ θ e.2) : Rep Z w θR (told0 y) v ∧ (told0 y).atom = true ∧ Told Z w θR m (frs0 y) (pq0 x y) := by
  unfold leX0 at h
  split at h
  · rename_i j t z es k _ _ _
    have hj := hθ (j, some k) (by simp [pq0])
    unfold leFB at h
    split at h
    · rename_i t' z' es' hk
      obtain ⟨rfl, rfl, rfl⟩ := h
      cases hr with
      | vw _ _ _ _ _ a n c hk' =>
        refine ⟨.vw _ _ _ _ _ _ _ _ (hj.trans hk'), rfl, rfl, ?_, ?_⟩
        · intro e he
          simp only [frs0, List.mem_singleton] at he
          subst he
          exact BRep.to (hm.brep k _ hk) trivial hj
        · intro j' k' hh
          simp only [pq0, List.mem_singleton, Prod.mk.injEq, Option.some.injEq] at hh
          rw [hh.2, hk]; rfl
    · exact h.elim
  · rename_i j t z es
    have hj := hθ (j, none) (by simp [pq0])
    subst h
    simp only [wfX0, decide_eq_true_eq] at hw
    cases hr
    refine ⟨.vw _ _ _ _ _ _ _ _ hj, rfl, rfl, ?_, ?_⟩
    · intro e he
      simp only [frs0, List.mem_singleton] at he
      subst he
      refine ⟨fun e => by rw [e] at hw; simp at hw, by simp, [], ?_, ?_, Cells.nil _ _ _⟩
      · rw [hj]; exact World.ownsRow_nil w 0 t z.length
      · intro b hb
        rw [hj] at hb; simp [valQ, nilS, bk] at hb
    · intro j' k' hh
      simp [pq0] at hh
  · exact h.elim
  · rename_i j cs k
    have hj := hθ (j, some k) (by simp [pq0])
    unfold leFC at h
    split at h
    · rename_i ds hk
      cases hr with
      | ptr _ _ _ b hk' =>
        refine ⟨.ptr _ _ _ _ (hj.trans hk'), rfl, rfl, ?_, ?_⟩
        · intro e he
          simp only [frs0, List.mem_singleton] at he
          subst he
          obtain ⟨b', T, vs, e1, e2, e3, e4⟩ := hm.brep k _ hk
          exact BRep.to (θR := θ) (j := k) ⟨b', T, vs, e1, e2, e3, leAs_cells h e4⟩ hw hj
        · intro j' k' hh
          simp only [pq0, List.mem_singleton, Prod.mk.injEq, Option.some.injEq] at hh
          rw [hh.2, hk]; rfl
    · exact h.elim
  · exact h.elim
  · have hr' := leA_rep h hr
    cases y <;> simp [wfX0] at hw
    case fr j t z es => cases hr'
    case fp j cs => cases hr'
    all_goals exact ⟨hr'.th_clean0 rfl θR, rfl, rfl, by simp [frs0], by simp [pq0]⟩
theorem leXs_told (hm : Mem X Z w θ m) : ∀ {xs ys : List AV} {vs : List Value}, leXs m xs ys → ys.all wfX0 = true → Cells Z w θ xs vs → (∀ e ∈ pqL xs ys, θR e.1 = valQ θ e.2) → Cells Z w θR (ys.map told0) vs ∧ Told Z w θR m (frsL ys) (pqL xs ys)
  | [], [], vs, _, _, h, _ => by
    have := h.len
    cases vs with
    | nil => exact ⟨.nil _ _ _, .nil⟩
    | cons _ _ => simp at this
  | [], _ :: _, _, h, _, _, _ => h.elim
  | _ :: _, [], _, h, _, _, _ => h.elim
  | x :: xs, y :: ys, vs, h, hw, hc, hθ => by
    cases vs with
    | nil => have := hc.len; simp at this
    | cons u us =>
      simp only [List.all_cons, Bool.and_eq_true] at hw
      simp only [pqL, List.mem_append] at hθ
      have hrest : Cells Z w θ xs us := by have := hc.drop 1; simpa using this
      obtain ⟨h1, h2, h3⟩ := leX0_told (θR := θR) hm h.1 hw.1 (hc.rep 0 x u rfl rfl) (fun e he => hθ e (.inl he))
      obtain ⟨k1, k2⟩ := leXs_told hm h.2 hw.2 hrest (fun e he => hθ e (.inr he))
      exact ⟨Cells.append (Cells.one' h1 h2 (hc.one u (by simp))) k1, h3.app k2⟩
theorem leX1_told (hm : Mem X Z w θ m) {x y : AV} {v : Value} (h : leX1 m x y) (hw : wfX1 y = true) (hr : Rep Z w θ x v) (hθ : ∀ e ∈ pq1 x y, θR e.1 = valQ θ e.2) : Rep Z w θR (told1 y) v ∧ (told1 y).lev1 = true ∧ Told Z w θR m (frs1 y) (pq1 x y) := by
  unfold leX1 at h
  split at h
  · rename_i xs ys
    obtain ⟨vs, rfl, hc⟩ := hr.cells
    obtain ⟨h1, h2⟩ := leXs_told hm h hw hc hθ
    exact ⟨h1.agg, rfl, h2⟩
  · rename_i hno
    have hya : ∀ ys, y ≠ .agg ys := by
      rintro ys rfl
      unfold leX0 at h
      simp only at h
      unfold leA at h
      split at h
      · rename_i he; cases he
      · exact hno _ ys h rfl
    have hpq : pq1 x y = pq0 x y := by
      unfold pq1
      split
      · exact absurd rfl (hya _)
      · rfl
    have e1 : wfX0 y = true := by cases y <;> first | exact hw | exact absurd rfl (hya _)
    rw [hpq] at hθ ⊢
    obtain ⟨h1, h2, h3⟩ := leX0_told (θR := θR) hm h e1 hr hθ
    have e2 : told1 y = told0 y := by cases y <;> first | rfl | exact absurd rfl (hya _)
    have e3 : frs1 y = frs0 y := by cases y <;> first | rfl | exact absurd rfl (hya _)
    rw [e2, e3]
    refine ⟨h1, ?_, h3⟩
    generalize told0 y = q at h2
    cases q <;> first | rfl | simp [AV.atom] at h2
theorem leXV_told (hm : Mem X Z w θ m) : ∀ {xs ys : List AV} {vs : List Value}, leXV m xs ys → ys.all wfX1 = true → Reps Z w θ xs vs → (∀ e ∈ pqV xs ys, θR e.1 = valQ θ e.2) → Reps Z w θR (ys.map told1) vs ∧ (∀ y ∈ ys, (told1 y).lev1 = true) ∧ Told Z w θR m (frsV ys) (pqV xs ys)
  | [], [], vs, _, _, h, _ => ⟨⟨h.len, by simp⟩, by simp, .nil⟩
  | [], _ :: _, _, h, _, _, _ => h.elim
  | _ :: _, [], _, h, _, _, _ => h.elim
  | x :: xs, y :: ys, vs, h, hw, hc, hθ => by
    cases vs with
    | nil => have := hc.len; simp at this
    | cons u us =>
      simp only [List.all_cons, Bool.and_eq_true] at hw
      simp only [pqV, List.mem_append] at hθ
      have hrest : Reps Z w θ xs us := ⟨by have := hc.len; simpa using this, fun i c v hi hv => hc.rep (i + 1) c v (by simpa using hi) (by simpa using hv)⟩
      obtain ⟨h1, h2, h3⟩ := leX1_told (θR := θR) hm h.1 hw.1 (hc.rep 0 x u rfl rfl) (fun e he => hθ e (.inl he))
      obtain ⟨k1, k2, k3⟩ := leXV_told hm h.2 hw.2 hrest (fun e he => hθ e (.inr he))
      refine ⟨⟨by simp [k1.len], fun i c v hi hv => ?_⟩, ?_, h3.app k3⟩
      · cases i with
        | zero => simp only [List.map_cons, List.getElem?_cons_zero, Option.some.injEq] at hi hv; subst hi; subst hv; exact h1
        | succ i => simp only [List.map_cons, List.getElem?_cons_succ] at hi hv; exact k1.rep i c v hi hv
      · intro y' hy'
        rcases List.mem_cons.1 hy' with rfl | hy'
        · exact h2
        · exact k2 y' hy'

theorem ids0 (x y : AV) : (pq0 x y).map (·.1) = (frs0 y).map (·.1) := by
  cases y <;> first | rfl | (cases x <;> rfl)
theorem idsL : ∀ {xs ys : List AV}, leXs m xs ys → (pqL xs ys).map (·.1) = (frsL ys).map (·.1)
  | [], [], _ => rfl
  | [], _ :: _, h => h.elim
  | _ :: _, [], h => h.elim
  | x :: xs, y :: ys, h => by simp only [pqL, frsL, List.map_append, ids0, idsL h.2]
theorem ids1 {x y : AV} (h : leX1 m x y) : (pq1 x y).map (·.1) = (frs1 y).map (·.1) := by
  unfold leX1 at h
  split at h
  · exact idsL h
  · rename_i hno
    have hya : ∀ ys, y ≠ .agg ys := by
      rintro ys rfl
      unfold leX0 at h
      simp only at h
      unfold leA at h
      split at h
      · rename_i he; cases he
      · exact hno _ ys h rfl
    have e3 : frs1 y = frs0 y := by cases y <;> first | rfl | exact absurd rfl (hya _)
    have hpq : pq1 x y = pq0 x y := by
      unfold pq1
      split
      · exact absurd rfl (hya _)
      · rfl
    rw [hpq, e3, ids0]
theorem idsV : ∀ {xs ys : List AV}, leXV m xs ys → (pqV xs ys).map (·.1) = (frsV ys).map (·.1)
  | [], [], _ => rfl
  | [], _ :: _, h => h.elim
  | _ :: _, [], h => h.elim
  | x :: xs, y :: ys, h => by simp only [pqV, frsV, List.map_append, ids1 h.1, idsV h.2]

/-- What a function hands back. -/
theorem resX_told (hm : Mem X Z w θ m) {xs : List AV} {r : AV} {vs : List Value} (h : resXO m r (some xs)) (hr : Reps Z w θ xs vs) :
    ∃ θR, Rep Z w θR (told2 r) (if h : vs.toArray.size = 1 then vs.toArray[0] else .tuple vs.toArray) ∧ FrOK Z X.w0 w θR (frs2 r) := by
  obtain ⟨hres, hc⟩ := h
  simp only [Bool.and_eq_true, idsOK] at hc
  obtain ⟨hn, h64, ⟨hids, _⟩, hw⟩ := hc
  rw [nodupN_iff] at hn hids
  have fin : Told Z w (lookQ θ (pqR xs r)) m (frs2 r) (pqR xs r) → FrOK Z X.w0 w (lookQ θ (pqR xs r)) (frs2 r) := by
    intro ht
    have hnd : ((pqR xs r).map (·.1)).Nodup := by rw [ht.ids]; exact hids
    have get : ∀ j blk, (j, blk) ∈ frs2 r → ∃ o, (j, o) ∈ pqR xs r := by
      intro j blk hj
      have : j ∈ (pqR xs r).map (·.1) := by rw [ht.ids]; exact List.mem_map.2 ⟨_, hj, rfl⟩
      obtain ⟨⟨j', o⟩, he, rfl⟩ := List.mem_map.1 this
      exact ⟨o, he⟩
    have val : ∀ j o b, (j, o) ∈ pqR xs r → bk (lookQ θ (pqR xs r) j) = some b → ∃ k, o = some k ∧ bk (θ k) = some b ∧ (m k).isSome = true ∧ 64 ≤ k := by
      intro j o b he hb
      rw [lookQ_mem hnd (j, o) he] at hb
      cases o with
      | none => simp [valQ, nilS, bk] at hb
      | some k =>
        refine ⟨k, rfl, hb, ht.some' j k he, ?_⟩
        have := List.all_eq_true.1 h64 k (pqK_mem he)
        simpa using this
    refine ⟨fun j blk hj => ht.rep _ hj, ?_, ?_⟩
    · intro j blk hj b hb
      obtain ⟨o, he⟩ := get j blk hj
      obtain ⟨k, rfl, h1, h2, h3⟩ := val j o b he hb
      rcases hm.own k b h2 h1 with h | h
      · exact h
      · omega
    · intro j blk j' blk' hj hj' b hb hb'
      obtain ⟨o, he⟩ := get j blk hj
      obtain ⟨o', he'⟩ := get j' blk' hj'
      obtain ⟨k, rfl, h1, h2, _⟩ := val j o b he hb
      obtain ⟨k', rfl, h1', h2', _⟩ := val j' o' b he' hb'
      have := hm.disj k k' b h2 h2' h1 h1'
      subst this
      exact pqK_inj hn he he'
  have hθ : ((pqR xs r).map (·.1)).Nodup → ∀ e ∈ pqR xs r, lookQ θ (pqR xs r) e.1 = valQ θ e.2 := fun h e he => lookQ_mem h e he
  unfold resX at hres
  split at hres
  · rename_i x
    have hl := hr.len
    match vs, hl, hr with
    | [u], _, hr =>
      have hwr : wfX1 r = true := by simpa only [wfRes] using hw
      have hpq : pqR [x] r = pq1 x r := by cases r <;> rfl
      have hfr : frs2 r = frs1 r := by cases r <;> first | rfl | cases hwr
      have htd : told2 r = told1 r := by cases r <;> first | rfl | cases hwr
      rw [hpq] at hθ fin
      rw [hfr] at hids fin
      have h1 := leX1_told (θR := lookQ θ (pq1 x r)) hm hres hwr (hr.rep 0 x u rfl rfl) (hθ (by rw [ids1 hres]; exact hids))
      rw [htd, hfr]
      exact ⟨_, by simpa using h1.1, fin h1.2.2⟩
  · rename_i ys hne _
    have hlen : xs.length ≠ 1 := by
      intro h1
      obtain ⟨v, hv⟩ := List.length_eq_one_iff.1 h1
      exact hne v hv
    have hvl : ¬ vs.toArray.size = 1 := by simp [hr.len]; exact hlen
    rw [dif_neg hvl]
    have hwr : ys.all wfX1 = true := by
      unfold wfRes at hw
      split at hw
      · exact absurd rfl (hne _)
      · exact hw
    have hpq : pqR xs (.tup ys) = pqV xs ys := by
      unfold pqR
      split
      · exact absurd rfl (hne _)
      · rename_i e; cases e; rfl
      · rename_i h1 h2; first | exact absurd rfl (h2 ys) | exact absurd rfl (h1 ys)
    rw [hpq] at hθ fin
    simp only [frs2] at hids fin ⊢
    obtain ⟨h1, h2, h3⟩ := leXV_told (θR := lookQ θ (pqV xs ys)) hm hres hwr hr (hθ (by rw [idsV hres]; exact hids))
    refine ⟨lookQ θ (pqV xs ys), ?_, fin h3⟩
    simp only [told2]
    refine .tup _ _ vs h1.len ?_ h1.rep
    intro c hc
    obtain ⟨y, hy, rfl⟩ := List.mem_map.1 hc
    exact h2 y hy
  · exact hres.elim
end

section
variable {P : Program} {Φ : Nat → Option Ctr}
/-- A function that keeps no block of its caller's, with an outcome of a family. -/
theorem soundX_pure (hmix : P.follows .mixedOrders = true) (hΦ : ∀ f C, Φ f = some C → Sound P f C) (I : Nat → LI) {f : FuncId} {fn : Func} (hf : P.funcs[f]? = some fn) {c : Code} (hb : fn.body = some c) {rc : RC} (hc : comp P fn.ntmps c = some (erase rc)) {rv : List RV} (hr : compRes P fn.results.toList = some rv)
    {ι : Type} {C : List AV → List AV → Option (Prop × (ι → Prop × AV × List AV))}
    (h : ∀ (xs : List AV) (q : Prop) (g : ι → Prop × AV × List AV), C [] xs = some (q, g) → q → xs.length ≤ fn.ntmps ∧ evC Φ I rc ⟨initS xs, initM false []⟩ (kRetX rv false g)) : Sound P f (.ext false ι C) := by
  intro Z w xs vs q g hz hreps hC hq
  obtain ⟨hlen, hev⟩ := h xs q g hC hq
  let X : Cx := ⟨w, none, Z, th0⟩
  refine calls_of_wp hf hb ?_
  refine code_sound hmix hΦ I (X := X) (N := fn.ntmps) c rc hc _ _ _ hev ?_ _ w ?_
  · intro e σ' a w' hk hb'
    have fin : (∃ i, (g i).1 ∧ retX rv (g i).2.1 false (g i).2.2 σ') → a.defers = [] ∧ ∃ v, (results fn a.tmps).run P w' = .ok v w' ∧ ∃ i v' Z' θ', (g i).1 ∧ Ending.returned v = .returned v' ∧ FrameBut none w w' ∧ Grow Z w Z' w' ∧ Rep Z' w' θ' (told2 (g i).2.1) v' ∧ FrOK Z' w w' θ' (frs2 (g i).2.1) := by
      rintro ⟨i, hpost, hk⟩
      have hb' := applyL_binv (lkR (retL σ' rv) (g i).2.1 ++ lkT false σ'.m (g i).2.2) hb'
      obtain ⟨Z', θ', hs, hm, hsz, hd⟩ := hb'
      obtain ⟨hk1, _⟩ := hk
      cases hys : retL (applyL (lkR (retL σ' rv) (g i).2.1 ++ lkT false σ'.m (g i).2.2) σ') rv with
      | none => rw [hys] at hk1; exact hk1.elim
      | some ys =>
        rw [hys] at hk1
        obtain ⟨us, hus, hru⟩ := retV_rep hs hm.brep hr hys
        obtain ⟨θR, h1, h2⟩ := resX_told hm hk1 hru
        exact ⟨hd, _, results_run hus, i, _, Z', θR, hpost, rfl, hm.frame, ⟨hm.zin, hm.znew, hm.zlt⟩, h1, h2⟩
    cases e with
    | normal => exact fin hk
    | ret => exact fin hk
    | _ => exact hk.elim
  · refine ⟨Z, th0, init_slots hreps _, ?_, ?_, rfl⟩
    · exact ⟨by simp [initM], by simp [initM], by simp [initM], hz, .refl _ _, fun _ h => h, fun b hb => .inl hb, fun _ _ => rfl⟩
    · have := hreps.len
      simp; omega

/-- A function whose first argument points to a block that it may write, with an outcome of a family. -/
theorem soundX_state (hmix : P.follows .mixedOrders = true) (hΦ : ∀ f C, Φ f = some C → Sound P f C) (I : Nat → LI) {f : FuncId} {fn : Func} (hf : P.funcs[f]? = some fn) {c : Code} (hb : fn.body = some c) {rc : RC} (hc : comp P fn.ntmps c = some (erase rc)) {rv : List RV} (hr : compRes P fn.results.toList = some rv)
    {ι : Type} {C : List AV → List AV → Option (Prop × (ι → Prop × AV × List AV))}
    (h : ∀ (cs xs : List AV) (q : Prop) (g : ι → Prop × AV × List AV), C cs xs = some (q, g) → q → (∀ i, (g i).1 → (g i).2.2.all AV.clean0 = true) ∧ xs.length + 1 ≤ fn.ntmps ∧ evC Φ I rc ⟨initS (.ptr 0 0 :: xs), initM true cs⟩ (kRetX rv true g)) : Sound P f (.ext true ι C) := by
  intro Z w b T cs us xs vs q g hz hheap hnZ hcells hreps hC hq
  obtain ⟨hcl', hlen, hev⟩ := h cs xs q g hC hq
  let θ : Nat → Value := fun _ => pt b
  let X : Cx := ⟨w, some b, Z, θ⟩
  refine calls_of_wp hf hb ?_
  refine code_sound hmix hΦ I (X := X) (N := fn.ntmps) c rc hc _ _ _ hev ?_ _ w ?_
  · intro e σ' a w' hk hb'
    have fin : (∃ i, (g i).1 ∧ retX rv (g i).2.1 true (g i).2.2 σ') → a.defers = [] ∧ ∃ v, (results fn a.tmps).run P w' = .ok v w' ∧ ∃ i v' Z' θ' T' us', (g i).1 ∧ Ending.returned v = .returned v' ∧ FrameBut (some b) w w' ∧ Grow Z w Z' w' ∧ w'.heap[b]? = some (.cells (List.toArray us') T' (0, 0)) ∧ Cells Z' w' th0 (g i).2.2 us' ∧ Rep Z' w' θ' (told2 (g i).2.1) v' ∧ FrOK Z' w w' θ' (frs2 (g i).2.1) := by
      rintro ⟨i, hpost, hk⟩
      have hb' := applyL_binv (lkR (retL σ' rv) (g i).2.1 ++ lkT true σ'.m (g i).2.2) hb'
      obtain ⟨Z', θ', hs, hm, hsz, hd⟩ := hb'
      obtain ⟨hk1, hk2⟩ := hk
      unfold resXT at hk2
      split at hk2 <;> try (cases hk2; done)
      rename_i ds hds
      have hk2 : leAs ds (g i).2.2 := hk2.resolve_left (by simp)
      cases hys : retL (applyL (lkR (retL σ' rv) (g i).2.1 ++ lkT true σ'.m (g i).2.2) σ') rv with
      | none => rw [hys] at hk1; exact hk1.elim
      | some ys =>
        rw [hys] at hk1
        obtain ⟨us, hus, hru⟩ := retV_rep hs hm.brep hr hys
        obtain ⟨θR, h1, h2⟩ := resX_told hm hk1 hru
        obtain ⟨b', T', ws, hθ, hheap', hnZ', hcs⟩ := hm.brep 0 _ hds
        have h0 := hm.fix 0 (by omega)
        rw [hθ] at h0
        simp only [X, θ] at h0
        simp at h0
        subst h0
        exact ⟨hd, _, results_run hus, i, _, Z', θR, T', ws, hpost, rfl, hm.frame, ⟨hm.zin, hm.znew, hm.zlt⟩, hheap', (leAs_cells hk2 hcs).th_clean (hcl' i hpost) th0, h1, h2⟩
    cases e with
    | normal => exact fin hk
    | ret => exact fin hk
    | _ => exact hk.elim
  · have hreps' : Reps Z w θ (.ptr 0 0 :: xs) (pt b :: vs) := by
      have := hreps.of_th0 θ
      refine ⟨by simp [this.len], fun i c v hi hv => ?_⟩
      cases i with
      | zero => simp only [List.getElem?_cons_zero, Option.some.injEq] at hi hv; subst hi; subst hv; exact .ptr _ _ _ _ rfl
      | succ i => simp only [List.getElem?_cons_succ] at hi hv; exact this.rep i c v hi hv
    have hm0 : ∀ r blk, initM true cs r = some blk → r = 0 ∧ blk = .cells cs := by
      intro r blk h
      simp only [initM, updM] at h
      split at h
      · rename_i hr; exact ⟨hr, by simpa using h.symm⟩
      · cases h
    refine ⟨Z, θ, init_slots hreps' _, ?_, ?_, rfl⟩
    · refine ⟨?_, ?_, ?_, hz, .refl _ _, fun _ h => h, fun b hb => .inl hb, fun _ _ => rfl⟩
      · intro r blk h
        obtain ⟨rfl, rfl⟩ := hm0 r blk h
        exact ⟨b, T, us, rfl, hheap, hnZ, hcells.of_th0 θ⟩
      · intro r r' b' h1 h2 _ _
        obtain ⟨x, hx⟩ := Option.isSome_iff_exists.1 h1
        obtain ⟨y, hy⟩ := Option.isSome_iff_exists.1 h2
        rw [(hm0 r x hx).1, (hm0 r' y hy).1]
      · intro r b' h1 h2
        have h3 : bk (pt b) = some b' := h2
        simp [bk] at h3
        obtain ⟨x, hx⟩ := Option.isSome_iff_exists.1 h1
        exact .inr ⟨by rw [(hm0 r x hx).1]; omega, by simp [X, h3]⟩
    · have := hreps.len
      simp; omega
end
end Go.Ev

/- A part of the proof: symbolic evaluation of the program's functions, proved sound against the model; no condition. -/
/-
  The framework 'Ev', part N: buffers: what append does to a slice of one's own.
  Conditions: none; a text of lemmas.
-/
import Derived.Test.YteakklbbdfgbdaaEvG
namespace Go.Ev
open Go Go.RowKit
set_option linter.unusedVariables false
set_option linter.unusedSectionVars false
set_option linter.unusedSimpArgs false

section
variable {P : Program} (w : World)

/-- Nothing is appended: a slice without elements. -/
theorem run_append_zero (base : Nat) (t ty e : TypeId) (i : TypeInfo) (ht : P.underlying t = some (.slice e)) (hi : P.info? e = some i)
    (v : Value) (n : Nat) (xs : List Value) (hown : w.ownsRow base e i.size v n xs) (ad : Option Addr) (c : Nat) :
    (Builtin.append_ #[t, t] ty #[v, .slice ad 0 c]).run P w = .ok v w := by
  rcases hown.2 with ⟨rfl, rfl⟩ | ⟨g, cap, cur, rfl, _, _, hnc, _⟩
  · cases ad <;> simp [Builtin.append_, run_underlying ht, sizeOf, typeInfo, hi, Builtin.lenOf, Builtin.firstCells, loadCells, loadCellsFrom]
  · cases ad <;> simp [Builtin.append_, run_underlying ht, sizeOf, typeInfo, hi, Builtin.lenOf, Builtin.firstCells, hnc, storeCells, loadCells, loadCellsFrom]

/-- Append to a slice of one's own: with the block that the outcome lies in. -/
theorem run_append_at (t ty e : TypeId) (i : TypeInfo) (z : Value) (ht : P.underlying t = some (.slice e)) (hi : P.info? e = some i) (hz : i.zero = some z)
    (hzs : z.cells.size = i.size) (hsz : 0 < i.size)
    (v : Value) (n : Nat) (xs : List Value) (hown : w.ownsRow 0 e i.size v n xs)
    (ad : Option Addr) (m c : Nat) (had : m ≠ 0 → ad.isSome = true) (news : List Value) (hl : news.length = m * i.size) (hnews : ∀ a, ad = some a → ∀ j u, news[j]? = some u → w.cell? (a.add j) = some u) (h1 : ∀ u ∈ news, u.oneCell' = true)
    (h63 : n + m ≤ maxLen) (hbytes : (n + m) * i.bytes ≤ 140737488355328) :
    ∃ v' w', (Builtin.append_ #[t, t] ty #[v, .slice ad m c]).run P w = .ok v' w' ∧ w'.ownsRow 0 e i.size v' (n + m) (xs ++ news) ∧ w.grownBy w' v.ownBlock ∧
      (∃ a' n' c', v' = .slice a' n' c') ∧ ∀ b, bk v' = some b → bk v = some b ∨ w.heap.size ≤ b := by
  have hvs : ∃ a' n' c', v = .slice a' n' c' := by
    rcases hown.2 with ⟨rfl, _⟩ | ⟨g, cap, cur, rfl, _⟩
    · exact ⟨_, _, _, rfl⟩
    · exact ⟨_, _, _, rfl⟩
  by_cases hm : m = 0
  · subst hm
    have hn : news = [] := List.eq_nil_of_length_eq_zero (by simpa using hl)
    subst hn
    exact ⟨v, w, run_append_zero w 0 t ty e i ht hi v n xs hown ad c, by simpa using hown, ⟨rfl, rfl, rfl, Nat.le_refl _, fun _ _ _ => rfl⟩, hvs, fun b hb => .inl hb⟩
  · obtain ⟨a, rfl⟩ := Option.isSome_iff_exists.1 (had hm)
    have hnw := hnews a rfl
    obtain ⟨v', w', hr, h2, h3, _⟩ := run_append_own (P := P) w 0 t ty e i z i.size i.bytes ht hi hz rfl rfl hzs hsz v n xs hown a m c news hl hnw h1 h63 hbytes (Nat.zero_le _)
    have h63' : ((n + m : Nat) : Int) ≤ 9223372036854775807 := by simp only [maxLen] at h63; omega
    refine ⟨v', w', hr, h2, h3, ?_, ?_⟩
    · rcases h2.2 with ⟨rfl, _⟩ | ⟨g, cap, cur, rfl, _⟩
      · exact ⟨_, _, _, rfl⟩
      · exact ⟨_, _, _, rfl⟩
    · intro b hb
      rcases hown.2 with ⟨rfl, hn0⟩ | ⟨g, cap, cur, rfl, hbg, hg, hnc, hcm, hcs, htake⟩
      · subst hn0
        have hr2 := run_append_nil (P := P) w t ty e i z ht hi hz a m c news hl hnw (by omega) (by omega) (by simp only [Nat.zero_add] at hbytes; omega)
        rw [hr] at hr2
        injection hr2 with e1 e2
        subst e1
        simp [bk] at hb
        right; omega
      · by_cases hroom : n + m ≤ cap
        · have hfit : n * i.size + news.length ≤ cur.size := by rw [hl, hcs, ← Nat.add_mul]; exact Nat.mul_le_mul_right _ hroom
          have hr2 := run_append_room (P := P) w t ty e i ht hi g n cap cur hg a m c news hl hnw h1 hroom hfit
          rw [hr] at hr2
          injection hr2 with e1 e2
          subst e1
          simp [bk] at hb
          left; simp [bk, hb]
        · have holds : ∀ j u, xs[j]? = some u → w.cell? ((⟨g, 0, none⟩ : Addr).add j) = some u := hown.cells (g := g) rfl
          have hr2 := run_append_grow (P := P) w t ty e i z ht hi hz ⟨g, 0, none⟩ n cap xs hown.1 holds a m c news hl hnw (by omega) h63' (growslice_fits (by omega) hbytes)
          rw [hr] at hr2
          injection hr2 with e1 e2
          subst e1
          simp [bk] at hb
          right; omega
end

theorem flat_get {k : Nat} (hk : 0 < k) : ∀ {es : List (List AV)}, (∀ e ∈ es, e.length = k) → ∀ t, es.flatten[t]? = cellAt es (t / k) (t % k)
  | [], _, t => by simp [cellAt]
  | e :: es, h, t => by
    have he : e.length = k := h e (by simp)
    simp only [List.flatten_cons]
    by_cases ht : t < k
    · rw [List.getElem?_append_left (by omega)]
      simp [cellAt, Nat.div_eq_of_lt ht, Nat.mod_eq_of_lt ht]
    · obtain ⟨s, rfl⟩ : ∃ s, t = s + k := ⟨t - k, by omega⟩
      rw [List.getElem?_append_right (by omega), he, Nat.add_sub_cancel, flat_get hk (fun e he => h e (by simp [he])) s, Nat.add_div_right _ hk, Nat.add_mod_right]
      simp [cellAt]
theorem flat_len {k : Nat} : ∀ {es : List (List AV)}, (∀ e ∈ es, e.length = k) → es.flatten.length = es.length * k
  | [], _ => by simp
  | e :: es, h => by
    have he : e.length = k := h e (by simp)
    rw [List.flatten_cons, List.length_append, flat_len (fun e he => h e (by simp [he])), he, List.length_cons, Nat.succ_mul, Nat.add_comm]

/-- A slice that may be read: where its cells lie, what they are. -/
structure Reads (Z : Nat → Prop) (w : World) (k : Nat) (es : List (List AV)) (v : Value) : Prop where
  rows : ∀ e ∈ es, e.length = k
  ex : ∃ (ad : Option Addr) (c : Nat) (news : List Value), v = .slice ad es.length c ∧ (es.length ≠ 0 → ad.isSome = true) ∧ news.length = es.length * k ∧ (∀ a, ad = some a → ∀ (j : Nat) (u : Value), news[j]? = some u → w.cell? (a.add j) = some u) ∧ Cells Z w th0 es.flatten news

theorem reads_lst {Z : Nat → Prop} {w : World} {θ : Nat → Value} {z : List AV} {es : List (List AV)} {v : Value} (hk : 0 < z.length) (h : Rep Z w θ (.lst z es) v) : Reads Z w z.length es v := by
  cases h with
  | lst _ _ _ a cap f hc hm hz hat hmem h1 h =>
    refine ⟨hz, a, cap, (List.range (es.length * z.length)).map (fun t => f (t / z.length) (t % z.length)), rfl, ?_, by simp, ?_, ?_⟩
    · intro hne
      obtain ⟨b, o, ha, _⟩ := hmem (fun e => hne (by rw [e]; rfl))
      rw [ha]; rfl
    · intro ad had j u hj
      have hlt : j < es.length * z.length := by
        have := (List.getElem?_eq_some_iff.1 hj).1
        simpa using this
      have hne : es ≠ [] := by
        rintro rfl; simp at hlt
      obtain ⟨b, o, ha, hb, hcell⟩ := hmem hne
      rw [ha] at had
      obtain rfl := Option.some.inj had
      have hj' : f (j / z.length) (j % z.length) = u := by
        rw [List.getElem?_map, List.getElem?_range hlt] at hj
        simpa using hj
      have hfl : j < es.flatten.length := by rw [flat_len hz]; exact hlt
      have hg := flat_get hk hz j
      rw [List.getElem?_eq_getElem hfl] at hg
      have := hcell _ _ _ hg.symm
      rw [add_none, ← hj', ← this]
      congr 2
      rw [Nat.div_add_mod']
    · refine ⟨by simp [flat_len hz], ?_, ?_, ?_⟩
      · intro c hc
        obtain ⟨e, he, hce⟩ := List.mem_flatten.1 hc
        exact hat e he c hce
      · intro u hu
        obtain ⟨t, ht, rfl⟩ := List.mem_map.1 hu
        have hlt : t < es.length * z.length := by simpa using ht
        have hfl : t < es.flatten.length := by rw [flat_len hz]; exact hlt
        have hg := flat_get hk hz t
        rw [List.getElem?_eq_getElem hfl] at hg
        exact h1 _ _ _ hg.symm
      · intro t c u hc hu
        rw [flat_get hk hz t] at hc
        have hlt : t < es.length * z.length := by
          have := (List.getElem?_eq_some_iff.1 hu).1
          simpa using this
        rw [List.getElem?_map, List.getElem?_range hlt] at hu
        have hu : f (t / z.length) (t % z.length) = u := by simpa using hu
        rw [← hu]
        exact h _ _ _ hc
theorem reads_nil {Z : Nat → Prop} {w : World} {θ : Nat → Value} {v : Value} (k : Nat) (h : Rep Z w θ .nil v) : Reads Z w k [] v := by
  cases h
  exact ⟨by simp, none, 0, [], rfl, by simp, by simp, by simp, Cells.nil _ _ _⟩
theorem reads_buf {X : Cx} {Z : Nat → Prop} {w : World} {θ : Nat → Value} {m : Nat → Option Blk} (hm : Mem X Z w θ m) {r x y zz T : Nat} {z : List AV} {es : List (List AV)} {v : Value} (hr : m r = some (.buf T z es)) (h : Rep Z w θ (.vw r x y zz) v) :
    Reads Z w z.length es v ∧ ∃ xs, w.ownsRow 0 T z.length v es.length xs ∧ Cells Z w th0 es.flatten xs := by
  obtain ⟨hz, hrows, xs, hown, _, hc⟩ := hm.brep r _ hr
  cases h with
  | vw _ _ _ _ _ a n c h =>
    rw [h] at hown
    refine ⟨⟨hrows, ?_⟩, xs, hown, hc⟩
    rcases hown.2 with ⟨hv, hn⟩ | ⟨g, cap, cur, hv, h0, hg, hnc, hcm, hcs, htake⟩
    · cases hv
      have : xs = [] := List.eq_nil_of_length_eq_zero (by have := hown.1; rw [hn] at this; simpa using this)
      subst this
      refine ⟨none, 0, [], by rw [hn], by simp [hn], by simp [hn], by simp, hc⟩
    · cases hv
      refine ⟨_, _, xs, rfl, by simp, hown.1, ?_, hc⟩
      intro ad had j u hj
      cases had
      exact hown.cells (g := g) rfl j u hj

theorem flat_dropk {k : Nat} : ∀ {es : List (List AV)}, (∀ e ∈ es, e.length = k) → ∀ i, (es.drop i).flatten = es.flatten.drop (i * k)
  | [], _, i => by simp
  | e :: es, h, 0 => by simp
  | e :: es, h, i + 1 => by
    have he : e.length = k := h e (by simp)
    rw [List.drop_succ_cons, flat_dropk (fun e he => h e (by simp [he])) i, List.flatten_cons, show (i + 1) * k = e.length + i * k by rw [he, Nat.add_mul]; omega, List.drop_length_add_append]
theorem flat_takek {k : Nat} : ∀ {es : List (List AV)}, (∀ e ∈ es, e.length = k) → ∀ i, (es.take i).flatten = es.flatten.take (i * k)
  | [], _, i => by simp
  | e :: es, h, 0 => by simp
  | e :: es, h, i + 1 => by
    have he : e.length = k := h e (by simp)
    rw [List.take_succ_cons, List.flatten_cons, flat_takek (fun e he => h e (by simp [he])) i, List.flatten_cons, show (i + 1) * k = e.length + i * k by rw [he, Nat.add_mul]; omega, List.take_length_add_append]
/-- A part of a buffer: where its cells lie. -/
theorem part_cells {Z : Nat → Prop} {w : World} {k : Nat} {es : List (List AV)} {xs : List Value} (hz : ∀ e ∈ es, e.length = k) (hc : Cells Z w th0 es.flatten xs) (lo n : Nat) :
    (∀ e ∈ (es.drop lo).take n, e.length = k) ∧ Cells Z w th0 ((es.drop lo).take n).flatten ((xs.drop (lo * k)).take (n * k)) := by
  have hd : ∀ e ∈ es.drop lo, e.length = k := fun e he => hz e (List.mem_of_mem_drop he)
  refine ⟨fun e he => hd e (List.mem_of_mem_take he), ?_⟩
  rw [flat_takek hd, flat_dropk hz]
  exact (hc.drop _).take _
theorem reads_part {X : Cx} {Z : Nat → Prop} {w : World} {θ : Nat → Value} {m : Nat → Option Blk} (hm : Mem X Z w θ m) {r lo hi T : Nat} {z : List AV} {es : List (List AV)} {v : Value} (hr : m r = some (.buf T z es)) (h : Rep Z w θ (.sv r z.length lo hi) v) :
    Reads Z w z.length ((es.drop lo).take (hi - lo)) v := by
  obtain ⟨hz0, hrows, xs, hown, _, hc⟩ := hm.brep r _ hr
  cases h with
  | sv _ _ _ _ _ a n c a' c' hθ h1 h2 h3 h4 h5 =>
    rw [hθ] at hown
    obtain ⟨hpr, hpc⟩ := part_cells hrows hc lo (hi - lo)
    have hn : n = es.length := by
      rcases hown.2 with ⟨hv, h0⟩ | ⟨g, cap, cur, hv, _⟩
      · cases hv; exact h0.symm
      · cases hv; rfl
    have hlen : ((es.drop lo).take (hi - lo)).length = hi - lo := by simp; omega
    refine ⟨hpr, a', c', (xs.drop (lo * z.length)).take ((hi - lo) * z.length), by rw [hlen], ?_, ?_, ?_, hpc⟩
    · intro hne
      rw [hlen] at hne
      obtain ⟨g, _, e⟩ := h3 (by omega)
      rw [e]; rfl
    · rw [hlen]
      have := hown.1
      simp only [List.length_take, List.length_drop, this]
      have e1 : (hi - lo) * z.length + lo * z.length ≤ es.length * z.length := by rw [← Nat.add_mul]; exact Nat.mul_le_mul_right _ (by omega)
      omega
    · intro ad had j u hj
      have hlt : lo < hi := by
        rcases Nat.lt_or_ge lo hi with h | h
        · exact h
        · rw [show hi - lo = 0 by omega] at hj; simp at hj
      obtain ⟨g, e1, e2⟩ := h3 hlt
      subst e1
      rw [had] at e2
      obtain rfl := Option.some.inj e2
      rw [List.getElem?_take] at hj
      split at hj <;> try (cases hj; done)
      rw [List.getElem?_drop] at hj
      have := hown.cells (g := g) rfl _ u hj
      rw [add_none] at this ⊢
      rw [show lo * z.length + j = 0 + (lo * z.length + j) by omega]
      exact this

theorem bk_own (v : Value) {k : Nat} (h : v.ownBlock = some k) {T : TypeId} {w : World} {size n : Nat} {xs : List Value} (ho : w.ownsRow 0 T size v n xs) : bk v = some k := by
  rcases ho.2 with ⟨rfl, _⟩ | ⟨g, cap, cur, rfl, _⟩
  · cases h
  · simp [Value.ownBlock] at h; subst h; rfl

/-- The base of an append. -/
theorem base_spec {X : Cx} {Z : Nat → Prop} {w : World} {θ : Nat → Value} {m : Nat → Option Blk} (hm : Mem X Z w θ m) {e k d : Nat} {x : AV} {v : Value} (hx : Rep Z w θ x v) {i : Nat} {es : List (List AV)} {t : List Nat} (h : baseOf m e k d x = some (i, es, t)) :
    (∀ r ∈ es, r.length = k) ∧ (∃ xs, w.ownsRow 0 e k v es.length xs ∧ Cells Z w th0 es.flatten xs) ∧ ((i = (64 * d + 64) ∧ bk v = none) ∨ (64 ≤ i ∧ θ i = v ∧ (m i).isSome = true ∧ ∀ b, bk v = some b → ¬ Z b)) := by
  unfold baseOf at h
  split at h
  · simp only [Option.some.injEq, Prod.mk.injEq] at h
    obtain ⟨rfl, rfl, rfl⟩ := h
    cases hx
    exact ⟨by simp, ⟨[], World.ownsRow_nil w 0 e k, Cells.nil _ _ _⟩, .inl ⟨rfl, rfl⟩⟩
  · rename_i r _ _ _
    split at h <;> try (cases h; done)
    rename_i t' z es' hr
    split at h <;> try (cases h; done)
    rename_i hc
    obtain ⟨rfl, rfl, h64⟩ := hc
    simp only [Option.some.injEq, Prod.mk.injEq] at h
    obtain ⟨rfl, rfl, rfl⟩ := h
    obtain ⟨hz, hrows, xs, hown, hnz, hcc⟩ := hm.brep r _ hr
    cases hx with
    | vw _ _ _ _ _ a n c hθ =>
      rw [hθ] at hown hnz
      exact ⟨hrows, ⟨xs, hown, hcc⟩, .inr ⟨h64, hθ, by rw [hr]; rfl, hnz⟩⟩
  · cases h

theorem ys_spec {X : Cx} {Z : Nat → Prop} {w : World} {θ : Nat → Value} {m : Nat → Option Blk} (hm : Mem X Z w θ m) {k : Nat} (hk : 0 < k) {y : AV} {v : Value} (hy : Rep Z w θ y v) {ys : List (List AV)} {t : List Nat} (h : ysOf m k y = some (ys, t)) : Reads Z w k ys v := by
  unfold ysOf at h
  split at h
  · rename_i r sz lo hi
    unfold ysP at h
    split at h <;> try (cases h; done)
    rename_i hr
    split at h <;> try (cases h; done)
    rename_i hc
    simp only [Bool.and_eq_true, beq_iff_eq] at hc
    obtain ⟨rfl, rfl⟩ := hc
    simp only [Option.some.injEq, Prod.mk.injEq] at h
    obtain ⟨rfl, rfl⟩ := h
    exact reads_part hm hr hy
  · simp only [Option.some.injEq, Prod.mk.injEq] at h
    obtain ⟨rfl, rfl⟩ := h
    exact reads_nil k hy
  · split at h <;> try (cases h; done)
    rename_i hc
    subst hc
    simp only [Option.some.injEq, Prod.mk.injEq] at h
    obtain ⟨rfl, rfl⟩ := h
    exact reads_lst hk hy
  · split at h <;> try (cases h; done)
    rename_i hr
    split at h <;> try (cases h; done)
    rename_i hc
    subst hc
    simp only [Option.some.injEq, Prod.mk.injEq] at h
    obtain ⟨rfl, rfl⟩ := h
    exact (reads_buf hm hr hy).1
  · cases h

/-- Append. -/
theorem app_out {P : Program} {X : Cx} {Z : Nat → Prop} {w : World} {θ : Nat → Value} {m : Nat → Option Blk} (hm : Mem X Z w θ m) {d : Nat} (hd : d + 1 ≠ 0) {t ty e : TypeId} {i : TypeInfo} {zv : Value} (ht : P.underlying t = some (.slice e)) (hi : P.info? e = some i) (hz : i.zero = some zv)
    (hzs : zv.cells.size = i.size) (hsz : 0 < i.size) {z : List AV} (hzl : z.length = i.size) {x y : AV} {vx vy : Value} (hx : Rep Z w θ x vx) (hy : Rep Z w θ y vy) {r : Res} (he : appR m e i.bytes z d x y = some r) (hpre : ∀ q ∈ r.pre, q) :
    ∃ v' w' θ', (Builtin.append_ #[t, t] ty #[vx, vy]).run P w = .ok v' w' ∧ Out X Z w θ m d r v' Z w' θ' := by
  unfold appR at he
  split at he <;> try (cases he; done)
  rename_i id es t1 ys t2 hb hys
  simp only [Option.some.injEq] at he; subst he
  have h63 := hpre (es.length + ys.length ≤ 9223372036854775807) (by simp)
  have hby := hpre ((es.length + ys.length) * i.bytes ≤ 140737488355328) (by simp)
  obtain ⟨hrows, ⟨xs, hown, hcx⟩, hid⟩ := base_spec hm hx hb
  obtain ⟨hrows2, ad, c, news, rfl, had, hl, hnews, hcn⟩ := ys_spec hm (by omega) hy hys
  rw [hzl] at hown hl
  have hone : ∀ u ∈ news, u.oneCell' = true := hcn.one
  obtain ⟨v', w', hr, hown', hgb, ⟨a', n', c', hv'⟩, hblk⟩ := run_append_at (P := P) w t ty e i zv ht hi hz hzs hsz vx es.length xs hown ad ys.length c had news hl hnews hone (by simp only [maxLen]; omega) hby
  have hnZ : ∀ b, bk v' = some b → ¬ Z b := by
    intro b hb' hzb
    rcases hblk b hb' with h | h
    · rcases hid with ⟨_, h0⟩ | ⟨_, _, _, h0⟩
      · rw [h0] at h; cases h
      · exact h0 b h hzb
    · have := hm.zlt b hzb; omega
  have hownX : ∀ b, bk v' = some b → X.w0.heap.size ≤ b := by
    intro b hb'
    rcases hblk b hb' with h | h
    · rcases hid with ⟨_, h0⟩ | ⟨h64, h0, h1, _⟩
      · rw [h0] at h; cases h
      · rcases hm.own id b h1 (by rw [h0]; exact h) with h | h
        · exact h
        · omega
    · have := hm.frame.size; omega
  -- the world goes on; the buffer is forgotten for a moment
  have hstep : ∃ m', Mem X Z w' θ m' ∧ Goes Z w Z w' ∧ (∀ k, k ≠ id → m' k = m k) := by
    rcases hid with ⟨_, h0⟩ | ⟨h64, h0, h1, h2⟩
    · have hno : vx.ownBlock = none := by
        cases hN : vx.ownBlock with
        | none => rfl
        | some k => rw [bk_own vx hN hown] at h0; cases h0
      obtain ⟨q1, q2⟩ := hm.stepW (w' := w') (m' := m) none (fun _ h => h) (fun _ h => .inl h) (fun b hb' => Nat.lt_of_lt_of_le (hm.zlt b hb') hgb.size) hgb.os hgb.tape hgb.output hgb.size (fun k hk _ => hgb.block k hk (by rw [hno]; simp)) (fun _ _ => rfl) (fun r h => by cases h)
      exact ⟨m, q1, q2, fun _ _ => rfl⟩
    · obtain ⟨q1, q2⟩ := hm.stepW (w' := w') (m' := updM m id none) (some id) (fun _ h => h) (fun _ h => .inl h) (fun b hb' => Nat.lt_of_lt_of_le (hm.zlt b hb') hgb.size) hgb.os hgb.tape hgb.output hgb.size
        (fun k hk hne => hgb.block k hk (by
          intro hk'
          have := bk_own vx hk'.symm hown
          exact hne id rfl (by rw [h0]; exact this)))
        (fun k hk => by have : k ≠ id := fun e => hk (by rw [e]); simp [updM, this])
        (fun k hk => by
          simp only [Option.some.injEq] at hk; subst hk
          exact ⟨h1, fun blk hblk => by simp [updM] at hblk⟩)
      exact ⟨_, q1, q2, fun k hk => by simp [updM, hk]⟩
  obtain ⟨m', hm', hg, hmm⟩ := hstep
  have h64 : 64 ≤ id := by
    rcases hid with ⟨h, _⟩ | ⟨h, _⟩
    · omega
    · exact h
  have hput := hm'.put1 id v' (.buf e z (es ++ ys)) h64 (by
      refine ⟨fun hz0 => ?_, ?_, xs ++ news, ?_, ?_, ?_⟩
      · rw [hz0] at hzl; simp at hzl; omega
      · intro q hq
        rcases List.mem_append.1 hq with hq | hq
        · exact hrows q hq
        · exact hrows2 q hq
      · simp only [if_true, List.length_append, hzl]
        exact hown'
      · intro b hb'
        simp only [if_true] at hb'
        exact hnZ b hb'
      · rw [List.flatten_append]
        exact (hcx.append hcn).step hg) (by
      intro r' blk' hne hr' b hb' hb2
      have hr0 : m r' = some blk' := by rw [← hmm r' hne]; exact hr'
      rcases hblk b hb' with h | h
      · rcases hid with ⟨_, h0⟩ | ⟨_, h0, h1, _⟩
        · rw [h0] at h; cases h
        · exact hne (hm.disj r' id b (by rw [hr0]; rfl) h1 hb2 (by rw [h0]; exact h))
      · have := hm.lt hr0 hb2; omega) hownX
  have heq : updM (killM id m') id (some (killB id (.buf e z (es ++ ys)))) = updM (killM id m) id (some (killB id (.buf e z (es ++ ys)))) := by
    funext k
    simp only [updM, killM]
    by_cases hk : k = id
    · simp [hk]
    · simp [hk, hmm k hk]
  rw [heq] at hput
  refine ⟨v', w', fun k => if k = id then v' else θ k, hr, ?_, hg, fun k hk => ?_, hput, by simp⟩
  · subst hv'
    exact .vw _ _ _ _ _ _ _ _ (by simp)
  · have := hk _ _ rfl
    simp [this]

/-- Append where the order is drawn: what comes out is a block of its own. -/
theorem app_outD {P : Program} {X : Cx} {Z : Nat → Prop} {w : World} {θ : Nat → Value} {m : Nat → Option Blk} (hm : Mem X Z w θ m) {d : Nat} (hd : d + 1 ≠ 0) {t ty e : TypeId} {i : TypeInfo} {zv : Value} (ht : P.underlying t = some (.slice e)) (hi : P.info? e = some i) (hz : i.zero = some zv)
    (hzs : zv.cells.size = i.size) (hsz : 0 < i.size) {z : List AV} (hzl : z.length = i.size) {x y : AV} {vx vy : Value} (hx : Rep Z w θ x vx) (hy : Rep Z w θ y vy) {r : Res} (he : appDR m e i.bytes z d x y = some r) (hpre : ∀ q ∈ r.pre, q) :
    ∃ v' w' θ', (Builtin.append_ #[t, t] ty #[vx, vy]).run P w = .ok v' w' ∧ Out X Z w θ m d r v' Z w' θ' := by
  unfold appDR at he
  split at he
  · exact app_out hm hd ht hi hz hzs hsz hzl hx hy he hpre
  · rename_i r0 x1 x2 x3
    split at he <;> try (cases he; done)
    rename_i id es t1 ys t2 hne hb hys
    have hne : r0 ≠ 64 * d + 64 := by simpa using hne
    simp only [Option.some.injEq] at he; subst he
    have h63 := hpre (es.length + ys.length ≤ 9223372036854775807) (by simp)
    have hby := hpre ((es.length + ys.length) * i.bytes ≤ 140737488355328) (by simp)
    have hid0 : id = r0 := by
      unfold baseOf at hb
      simp only at hb
      split at hb <;> try (cases hb; done)
      split at hb <;> try (cases hb; done)
      simp only [Option.some.injEq, Prod.mk.injEq] at hb
      exact hb.1.symm
    subst hid0
    obtain ⟨hrows, ⟨xs, hown, hcx⟩, hid⟩ := base_spec hm hx hb
    have hid : 64 ≤ id ∧ θ id = vx ∧ (m id).isSome = true ∧ ∀ b, bk vx = some b → ¬ Z b := by
      rcases hid with ⟨h1, _⟩ | h
      · exact absurd h1 hne
      · exact h
    obtain ⟨h64, h0, h1, h2⟩ := hid
    obtain ⟨hrows2, ad, c, news, rfl, had, hl, hnews, hcn⟩ := ys_spec hm (by omega) hy hys
    rw [hzl] at hown hl
    have hone : ∀ u ∈ news, u.oneCell' = true := hcn.one
    obtain ⟨v', w', hr, hown', hgb, ⟨a', n', c', hv'⟩, hblk⟩ := run_append_at (P := P) w t ty e i zv ht hi hz hzs hsz vx es.length xs hown ad ys.length c had news hl hnews hone (by simp only [maxLen]; omega) hby
    have hnZ : ∀ b, bk v' = some b → ¬ Z b := by
      intro b hb' hzb
      rcases hblk b hb' with h | h
      · exact h2 b h hzb
      · have := hm.zlt b hzb; omega
    have hownX : ∀ b, bk v' = some b → X.w0.heap.size ≤ b := by
      intro b hb'
      rcases hblk b hb' with h | h
      · rcases hm.own id b h1 (by rw [h0]; exact h) with h | h
        · exact h
        · omega
      · have := hm.frame.size; omega
    obtain ⟨q1, q2⟩ := hm.stepW (w' := w') (m' := updM m id none) (some id) (fun _ h => h) (fun _ h => .inl h) (fun b hb' => Nat.lt_of_lt_of_le (hm.zlt b hb') hgb.size) hgb.os hgb.tape hgb.output hgb.size
      (fun k hk hne => hgb.block k hk (by
        intro hk'
        have := bk_own vx hk'.symm hown
        exact hne id rfl (by rw [h0]; exact this)))
      (fun k hk => by have : k ≠ id := fun e => hk (by rw [e]); simp [updM, this])
      (fun k hk => by
        simp only [Option.some.injEq] at hk; subst hk
        exact ⟨h1, fun blk hblk => by simp [updM] at hblk⟩)
    have hput := q1.put1 (64 * d + 64) v' (.buf e z (es ++ ys)) (by omega) (by
        refine ⟨fun hz0 => ?_, ?_, xs ++ news, ?_, ?_, ?_⟩
        · rw [hz0] at hzl; simp at hzl; omega
        · intro q hq
          rcases List.mem_append.1 hq with hq | hq
          · exact hrows q hq
          · exact hrows2 q hq
        · simp only [if_true, List.length_append, hzl]
          exact hown'
        · intro b hb'
          simp only [if_true] at hb'
          exact hnZ b hb'
        · rw [List.flatten_append]
          exact (hcx.append hcn).step q2) (by
        intro r' blk' hne' hr' b hb' hb2
        by_cases hri : r' = id
        · subst hri; simp [updM] at hr'
        · have hr0 : m r' = some blk' := by simpa [updM, hri] using hr'
          rcases hblk b hb' with h | h
          · exact hri (hm.disj r' id b (by rw [hr0]; rfl) h1 hb2 (by rw [h0]; exact h))
          · have := hm.lt hr0 hb2; omega) hownX
    refine ⟨v', w', fun k => if k = 64 * d + 64 then v' else θ k, hr, ?_, q2, fun k hk => ?_, ?_, by simp⟩
    · subst hv'
      exact .vw _ _ _ _ _ _ _ _ (by simp)
    · have := hk _ _ rfl
      simp [this]
    · exact hput
  · cases he
end Go.Ev

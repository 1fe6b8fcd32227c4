/- A part of the proof: symbolic evaluation of the program's functions, proved sound against the model; no condition. -/
/-
  The framework 'Ev', part I: every operation that the compiler takes meets the outcome that the evaluator gives it.
  Conditions: none; a text of lemmas.
-/
import Derived.Test.YteakklbbdfgbdaaEvNZ
import Derived.Test.YteakklbbdfgbdaaEvP
import Derived.Test.YteakklbbdfgbdaaEvQC
namespace Go.Ev
open Go Go.RowKit
set_option linter.unusedVariables false
set_option linter.unusedSectionVars false
set_option linter.unusedSimpArgs false

section
variable {P : Program} {dr own : Bool} {X : Cx} {Z : Nat → Prop} {w : World} {θ : Nat → Value} {a : Act} {σ : St} {p : List (Nat × Bool)} {Φ : Nat → Option Ctr}

theorem map_some' {α β : Type} {x : Option α} {f : α → β} {y : β} (h : x.map f = some y) : ∃ z, x = some z ∧ f z = y := by
  cases x with
  | none => cases h
  | some z => exact ⟨z, rfl, by simpa using h⟩

theorem und_of_agg {t : TypeId} {n : Nat} (h : sizeP P t = some n) (hu : (P.underlying t).isSome = true) : ∃ u, P.underlying t = some u := Option.isSome_iff_exists.1 hu

theorem lenM_or (m : Nat → Option Blk) (ty : Nat) (y : AV) : (∃ r a b c, y = .vw r a b c) ∨ lenM m ty y = lenR ty y := by
  cases y <;> first | exact .inl ⟨_, _, _, _, rfl⟩ | exact .inr rfl
theorem ok_len (hs : ∀ k, SRep Z w θ a.tmps (σ.s k) (a.tmps.getD k undef)) (hp : pathT a.tmps p) (hm : Mem X Z w θ σ.m) {o : Oper} {c : Call} {x : Operand} (ho : o.op = .call c) (hc1 : c.callee = .builtin .len) (hc2 : c.args = #[x]) {t : TypeId} (ht : c.argTypes[0]? = some t)
    {x' : A} (hx : compA x = some x') {ty : Nat} {r : Res} (hty : ty = 0 → ∃ e, P.underlying t = some (.slice e)) (hplain : bind1 (av σ p x') (lenR ty) = some r → Calm P Z w θ a o r) (he : bind1 (av σ p x') (lenM σ.m ty) = some r) {d : Nat} : OpOK P X Z w θ σ.m a o d r := by
  obtain ⟨y, hy, h⟩ := bind1_some he
  rcases lenM_or σ.m ty y with ⟨r0, a0, b0, c0, rfl⟩ | heq
  · have hr := av_rep hs hp hx hy
    simp only [lenM] at h
    cases hmr : σ.m r0 with
    | none => rw [hmr] at h; cases h
    | some blk =>
      cases blk with
      | cells cs => rw [hmr] at h; cases h
      | dead => rw [hmr] at h; cases h
      | ms n ks => rw [hmr] at h; cases h
      | clo f z es i off => rw [hmr] at h; cases h
      | qb T z es =>
        rw [hmr] at h
        simp only [lenV] at h
        split at h <;> try (cases h; done)
        simp only [Option.some.injEq] at h; subst h
        obtain ⟨e, hu⟩ := hty rfl
        obtain ⟨_, _, xs, hown, _⟩ := hm.brep r0 _ hmr
        have hrun := fun res => run_len (σ := σ) (P := P) (w := w) hs hp ho hc1 hc2 (res := res)
        generalize a.eval x = v at hr hrun
        cases hr with
        | vw _ _ _ _ _ ad n c' hθ =>
          rw [hθ] at hown
          have hn : n = es.length ∧ es.length ≤ 9223372036854775807 := by
            rcases hown.2 with ⟨h3, h4⟩ | ⟨g, o0, cap, cur, h3, _, hnc, hcm, _⟩
            · cases h3; omega
            · cases h3; unfold maxLen at hcm; omega
          obtain ⟨rfl, hle⟩ := hn
          refine .of_calm ⟨rfl, rfl, ?_, _, hrun (.int .i64 es.length) ?_, .int _ _ _⟩ hm
          · intro q hq
            simp only [List.mem_singleton] at hq
            subst hq
            exact hle
          · simp [Builtin.len_, ht, run_underlying hu, goInt]
      | buf T z es =>
        rw [hmr] at h
        simp only [lenV] at h
        split at h <;> try (cases h; done)
        simp only [Option.some.injEq] at h; subst h
        obtain ⟨e, hu⟩ := hty rfl
        obtain ⟨⟨hrows, ad, c', news, hv, _⟩, xs, hown, _⟩ := reads_buf hm hmr hr
        have hrun := fun res => run_len (σ := σ) (P := P) (w := w) hs hp ho hc1 hc2 (res := res)
        refine .of_calm ⟨rfl, rfl, ?_, _, hrun (.int .i64 es.length) ?_, .int _ _ _⟩ hm
        · intro q hq
          simp only [List.mem_singleton] at hq
          subst hq
          rcases hown.2 with ⟨_, hn⟩ | ⟨g, cap, cur, _, _, _, hnc, hcm, _⟩
          · rw [hn]; omega
          · unfold maxLen at hcm; omega
        · rw [hv]
          simp [Builtin.len_, ht, run_underlying hu, goInt]
  · exact .of_calm (hplain (by rw [hy]; rw [heq] at h; exact h)) hm

theorem cpR_inv {m : Nat → Option Blk} {sz : Nat} {x y : AV} {r : Res} (h : cpR m sz x y = some r) : ∃ r0 a b c T z es ys t', x = .vw r0 a b c ∧ m r0 = some (.buf T z es) ∧ ysOf m 1 y = some (ys, t') ∧ sz = 1 ∧ z.length = 1 ∧
    r = ⟨[], [], .int .i64 ((min ys.length es.length : Nat) : Int), [(r0, .buf T z (ys.take es.length ++ es.drop ys.length))], none, r0 :: t'⟩ := by
  cases x <;> try (cases h; done)
  simp only [cpR] at h
  unfold cpB at h
  split at h <;> try (cases h; done)
  rename_i h1 h2
  split at h <;> try (cases h; done)
  rename_i hc
  simp only [Option.some.injEq] at h
  have hc := of_decide_eq_true hc
  exact ⟨_, _, _, _, _, _, _, _, _, rfl, h1, h2, hc.1, hc.2, h.symm⟩
theorem ok_copy (hs : ∀ k, SRep Z w θ a.tmps (σ.s k) (a.tmps.getD k undef)) (hp : pathT a.tmps p) (hm : Mem X Z w θ σ.m) {o : Oper} {c : Call} (ho : o.op = .call c) (hcal : c.callee = .builtin .copy) {x1 y1 : A} (hxs : compAs c.args.toList = some [x1, y1])
    {e : TypeId} (hu : (c.argTypes[0]?).bind P.underlying = some (.slice e)) (h2 : c.argTypes.size = 2) {s : Nat} (hsz : sizeP P e = some s) {d : Nat} {r : Res} (he : evOp Φ (.copy s x1 y1) d p σ = some r) : OpOK P X Z w θ σ.m a o d r := by
  obtain ⟨t, ht0, ht⟩ := Option.bind_eq_some_iff.1 hu
  simp only [evOp] at he
  obtain ⟨vx, vy, hx, hy, hE⟩ := bind2_some he
  have hreps := avs_reps hs hp hxs (ys := [vx, vy]) (by simp [avs, hx, hy])
  generalize hl : c.args.toList.map a.eval = l at hreps
  have hlen := hreps.len
  match l, hlen, hreps, hl with
  | [u1, u2], _, hreps, hl =>
    have r1 := hreps.rep 0 _ u1 rfl rfl
    have r2 := hreps.rep 1 _ u2 rfl rfl
    have hargs : c.args.map a.eval = #[u1, u2] := by
      apply Array.ext'; simpa using hl
    obtain ⟨t2, hat⟩ : ∃ t2, c.argTypes = #[t, t2] := by
      refine ⟨c.argTypes[1]'(by omega), ?_⟩
      apply Array.ext'
      refine List.ext_getElem? fun j => ?_
      match j with
      | 0 => simpa using ht0
      | 1 => simp [h2]
      | j + 2 =>
        have : c.argTypes.toList.length = 2 := by simpa using h2
        rw [List.getElem?_eq_none (by omega)]
        simp
    clear he
    obtain ⟨r0, q1, q2, q3, T, z, es, ys, t', rfl, hmr, hys, rfl, hz1, rfl⟩ := cpR_inv hE
    obtain ⟨hrows2, ad, c', news, rfl, had, hnl, hnews, hcn⟩ := ys_spec hm (by omega) r2 hys
    obtain ⟨hz0, hz, xs, hown, hnz, hcs⟩ := hm.brep r0 _ hmr
    have hs1 : (P.info? e).map (·.size) = some 1 := hsz
    obtain ⟨a0, nn, cc, rfl, hθ⟩ : ∃ a0 nn cc, u1 = .slice a0 nn cc ∧ θ r0 = .slice a0 nn cc := by
      cases r1 with
      | vw _ _ _ _ _ a n c h => exact ⟨a, n, c, rfl, h⟩
    rw [hz1] at hown
    have hxl : xs.length = es.length := by have := hown.1; omega
    have hnl : news.length = ys.length := by omega
    have hrun0 : ∀ {res : Value} {w' : World}, (Builtin.copy_ #[t, t2] o.type #[.slice a0 nn cc, .slice ad ys.length c']).run P w = .ok res w' → (execOp a.eval o).run P w = .ok (.value res) w' := by
      intro res w' h
      simp [execOp, ho, resolve, hcal, invoke, builtin, hargs, hat, h]
    have hrw : ∀ e ∈ ys.take es.length ++ es.drop ys.length, e.length = z.length := by
      intro q hq
      rcases List.mem_append.1 hq with hq | hq
      · rw [hrows2 q (List.mem_of_mem_take hq), hz1]
      · exact hz q (List.mem_of_mem_drop hq)
    have hfl : (ys.take es.length ++ es.drop ys.length).flatten = ys.flatten.take es.length ++ es.flatten.drop ys.length := by
      rw [List.flatten_append, flat_takek (k := 1) hrows2, flat_dropk (k := 1) (fun e he => by rw [hz e he, hz1]), Nat.mul_one, Nat.mul_one]
    have hrl : (ys.take es.length ++ es.drop ys.length).length = es.length := by
      rw [List.length_append, List.length_take, List.length_drop]; omega
    rw [hθ] at hown
    by_cases h0 : min ys.length es.length = 0
    · have hnl0 : es.length = nn := by
        rcases hown.2 with ⟨h, hn⟩ | ⟨g, cap, cur, h, _⟩
        · simp only [Value.slice.injEq] at h; omega
        · simp only [Value.slice.injEq] at h; omega
      have hr := run_copy_none (P := P) w t t2 o.type e a0 ad nn cc ys.length c' ht hs1 (by rw [← hnl0]; exact h0)
      have hsame : ys.take es.length ++ es.drop ys.length = es := by
        rcases (show ys.length = 0 ∨ es.length = 0 by omega) with h | h
        · rw [List.eq_nil_of_length_eq_zero h]; simp
        · rw [List.eq_nil_of_length_eq_zero h]; simp
      intro K Q hK
      refine wp_value (hrun0 hr) (hK _ Z w θ ⟨?_, .refl Z w, fun _ _ => rfl, ?_, by simp⟩)
      · rw [h0]; exact .int _ _ _
      · show Mem X Z w θ (updL σ.m [(r0, .buf T z _)])
        rw [hsame]
        have : updL σ.m [(r0, .buf T z es)] = σ.m := by
          funext k
          simp only [updL, updM]
          by_cases hk : k = r0
          · rw [if_pos hk, hk, hmr]; rfl
          · rw [if_neg hk]
        rw [this]; exact hm
    · rcases hown.2 with ⟨_, hn⟩ | ⟨g, cap, cur, hv, _, hheap, hnc, hcm, hcsz, htake⟩
      · omega
      · simp only [Value.slice.injEq] at hv
        obtain ⟨rfl, rfl, rfl⟩ := hv
        have hyn : ys.length ≠ 0 := by omega
        obtain ⟨sa, rfl⟩ := Option.isSome_iff_exists.1 (had hyn)
        have hnw := hnews sa rfl
        have hl1 : (news.take es.length).length = Nat.min ys.length es.length := by rw [List.length_take, hnl]; exact Nat.min_comm _ _
        simp only [Nat.mul_one] at hcsz
        have hle : (news.take es.length).length ≤ es.length := by rw [List.length_take]; exact Nat.min_le_left _ _
        have hr := run_copy_row (P := P) w t t2 o.type e g 0 es.length cc sa ys.length c' cur T (news.take es.length) ht hs1 hheap hl1 (fun j v hj => by
          rw [List.getElem?_take] at hj
          split at hj
          · exact hnw j v hj
          · cases hj) (by omega) (fun v hv => hcn.one v (List.mem_of_mem_take hv))
        have hdrop : xs.drop (news.take es.length).length = xs.drop ys.length := by
          rw [hl1]
          by_cases hle2 : ys.length ≤ es.length
          · rw [show Nat.min ys.length es.length = ys.length from Nat.min_eq_left hle2]
          · rw [List.drop_eq_nil_of_le (by rw [show Nat.min ys.length es.length = es.length from Nat.min_eq_right (by omega)]; omega), List.drop_eq_nil_of_le (by omega)]
        intro K Q hK
        refine wp_value (hrun0 hr) (hK _ Z _ θ ?_)
        have hst := hm.stepW (w' := w.setRow g (cur.toList.take 0 ++ news.take es.length ++ cur.toList.drop (0 + (news.take es.length).length)).toArray) (m' := updL σ.m [(r0, .buf T z (ys.take es.length ++ es.drop ys.length))]) (some r0) (fun _ h => h) (fun _ h => .inl h)
          (fun b hb => by simpa using hm.zlt b hb) rfl rfl rfl (by simp) (fun k hk hne => heap_setRow_other w g k _ (by
            intro e; subst e; exact hne r0 rfl (by rw [hθ]; rfl))) (fun r' hr' => by
            have : r' ≠ r0 := fun e => hr' (by rw [e])
            simp [updL, updM, this]) (fun r' hr' => by
            simp only [Option.some.injEq] at hr'; subst hr'
            refine ⟨by simp [hmr], fun blk hblk => ?_⟩
            simp [updL, updM] at hblk
            subst hblk
            have g1 : Goes Z w Z (w.setRow g (cur.toList.take 0 ++ news.take es.length ++ cur.toList.drop (0 + (news.take es.length).length)).toArray) := ⟨fun _ h => h, fun k hk => heap_setRow_other w g k _ (by intro e; subst e; exact hnz k (by rw [hθ]; rfl) hk)⟩
            refine ⟨hz0, hrw, (xs.take 0 ++ news.take es.length ++ xs.drop (0 + (news.take es.length).length)), ?_, hnz, ?_⟩
            · rw [hθ, hz1, hrl]
              refine ⟨?_, .inr ⟨g, cc, _, rfl, Nat.zero_le _, heap_setRow_same w g _ T _ hheap, hnc, hcm, ?_, ?_⟩⟩
              · simp only [List.length_append, List.length_take, List.length_drop, hxl, Nat.mul_one]
                omega
              · simp only [List.size_toArray, List.length_append, List.length_take, List.length_drop, Array.length_toList, hcsz, Nat.mul_one]
                omega
              · rw [List.toList_toArray, Nat.mul_one, take_put (by omega) (by rw [show cur.toList.length = cur.size from Array.length_toList, hcsz]; exact hnc)]
                rw [Nat.mul_one] at htake
                rw [htake]
            · rw [hfl]
              have h9 := ((hcn.take es.length).append (hcs.drop ys.length)).step g1
              rw [← hdrop] at h9
              simpa only [List.take_zero, List.nil_append, Nat.zero_add] using h9)
        have hmin : ((min ys.length es.length : Nat) : Int) = ((news.take es.length).length : Int) := by rw [hl1]
        refine ⟨?_, hst.2, fun _ _ => rfl, hst.1, by simp⟩
        show Rep Z _ θ (.int .i64 ((min ys.length es.length : Nat) : Int)) _
        rw [hmin]
        exact .int _ _ _

theorem ok_append (hs : ∀ k, SRep Z w θ a.tmps (σ.s k) (a.tmps.getD k undef)) (hp : pathT a.tmps p) (hm : Mem X Z w θ σ.m) {o : Oper} {c : Call} (ho : o.op = .call c) (hcal : c.callee = .builtin .append) {x1 y1 : A} (hxs : compAs c.args.toList = some [x1, y1])
    {e : TypeId} (hu : (c.argTypes[0]?).bind P.underlying = some (.slice e)) {i : TypeInfo} (hi : P.info? e = some i) {z : List AV} (hz : zeroP P e = some z) (hcond : z.length = i.size ∧ i.size ≠ 0 ∧ c.argTypes.size = 2 ∧ c.argTypes[0]? = c.argTypes[1]?) {d : Nat} (hd : d + 1 ≠ 0) {r : Res}
    (he : evOp Φ (.append e i.bytes z x1 y1) d p σ = some r) (hpre : ∀ q ∈ r.pre, q) : OpOK P X Z w θ σ.m a o d r := by
  obtain ⟨t, ht0, ht⟩ := Option.bind_eq_some_iff.1 hu
  obtain ⟨h1, h2, h3, h4⟩ := hcond
  have hat : c.argTypes = #[t, t] := by
    have h5 : c.argTypes[1]? = some t := by rw [← h4]; exact ht0
    apply Array.ext'
    refine List.ext_getElem? fun j => ?_
    match j with
    | 0 => simpa using ht0
    | 1 => simpa using h5
    | j + 2 =>
      have : c.argTypes.toList.length = 2 := by simpa using h3
      rw [List.getElem?_eq_none (by omega)]
      simp
  simp only [evOp] at he
  obtain ⟨vx, vy, hx, hy, he⟩ := bind2_some he
  have hreps := avs_reps hs hp hxs (ys := [vx, vy]) (by simp [avs, hx, hy])
  generalize hl : c.args.toList.map a.eval = l at hreps
  have hlen := hreps.len
  match l, hlen, hreps, hl with
  | [u1, u2], _, hreps, hl =>
    have r1 := hreps.rep 0 _ u1 rfl rfl
    have r2 := hreps.rep 1 _ u2 rfl rfl
    have hargs : c.args.map a.eval = #[u1, u2] := by
      apply Array.ext'; simpa using hl
    obtain ⟨zv, hzv, hzc⟩ : ∃ zv, i.zero = some zv ∧ constAVs zv.cells.toList = some z := by
      unfold zeroP at hz
      rw [hi] at hz
      simp only [Option.bind_some] at hz
      split at hz
      · rename_i zv hzv; exact ⟨zv, hzv, hz⟩
      · cases hz
    have hzs : zv.cells.size = i.size := by
      have := (constAVs_cells (Z := Z) (w := w) (θ := θ) hzc).1.len
      rw [← h1, ← this]; simp
    obtain ⟨v', w', θ', hr, hout⟩ : ∃ v' w' θ', (Builtin.append_ #[t, t] o.type #[u1, u2]).run P w = .ok v' w' ∧ Out X Z w θ σ.m d r v' Z w' θ' := by
      unfold appQR at he
      split at he
      · rename_i r0 hq
        obtain ⟨_, _, _, _, _, _, rfl, _⟩ := isQ_some hq
        exact appQ_out (P := P) hm (ty := o.type) ht hi hzv hzs (by omega) h1 r1 r2 he hpre
      · exact app_out (P := P) hm hd (ty := o.type) ht hi hzv hzs (by omega) h1 r1 r2 he hpre
    have hrun : (execOp a.eval o).run P w = .ok (.value v') w' := by
      simp [execOp, ho, resolve, hcal, invoke, builtin, hargs, hat, hr]
    exact fun K Q hK => wp_value hrun (hK v' Z w' θ' hout)

theorem ok_appZ (hs : ∀ k, SRep Z w θ a.tmps (σ.s k) (a.tmps.getD k undef)) (hp : pathT a.tmps p) (hm : Mem X Z w θ σ.m) {o : Oper} {c : Call} (ho : o.op = .call c) (hcal : c.callee = .builtin .append) {x1 y1 : A} (hxs : compAs c.args.toList = some [x1, y1])
    {e : TypeId} (hu : (c.argTypes[0]?).bind P.underlying = some (.slice e)) {i : TypeInfo} (hi : P.info? e = some i) {z : List AV} (hz : zeroP P e = some z) (hcond : z.length = i.size ∧ i.size ≠ 0 ∧ c.argTypes.size = 2) {kk : IntKind} (hu2 : (c.argTypes[1]?).bind P.underlying = some (.int kk)) {d : Nat} (hd : d + 1 ≠ 0) {r : Res}
    (he : evOp Φ (.appZ e i.bytes z x1 y1) d p σ = some r) (hpre : ∀ q ∈ r.pre, q) : OpOK P X Z w θ σ.m a o d r := by
  obtain ⟨t, ht0, ht⟩ := Option.bind_eq_some_iff.1 hu
  obtain ⟨h1, h2, h3⟩ := hcond
  obtain ⟨ti, h5, hti⟩ := Option.bind_eq_some_iff.1 hu2
  have hat : c.argTypes = #[t, ti] := by
    apply Array.ext'
    refine List.ext_getElem? fun j => ?_
    match j with
    | 0 => simpa using ht0
    | 1 => simpa using h5
    | j + 2 =>
      have : c.argTypes.toList.length = 2 := by simpa using h3
      rw [List.getElem?_eq_none (by omega)]
      simp
  simp only [evOp] at he
  obtain ⟨vx, vy, hx, hy, he⟩ := bind2_some he
  have hreps := avs_reps hs hp hxs (ys := [vx, vy]) (by simp [avs, hx, hy])
  generalize hl : c.args.toList.map a.eval = l at hreps
  have hlen := hreps.len
  match l, hlen, hreps, hl with
  | [u1, u2], _, hreps, hl =>
    have r1 := hreps.rep 0 _ u1 rfl rfl
    have r2 := hreps.rep 1 _ u2 rfl rfl
    have hargs : c.args.map a.eval = #[u1, u2] := by
      apply Array.ext'; simpa using hl
    obtain ⟨zv, hzv, hzc⟩ : ∃ zv, i.zero = some zv ∧ constAVs zv.cells.toList = some z := by
      unfold zeroP at hz
      rw [hi] at hz
      simp only [Option.bind_some] at hz
      split at hz
      · rename_i zv hzv; exact ⟨zv, hzv, hz⟩
      · cases hz
    have hzs : zv.cells.size = i.size := by
      have := (constAVs_cells (Z := Z) (w := w) (θ := θ) hzc).1.len
      rw [← h1, ← this]; simp
    obtain ⟨v', w', θ', hr, hout⟩ := app_outZ (P := P) hm hd (ty := o.type) ht hti hi hzv hzs (by omega) h1 hzc r1 r2 he hpre
    have hrun : (execOp a.eval o).run P w = .ok (.value v') w' := by
      simp [execOp, ho, resolve, hcal, invoke, builtin, hargs, hat, hr]
    exact fun K Q hK => wp_value hrun (hK v' Z w' θ' hout)

theorem ok_appD (hs : ∀ k, SRep Z w θ a.tmps (σ.s k) (a.tmps.getD k undef)) (hp : pathT a.tmps p) (hm : Mem X Z w θ σ.m) {o : Oper} {c : Call} (ho : o.op = .call c) (hcal : c.callee = .builtin .append) {x1 y1 : A} (hxs : compAs c.args.toList = some [x1, y1])
    {e : TypeId} (hu : (c.argTypes[0]?).bind P.underlying = some (.slice e)) {i : TypeInfo} (hi : P.info? e = some i) {z : List AV} (hz : zeroP P e = some z) (hcond : z.length = i.size ∧ i.size ≠ 0 ∧ c.argTypes.size = 2 ∧ c.argTypes[0]? = c.argTypes[1]?) {d : Nat} (hd : d + 1 ≠ 0) {r : Res}
    (he : evOp Φ (.appD e i.bytes z x1 y1) d p σ = some r) (hpre : ∀ q ∈ r.pre, q) : OpOK P X Z w θ σ.m a o d r := by
  obtain ⟨t, ht0, ht⟩ := Option.bind_eq_some_iff.1 hu
  obtain ⟨h1, h2, h3, h4⟩ := hcond
  have hat : c.argTypes = #[t, t] := by
    have h5 : c.argTypes[1]? = some t := by rw [← h4]; exact ht0
    apply Array.ext'
    refine List.ext_getElem? fun j => ?_
    match j with
    | 0 => simpa using ht0
    | 1 => simpa using h5
    | j + 2 =>
      have : c.argTypes.toList.length = 2 := by simpa using h3
      rw [List.getElem?_eq_none (by omega)]
      simp
  simp only [evOp] at he
  obtain ⟨vx, vy, hx, hy, he⟩ := bind2_some he
  have hreps := avs_reps hs hp hxs (ys := [vx, vy]) (by simp [avs, hx, hy])
  generalize hl : c.args.toList.map a.eval = l at hreps
  have hlen := hreps.len
  match l, hlen, hreps, hl with
  | [u1, u2], _, hreps, hl =>
    have r1 := hreps.rep 0 _ u1 rfl rfl
    have r2 := hreps.rep 1 _ u2 rfl rfl
    have hargs : c.args.map a.eval = #[u1, u2] := by
      apply Array.ext'; simpa using hl
    obtain ⟨zv, hzv, hzc⟩ : ∃ zv, i.zero = some zv ∧ constAVs zv.cells.toList = some z := by
      unfold zeroP at hz
      rw [hi] at hz
      simp only [Option.bind_some] at hz
      split at hz
      · rename_i zv hzv; exact ⟨zv, hzv, hz⟩
      · cases hz
    have hzs : zv.cells.size = i.size := by
      have := (constAVs_cells (Z := Z) (w := w) (θ := θ) hzc).1.len
      rw [← h1, ← this]; simp
    obtain ⟨v', w', θ', hr, hout⟩ := app_outD (P := P) hm hd (ty := o.type) ht hi hzv hzs (by omega) h1 r1 r2 he hpre
    have hrun : (execOp a.eval o).run P w = .ok (.value v') w' := by
      simp [execOp, ho, resolve, hcal, invoke, builtin, hargs, hat, hr]
    exact fun K Q hK => wp_value hrun (hK v' Z w' θ' hout)

theorem op_sound (hΦ : ∀ f C, Φ f = some C → Sound P f C) {o : Oper} {io : IOp} (hc : compOp P dr own o = some io)
    (hs : ∀ k, SRep Z w θ a.tmps (σ.s k) (a.tmps.getD k undef)) (hp : pathT a.tmps p) (hm : Mem X Z w θ σ.m) {d : Nat} (hd : needD io = true → d + 1 ≠ 0) {r : Res}
    (he : evOp Φ io d p σ = some r) (hpre : ∀ q ∈ r.pre, q) : OpOK P X Z w θ σ.m a o d r := by
  have hmb := hm.brep
  cases hop : o.op with
  | move x =>
    simp only [compOp, hop] at hc
    obtain ⟨x', hx, rfl⟩ := map_some' hc
    exact .of_calm (calm_mov hs hp (.inl hop) hx he) hm
  | assign x =>
    simp only [compOp, hop] at hc
    obtain ⟨x', hx, rfl⟩ := map_some' hc
    exact .of_calm (calm_mov hs hp (.inr hop) hx he) hm
  | pick c x y =>
    simp only [compOp, hop] at hc
    split at hc <;> try (cases hc; done)
    rename_i c' x' y' h1 h2 h3
    simp only [Option.some.injEq] at hc; subst hc
    simp only [evOp] at he
    split at he <;> try (cases he; done)
    rename_i k hk
    exact .of_calm (calm_pick hs hp hop h1 h2 h3 hk he) hm
  | alloc e =>
    simp only [compOp, hop] at hc
    split at hc <;> try (cases hc; done)
    rename_i z n hz hn
    split at hc <;> try (cases hc; done)
    simp only [Option.some.injEq] at hc; subst hc
    simp only [evOp, Option.some.injEq] at he; subst he
    exact ok_alloc hs hp hm (hd rfl) hop hz
  | box e x =>
    simp only [compOp, hop] at hc
    split at hc <;> try (cases hc; done)
    rename_i x' n hx hn
    simp only [Option.some.injEq] at hc; subst hc
    exact ok_box hs hp hm (hd rfl) hop hx he
  | build t ps =>
    simp only [compOp, hop] at hc
    split at hc <;> try (cases hc; done)
    · rename_i z fs hz hu
      split at hc <;> try (cases hc; done)
      rename_i hall
      obtain ⟨qs, hq, rfl⟩ := map_some' hc
      exact .of_calm (calm_buildS hs hp hop hu hall hz hq he) hm
    · rename_i z n e hz hu
      split at hc <;> try (cases hc; done)
      rename_i s hsz
      obtain ⟨qs, hq, rfl⟩ := map_some' hc
      exact .of_calm (calm_buildA hs hp hop hu hz hsz hq he) hm
  | buildSlice t n ps =>
    simp only [compOp, hop] at hc
    split at hc <;> try (cases hc; done)
    rename_i e hu
    split at hc <;> try (cases hc; done)
    rename_i s z qs hsz hz hq
    split at hc <;> try (cases hc; done)
    rename_i hh
    split at hc
    · simp only [Option.some.injEq] at hc; subst hc
      exact ok_bslice hs hp hm hop hu hsz hz hq hh.1 hh.2.1 hh.2.2 he
    · simp only [Option.some.injEq] at hc; subst hc
      exact ok_bsliceO hs hp hm hop hu hsz hz hq hh.1 hh.2.1 hh.2.2 he
  | load t x =>
    simp only [compOp, hop] at hc
    split at hc <;> try (cases hc; done)
    rename_i x' n hx hn
    split at hc <;> try (cases hc; done)
    rename_i hu
    obtain ⟨u, hu⟩ := Option.isSome_iff_exists.1 hu
    simp only [Option.some.injEq] at hc; subst hc
    exact .of_calm (calm_load hs hp hop hn hu hx hmb he hpre) hm
  | store t x v =>
    simp only [compOp, hop] at hc
    split at hc <;> try (cases hc; done)
    rename_i x' v' n hx hv hn
    simp only [Option.some.injEq] at hc; subst hc
    exact ok_store hs hp hm hop hn hx hv he hpre
  | nilCheck x =>
    simp only [compOp, hop] at hc
    obtain ⟨x', hx, rfl⟩ := map_some' hc
    exact .of_calm (calm_nilchk hs hp hop hx he) hm
  | binOp op t x y u =>
    by_cases hl : op = .shl
    · subst hl
      simp only [compOp, hop] at hc
      split at hc <;> try (cases hc; done)
      obtain ⟨n, x', rfl, h⟩ := calm_shl (r := r) hs hp hop hc
      exact .of_calm (h he) hm
    by_cases hrr : op = .shr
    · subst hrr
      simp only [compOp, hop] at hc
      split at hc <;> try (cases hc; done)
      obtain ⟨n, x', rfl, h⟩ := calm_shr (r := r) hs hp hop hc
      exact .of_calm (h he) hm
    have hc : (match compA x, compA y with
        | some a, some b => match P.underlying t with
          | some (.slice _) => if isEq op && isNilC y then some (.eqnil (isNeq op) a) else none
          | some (.int _) => if isCmp op then some (.cmp op 0 a b) else if isArith op then some (.arith op a b) else none
          | some .bool => if isEq op then some (.cmp op 1 a b) else none
          | some .string => if isEq op then some (.cmp op 2 a b) else none
          | some (.struct _) => if isEq op && !P.eqGuardType P.depth t then (shapeOf P 60 t).map fun s => .eqa (isNeq op) s a b else none
          | _ => none
        | _, _ => none) = some io := by
      rw [← hc]
      cases op <;> first | exact absurd rfl hl | exact absurd rfl hrr | (simp only [compOp, hop]; rfl) | simp only [compOp, hop]
    split at hc <;> try (cases hc; done)
    rename_i x' y' hx hy
    split at hc <;> try (cases hc; done)
    · rename_i e hu
      split at hc <;> try (cases hc; done)
      rename_i heq
      simp only [Bool.and_eq_true] at heq
      simp only [Option.some.injEq] at hc; subst hc
      exact .of_calm (calm_eqnil hs hp hm hop heq.1 hu heq.2 hx he) hm
    · rename_i k hu
      split at hc
      · rename_i hcm
        simp only [Option.some.injEq] at hc; subst hc
        exact .of_calm (calm_cmpI hs hp hop hcm hx hy he) hm
      · split at hc <;> try (cases hc; done)
        rename_i har
        simp only [Option.some.injEq] at hc; subst hc
        exact .of_calm (calm_arith hs hp hop har hx hy he hpre) hm
    · rename_i hu
      split at hc <;> try (cases hc; done)
      rename_i heq
      simp only [Option.some.injEq] at hc; subst hc
      exact .of_calm (calm_cmpB hs hp hop heq hu hx hy he) hm
    · rename_i hu
      split at hc <;> try (cases hc; done)
      rename_i heq
      simp only [Option.some.injEq] at hc; subst hc
      exact .of_calm (calm_cmpS hs hp hop heq hx hy he) hm
    · rename_i fs hu
      split at hc <;> try (cases hc; done)
      rename_i heq
      simp only [Bool.and_eq_true, Bool.not_eq_true'] at heq
      obtain ⟨sh, hsh, rfl⟩ := map_some' hc
      exact .of_calm (calm_eqa hs hp hop heq.1 hsh (by omega) (by simp [aggP, hu]) heq.2 hx hy rfl he) hm
  | unOp op t x =>
    cases op <;> simp only [compOp, hop] at hc <;> try (cases hc; done)
    · obtain ⟨x', hx, rfl⟩ := map_some' hc
      exact .of_calm (calm_neg hs hp hop hx he) hm
    · obtain ⟨x', hx, rfl⟩ := map_some' hc
      exact .of_calm (calm_not hs hp hop hx he) hm
  | convert s dd x =>
    simp only [compOp, hop] at hc
    split at hc <;> try (cases hc; done)
    · rename_i x' k k' hx hu1 hu2
      simp only [Option.some.injEq] at hc; subst hc
      exact .of_calm (calm_conv hs hp hop hu1 hu2 hx he) hm
    · rename_i x' e hx hu1 hu2
      split at hc <;> try (cases hc; done)
      rename_i hue
      simp only [Option.some.injEq] at hc; subst hc
      exact .of_calm (calm_b2s hs hp hm hop hu1 hue hu2 hx he hpre) hm
    · rename_i x' e hx hu1 hu2
      split at hc <;> try (cases hc; done)
      rename_i hue
      simp only [Option.some.injEq] at hc; subst hc
      exact ok_s2b hs hp hm hop hu1 hu2 hue hx he hpre
    · split at hc <;> try (cases hc; done)
      split at hc <;> try (cases hc; done)
      simp only [Option.some.injEq] at hc; subst hc
      simp [evOp] at he
  | makeSlice t l c =>
    simp only [compOp, hop] at hc
    split at hc <;> try (cases hc; done)
    rename_i e hu
    split at hc <;> try (cases hc; done)
    rename_i i z l' c' hi hz hl hcc
    split at hc <;> try (cases hc; done)
    rename_i hsz
    split at hc
    · simp only [Option.some.injEq] at hc; subst hc
      exact ok_mkF hs hp hm hop hu hi hz hsz.1 hsz.2 hl hcc he hpre
    · simp only [Option.some.injEq] at hc; subst hc
      exact ok_mkslice hs hp hm hop hu hi hz hsz.1 hsz.2 hl hcc he hpre
  | slice t x l h m =>
    cases m <;> simp only [compOp, hop] at hc <;> try (cases hc; done)
    split at hc <;> try (cases hc; done)
    rename_i e hu
    split at hc <;> try (cases hc; done)
    rename_i s x' l' h' hsz hx hl hh
    simp only [Option.some.injEq] at hc; subst hc
    exact ok_sliceQ hs hp hm hop hu hsz hx hl hh he hpre
  | fieldAddr t x f =>
    simp only [compOp, hop] at hc
    split at hc <;> try (cases hc; done)
    rename_i fs x' hu hx
    split at hc <;> try (cases hc; done)
    rename_i fd hfd
    split at hc <;> try (cases hc; done)
    rename_i s hsz
    split at hc <;> try (cases hc; done)
    rename_i hs0
    simp only [Option.some.injEq] at hc; subst hc
    exact .of_calm (calm_faddr hs hp hop hu hfd hsz hs0 hx he) hm
  | field t x f =>
    simp only [compOp, hop] at hc
    split at hc <;> try (cases hc; done)
    rename_i fs x' hu hx
    split at hc <;> try (cases hc; done)
    rename_i fd hfd
    split at hc <;> try (cases hc; done)
    rename_i huf
    obtain ⟨u, huf⟩ := Option.isSome_iff_exists.1 huf
    obtain ⟨s, hsz, rfl⟩ := map_some' hc
    exact .of_calm (calm_fld hs hp hop hu hfd hsz huf hx he) hm
  | index t x i =>
    simp only [compOp, hop] at hc
    split at hc <;> try (cases hc; done)
    · rename_i x' i' hu hx hi
      simp only [Option.some.injEq] at hc; subst hc
      exact .of_calm (calm_idxS hs hp hop hu hx hi he hpre) hm
    · rename_i n e x' i' hu hx hi
      split at hc <;> try (cases hc; done)
      rename_i hue
      obtain ⟨u, hue⟩ := Option.isSome_iff_exists.1 hue
      obtain ⟨s, hsz, rfl⟩ := map_some' hc
      exact .of_calm (calm_idxV hs hp hop hu hsz hue hx hi he hpre) hm
  | indexAddr t x i =>
    simp only [compOp, hop] at hc
    split at hc <;> try (cases hc; done)
    · rename_i e x' i' hu hx hi
      split at hc <;> try (cases hc; done)
      rename_i s z hsz hz
      split at hc <;> try (cases hc; done)
      rename_i hzl
      simp only [Option.some.injEq] at hc; subst hc
      exact .of_calm (ok_iaddrS hs hp hm hop hu hsz hzl hx hi he hpre) hm
    · rename_i n e x' i' hu hx hi
      obtain ⟨s, hsz, rfl⟩ := map_some' hc
      exact .of_calm (calm_iaddrA hs hp hop hu hsz hx hi he hpre) hm
  | extract x i =>
    simp only [compOp, hop] at hc
    obtain ⟨x', hx, rfl⟩ := map_some' hc
    exact .of_calm (calm_extract hs hp hop hx he) hm
  | call c =>
    simp only [compOp, hop, compCall] at hc
    split at hc <;> try (cases hc; done)
    · rename_i t xs' hcal hxs
      simp only [Option.some.injEq] at hc; subst hc
      simp only [evOp] at he
      split at he <;> try (cases he; done)
      rotate_left
      · rename_i rr _ _ _ vs hvf hvs
        unfold cloV at he
        split at he <;> try (cases he; done)
        rename_i f z es i off hrr
        split at he <;> try (cases he; done)
        rename_i hcon
        have hent : enterable P f = true := by
          have hcon : f ∈ valFs P := by simpa using hcon
          unfold valFs at hcon
          exact (List.mem_filter.1 hcon).2
        unfold enterable at hent
        split at hent <;> try (cases hent; done)
        rename_i fn hfn
        simp only [Bool.and_eq_true, Bool.not_eq_true'] at hent
        have hfv := av_rep hs hp (show compA (.tmp t) = some (.t t) from rfl) hvf
        obtain ⟨u, hθ, hu⟩ := hm.brep rr _ hrr
        have hev : a.eval (.tmp t) = .func (.func f) #[] #[u] := by
          generalize a.eval (.tmp t) = v at hfv
          cases hfv with
          | ap _ _ _ _ _ _ h _ _ => rw [← h, hθ]
        unfold tchR at he
        split at he <;> try (cases he; done)
        rename_i pre post v tt hcr
        simp only [Option.some.injEq] at he; subst he
        have hok := ok_enter (r := ⟨pre, post, v, [], none, tt⟩) (d := d) hm (run_callclo hs hp hop hcal hev hfn hent.1 hent.2) (xs := vs ++ [.ep z es i off]) (by
          have h1 := avs_reps hs hp hxs hvs
          have h2 := hu.th_clean0 rfl θ
          refine ⟨by simpa using h1.len, fun j x1 v hc hv => ?_⟩
          have hl : (c.args.toList.map a.eval).length = vs.length := h1.len
          have e : (c.args.map a.eval ++ #[u]).toList = c.args.toList.map a.eval ++ [u] := by simp
          rw [e] at hv
          by_cases hj : j < vs.length
          · rw [List.getElem?_append_left hj] at hc
            rw [List.getElem?_append_left (by omega)] at hv
            exact h1.rep j x1 v hc hv
          · rw [List.getElem?_append_right (by omega)] at hc
            rw [List.getElem?_append_right (by omega), hl] at hv
            have : j - vs.length = 0 := by
              by_cases h0 : j - vs.length = 0
              · exact h0
              · rw [List.getElem?_eq_none (by simp; omega)] at hc; cases hc
            rw [this] at hc hv
            simp only [List.getElem?_cons_zero, Option.some.injEq] at hc hv
            subst hc; subst hv
            exact h2) (fun C' h => hΦ _ _ h) hcr hpre
        exact fun K Q hK => hok K Q fun v Z' w' θ' ho => hK v Z' w' θ' (Out.tch (r := ⟨pre, post, _, [], none, tt⟩) (r' := ⟨pre, post, _, [], none, rr :: tt⟩) rfl rfl rfl rfl ho)
      rename_i f vs hvf hvs
      split at he <;> try (cases he; done)
      rename_i hcon
      have hent : enterable P f = true := by
        have hcon : f ∈ valFs P := by simpa using hcon
        unfold valFs at hcon
        exact (List.mem_filter.1 hcon).2
      unfold enterable at hent
      split at hent <;> try (cases hent; done)
      rename_i fn hfn
      simp only [Bool.and_eq_true, Bool.not_eq_true'] at hent
      have hfv := av_rep hs hp (show compA (.tmp t) = some (.t t) from rfl) hvf
      have hev : a.eval (.tmp t) = .func (.func f) #[] #[] := by
        generalize a.eval (.tmp t) = v at hfv
        cases hfv; rfl
      refine ok_enter hm (run_callv hop hcal hev hfn hent.1 hent.2) (xs := vs) ?_ (fun C' h => hΦ _ _ h) he hpre
      have := avs_reps hs hp hxs hvs
      simpa using this
    · rename_i f xs' hcal hxs
      split at hc <;> try (cases hc; done)
      rename_i fn hfn
      split at hc <;> try (cases hc; done)
      rename_i hcond
      simp only [Option.some.injEq] at hc; subst hc
      simp only [evOp] at he
      split at he <;> try (cases he; done)
      rename_i vs hvs
      refine ok_enterE hm (run_call hop hcal hfn hcond.1 hcond.2) (xs := vs) ?_ (fun C' h => hΦ _ _ h) he hpre
      have := avs_reps hs hp hxs hvs
      simpa using this
    · rename_i x' hcal hxs
      obtain ⟨x, hargs, hx⟩ : ∃ x, c.args = #[x] ∧ compA x = some x' := by
        generalize hl : c.args.toList = l at hxs
        match l, hxs with
        | [x], hxs =>
          simp only [compAs] at hxs
          split at hxs <;> try (cases hxs; done)
          rename_i b bs hb hbs
          simp only [Option.some.injEq] at hxs
          simp at hbs hxs
          obtain ⟨rfl, _⟩ := hxs
          exact ⟨x, by apply Array.ext'; simpa using hl, hb⟩
        | [], hxs => simp [compAs] at hxs
        | x :: y :: l, hxs =>
          simp only [compAs] at hxs
          split at hxs <;> try (cases hxs; done)
          rename_i b bs hb hbs
          split at hbs <;> simp at hbs
          subst hbs
          simp at hxs
      split at hc <;> try (cases hc; done)
      · rename_i e hu
        rw [Option.bind_eq_some_iff] at hu
        obtain ⟨t, ht, hu⟩ := hu
        simp only [Option.some.injEq] at hc; subst hc
        exact ok_len hs hp hm hop hcal hargs ht hx (fun _ => ⟨e, hu⟩) (fun h => calm_len0 hs hp hop hcal hargs ht hu hx h) he
      · rename_i hu
        rw [Option.bind_eq_some_iff] at hu
        obtain ⟨t, ht, hu⟩ := hu
        simp only [Option.some.injEq] at hc; subst hc
        exact ok_len hs hp hm hop hcal hargs ht hx (fun h => by cases h) (fun h => calm_len1 hs hp hop hcal hargs ht hu hx h) he
    · rename_i xs' hcal hxs
      simp only [Option.some.injEq] at hc; subst hc
      exact .of_calm (calm_minmax (mx := false) hs hp hop hcal hxs he) hm
    · rename_i xs' hcal hxs
      simp only [Option.some.injEq] at hc; subst hc
      exact .of_calm (calm_minmax (mx := true) hs hp hop hcal hxs he) hm
    · rename_i x1 y1 hcal hxs
      split at hc <;> try (cases hc; done)
      · rename_i e e2 hu1 hu2
        split at hc <;> try (cases hc; done)
        rename_i i hi
        split at hc <;> try (cases hc; done)
        rename_i z hz
        split at hc <;> try (cases hc; done)
        rename_i hcond
        split at hc
        · simp only [Option.some.injEq] at hc; subst hc
          exact ok_appD hs hp hm hop hcal hxs hu1 hi hz hcond (hd rfl) he hpre
        · simp only [Option.some.injEq] at hc; subst hc
          exact ok_append hs hp hm hop hcal hxs hu1 hi hz hcond (hd rfl) he hpre
      · rename_i e e2 hu1 hu2
        split at hc <;> try (cases hc; done)
        rename_i i hi
        split at hc <;> try (cases hc; done)
        rename_i z hz
        split at hc <;> try (cases hc; done)
        rename_i hcond
        simp only [Option.some.injEq] at hc; subst hc
        exact ok_appZ hs hp hm hop hcal hxs hu1 hi hz hcond.1 hu2 (hd rfl) he hpre
    · rename_i x1 y1 hcal hxs
      split at hc <;> try (cases hc; done)
      rename_i e hu
      split at hc <;> try (cases hc; done)
      rename_i h2
      obtain ⟨s, hsz, rfl⟩ := map_some' hc
      exact ok_copy hs hp hm hop hcal hxs hu h2 hsz he
  | makeMap t rs =>
    cases rs <;> simp only [compOp, hop] at hc <;> try (cases hc; done)
    obtain ⟨n, hn, rfl⟩ := map_some' hc
    simp only [evOp, Option.some.injEq] at he; subst he
    exact ok_mkmap hm hop n
  | lookup t x i ok =>
    cases ok <;> simp only [compOp, hop] at hc <;> try (cases hc; done)
    split at hc <;> try (cases hc; done)
    rename_i n x' i' hn hx hi
    simp only [Option.some.injEq] at hc; subst hc
    exact .of_calm (ok_mlook hs hp hm hop hn hx hi he) hm
  | mapUpdate t x i v =>
    simp only [compOp, hop] at hc
    split at hc <;> try (cases hc; done)
    rename_i n x' i' hn hx hi hv
    simp only [Option.some.injEq] at hc; subst hc
    exact ok_mput hs hp hm hop hn hv hx hi he hpre
  | makeFunc fn fi ca =>
    cases fn <;> simp only [compOp, hop] at hc <;> try (cases hc; done)
    split at hc <;> try (cases hc; done)
    rename_i x h1 h2
    obtain ⟨x', hx, rfl⟩ := map_some' hc
    exact ok_mkclo hs hp hm hop h1 h2 hx he
  | _ => simp [compOp, hop] at hc

end
end Go.Ev

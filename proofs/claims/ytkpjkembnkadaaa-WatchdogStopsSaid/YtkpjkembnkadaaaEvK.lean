/- A part of the proof: symbolic evaluation of the program's functions, proved sound against the model; no condition. -/
/-
  The framework 'Ev', part K: regions in the text's order, code, functions.
  Conditions: none; a text of lemmas.
-/
import Derived.Test.YtkpjkembnkadaaaEvJ
namespace Go.Ev
open Go Go.RowKit
set_option linter.unusedVariables false
set_option linter.unusedSectionVars false
set_option linter.unusedSimpArgs false

section
variable {P : Program} {X : Cx} {Φ : Nat → Option Ctr} {N : Nat}

theorem wanted_iff {ops : Array Oper} {o : Oper} {tm : Array Value} {j : Nat} {b : Bool} {s : Nat} (hg : o.guard = some (j, b)) (hj : (ops[j]?).bind (·.dst) = some s) : Region.wanted o (yielded ops tm) = true ↔ tm[s]? = some (.bool b) := by
  unfold Region.wanted yielded
  rw [hg]
  simp only [hj, Option.bind_some]
  cases h : tm[s]? with
  | none => simp
  | some v => cases v <;> simp

/-- What must be shown of one operation, with its guard, in some state of a region. -/
theorem opG_sound (hΦ : ∀ f C, Φ f = some C → Sound P f C) {G : Prop} {Z : Nat → Prop} {w : World} {θ : Nat → Value} {W : List Nat} {σ : St} {a : Act} {ops : Array Oper} {o : Oper} {io : IOp} {g : Option (Nat × Bool)} {af : List Nat} {r : Res}
    (inv : Inv X N G Z w θ W σ a.tmps) (hc : compOp P o = some io) (hg : compGuard ops o = some g)
    (hgW : ∀ s b, g = some (s, b) → s ∈ W ∧ G) (hdst : (o.dst = none ∧ g = none ∧ (∃ n x v, io = .store n x v)) ∨ ∃ d, o.dst = some d ∧ d ∉ W ∧ (needD io = true → d ≠ 0) ∧ d < N)
    (he : evG Φ ⟨o.dst, io, g, af⟩ σ = some r) (hpre : ∀ q ∈ r.pre, q) (K : Act → World → Prop) (Q : Exit → Act → World → Prop)
    (hK : ∀ v Z' w' θ', Goes Z w Z' w' → (∀ q ∈ r.post, q) → Inv X N G Z' w' θ' (match o.dst with | some d => d :: W | none => W) (σ.put o.dst r) (a.put o.dst v).tmps → K (a.put o.dst v) w') :
    if Region.wanted o (yielded ops a.tmps) then o.wp P a w K Q else K (a.put o.dst undef) w := by
  have hda : needD io = true → o.dst.getD 0 ≠ 0 := by
    intro hn
    rcases hdst with ⟨_, _, n, x, v, rfl⟩ | ⟨d, hd, _, hd0, _⟩
    · cases hn
    · rw [hd]; exact hd0 hn
  cases hog : o.guard with
  | none =>
    have hg' : g = none := by
      unfold compGuard at hg; rw [hog] at hg; simpa using hg.symm
    subst hg'
    rw [if_pos (by simp [Region.wanted, hog])]
    simp only [evG] at he
    have hok := op_sound (P := P) (X := X) hΦ hc inv.slot (p := []) (by intro q hq; cases hq) inv.mem hda he hpre
    refine hok K Q fun v Z' w' θ' ho => hK v Z' w' θ' ho.goes ho.post ?_
    rcases hdst with ⟨hd, _, n, x, vv, rfl⟩ | ⟨d, hd, hdW, hd0, hdN⟩
    · have := inv.put0 (store_new he) ho
      simpa [hd, Act.put] using this
    · rw [hd] at ho ⊢
      simp only [Option.getD_some] at ho
      exact inv.put hdW hdN ho
  | some jb =>
    obtain ⟨j, b⟩ := jb
    have hg' : ∃ s, (ops[j]?).bind (·.dst) = some s ∧ g = some (s, b) := by
      unfold compGuard at hg
      rw [hog] at hg
      simp only at hg
      split at hg
      · rename_i s hs
        exact ⟨s, hs, by simpa using hg.symm⟩
      · cases hg
    obtain ⟨s, hs, rfl⟩ := hg'
    obtain ⟨hsW, hGG⟩ := hgW s b rfl
    have hwant := wanted_iff (ops := ops) (o := o) (tm := a.tmps) hog hs
    simp only [evG] at he
    split at he <;> try (cases he; done)
    rename_i p hpg
    obtain ⟨pre, post, v, us, t, us', hop, hmer, rfl⟩ := guardR_some he
    have hpW := path_mem inv hsW hpg
    have hpb := pathB_of (s := σ.s) (fun e he => (hpW e he).2)
    rcases hdst with ⟨hd, hgn, _⟩ | ⟨d, hd, hdW, hd0, hdN⟩
    · cases hgn
    split
    · rename_i hw
      have hb := hwant.1 hw
      have hpt := path_yes inv.slot hpg hb
      have hpp := pathP_of inv.slot (fun e he => (hpW e he).2) hpt
      have hok := op_sound (P := P) (X := X) hΦ hc inv.slot hpt inv.mem hda hop (fun q hq => guardL_mem hq hpre hpp)
      refine hok K Q fun v' Z' w' θ' ho => hK v' Z' w' θ' ho.goes (by simp) ?_
      have hth : θ' = θ := funext fun k => ho.th k (.inl rfl)
      subst hth
      have hm : Mem X Z' w' θ' (updL σ.m us') := by
        rcases hmer with ⟨rfl, rfl⟩ | ⟨_, hmer⟩
        · exact ho.mem
        · have hlen := evOp_ups hop
          rcases mergeU_len hmer hlen with ⟨rfl, rfl⟩ | ⟨r0, b0, rfl⟩
          · exact ho.mem
          · obtain ⟨cs, cs', cs'', rfl, h1, h2, rfl⟩ := mergeU_one hmer
            refine ho.mem.swap (fun r h => ?_) (fun r blk h => ?_)
            · simp only [newM, updL, updM] at h ⊢; split <;> simp_all
            · simp only [updL, updM] at h
              by_cases hr : r = r0
              · subst hr
                simp only [if_true, Option.some.injEq] at h; subst h
                obtain ⟨b', T, vs, e1, e2, e3, e4⟩ := ho.mem.brep r (.cells cs) (by simp [newM, updL, updM])
                exact ⟨b', T, vs, e1, e2, e3, (mergeL_cells h2).1 (hpb.2 hpp) e4⟩
              · simp only [hr, if_false] at h
                exact ho.mem.brep r blk (by simp [newM, updL, updM, hr, h])
      rw [hd]
      exact inv.putG hGG hdW hdN hpW ho.goes hm (fun _ => ho.val) (fun hn => absurd hpt hn)
    · rename_i hw
      have hnb : ¬ a.tmps[s]? = some (.bool b) := fun h => hw (hwant.2 h)
      have hnp : ¬ pathT a.tmps p := fun h => hnb (path_last hpg h)
      have hm : Mem X Z w θ (updL σ.m us') := by
        rcases hmer with ⟨rfl, rfl⟩ | ⟨⟨e, rfl⟩, hmer⟩
        · exact inv.mem
        · have hlen := evOp_ups hop
          have hse : e = (s, b) := by
            unfold pathG at hpg
            split at hpg
            · simp only [Option.some.injEq] at hpg; simpa using hpg.symm
            · simp only [Option.some.injEq] at hpg
              have := congrArg List.getLast? hpg
              simpa using this.symm
            · cases hpg
          subst hse
          have hfalse : pathB σ.s [(s, b)] = false := by
            cases hB : pathB σ.s [(s, b)] with
            | false => rfl
            | true =>
              have hP := hpb.1 hB
              rcases pathT_of_P inv.slot hP.1 with h | ⟨q, h1, h2, h3⟩
              · exact absurd h hnb
              · rw [h1] at hpg
                simp only [pathG, Option.some.injEq] at hpg
                have hq : q = [] := by
                  cases q with
                  | nil => rfl
                  | cons x xs => simp at hpg
                subst hq
                exact absurd (by intro e he; cases he) h2
          rw [hfalse] at hmer
          rcases mergeU_len hmer hlen with ⟨rfl, rfl⟩ | ⟨r0, b0, rfl⟩
          · exact inv.mem
          · obtain ⟨cs, cs', cs'', rfl, h1, h2, rfl⟩ := mergeU_one hmer
            refine inv.mem.swap (fun r h => ?_) (fun r blk h => ?_)
            · simp only [updL, updM] at h
              by_cases hr : r = r0
              · subst hr; rw [h1]; rfl
              · simpa [hr] using h
            · simp only [updL, updM] at h
              by_cases hr : r = r0
              · subst hr
                simp only [if_true, Option.some.injEq] at h; subst h
                obtain ⟨b', T, vs, e1, e2, e3, e4⟩ := inv.mem.brep r (.cells cs') h1
                exact ⟨b', T, vs, e1, e2, e3, (mergeL_cells h2).2 rfl e4⟩
              · simp only [hr, if_false] at h
                exact inv.mem.brep r blk h
      refine hK undef Z w θ (.refl Z w) (by simp) ?_
      rw [hd]
      exact inv.putG hGG hdW hdN hpW (.refl Z w) hm (fun h => absurd h hnp) (fun _ => rfl)


/-- A region in the text's order. -/
theorem ops_sound (hΦ : ∀ f C, Φ f = some C → Sound P f C) {G : Prop} {ops : Array Oper} {Q : Exit → Act → World → Prop} {K : St → Prop} :
    ∀ (l : List Oper) (rl : List RO) (W : List Nat), compOps P ops l = some rl → okReg N W rl = true → (∀ o ∈ rl, o.guard.isSome = true → G) → ∀ (σ : St) (a : Act) (Z : Nat → Prop) (w : World) (θ : Nat → Value),
      Inv X N G Z w θ W σ a.tmps → a.defers = [] → evOps Φ rl σ K →
      (∀ (σ' : St) (a' : Act) (Z' : Nat → Prop) (w' : World) (θ' : Nat → Value) (W' : List Nat), K σ' → Inv X N G Z' w' θ' W' σ' a'.tmps → a'.defers = [] → Q .normal a' w') → wpList P ops Q l a w
  | [], rl, W, hc, hok, hG, σ, a, Z, w, θ, inv, hd, hev, hQ => by
    simp [compOps] at hc; subst hc
    exact hQ σ a Z w θ W hev inv hd
  | o :: l, rl, W, hc, hok, hG, σ, a, Z, w, θ, inv, hd, hev, hQ => by
    unfold compOps at hc
    split at hc <;> try (cases hc; done)
    rename_i io g rl' h1 h2 h3
    simp only [Option.some.injEq] at hc; subst hc
    unfold okReg at hok
    simp only [Bool.and_eq_true] at hok
    obtain ⟨hgok, hdok⟩ := hok
    have hdst : (o.dst = none ∧ g = none ∧ (∃ n x v, io = .store n x v) ∧ okReg N W rl' = true) ∨ ∃ d, o.dst = some d ∧ d ∉ W ∧ (needD io = true → d ≠ 0) ∧ d < N ∧ okReg N (d :: W) rl' = true := by
      cases hdd : o.dst with
      | none =>
        rw [hdd] at hdok
        simp only [Bool.and_eq_true] at hdok
        obtain ⟨ha, hb⟩ := hdok
        left
        cases io with
        | store n x v =>
          cases g with
          | none => exact ⟨rfl, rfl, ⟨n, x, v, rfl⟩, hb⟩
          | some q => cases ha
        | _ => cases ha
      | some d =>
        rw [hdd] at hdok
        simp only [Bool.and_eq_true, decide_eq_true_eq, Bool.not_eq_true'] at hdok
        right
        exact ⟨d, rfl, by have := hdok.1.1.1; simpa using this, fun hn => by
          have := hdok.1.1.2
          simp only [hn, Bool.not_true, Bool.false_or, decide_eq_true_eq] at this
          exact this, hdok.1.2, hdok.2⟩
    have hgW : ∀ s b, g = some (s, b) → s ∈ W ∧ G := by
      rintro s b rfl
      simp only at hgok
      exact ⟨by simpa using hgok, hG _ (List.mem_cons_self ..) rfl⟩
    unfold evOps at hev
    split at hev
    · exact hev.elim
    · rename_i r hr
      obtain ⟨hpre, hev⟩ := askL_mem hev
      refine wpList_step fun K' hK' => ?_
      refine opG_sound hΦ (X := X) (N := N) inv h1 h2 hgW (hdst.imp (fun h => ⟨h.1, h.2.1, h.2.2.1⟩) fun ⟨d, e1, e2, e3, e4, _⟩ => ⟨d, e1, e2, e3, e4⟩) hr hpre K' Q ?_
      intro v Z' w' θ' hg hpost hinv
      have hk := knowL_mem hev hpost
      refine hK' _ _ (ops_sound hΦ l rl' _ h3 ?_ (fun o' ho' => hG o' (List.mem_cons_of_mem _ ho')) _ _ Z' w' θ' hinv ?_ hk hQ)
      · rcases hdst with ⟨e1, _, _, e2⟩ | ⟨d, e1, _, _, _, e2⟩
        · rw [e1]; exact e2
        · rw [e1]; exact e2
      · cases o.dst <;> exact hd

/-- Between regions. -/
def BInv (X : Cx) (N : Nat) (σ : St) (a : Act) (w : World) : Prop :=
  ∃ Z θ, (∀ k, Rep Z w θ (σ.s k) (a.tmps.getD k undef)) ∧ Mem X Z w θ σ.m ∧ a.tmps.size = N ∧ a.defers = []

theorem rep_ungd {Z : Nat → Prop} {w : World} {θ : Nat → Value} {tm : Array Value} {x : AV} {v : Value} (h : SRep Z w θ tm x v) : Rep Z w θ (ungd x) v := by
  cases x <;> first | exact h | exact .junk _ _

theorem endR_inv {ops : List RO} {Z : Nat → Prop} {w : World} {θ : Nat → Value} {W : List Nat} {σ : St} {a : Act} (inv : Inv X N (hasG ops = true) Z w θ W σ a.tmps) (hd : a.defers = []) : BInv X N (endR ops σ) a w := by
  unfold endR
  cases h : hasG ops with
  | true => exact ⟨Z, θ, fun k => rep_ungd (inv.slot k), inv.mem, inv.size, hd⟩
  | false =>
    refine ⟨Z, θ, fun k => (inv.slot k).rep ?_, inv.mem, inv.size, hd⟩
    rcases inv.nog with hn | hn
    · rw [h] at hn; cases hn
    · exact hn k

theorem leA_rep {Z : Nat → Prop} {w : World} {θ : Nat → Value} {x y : AV} {v : Value} (h : leA x y) (hr : Rep Z w θ x v) : Rep Z w θ y v := by
  unfold leA at h
  split at h
  · subst h
    cases hr with
    | nil _ a => exact .lst θ _ [] a 0 (fun _ _ => undef) (by simp) (by unfold maxLen; omega) (by simp) (by simp) (by simp) (by simp [cellAt]) (by simp [cellAt])
  · subst h; exact hr

theorem leL_rep {Z : Nat → Prop} {w : World} {θ : Nat → Value} {s : Nat → AV} {tm : Array Value} (hs : ∀ k, Rep Z w θ (s k) (tm.getD k undef)) : ∀ {l : List (Nat × AV)}, leL s l → ∀ k, Rep Z w θ (lookL l k) (tm.getD k undef)
  | [], _, k => .junk _ _
  | (d, v) :: l, h, k => by
    simp only [lookL, upd]
    split
    · rename_i hk; subst hk; exact leA_rep h.1 (hs k)
    · exact leL_rep hs h.2 k

theorem leM_look {m : Nat → Option Blk} : ∀ {l : List (Nat × Blk)}, leM m l → ∀ r b, lookM l r = some b → m r = some b
  | [], _, r, b, h => by simp [lookM] at h
  | (k, c) :: l, hl, r, b, h => by
    simp only [lookM, updM] at h
    split at h
    · rename_i hk; subst hk; rw [← h]; exact hl.1
    · exact leM_look hl.2 r b h

theorem ge_inv {S : SL} {σ : St} {a : Act} {w : World} (h : S.ge σ) (hb : BInv X N σ a w) : BInv X N S.st a w := by
  obtain ⟨Z, θ, hs, hm, hsz, hd⟩ := hb
  refine ⟨Z, θ, leL_rep hs h.1, ?_, hsz, hd⟩
  refine hm.swap (fun r hr => ?_) (fun r blk hr => hm.brep r blk (leM_look h.2 r blk hr))
  obtain ⟨b, hb⟩ := Option.isSome_iff_exists.1 hr
  rw [leM_look h.2 r b hb]; rfl

/-- Code. -/
theorem code_sound (hΦ : ∀ f C, Φ f = some C → Sound P f C) (I : Nat → LI) : ∀ (c : Code) (rc : RC), comp P N c = some (erase rc) → ∀ (σ : St) (K : Exit → St → Prop) (Q : Exit → Act → World → Prop), evC Φ I rc σ K →
    (∀ e σ' a w, K e σ' → BInv X N σ' a w → Q e a w) → ∀ a w, BInv X N σ a w → c.wp P Q a w := by
  intro c
  induction c with
  | skip =>
    intro rc hc σ K Q hev hQ a w hb
    simp only [comp] at hc
    cases rc <;> simp [erase] at hc
    exact wp_skip (hQ _ _ _ _ hev hb)
  | region id ops draw =>
    intro rc hc σ K Q hev hQ a w hb
    simp only [comp] at hc
    split at hc <;> try (cases hc; done)
    rename_i rl hrl
    split at hc <;> try (cases hc; done)
    rename_i hok
    cases rc <;> simp [erase] at hc
    obtain ⟨rfl, rfl⟩ := hc
    cases draw with
    | true => exact hev.elim
    | false =>
      simp only [evC] at hev
      obtain ⟨Z, θ, hs, hm, hsz, hd⟩ := hb
      have inv : Inv X N (hasG rl = true) Z w θ [] σ a.tmps := ⟨fun k => .of_rep (hs k), hm, fun k q y h => absurd h (rep_nogd (hs k) q y), .inr fun k q y => rep_nogd (hs k) q y, hsz⟩
      refine wp_region_list ?_
      refine ops_sound hΦ (X := X) (N := N) ops.toList rl [] hrl hok ?_ σ a Z w θ inv hd hev ?_
      · intro o ho hg
        unfold hasG
        exact List.any_eq_true.2 ⟨o, ho, hg⟩
      · intro σ' a' Z' w' θ' W' hk inv' hd'
        exact hQ _ _ _ _ hk (endR_inv inv' hd')
  | seq c1 c2 ih1 ih2 =>
    intro rc hc σ K Q hev hQ a w hb
    simp only [comp] at hc
    split at hc <;> try (cases hc; done)
    rename_i r1 r2 h1 h2
    cases rc <;> simp [erase] at hc
    rename_i x y
    obtain ⟨rfl, rfl⟩ := hc
    simp only [evC] at hev
    refine wp_seq (ih1 x h1 σ _ _ hev ?_ a w hb)
    intro e σ' a' w' hk hb'
    cases e with
    | normal => exact ih2 y h2 σ' K Q hk hQ a' w' hb'
    | exit i => exact hQ _ _ _ _ hk hb'
    | goto l => exact hQ _ _ _ _ hk hb'
    | ret => exact hQ _ _ _ _ hk hb'
    | panic ch => exact hQ _ _ _ _ hk hb'
    | outgrown => exact hQ _ _ _ _ hk hb'
  | cond cc t e iht ihe =>
    intro rc hc σ K Q hev hQ a w hb
    simp only [comp] at hc
    split at hc <;> try (cases hc; done)
    rename_i c' t' e' h0 h1 h2
    cases rc <;> simp [erase] at hc
    rename_i x y z
    obtain ⟨rfl, rfl, rfl⟩ := hc
    simp only [evC] at hev
    split at hev <;> try (exact hev.elim)
    rename_i b hbb
    obtain ⟨Z, θ, hs, hm, hsz, hd⟩ := hb
    have hev' : a.eval cc = .bool b := by
      have := av_rep (Z := Z) (w := w) (θ := θ) (a := a) (σ := σ) (p := []) (fun k => .of_rep (hs k)) (by intro q hq; cases hq) h0 (y := .bool b) (by simp [av, hbb, gv])
      generalize a.eval cc = v at this
      cases this; rfl
    refine wp_cond_split hev' (fun hbt => ?_) (fun hbf => ?_)
    · exact iht y h1 σ K Q (hev.1 hbt) hQ a w ⟨Z, θ, hs, hm, hsz, hd⟩
    · exact ihe z h2 σ K Q (hev.2 hbf) hQ a w ⟨Z, θ, hs, hm, hsz, hd⟩
  | block id b ih =>
    intro rc hc σ K Q hev hQ a w hb
    simp only [comp] at hc
    split at hc <;> try (cases hc; done)
    rename_i r1 h1
    cases rc <;> simp [erase] at hc
    rename_i i x
    obtain ⟨rfl, rfl⟩ := hc
    simp only [evC] at hev
    refine wp_block (ih x h1 σ _ _ hev ?_ a w hb)
    intro e σ' a' w' hk hb'
    cases e with
    | exit i =>
      simp only [kBlk] at hk
      simp only [Exit.inBlock]
      split
      · rename_i hi
        subst hi
        simp only [beq_self_eq_true] at hk
        exact hQ _ _ _ _ hk hb'
      · rename_i hi
        have : (i == id) = false := by simpa using hi
        rw [this] at hk
        exact hQ _ _ _ _ hk hb'
    | normal => exact hQ _ _ _ _ hk hb'
    | goto l => exact hQ _ _ _ _ hk hb'
    | ret => exact hQ _ _ _ _ hk hb'
    | panic ch => exact hQ _ _ _ _ hk hb'
    | outgrown => exact hQ _ _ _ _ hk hb'
  | loop b ih =>
    intro rc hc σ K Q hev hQ a w hb
    simp only [comp] at hc
    split at hc <;> try (cases hc; done)
    rename_i r1 h1
    cases rc <;> simp [erase] at hc
    rename_i n x
    obtain ⟨rfl⟩ := hc
    simp only [evC] at hev
    obtain ⟨i0, hi0, hR0, hround⟩ := hev
    refine wp_loop_ghost (fun k a w => ∃ i, (I n).μ i = k ∧ (I n).R i0 i ∧ BInv X N ((I n).S i).st a w) ((I n).μ i0) ⟨i0, rfl, hR0, ge_inv hi0 hb⟩ ?_
    rintro k a' w' ⟨i, rfl, hRi, hbi⟩
    refine ih x h1 _ _ _ (hround i hRi) ?_ a' w' hbi
    intro e σ' a'' w'' hk hb'
    cases e with
    | normal =>
      obtain ⟨j, hj, hRj, hlt⟩ := hk
      exact ⟨_, hlt, j, rfl, hRj, ge_inv hj hb'⟩
    | exit i => exact hQ _ _ _ _ hk hb'
    | goto l => exact hQ _ _ _ _ hk hb'
    | ret => exact hQ _ _ _ _ hk hb'
    | panic ch => exact hQ _ _ _ _ hk hb'
    | outgrown => exact hQ _ _ _ _ hk hb'
  | exit id =>
    intro rc hc σ K Q hev hQ a w hb
    simp only [comp] at hc
    cases rc <;> simp [erase] at hc
    subst hc
    exact wp_exit (hQ _ _ _ _ hev hb)
  | ret =>
    intro rc hc σ K Q hev hQ a w hb
    simp only [comp] at hc
    cases rc <;> simp [erase] at hc
    exact wp_ret (hQ _ _ _ _ hev hb)
  | _ =>
    intro rc hc
    simp [comp] at hc


/-! ### Functions -/
def resStep (tm : Array Value) : ResultVar → Sem Value
  | .tmp t => pure (tm.getD t undef)
  | .cell a t => do loadVar t (← asAddr (tm.getD a undef))
theorem run_resT (tm : Array Value) (t : Tmp) (w : World) : (resStep tm (.tmp t)).run P w = .ok (tm.getD t undef) w := rfl
theorem run_resC (tm : Array Value) (p : Tmp) (t : TypeId) (w : World) {b o : Nat} (h : tm.getD p undef = .pointer (some ⟨b, o, none⟩)) : (resStep tm (.cell p t)).run P w = (loadVar t ⟨b, o, none⟩).run P w := by
  simp only [resStep, Sem.run_bind, h, asAddr, Sem.run_pure, Result.andThen_ok]

theorem retV_rep {Z : Nat → Prop} {w : World} {θ : Nat → Value} {σ : St} {tm : Array Value} (hs : ∀ k, Rep Z w θ (σ.s k) (tm.getD k undef)) (hm : ∀ r blk, σ.m r = some blk → BRep Z w θ r blk) :
    ∀ {rs : List ResultVar} {rv : List RV}, compRes P rs = some rv → ∀ {xs : List AV}, retL σ rv = some xs →
      ∃ vs, (rs.mapM (resStep tm)).run P w = .ok vs w ∧ Reps Z w θ xs vs
  | [], rv, hc, xs, h => by
    simp [compRes] at hc; subst hc
    simp [retL] at h; subst h
    exact ⟨[], by simp, rfl, by simp⟩
  | .tmp t :: rs, rv, hc, xs, h => by
    simp only [compRes] at hc
    obtain ⟨rv', hrv, rfl⟩ := map_some' hc
    unfold retL at h
    split at h <;> try (cases h; done)
    rename_i v vs hv hvs
    simp only [Option.some.injEq] at h; subst h
    obtain ⟨us, hus, hr⟩ := retV_rep hs hm hrv hvs
    simp only [retV, Option.some.injEq] at hv; subst hv
    refine ⟨tm.getD t undef :: us, by simp only [List.mapM_cons, Sem.run_bind, run_resT, Result.andThen_ok, hus, Sem.run_pure], by simp [hr.len], ?_⟩
    intro i c v hi hv
    cases i with
    | zero => simp only [List.getElem?_cons_zero, Option.some.injEq] at hi hv; subst hi; subst hv; exact hs t
    | succ i => simp only [List.getElem?_cons_succ] at hi hv; exact hr.rep i c v hi hv
  | .cell p t :: rs, rv, hc, xs, h => by
    simp only [compRes] at hc
    split at hc <;> try (cases hc; done)
    rename_i n rv' hn hrv
    split at hc <;> try (cases hc; done)
    rename_i hu
    obtain ⟨u, hu⟩ := Option.isSome_iff_exists.1 hu
    simp only [Option.some.injEq] at hc; subst hc
    unfold retL at h
    split at h <;> try (cases h; done)
    rename_i v vs hv hvs
    simp only [Option.some.injEq] at h; subst h
    obtain ⟨us, hus, hr⟩ := retV_rep hs hm hrv hvs
    simp only [retV] at hv
    split at hv <;> try (cases hv; done)
    rename_i r o hsp
    split at hv <;> try (cases hv; done)
    rename_i cs hmr
    have hp := hs p
    rw [hsp] at hp
    generalize hpv : tm.getD p undef = pv at hp
    cases hp with
    | ptr _ _ _ b hθ =>
      obtain ⟨b', T, ws, hθ', hheap, hZ, hcs⟩ := hm _ _ hmr
      rw [hθ] at hθ'; simp at hθ'; subst hθ'
      obtain ⟨ls, hl, hls, res, hres, hag⟩ := cells_val hcs hv
      have hload := run_loadVar_cells (w := w) hn hu (b := b) (off := o) hl (fun j v hj => by
        rw [cell_of_row w b (o + j) ws.toArray T (0, 0) hheap]; simpa using hls j v hj) hag
      refine ⟨res :: us, by simp only [List.mapM_cons, Sem.run_bind, run_resC tm p t w hpv, Sem.run_pure, Result.andThen_ok, hload, hus], by simp [hr.len], ?_⟩
      intro i c v hi hv
      cases i with
      | zero => simp only [List.getElem?_cons_zero, Option.some.injEq] at hi hv; subst hi; subst hv; exact hres
      | succ i => simp only [List.getElem?_cons_succ] at hi hv; exact hr.rep i c v hi hv

theorem leAs_cells {Z : Nat → Prop} {w : World} {θ : Nat → Value} : ∀ {xs ys : List AV} {vs : List Value}, leAs xs ys → Cells Z w θ xs vs → Cells Z w θ ys vs
  | [], [], vs, _, h => h
  | [], _ :: _, vs, h, _ => h.elim
  | _ :: _, [], vs, h, _ => h.elim
  | x :: xs, y :: ys, vs, h, hc => by
    cases vs with
    | nil => have := hc.len; simp at this
    | cons u us =>
      have hrest : Cells Z w θ xs us := by have := hc.drop 1; simpa using this
      have hat : y.atom = true := by
        have hx := hc.at1 x (by simp)
        have := h.1
        unfold leA at this
        split at this
        · rfl
        · rw [← this]; exact hx
      exact Cells.append (Cells.one' (leA_rep h.1 (hc.rep 0 x u rfl rfl)) hat (hc.one u (by simp))) (leAs_cells h.2 hrest)

theorem leV1_rep {Z : Nat → Prop} {w : World} {θ : Nat → Value} {x y : AV} {v : Value} (h : leV1 x y) (hr : Rep Z w θ x v) : Rep Z w θ y v := by
  unfold leV1 at h
  split at h
  · obtain ⟨vs, rfl, hc⟩ := hr.cells
    exact (leAs_cells h hc).agg
  · exact leA_rep h hr

theorem leVs_reps {Z : Nat → Prop} {w : World} {θ : Nat → Value} : ∀ {xs ys : List AV} {vs : List Value}, leVs xs ys → Reps Z w θ xs vs → Reps Z w θ ys vs
  | [], [], vs, _, h => h
  | [], _ :: _, vs, h, _ => h.elim
  | _ :: _, [], vs, h, _ => h.elim
  | x :: xs, y :: ys, vs, h, hc => by
    cases vs with
    | nil => have := hc.len; simp at this
    | cons u us =>
      have hrest : Reps Z w θ xs us := ⟨by have := hc.len; simpa using this, fun i c v hi hv => hc.rep (i + 1) c v (by simpa using hi) (by simpa using hv)⟩
      have ih := leVs_reps h.2 hrest
      refine ⟨by simp [ih.len], fun i c v hi hv => ?_⟩
      cases i with
      | zero => simp only [List.getElem?_cons_zero, Option.some.injEq] at hi hv; subst hi; subst hv; exact leV1_rep h.1 (hc.rep 0 x u rfl rfl)
      | succ i => simp only [List.getElem?_cons_succ] at hi hv; exact ih.rep i c v hi hv

theorem resV_rep {Z : Nat → Prop} {w : World} {θ : Nat → Value} {xs : List AV} {r : AV} {vs : List Value} (h : resV xs r) (hlev : r.clean2 = true) (hr : Reps Z w θ xs vs) :
    Rep Z w θ r (if h : vs.toArray.size = 1 then vs.toArray[0] else .tuple vs.toArray) := by
  unfold resV at h
  split at h
  · rename_i v
    have hl := hr.len
    match vs, hl with
    | [u], _ => simpa using leV1_rep h (hr.rep 0 v u rfl rfl)
  · rename_i ys hne
    have hr' := leVs_reps h hr
    have hlen : xs.length ≠ 1 := by
      intro h1
      match xs, h1 with
      | [v], _ => exact hne v rfl
    have hvl : ¬ vs.toArray.size = 1 := by simp [hr.len]; exact hlen
    rw [dif_neg hvl]
    refine .tup θ ys vs hr'.len ?_ hr'.rep
    intro c hc
    simp only [AV.clean2, List.all_eq_true] at hlev
    have := hlev c hc
    cases c <;> first | rfl | simp [AV.clean1, AV.clean0] at this
  · exact h.elim

theorem results_run {fn : Func} {tm : Array Value} {w : World} {vs : List Value} (h : (fn.results.toList.mapM (resStep tm)).run P w = .ok vs w) :
    (results fn tm).run P w = .ok (if h : vs.toArray.size = 1 then vs.toArray[0] else .tuple vs.toArray) w := by
  unfold results
  rw [Array.mapM_eq_mapM_toList]
  have e2 : ∀ g : ResultVar → Sem Value, (∀ x, g x = resStep tm x) → (fn.results.toList.mapM g) = fn.results.toList.mapM (resStep tm) := fun g hg => by rw [funext hg]
  simp only [Sem.run_bind, Sem.run_map]
  rw [e2 _ (by intro x; cases x <;> rfl), h]
  rfl

/-- The arguments, laid into the slots. -/
theorem init_slots {Z : Nat → Prop} {w : World} {θ : Nat → Value} {xs : List AV} {vs : List Value} (h : Reps Z w θ xs vs) (n : Nat) : ∀ k, Rep Z w θ (initS xs k) ((vs.toArray ++ Array.replicate n undef).getD k undef) := by
  intro k
  unfold initS
  by_cases hk : k < xs.length
  · have hv : k < vs.length := by rw [h.len]; exact hk
    have e : (vs.toArray ++ Array.replicate n undef).getD k undef = vs[k] := by
      rw [Array.getD_eq_getD_getElem?, Array.getElem?_append_left (by simpa using hv)]
      simp [hv]
    rw [e]
    have : xs.getD k .junk = xs[k] := by simp [List.getD, List.getElem?_eq_getElem hk]
    rw [this]
    exact h.rep k _ _ (List.getElem?_eq_getElem hk) (List.getElem?_eq_getElem hv)
  · have : xs.getD k .junk = .junk := by simp [List.getD, List.getElem?_eq_none (Nat.le_of_not_lt hk)]
    rw [this]
    exact .junk _ _

theorem Reps.of_th0 {Z : Nat → Prop} {w : World} {xs : List AV} {vs : List Value} (h : Reps Z w th0 xs vs) (θ : Nat → Value) : Reps Z w θ xs vs :=
  ⟨h.len, fun i c v hc hv => (h.rep i c v hc hv).of_th0 rfl θ⟩

/-- A function that keeps no block of its caller's. -/
theorem sound_pure (hΦ : ∀ f C, Φ f = some C → Sound P f C) (I : Nat → LI) {f : FuncId} {fn : Func} (hf : P.funcs[f]? = some fn) {c : Code} (hb : fn.body = some c) {rc : RC} (hc : comp P fn.ntmps c = some (erase rc)) {rv : List RV} (hr : compRes P fn.results.toList = some rv)
    {C : List AV → List AV → Option (Prop × AV × List AV)}
    (h : ∀ (xs : List AV) (q : Prop) (r : AV) (cs' : List AV), C [] xs = some (q, r, cs') → q → r.clean2 = true ∧ xs.length ≤ fn.ntmps ∧ evC Φ I rc ⟨initS xs, initM false []⟩ (kRet rv r false [])) : Sound P f ⟨false, C⟩ := by
  intro Z w xs vs q r cs' hz hreps hC hq
  obtain ⟨hcl, hlen, hev⟩ := h xs q r cs' hC hq
  let X : Cx := ⟨w, none, Z, th0⟩
  refine calls_of_wp hf hb ?_
  refine code_sound hΦ I (X := X) (N := fn.ntmps) c rc hc _ _ _ hev ?_ _ w ?_
  · intro e σ' a w' hk hb'
    obtain ⟨Z', θ', hs, hm, hsz, hd⟩ := hb'
    have fin : retOK rv r false [] σ' → a.defers = [] ∧ ∃ v, (results fn a.tmps).run P w' = .ok v w' ∧ ∃ v' Z', Ending.returned v = .returned v' ∧ FrameBut none w w' ∧ Grow Z w Z' w' ∧ Rep Z' w' th0 r v' := by
      intro hk
      obtain ⟨hk1, _⟩ := hk
      split at hk1 <;> try (exact hk1.elim)
      rename_i ys hys
      obtain ⟨us, hus, hru⟩ := retV_rep hs hm.brep hr hys
      refine ⟨hd, _, results_run hus, _, Z', rfl, hm.frame, ⟨hm.zin, hm.znew, hm.zlt⟩, ?_⟩
      exact (resV_rep hk1 hcl hru).th_clean2 hcl th0
    cases e with
    | normal => exact fin hk
    | ret => exact fin hk
    | _ => exact hk.elim
  · refine ⟨Z, th0, init_slots hreps _, ?_, ?_, rfl⟩
    · exact ⟨by simp [initM], by simp [initM], by simp [initM], hz, .refl _ _, fun _ h => h, fun b hb => .inl hb, fun _ _ => rfl⟩
    · have := hreps.len
      simp; omega

/-- A function whose first argument points to a block that it may write. -/
theorem sound_state (hΦ : ∀ f C, Φ f = some C → Sound P f C) (I : Nat → LI) {f : FuncId} {fn : Func} (hf : P.funcs[f]? = some fn) {c : Code} (hb : fn.body = some c) {rc : RC} (hc : comp P fn.ntmps c = some (erase rc)) {rv : List RV} (hr : compRes P fn.results.toList = some rv)
    {C : List AV → List AV → Option (Prop × AV × List AV)}
    (h : ∀ (cs xs : List AV) (q : Prop) (r : AV) (cs' : List AV), C cs xs = some (q, r, cs') → q → r.clean2 = true ∧ cs'.all AV.clean0 = true ∧ xs.length + 1 ≤ fn.ntmps ∧ evC Φ I rc ⟨initS (.ptr 0 0 :: xs), initM true cs⟩ (kRet rv r true cs')) : Sound P f ⟨true, C⟩ := by
  intro Z w b T cs us xs vs q r cs' hz hheap hnZ hcells hreps hC hq
  obtain ⟨hcl, hcl', hlen, hev⟩ := h cs xs q r cs' hC hq
  let θ : Nat → Value := fun _ => pt b
  let X : Cx := ⟨w, some b, Z, θ⟩
  refine calls_of_wp hf hb ?_
  refine code_sound hΦ I (X := X) (N := fn.ntmps) c rc hc _ _ _ hev ?_ _ w ?_
  · intro e σ' a w' hk hb'
    obtain ⟨Z', θ', hs, hm, hsz, hd⟩ := hb'
    have fin : retOK rv r true cs' σ' → a.defers = [] ∧ ∃ v, (results fn a.tmps).run P w' = .ok v w' ∧ ∃ v' Z' T' us', Ending.returned v = .returned v' ∧ FrameBut (some b) w w' ∧ Grow Z w Z' w' ∧ w'.heap[b]? = some (.cells (List.toArray us') T' (0, 0)) ∧ Cells Z' w' th0 cs' us' ∧ Rep Z' w' th0 r v' := by
      intro hk
      obtain ⟨hk1, hk2⟩ := hk
      split at hk1 <;> try (exact hk1.elim)
      rename_i ys hys
      simp only at hk2
      split at hk2 <;> try (exact hk2.elim)
      rename_i ds hds
      obtain ⟨us, hus, hru⟩ := retV_rep hs hm.brep hr hys
      obtain ⟨b', T', ws, hθ, hheap', hnZ', hcs⟩ := hm.brep 0 _ hds
      have h0 := hm.fix 0 (by omega)
      rw [hθ] at h0
      simp only [X, θ] at h0
      simp at h0
      subst h0
      refine ⟨hd, _, results_run hus, _, Z', T', ws, rfl, hm.frame, ⟨hm.zin, hm.znew, hm.zlt⟩, hheap', (leAs_cells hk2 hcs).th_clean hcl' th0, ?_⟩
      exact (resV_rep hk1 hcl hru).th_clean2 hcl th0
    cases e with
    | normal => exact fin hk
    | ret => exact fin hk
    | _ => exact hk.elim
  · have hreps' : Reps Z w θ (.ptr 0 0 :: xs) (pt b :: vs) := by
      have := hreps.of_th0 θ
      refine ⟨by simp [this.len], fun i c v hi hv => ?_⟩
      cases i with
      | zero => simp only [List.getElem?_cons_zero, Option.some.injEq] at hi hv; subst hi; subst hv; exact .ptr _ _ _ _ rfl
      | succ i => simp only [List.getElem?_cons_succ] at hi hv; exact this.rep i c v hi hv
    have hm0 : ∀ r blk, initM true cs r = some blk → r = 0 ∧ blk = .cells cs := by
      intro r blk h
      simp only [initM, updM] at h
      split at h
      · rename_i hr; exact ⟨hr, by simpa using h.symm⟩
      · cases h
    refine ⟨Z, θ, init_slots hreps' _, ?_, ?_, rfl⟩
    · refine ⟨?_, ?_, ?_, hz, .refl _ _, fun _ h => h, fun b hb => .inl hb, fun _ _ => rfl⟩
      · intro r blk h
        obtain ⟨rfl, rfl⟩ := hm0 r blk h
        exact ⟨b, T, us, rfl, hheap, hnZ, hcells.of_th0 θ⟩
      · intro r r' b' h1 h2 _ _
        obtain ⟨x, hx⟩ := Option.isSome_iff_exists.1 h1
        obtain ⟨y, hy⟩ := Option.isSome_iff_exists.1 h2
        rw [(hm0 r x hx).1, (hm0 r' y hy).1]
      · intro r b' h1 h2
        simp only [θ] at h2
        simp at h2
        exact .inr (by simp [X, h2])
    · have := hreps.len
      simp; omega

end
end Go.Ev

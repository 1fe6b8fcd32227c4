/- A part of the proof: symbolic evaluation of the program's functions, proved sound against the model; no condition. -/
/- Distances over bridges: the plain law of chapter 26. -/
namespace Go.Proofs.Yteakklbbdfgbdaa
set_option linter.unusedVariables false
structure Br where
  ad : Int
  l : Int
  r : Int
  deriving DecidableEq
/-- The other bus of a bridge. -/
def sd (b : Br) (x : Int) : Option Int := if b.l = b.r then none else if b.l = x then some b.r else if b.r = x then some b.l else none
theorem sd_symm {b : Br} {x y : Int} (h : sd b x = some y) : sd b y = some x := by
  unfold sd at h ⊢
  split at h
  · cases h
  · rename_i h1
    split at h
    · rename_i h2
      cases h
      rw [if_neg h1, if_neg h1, if_pos rfl, h2]
    · split at h
      · rename_i h3
        cases h
        rw [if_neg h1, if_pos rfl, h3]
      · cases h
theorem sd_ne {b : Br} {x y : Int} (h : sd b x = some y) : y ≠ x := by
  unfold sd at h
  split at h
  · cases h
  · rename_i h1
    split at h
    · rename_i h2
      cases h
      intro e; exact h1 (by rw [h2, e])
    · split at h
      · rename_i h2 h3
        cases h
        intro e; exact h2 e
      · cases h
def Adj (bs : List Br) (x y : Int) : Prop := ∃ b ∈ bs, sd b x = some y
theorem Adj.symm {bs : List Br} {x y : Int} (h : Adj bs x y) : Adj bs y x := h.elim fun b hb => ⟨b, hb.1, sd_symm hb.2⟩
/-- A way over k bridges. -/
inductive Wk (bs : List Br) : Nat → Int → Int → Prop
  | refl (x : Int) : Wk bs 0 x x
  | step {k : Nat} {x y z : Int} (h : Wk bs k x y) (a : Adj bs y z) : Wk bs (k + 1) x z
theorem Wk.head {bs : List Br} {k : Nat} {x y z : Int} (a : Adj bs x y) (h : Wk bs k y z) : Wk bs (k + 1) x z := by
  induction h with
  | refl y => exact .step (.refl x) a
  | step _ a2 ih => exact .step (ih a) a2
theorem Wk.symm {bs : List Br} {k : Nat} {x y : Int} (h : Wk bs k x y) : Wk bs k y x := by
  induction h with
  | refl x => exact .refl x
  | step _ a ih => exact Wk.head a.symm ih
theorem Wk.trans {bs : List Br} {i j : Nat} {x y z : Int} (h : Wk bs i x y) (g : Wk bs j y z) : Wk bs (i + j) x z := by
  induction g with
  | refl y => exact h
  | step _ a ih => exact .step (ih h) a
theorem Wk.mono {bs cs : List Br} (hs : ∀ b ∈ bs, b ∈ cs) {k : Nat} {x y : Int} (h : Wk bs k x y) : Wk cs k x y := by
  induction h with
  | refl x => exact .refl x
  | step _ a ih => exact .step ih (a.elim fun b hb => ⟨b, hs b hb.1, hb.2⟩)
theorem Wk.zero {bs : List Br} {x y : Int} (h : Wk bs 0 x y) : x = y := by cases h; rfl
/-- The distance, -1 if there is no way. -/
def IsD (bs : List Br) (x y d : Int) : Prop := (d = -1 ∧ ∀ k, ¬ Wk bs k x y) ∨ ∃ k : Nat, d = k ∧ Wk bs k x y ∧ ∀ j, Wk bs j x y → k ≤ j
theorem IsD.uniq {bs : List Br} {x y d e : Int} (h : IsD bs x y d) (g : IsD bs x y e) : d = e := by
  rcases h with ⟨h1, h2⟩ | ⟨k, h1, h2, h3⟩ <;> rcases g with ⟨g1, g2⟩ | ⟨j, g1, g2, g3⟩
  · rw [h1, g1]
  · exact absurd g2 (h2 j)
  · exact absurd h2 (g2 k)
  · have := h3 j g2; have := g3 k h2; omega
theorem IsD.symm {bs : List Br} {x y d : Int} (h : IsD bs x y d) : IsD bs y x d := by
  rcases h with ⟨h1, h2⟩ | ⟨k, h1, h2, h3⟩
  · exact .inl ⟨h1, fun k hk => h2 k hk.symm⟩
  · exact .inr ⟨k, h1, h2.symm, fun j hj => h3 j hj.symm⟩
theorem IsD.zero {bs : List Br} {x y d : Int} (h : IsD bs x y d) : d = 0 ↔ x = y := by
  rcases h with ⟨h1, h2⟩ | ⟨k, h1, h2, h3⟩
  · refine ⟨fun e => by omega, fun e => ?_⟩
    subst e; exact absurd (.refl x) (h2 0)
  · refine ⟨fun e => ?_, fun e => ?_⟩
    · have : k = 0 := by omega
      subst this; exact h2.zero
    · subst e
      have := h3 0 (.refl x); omega
/-! The search -/
def nat (o : List Int) (v : Int) : Int := o.getD v.toNat 0
/-- One bridge, seen from the bus h. -/
def st1 (h : Int) (s : List Int × List Int) (b : Br) : List Int × List Int := match sd b h with
  | some v => if nat s.1 v < 0 then (s.1.set v.toNat (nat s.1 h + 1), s.2 ++ [v]) else s
  | none => s
def sweep (bs : List Br) (h : Int) (s : List Int × List Int) : List Int × List Int := bs.foldl (st1 h) s
def bfs (bs : List Br) : Nat → List Int → List Int → List Int
  | 0, o, _ => o
  | _ + 1, o, [] => o
  | f + 1, o, h :: t => bfs bs f (sweep bs h (o, h :: t)).1 ((sweep bs h (o, h :: t)).2.drop 1)
def neg (o : List Int) : Nat := (o.filter fun x => decide (x < 0)).length
def ms (o q : List Int) : Nat := 2 * neg o + q.length
abbrev In (N : Nat) (v : Int) : Prop := 0 ≤ v ∧ v < N
theorem nat_set {o : List Int} {v u c : Int} (hv : 0 ≤ v ∧ v < o.length) (hu : 0 ≤ u) : nat (o.set v.toNat c) u = if u = v then c else nat o u := by
  unfold nat
  rw [List.getD_eq_getElem?_getD, List.getD_eq_getElem?_getD, List.getElem?_set]
  by_cases e : u = v
  · subst e
    rw [if_pos rfl, if_pos rfl, if_pos (by omega)]; rfl
  · rw [if_neg (by omega), if_neg e]
theorem neg_set : ∀ {o : List Int} {i : Nat} {c : Int}, i < o.length → o.getD i 0 < 0 → 0 ≤ c → neg (o.set i c) + 1 = neg o
  | x :: o, 0, c, _, h, hc => by
    have h : x < 0 := h
    simp [neg, h, show ¬ c < 0 by omega]
  | x :: o, i + 1, c, hi, h, hc => by
    have hi : i < o.length := by simpa using hi
    have ih := neg_set (o := o) (i := i) (c := c) hi (by simpa using h) hc
    unfold neg at ih ⊢
    by_cases hx : x < 0
    · simp [hx]; omega
    · simp [hx]; omega
structure Bf (N : Nat) (bs : List Br) (x : Int) (o q : List Int) : Prop where
  len : o.length = N
  w : ∀ v, In N v → 0 ≤ nat o v → Wk bs (nat o v).toNat x v
  ne : ∀ v, In N v → nat o v < 0 → nat o v = -1
  qa : ∀ u ∈ q, In N u ∧ 0 ≤ nat o u
  qs : q.Pairwise fun u v => nat o u ≤ nat o v
  qm : ∀ h t, q = h :: t → ∀ v, In N v → nat o v ≤ nat o h + 1
  cl : ∀ u, In N u → 0 ≤ nat o u → u ∉ q → ∀ z, Adj bs u z → 0 ≤ nat o z ∧ nat o z ≤ nat o u + 1
  x0 : In N x ∧ nat o x = 0
def Vd (N : Nat) (bs : List Br) : Prop := ∀ b ∈ bs, In N b.l ∧ In N b.r
theorem sd_in {N : Nat} {bs : List Br} (hv : Vd N bs) {b : Br} (hb : b ∈ bs) {x y : Int} (h : sd b x = some y) : In N y := by
  have := hv b hb
  unfold sd at h
  split at h
  · cases h
  · split at h
    · cases h; exact this.2
    · split at h
      · cases h; exact this.1
      · cases h
theorem Bf.st {N : Nat} {bs : List Br} {x h : Int} {o t : List Int} (hv : Vd N bs) (B : Bf N bs x o (h :: t)) {b : Br} (hb : b ∈ bs) :
    ∃ t', (st1 h (o, h :: t) b).2 = h :: t' ∧ Bf N bs x (st1 h (o, h :: t) b).1 (h :: t') ∧ ms (st1 h (o, h :: t) b).1 (h :: t') ≤ ms o (h :: t) ∧ nat (st1 h (o, h :: t) b).1 h = nat o h ∧
      (∀ v, In N v → 0 ≤ nat o v → 0 ≤ nat (st1 h (o, h :: t) b).1 v) ∧ (∀ z, sd b h = some z → 0 ≤ nat (st1 h (o, h :: t) b).1 z) := by
  have hh := B.qa h (by simp)
  unfold st1
  cases hs : sd b h with
  | none => exact ⟨t, rfl, B, Nat.le_refl _, rfl, fun _ _ h => h, fun z hz => by cases hz⟩
  | some v =>
    have hin := sd_in hv hb hs
    dsimp only
    by_cases hneg : nat o v < 0
    · rw [if_pos hneg]
      dsimp only
      have hvl : 0 ≤ v ∧ v < o.length := by rw [B.len]; exact hin
      have hS : ∀ u, 0 ≤ u → nat (o.set v.toNat (nat o h + 1)) u = if u = v then nat o h + 1 else nat o u := fun u hu => nat_set hvl hu
      have hvh : h ≠ v := fun e => by rw [e] at hh; omega
      have hSh : nat (o.set v.toNat (nat o h + 1)) h = nat o h := by rw [hS h hh.1.1, if_neg hvh]
      have hSv : nat (o.set v.toNat (nat o h + 1)) v = nat o h + 1 := by rw [hS v hin.1, if_pos rfl]
      have hq : ∀ u ∈ h :: t, u ≠ v := fun u hu e => by have := (B.qa u hu).2; rw [e] at this; omega
      refine ⟨t ++ [v], by simp, ⟨by rw [List.length_set]; exact B.len, ?_, ?_, ?_, ?_, ?_, ?_, ?_⟩, ?_, hSh, ?_, ?_⟩
      · intro u hu h0
        rw [hS u hu.1] at h0 ⊢
        split
        · rename_i e
          subst e
          have := B.w h hh.1 hh.2
          have e2 : (nat o h + 1).toNat = (nat o h).toNat + 1 := by omega
          rw [e2]
          exact .step this ⟨b, hb, hs⟩
        · rename_i e
          rw [if_neg e] at h0
          exact B.w u hu h0
      · intro u hu h0
        rw [hS u hu.1] at h0 ⊢
        split
        · rename_i e; rw [if_pos e] at h0; omega
        · rename_i e; rw [if_neg e] at h0; exact B.ne u hu h0
      · intro u hu
        have hu : u ∈ h :: t ∨ u = v := by simpa [or_assoc] using hu
        rcases hu with hu | rfl
        · have := B.qa u hu
          refine ⟨this.1, ?_⟩
          rw [hS u this.1.1, if_neg (hq u hu)]; exact this.2
        · exact ⟨hin, by rw [hSv]; omega⟩
      · have e : h :: (t ++ [v]) = (h :: t) ++ [v] := by simp
        rw [e, List.pairwise_append]
        refine ⟨?_, by simp, ?_⟩
        · refine B.qs.imp_of_mem ?_
          intro u z hu hz huz
          rw [hS u (B.qa u hu).1.1, hS z (B.qa z hz).1.1, if_neg (hq u hu), if_neg (hq z hz)]
          exact huz
        · intro u hu z hz
          have : z = v := by simpa using hz
          subst this
          rw [hSv, hS u (B.qa u hu).1.1, if_neg (hq u hu)]
          exact B.qm h t rfl u (B.qa u hu).1
      · intro h' t' e u hu
        obtain ⟨rfl, _⟩ : h = h' ∧ _ := by simpa using e
        rw [hSh, hS u hu.1]
        split
        · omega
        · exact B.qm h t rfl u hu
      · intro u hu h0 hn z hz
        have hn2 : u ∉ h :: t ∧ u ≠ v := by
          constructor
          · intro hm; apply hn
            have : u ∈ (h :: t) ++ [v] := List.mem_append_left _ hm
            simpa using this
          · rintro rfl; apply hn; simp
        rw [hS u hu.1, if_neg hn2.2] at h0 ⊢
        have hc := B.cl u hu h0 hn2.1 z hz
        obtain ⟨b', hb', hz'⟩ := hz
        have hzin := sd_in hv hb' hz'
        rw [hS z hzin.1, if_neg (fun e => by rw [e] at hc; omega)]
        exact hc
      · refine ⟨B.x0.1, ?_⟩
        rw [hS x B.x0.1.1, if_neg (fun e => by have := B.x0.2; rw [e] at this; omega)]
        exact B.x0.2
      · have := neg_set (o := o) (i := v.toNat) (c := nat o h + 1) (by omega) hneg (by omega)
        simp only [ms, List.length_cons, List.length_append, List.length_nil]
        omega
      · intro u hu h0
        rw [hS u hu.1]
        split
        · omega
        · exact h0
      · intro z hz
        cases hz
        rw [hSv]; omega
    · rw [if_neg hneg]
      exact ⟨t, rfl, B, Nat.le_refl _, rfl, fun _ _ h => h, fun z hz => by cases hz; dsimp only; omega⟩
theorem Bf.sw {N : Nat} {bs : List Br} {x h : Int} (hv : Vd N bs) : ∀ (cs : List Br), (∀ b ∈ cs, b ∈ bs) → ∀ {o t : List Int}, Bf N bs x o (h :: t) →
    ∃ t', (sweep cs h (o, h :: t)).2 = h :: t' ∧ Bf N bs x (sweep cs h (o, h :: t)).1 (h :: t') ∧ ms (sweep cs h (o, h :: t)).1 (h :: t') ≤ ms o (h :: t) ∧ (∀ v, In N v → 0 ≤ nat o v → 0 ≤ nat (sweep cs h (o, h :: t)).1 v) ∧
      ∀ b ∈ cs, ∀ z, sd b h = some z → 0 ≤ nat (sweep cs h (o, h :: t)).1 z
  | [], _, o, t, B => ⟨t, rfl, B, Nat.le_refl _, fun _ _ h => h, fun b hb => by simp at hb⟩
  | b :: cs, hc, o, t, B => by
    obtain ⟨t1, e1, B1, m1, _, u1, s1⟩ := B.st hv (hc b (by simp))
    have e : sweep (b :: cs) h (o, h :: t) = sweep cs h ((st1 h (o, h :: t) b).1, h :: t1) := by
      show sweep cs h (st1 h (o, h :: t) b) = _
      rw [← e1]
    obtain ⟨t2, e2, B2, m2, u2, s2⟩ := Bf.sw hv cs (fun c h' => hc c (by simp [h'])) B1
    rw [e]
    refine ⟨t2, e2, B2, Nat.le_trans m2 m1, fun v hv' h0 => u2 v hv' (u1 v hv' h0), fun c hcm z hz => ?_⟩
    rcases List.mem_cons.1 hcm with rfl | hcm
    · exact u2 z (sd_in hv (hc c (by simp)) hz) (s1 z hz)
    · exact s2 c hcm z hz
/-- A bus is done with. -/
theorem Bf.pop {N : Nat} {bs : List Br} {x h : Int} {o t : List Int} (hv : Vd N bs) (B : Bf N bs x o (h :: t)) (hs : ∀ b ∈ bs, ∀ z, sd b h = some z → 0 ≤ nat o z) : Bf N bs x o t := by
  refine ⟨B.len, B.w, B.ne, fun u hu => B.qa u (by simp [hu]), (List.pairwise_cons.1 B.qs).2, ?_, ?_, B.x0⟩
  · intro h' t' e v hv'
    have := (List.pairwise_cons.1 B.qs).1 h' (by rw [e]; simp)
    have := B.qm h t rfl v hv'
    omega
  · intro u hu h0 hn z hz
    by_cases e : u = h
    · subst e
      obtain ⟨b, hb, hz'⟩ := hz
      exact ⟨hs b hb z hz', B.qm u t rfl z (sd_in hv hb hz')⟩
    · exact B.cl u hu h0 (by simp [e, hn]) z hz
theorem Bf.go {N : Nat} {bs : List Br} {x h : Int} {o t : List Int} (hv : Vd N bs) (B : Bf N bs x o (h :: t)) :
    Bf N bs x (sweep bs h (o, h :: t)).1 ((sweep bs h (o, h :: t)).2.drop 1) ∧ ms (sweep bs h (o, h :: t)).1 ((sweep bs h (o, h :: t)).2.drop 1) < ms o (h :: t) := by
  obtain ⟨t', e, B', m, _, s⟩ := Bf.sw hv bs (fun _ h => h) B
  rw [e]
  refine ⟨B'.pop hv s, ?_⟩
  simp only [ms, List.length_cons, List.drop_succ_cons, List.drop_zero] at m ⊢
  omega
theorem bfs_ok {N : Nat} {bs : List Br} {x : Int} (hv : Vd N bs) : ∀ (f : Nat) {o q : List Int}, Bf N bs x o q → ms o q ≤ f → Bf N bs x (bfs bs f o q) []
  | 0, o, q, B, hf => by
    have : q = [] := List.length_eq_zero_iff.1 (by unfold ms at hf; omega)
    subst this; exact B
  | f + 1, o, [], B, _ => B
  | f + 1, o, h :: t, B, hf => by
    obtain ⟨B', m⟩ := B.go hv
    exact bfs_ok hv f B' (by omega)
/-- What the search finds are the distances. -/
theorem Bf.isD {N : Nat} {bs : List Br} {x : Int} {o : List Int} (hv : Vd N bs) (B : Bf N bs x o []) {y : Int} (hy : In N y) : IsD bs x y (nat o y) := by
  have key : ∀ (k : Nat) (z : Int), Wk bs k x z → In N z ∧ 0 ≤ nat o z ∧ nat o z ≤ k := by
    intro k z hk
    have hx := B.x0
    generalize hx' : x = x' at hk
    induction hk with
    | refl z => subst hx'; exact ⟨hx.1, by omega, by omega⟩
    | step h a ih =>
      obtain ⟨i1, i2, i3⟩ := ih hx'
      have := B.cl _ i1 i2 (by simp) _ a
      obtain ⟨b, hb, hz⟩ := a
      exact ⟨sd_in hv hb hz, this.1, by omega⟩
  by_cases h : nat o y < 0
  · refine .inl ⟨B.ne y hy h, fun k hk => ?_⟩
    have := (key k y hk).2.1
    omega
  · refine .inr ⟨(nat o y).toNat, by omega, B.w y hy (by omega), fun j hj => ?_⟩
    have := (key j y hj).2.2
    omega
def ini (N : Nat) (x : Int) : List Int := (List.replicate N (-1)).set x.toNat 0
theorem Bf.ini {N : Nat} {bs : List Br} {x : Int} (hx : In N x) : Bf N bs x (ini N x) [x] := by
  have hS : ∀ u, In N u → nat (Yteakklbbdfgbdaa.ini N x) u = if u = x then 0 else -1 := fun u hu => by
    unfold Yteakklbbdfgbdaa.ini
    rw [nat_set (by rw [List.length_replicate]; exact hx) hu.1]
    by_cases e : u = x
    · rw [if_pos e, if_pos e]
    · rw [if_neg e, if_neg e]
      unfold nat
      rw [List.getD_eq_getElem?_getD, List.getElem?_replicate, if_pos (by omega)]; rfl
  refine ⟨by simp [Yteakklbbdfgbdaa.ini], ?_, ?_, ?_, by simp, ?_, ?_, ⟨hx, by rw [hS x hx, if_pos rfl]⟩⟩
  · intro v hv h0
    rw [hS v hv] at h0 ⊢
    split
    · rename_i e; subst e; exact .refl _
    · rename_i e; rw [if_neg e] at h0; omega
  · intro v hv h0
    rw [hS v hv] at h0 ⊢
    split
    · rename_i e; rw [if_pos e] at h0; omega
    · rfl
  · intro u hu
    have : u = x := by simpa using hu
    subst this
    exact ⟨hx, by rw [hS u hx, if_pos rfl]; omega⟩
  · intro h t e v hv
    obtain ⟨rfl, _⟩ : x = h ∧ _ := by simpa using e
    rw [hS v hv, hS x hx, if_pos rfl]
    split <;> omega
  · intro u hu h0 hn
    rw [hS u hu] at h0
    split at h0
    · rename_i e; subst e; simp at hn
    · omega
/-- The distances from one bus. -/
def ds (N : Nat) (bs : List Br) (x : Int) : List Int := bfs bs (2 * N + 1) (ini N x) [x]
theorem neg_le (o : List Int) : neg o ≤ o.length := List.length_filter_le _ _
theorem ds_ok {N : Nat} {bs : List Br} (hv : Vd N bs) {x : Int} (hx : In N x) : Bf N bs x (ds N bs x) [] :=
  bfs_ok hv _ (.ini hx) (by
    have := neg_le (ini N x)
    have e : (ini N x).length = N := by simp [ini]
    simp only [ms, List.length_cons, List.length_nil]
    omega)
theorem ds_isD {N : Nat} {bs : List Br} (hv : Vd N bs) {x y : Int} (hx : In N x) (hy : In N y) : IsD bs x y (nat (ds N bs x) y) := (ds_ok hv hx).isD hv hy
theorem ds_len {N : Nat} {bs : List Br} (hv : Vd N bs) {x : Int} (hx : In N x) : (ds N bs x).length = N := (ds_ok hv hx).len
theorem ds_symm {N : Nat} {bs : List Br} (hv : Vd N bs) {x y : Int} (hx : In N x) (hy : In N y) : nat (ds N bs x) y = nat (ds N bs y) x := (ds_isD hv hx hy).uniq (ds_isD hv hy hx).symm
end Go.Proofs.Yteakklbbdfgbdaa

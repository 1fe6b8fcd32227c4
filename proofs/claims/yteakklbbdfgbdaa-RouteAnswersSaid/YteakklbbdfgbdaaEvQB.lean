/- A part of the proof: symbolic evaluation of the program's functions, proved sound against the model; no condition. -/
/-
  The framework 'Ev', part QB: rows of which a slice sees a part; maps whose values are all true; function values that capture a pointer.
  Conditions: none; a text of lemmas.
-/
import Derived.Test.YteakklbbdfgbdaaEvNZ
import Derived.Test.YteakklbbdfgbdaaEvP
import Derived.WideKeyRuns
namespace Go.Ev
open Go Go.RowKit
set_option linter.unusedVariables false
set_option linter.unusedSectionVars false
set_option linter.unusedSimpArgs false

theorem QRow.of_own {w : World} {T : TypeId} {k : Nat} {v : Value} {n : Nat} {xs : List Value} (h : w.ownsRow 0 T k v n xs) : QRow w T k v n xs := by
  refine ⟨h.1, ?_⟩
  rcases h.2 with h1 | ⟨g, cap, cur, rfl, _, hg, hnc, hcm, hcs, htake⟩
  · exact .inl h1
  · exact .inr ⟨g, 0, cap, cur, rfl, hg, hnc, hcm, by omega, by simpa using htake⟩
theorem bk_q (v : Value) {k : Nat} (h : v.ownBlock = some k) {T : TypeId} {w : World} {size n : Nat} {xs : List Value} (ho : QRow w T size v n xs) : bk v = some k := by
  rcases ho.2 with ⟨rfl, _⟩ | ⟨g, o, cap, cur, rfl, _⟩
  · cases h
  · simp [Value.ownBlock] at h; subst h; rfl

section
variable {P : Program} (w : World)
theorem run_append_roomQ (t ty e : TypeId) (i : TypeInfo) (ht : P.underlying t = some (.slice e)) (hi : P.info? e = some i)
    (g o sLen sCap : Nat) (cur : Array Value) (hg : w.heap[g]? = some (.cells cur e (0, 0)))
    (a : Addr) (m c : Nat) (news : List Value) (hl : news.length = m * i.size) (hnews : ∀ j u, news[j]? = some u → w.cell? (a.add j) = some u) (h1 : ∀ u ∈ news, u.oneCell' = true)
    (hroom : sLen + m ≤ sCap) (hfit : o + sLen * i.size + news.length ≤ cur.size) :
    (Builtin.append_ #[t, t] ty #[.slice (some ⟨g, o, none⟩) sLen sCap, .slice (some a) m c]).run P w =
      .ok (.slice (some ⟨g, o, none⟩) (sLen + m) sCap) (w.setRow g (cur.toList.take (o + sLen * i.size) ++ news ++ cur.toList.drop (o + sLen * i.size + news.length)).toArray) := by
  have hf := run_firstCells_some (P := P) w i.size m a m c news hl hnews
  have hst := run_storeCells_at P g (o + sLen * i.size) e news 0 cur w hg (by simpa using hfit) h1
  simp only [Nat.add_zero] at hst
  simp [Builtin.append_, run_underlying ht, sizeOf, typeInfo, hi, Builtin.lenOf, hroom, hf, Addr.add_lit, hst]

theorem run_append_q (t ty e : TypeId) (i : TypeInfo) (z : Value) (ht : P.underlying t = some (.slice e)) (hi : P.info? e = some i) (hz : i.zero = some z)
    (hzs : z.cells.size = i.size) (hsz : 0 < i.size)
    (v : Value) (n : Nat) (xs : List Value) (hown : QRow w e i.size v n xs)
    (ad : Option Addr) (m c : Nat) (hm0 : m ≠ 0) (had : m ≠ 0 → ad.isSome = true) (news : List Value) (hl : news.length = m * i.size) (hnews : ∀ a, ad = some a → ∀ j u, news[j]? = some u → w.cell? (a.add j) = some u) (h1 : ∀ u ∈ news, u.oneCell' = true)
    (h63 : n + m ≤ maxLen) (hbytes : (n + m) * i.bytes ≤ 140737488355328) :
    ∃ v' w', (Builtin.append_ #[t, t] ty #[v, .slice ad m c]).run P w = .ok v' w' ∧ QRow w' e i.size v' (n + m) (xs ++ news) ∧ w.grownBy w' v.ownBlock ∧
      (∃ a' n' c', v' = .slice a' n' c') ∧ ∀ b, bk v' = some b → bk v = some b ∨ w.heap.size ≤ b := by
  obtain ⟨a, rfl⟩ := Option.isSome_iff_exists.1 (had hm0)
  have hnw := hnews a rfl
  have h63' : ((n + m : Nat) : Int) ≤ 9223372036854775807 := by simp only [maxLen] at h63; omega
  have hlen : (xs ++ news).length = (n + m) * i.size := by rw [List.length_append, hown.1, hl, Nat.add_mul]
  rcases hown.2 with ⟨rfl, rfl⟩ | ⟨g, o, cap, cur, rfl, hg, hnc, hcm, hcs, htake⟩
  · have hx : xs = [] := List.eq_nil_of_length_eq_zero (by simpa using hown.1)
    subst hx
    obtain ⟨v', w', hr, h2, h3, h4, h5⟩ := run_append_at (P := P) w t ty e i z ht hi hz hzs hsz (.slice none 0 0) 0 [] (World.ownsRow_nil w 0 e i.size) (some a) m c had news hl hnews h1 h63 hbytes
    exact ⟨v', w', hr, .of_own h2, h3, h4, h5⟩
  · by_cases hroom : n + m ≤ cap
    · have hmul : (n + m) * i.size ≤ cap * i.size := Nat.mul_le_mul_right _ hroom
      rw [Nat.add_mul] at hmul
      have hfit : o + n * i.size + news.length ≤ cur.size := by rw [hl]; omega
      have hr := run_append_roomQ (P := P) w t ty e i ht hi g o n cap cur hg a m c news hl hnw h1 hroom hfit
      refine ⟨_, _, hr, ⟨hlen, .inr ⟨g, o, cap, _, rfl, setRow_heap w g cur _ e _ hg, hroom, hcm, ?_, ?_⟩⟩, ⟨rfl, rfl, rfl, by simp, fun k _ hk => setRow_other w g k _ (fun e => hk (by simp [Value.ownBlock, e]))⟩, ⟨_, _, _, rfl⟩, ?_⟩
      · simp only [List.size_toArray, List.length_append, List.length_take, List.length_drop, Array.length_toList]
        omega
      · have hcl : cur.toList.length = cur.size := Array.length_toList
        rw [List.toList_toArray, List.append_assoc, List.drop_append_of_le_length (by simp; omega), ← List.append_assoc, List.drop_take, show o + n * i.size - o = n * i.size by omega, htake, ← hlen]
        exact List.take_left
      · intro b hb; left; exact hb
    · have holds : ∀ j u, xs[j]? = some u → w.cell? ((⟨g, o, none⟩ : Addr).add j) = some u := fun j u hj => by rw [add_none]; exact hown.cells j u hj
      have hr := run_append_grow (P := P) w t ty e i z ht hi hz ⟨g, o, none⟩ n cap xs hown.1 holds a m c news hl hnw (by omega) h63' (growslice_fits (by omega) hbytes)
      have hge := grownCap_ge w (n + m) cap e
      have hcm' : grownCap w (n + m) cap e ≤ maxLen := grownCap_le_maxLen w (n + m) cap e h63
      refine ⟨_, _, hr, ⟨hlen, .inr ⟨w.heap.size, 0, _, _, rfl, heap_alloc_new w.drew _, hge, hcm', ?_, ?_⟩⟩, ⟨rfl, rfl, rfl, by simp, fun k hk _ => heap_alloc_eq w.drew _ k hk⟩, ⟨_, _, _, rfl⟩, ?_⟩
      · simp only [Array.size_append, List.size_toArray, size_zeroCells, hzs, hown.1, hl, ← Nat.add_mul]
        rw [show n + m + (grownCap w (n + m) cap e - (n + m)) = grownCap w (n + m) cap e by omega]
        omega
      · simp only [Array.toList_append, List.append_assoc, List.drop_zero]
        rw [← List.append_assoc, ← hlen]
        exact List.take_left
      · intro b hb; simp [bk] at hb; right; omega
end

section
variable {P : Program} {X : Cx} {Z : Nat → Prop} {w : World} {θ : Nat → Value} {a : Act} {σ : St} {p : List (Nat × Bool)}

theorem isQ_some {m : Nat → Option Blk} {x : AV} {r : Nat} (h : isQ m x = some r) : ∃ b c d T z es, x = .vw r b c d ∧ m r = some (.qb T z es) := by
  unfold isQ at h
  split at h <;> try (cases h; done)
  split at h <;> try (cases h; done)
  rename_i hr
  simp only [Option.some.injEq] at h; subst h
  exact ⟨_, _, _, _, _, _, rfl, hr⟩

/-- The block r is given up, and taken anew at the same number. -/
theorem Mem.again {m : Nat → Option Blk} (hm : Mem X Z w θ m) {r : Nat} {blk0 blk : Blk} {v v' : Value} {w' : World} (hr : m r = some blk0) (h64 : 64 ≤ r) (hθ : θ r = v) (hnZ0 : ∀ b, bk v = some b → ¬ Z b)
    (hgb : w.grownBy w' v.ownBlock) (hbv : ∀ k, v.ownBlock = some k → bk v = some k) (hblk : ∀ b, bk v' = some b → bk v = some b ∨ w.heap.size ≤ b)
    (hB : Goes Z w Z w' → BRep Z w' (fun k => if k = r then v' else θ k) r (killB r blk)) :
    Goes Z w Z w' ∧ Mem X Z w' (fun k => if k = r then v' else θ k) (updM (killM r m) r (some (killB r blk))) := by
  obtain ⟨q1, q2⟩ := hm.stepW (w' := w') (m' := updM m r none) (some r) (fun _ h => h) (fun _ h => .inl h) (fun b hb' => Nat.lt_of_lt_of_le (hm.zlt b hb') hgb.size) hgb.os hgb.tape hgb.output hgb.size
    (fun k hk hne => hgb.block k hk (by
      intro hk'
      exact hne r rfl (by rw [hθ]; exact hbv k hk'.symm)))
    (fun k hk => by have : k ≠ r := fun e => hk (by rw [e]); simp [updM, this])
    (fun k hk => by
      simp only [Option.some.injEq] at hk; subst hk
      exact ⟨by rw [hr]; rfl, fun blk hblk => by simp [updM] at hblk⟩)
  refine ⟨q2, ?_⟩
  have hput := q1.put1 r v' blk h64 (hB q2) (by
    intro r' blk' hne hr' b hb' hb2
    have hr0 : m r' = some blk' := by simpa [updM, hne] using hr'
    rcases hblk b hb' with h | h
    · exact hne (hm.disj r' r b (by rw [hr0]; rfl) (by rw [hr]; rfl) hb2 (by rw [hθ]; exact h))
    · have := hm.lt hr0 hb2; omega) (by
    intro b hb'
    rcases hblk b hb' with h | h
    · rcases hm.own r b (by rw [hr]; rfl) (by rw [hθ]; exact h) with h | h
      · exact h
      · omega
    · have := hm.frame.size; omega)
  have heq : updM (killM r (updM m r none)) r (some (killB r blk)) = updM (killM r m) r (some (killB r blk)) := by
    funext k
    simp only [updM, killM]
    by_cases hk : k = r <;> simp [hk]
  rw [heq] at hput
  exact hput

theorem appQ_out {m : Nat → Option Blk} (hm : Mem X Z w θ m) {d : Nat} {t ty e : TypeId} {i : TypeInfo} {zv : Value} (ht : P.underlying t = some (.slice e)) (hi : P.info? e = some i) (hz : i.zero = some zv)
    (hzs : zv.cells.size = i.size) (hsz : 0 < i.size) {z : List AV} (hzl : z.length = i.size) {r0 b0 c0 d0 : Nat} {y : AV} {vx vy : Value} (hx : Rep Z w θ (.vw r0 b0 c0 d0) vx) (hy : Rep Z w θ y vy) {r : Res} (he : appQ e i.bytes z r0 (m r0) (ysOf m z.length y) = some r) (hpre : ∀ q ∈ r.pre, q) :
    ∃ v' w' θ', (Builtin.append_ #[t, t] ty #[vx, vy]).run P w = .ok v' w' ∧ Out X Z w θ m d r v' Z w' θ' := by
  unfold appQ at he
  split at he <;> try (cases he; done)
  rename_i t1 z' es ys t2 hr0 hys
  split at he <;> try (cases he; done)
  rename_i hc
  simp only [decide_eq_true_eq] at hc
  obtain ⟨rfl, hzz, h64⟩ := hc
  simp only [Option.some.injEq] at he; subst he
  have hne := hpre (0 < ys.length) (by simp)
  have h63 := hpre (es.length + ys.length ≤ 9223372036854775807) (by simp)
  have hby := hpre ((es.length + ys.length) * i.bytes ≤ 140737488355328) (by simp)
  obtain ⟨hz0, hrows, xs, hown, hnZ, hcx⟩ := hm.brep r0 _ hr0
  obtain ⟨hrows2, ad, c, news, rfl, had, hl, hnews, hcn⟩ := ys_spec hm (by omega) hy hys
  have hzl' : z'.length = i.size := by omega
  have hθ : θ r0 = vx := by cases hx with | vw _ _ _ _ _ _ _ _ h => exact h
  rw [hzl', hθ] at hown
  rw [hθ] at hnZ
  rw [hzl] at hl
  have hone : ∀ u ∈ news, u.oneCell' = true := hcn.one
  obtain ⟨v', w', hr, hown', hgb, ⟨a', n', c', hv'⟩, hblk⟩ := run_append_q (P := P) w t ty t1 i zv ht hi hz hzs hsz vx es.length xs hown ad ys.length c (by omega) had news hl hnews hone (by simp only [maxLen]; omega) hby
  obtain ⟨hg, hmem⟩ := hm.again (blk := .qb t1 z' (es ++ ys)) (v' := v') hr0 h64 hθ hnZ hgb (fun k hk => bk_q vx hk hown) hblk (fun hg => by
    refine ⟨hz0, ?_, xs ++ news, ?_, ?_, ?_⟩
    · intro q hq
      rcases List.mem_append.1 hq with hq | hq
      · exact hrows q hq
      · rw [hzz]; exact hrows2 q hq
    · simp only [if_true, List.length_append, hzl']
      exact hown'
    · intro b hb' hzb
      simp only [if_true] at hb'
      rcases hblk b hb' with h | h
      · exact hnZ b h hzb
      · have := hm.zlt b hzb; omega
    · rw [List.flatten_append]
      exact (hcx.append hcn).step hg)
  refine ⟨v', w', fun k => if k = r0 then v' else θ k, hr, ?_, hg, fun k hk => ?_, hmem, by simp⟩
  · subst hv'
    exact .vw _ _ _ _ _ _ _ _ (by simp)
  · have := hk _ _ rfl
    simp [this]

theorem QRow.drop {T k n c l : Nat} {a : Option Addr} {xs : List Value} (h : QRow w T k (.slice a n c) n xs) (hl : l ≤ n) :
    QRow w T k (.slice (if c = l then a else a.map (·.add (l * k))) (n - l) (c - l)) (n - l) (xs.drop (l * k)) := by
  have hlen : (xs.drop (l * k)).length = (n - l) * k := by rw [List.length_drop, h.1, Nat.sub_mul]
  refine ⟨hlen, ?_⟩
  rcases h.2 with ⟨h1, h2⟩ | ⟨g, o, cap, cur, h1, hg, hnc, hcm, hcs, htake⟩
  · cases h1
    have : l = 0 := by omega
    subst this
    left; simp
  · cases h1
    by_cases hcl : c = l
    · have : n = l := by omega
      subst this
      subst hcl
      right
      refine ⟨g, o, 0, cur, by simp, hg, by omega, by unfold maxLen; omega, ?_, ?_⟩
      · simp only [Nat.zero_mul]; omega
      · simp only [Nat.sub_self, Nat.zero_mul, List.take_zero]
        exact (List.eq_nil_of_length_eq_zero (by rw [hlen]; simp)).symm
    · right
      have hm1 : l * k ≤ c * k := Nat.mul_le_mul_right _ (by omega)
      refine ⟨g, o + l * k, c - l, cur, ?_, hg, by omega, by unfold maxLen at *; omega, ?_, ?_⟩
      · rw [if_neg hcl]; simp [add_none]
      · rw [Nat.sub_mul]; omega
      · rw [← htake, List.drop_take, List.drop_drop, Nat.sub_mul]

variable (hs : ∀ k, SRep Z w θ a.tmps (σ.s k) (a.tmps.getD k undef)) (hp : pathT a.tmps p)
include hs hp

theorem ok_sliceQ (hm : Mem X Z w θ σ.m) {d : Nat} {o : Oper} {t e : TypeId} {x : Operand} {lo hi : Option Operand} (ho : o.op = .slice t x lo hi none) (hu : P.underlying t = some (.slice e)) {sz : Nat} (hsz : sizeP P e = some sz)
    {x' : A} {lo' hi' : Option A} (hx : compA x = some x') (hl : compO lo = some lo') (hh : compO hi = some hi') {r : Res} (he : sliceQ σ.m sz (av σ p x') (boundA σ p lo') (boundA σ p hi') = some r) (hpre : ∀ q ∈ r.pre, q) : OpOK P X Z w θ σ.m a o d r := by
  unfold sliceQ at he
  split at he <;> try (cases he; done)
  rename_i vx hvx
  split at he
  · rename_i r0 hq
    obtain ⟨b0, c0, d0, T, z, es, rfl, hr0⟩ := isQ_some hq
    rw [hr0] at he
    unfold slQ at he
    split at he <;> try (cases he; done)
    rename_i vl t1 z1 es1 hvl hvh hb
    simp only [Option.some.injEq, Blk.qb.injEq] at hb
    obtain ⟨rfl, rfl, rfl⟩ := hb
    split at he <;> try (cases he; done)
    rename_i l h1 h2
    simp only [Bool.and_eq_true, beq_iff_eq, decide_eq_true_eq] at h2
    obtain ⟨h2, h64⟩ := h2
    simp only [Option.some.injEq] at he; subst he
    obtain ⟨hb1, hb2⟩ := hpre (0 ≤ l ∧ l ≤ es.length) (by simp)
    have hrx := av_rep hs hp hx hvx
    obtain ⟨hz0, hrows, xs, hown, hnZ, hcx⟩ := hm.brep r0 _ hr0
    generalize hv : a.eval x = v at hrx
    cases hrx with
    | vw _ _ _ _ _ ad n' cap hθ =>
      rw [hθ] at hown hnZ
      have hn : n' = es.length ∧ n' ≤ cap := by
        rcases hown.2 with ⟨h3, h4⟩ | ⟨g, o0, cap', cur, h3, _, h5, _⟩
        · cases h3; omega
        · cases h3; exact ⟨rfl, h5⟩
      obtain ⟨rfl, hcap⟩ := hn
      have hrun := run_slice_opt (P := P) (w := w) hu hsz ad es.length cap (bound_lo hs hp hl hvl h1) (bound_hi hs hp hh hvh (n := es.length) (l := (es.length : Int)) rfl) hb1 hb2 (by omega) hcap
      have hrun2 : (execOp a.eval o).run P w = .ok (.value (.slice (if cap = l.toNat then ad else ad.map (·.add (l.toNat * sz))) (es.length - l.toNat) (cap - l.toNat))) w := by
        simp only [execOp, ho, Sem.run_bind, hv]
        simp only [Option.map_none]
        rw [hrun]
        simp
      have hq := hown.drop (l := l.toNat) (by omega)
      rw [h2] at hq
      obtain ⟨hg, hmem⟩ := hm.again (blk := .qb T z (es.drop l.toNat)) (v' := .slice (if cap = l.toNat then ad else ad.map (·.add (l.toNat * sz))) (es.length - l.toNat) (cap - l.toNat)) (w' := w) hr0 h64 hθ hnZ ⟨rfl, rfl, rfl, Nat.le_refl _, fun _ _ _ => rfl⟩ (fun k hk => bk_q _ hk hown) (fun b hb => by
          left
          rcases hown.2 with ⟨h3, h4⟩ | ⟨g, o0, cap', cur, h3, _, h5, _⟩
          · simp only [Value.slice.injEq] at h3
            obtain ⟨rfl, _, rfl⟩ := h3
            have : l.toNat = 0 := by omega
            simp [this, bk] at hb
          · cases h3
            split at hb
            · exact hb
            · simpa [bk, add_none] using hb) (fun hg => by
        refine ⟨hz0, fun q hq => hrows q (List.mem_of_mem_drop hq), xs.drop (l.toNat * z.length), ?_, ?_, ?_⟩
        · simp only [if_true, List.length_drop]
          rw [h2]; exact hq
        · intro b hb
          simp only [if_true] at hb
          refine hnZ b ?_
          rcases hown.2 with ⟨h3, h4⟩ | ⟨g, o0, cap', cur, h3, _, h5, _⟩
          · simp only [Value.slice.injEq] at h3
            obtain ⟨rfl, _, rfl⟩ := h3
            have : l.toNat = 0 := by omega
            simp [this, bk] at hb
          · cases h3
            split at hb
            · exact hb
            · simpa [bk, add_none] using hb
        · rw [flat_dropk hrows]
          exact hcx.drop _)
      intro K Q hK
      refine wp_value hrun2 (hK _ Z w (fun k => if k = r0 then _ else θ k) ⟨.vw _ _ _ _ _ _ _ _ (by simp), hg, fun k hk => ?_, hmem, by simp⟩)
      have := hk _ _ rfl
      simp [this]
  · have he' : sliceO σ.m sz (av σ p x') (boundA σ p lo') (boundA σ p hi') = some r := by rw [hvx]; exact he
    exact .of_calm (ok_slice hs hp hm ho hu hsz hx hl hh he' hpre) hm
end
end Go.Ev

/- A part of the proof: symbolic evaluation of the program's functions, proved sound against the model; no condition. -/
import Derived.Test.YteakklbbdfgbdaaEvN
import Derived.Test.YteakklbbdfgbdaaEvH
namespace Go.Ev
open Go Go.RowKit
set_option linter.unusedSimpArgs false
set_option linter.unusedVariables false
section
variable {P : Program} (w : World)
/-- Zero elements appended (append of make): to nil, or to a slice of one's own. -/
theorem run_append_zat (t ti ty e : TypeId) (i : TypeInfo) (z : Value) (k k2 : IntKind) (ht : P.underlying t = some (.slice e)) (hti : P.underlying ti = some (.int k)) (hi : P.info? e = some i) (hz : i.zero = some z)
    (hzs : z.cells.size = i.size) (hsz : 0 < i.size)
    (v : Value) (n : Nat) (xs : List Value) (hown : w.ownsRow 0 e i.size v n xs)
    (m : Nat) (h1 : ∀ u ∈ (Builtin.zeroCells z.cells m).toList, u.oneCell' = true)
    (h63 : n + m ≤ maxLen) (hbytes : (n + m) * i.bytes ≤ 140737488355328) :
    ∃ v' w', (Builtin.append_ #[t, ti] ty #[v, .int k2 m]).run P w = .ok v' w' ∧ w'.ownsRow 0 e i.size v' (n + m) (xs ++ (Builtin.zeroCells z.cells m).toList) ∧ w.grownBy w' v.ownBlock ∧
      (∃ a' n' c', v' = .slice a' n' c') ∧ ∀ b, bk v' = some b → bk v = some b ∨ w.heap.size ≤ b := by
  have hsmall : n + m ≤ 9223372036854775807 := by simp only [maxLen] at h63; omega
  have hl : (Builtin.zeroCells z.cells m).toList.length = m * i.size := by rw [Array.length_toList, size_zeroCells, hzs]
  have hlen : (xs ++ (Builtin.zeroCells z.cells m).toList).length = (n + m) * i.size := by rw [List.length_append, hown.1, hl, Nat.add_mul]
  have hw : IntKind.i64.wrap (m : Int) = m := by rw [IntKind.wrap_i64]; omega
  have hneg : ¬ ((m : Int) < 0) := by omega
  have hmb : m * i.bytes ≤ 140737488355328 := Nat.le_trans (Nat.mul_le_mul_right _ (by omega)) hbytes
  have hfits : ¬ (281474976710656 < (m : Int) * (i.bytes : Int)) := by
    have : ((m * i.bytes : Nat) : Int) = (m : Int) * i.bytes := by simp
    omega
  have hn1 : ¬ (m * i.size = 0) ∨ m = 0 := by
    by_cases h : m = 0
    · exact .inr h
    · exact .inl (by have := Nat.mul_pos (show 0 < m by omega) hsz; omega)
  have hnw : (if m * i.size = 0 then #[] else Builtin.zeroCells z.cells m) = Builtin.zeroCells z.cells m := by
    split
    · rename_i h
      have : m = 0 := by rcases hn1 with h2 | h2; exact absurd h h2; exact h2
      subst this
      simp [Builtin.zeroCells]
    · rfl
  have grown : ∀ (old : Nat), old < n + m → ∀ (row : Option Nat),
      (w.drew.alloc (.cells (xs.toArray ++ Builtin.zeroCells z.cells m ++ Builtin.zeroCells z.cells (grownCap w (n + m) old e - (n + m))) e)).ownsRow 0 e i.size
        (.slice (some ⟨w.heap.size, 0, none⟩) (n + m) (grownCap w (n + m) old e)) (n + m) (xs ++ (Builtin.zeroCells z.cells m).toList) ∧
      w.grownBy (w.drew.alloc (.cells (xs.toArray ++ Builtin.zeroCells z.cells m ++ Builtin.zeroCells z.cells (grownCap w (n + m) old e - (n + m))) e)) row := by
    intro old ho row
    have hge := grownCap_ge w (n + m) old e
    have hcm : grownCap w (n + m) old e ≤ maxLen := grownCap_le_maxLen w (n + m) old e h63
    refine ⟨⟨hlen, .inr ⟨w.heap.size, _, _, rfl, Nat.zero_le _, heap_alloc_new w.drew _, hge, hcm, ?_, ?_⟩⟩, ⟨rfl, rfl, rfl, by simp, fun k hk _ => heap_alloc_old w.drew _ hk⟩⟩
    · simp only [Array.size_append, List.size_toArray, size_zeroCells, hzs, hown.1, ← Nat.add_mul]
      congr 1
      omega
    · simp only [Array.toList_append, List.append_assoc]
      rw [← List.append_assoc, ← hlen]
      exact List.take_left
  have h63' : ¬ (9223372036854775807 < ((n : Int) + (m : Int))) := by omega
  by_cases hm : m = 0
  · subst hm
    have hz0 : (Builtin.zeroCells z.cells 0).toList = [] := by simp [Builtin.zeroCells]
    have hw0 : IntKind.i64.wrap 0 = 0 := by rw [IntKind.wrap_i64]; omega
    rcases hown.2 with ⟨rfl, rfl⟩ | ⟨g, cap, cur, rfl, hbg, hg, hnc, hcm, hcs, htake⟩
    · exact ⟨_, w, by simp [Builtin.append_, run_underlying ht, run_underlying hti, sizeOf, typeInfo, hi, asInt, asIntOf, hw0], by rw [hz0]; simpa using hown, ⟨rfl, rfl, rfl, Nat.le_refl _, fun _ _ _ => rfl⟩, ⟨_, _, _, rfl⟩, fun b hb => .inl hb⟩
    · exact ⟨_, w, by simp [Builtin.append_, run_underlying ht, run_underlying hti, sizeOf, typeInfo, hi, asInt, asIntOf, hw0, hnc, storeCells], by rw [hz0]; simpa using hown, ⟨rfl, rfl, rfl, Nat.le_refl _, fun _ _ _ => rfl⟩, ⟨_, _, _, rfl⟩, fun b hb => .inl hb⟩
  have hne : ¬ (m * i.size = 0) := by
    have := Nat.mul_pos (show 0 < m by omega) hsz; omega
  have hs0 : ¬ (i.size = 0) := by omega
  rcases hown.2 with ⟨rfl, rfl⟩ | ⟨g, cap, cur, rfl, hbg, hg, hnc, hcm, hcs, htake⟩
  · have hx : xs = [] := List.eq_nil_of_length_eq_zero (by simpa using hown.1)
    subst hx
    have h48' : ¬ (281474976710656 < Builtin.nextslicecap m 0 * i.bytes) := by rw [nextslicecap_zero (by omega)]; omega
    have h63n : ¬ (9223372036854775807 < (m : Int)) := by omega
    have hr : (Builtin.append_ #[t, ti] ty #[.slice none 0 0, .int k2 m]).run P w = .ok (.slice (some ⟨w.heap.size, 0, none⟩) m (grownCap w m 0 e)) (w.drew.alloc (.cells (Builtin.zeroCells z.cells m ++ Builtin.zeroCells z.cells (grownCap w m 0 e - m)) e)) := by
      simp [Builtin.append_, run_underlying ht, run_underlying hti, sizeOf, typeInfo, zeroValue, hi, hz, asInt, asIntOf, hw, hneg, hfits, hm, hs0, h63n, h48', Question.forced, run_firstCells_none, newRow, grownCap]
      exact fun h => absurd h hne
    have hgr := grown 0 (by omega) (Value.ownBlock (.slice none 0 0))
    simp only [Nat.zero_add, List.nil_append, Array.empty_append] at hgr ⊢
    exact ⟨_, _, hr, hgr.1, hgr.2, ⟨_, _, _, rfl⟩, fun b hb => by simp [bk] at hb; right; omega⟩
  · by_cases hroom : n + m ≤ cap
    · have hfit : n * i.size + (Builtin.zeroCells z.cells m).toList.length ≤ cur.size := by rw [hl, hcs, ← Nat.add_mul]; exact Nat.mul_le_mul_right _ hroom
      have hst := run_storeCells_at P g (n * i.size) e (Builtin.zeroCells z.cells m).toList 0 cur w hg (by simpa using hfit) h1
      simp only [Nat.add_zero] at hst
      have hr : (Builtin.append_ #[t, ti] ty #[.slice (some ⟨g, 0, none⟩) n cap, .int k2 m]).run P w = .ok (.slice (some ⟨g, 0, none⟩) (n + m) cap) (w.setRow g (cur.toList.take (n * i.size) ++ (Builtin.zeroCells z.cells m).toList ++ cur.toList.drop (n * i.size + (Builtin.zeroCells z.cells m).toList.length)).toArray) := by
        simp [Builtin.append_, run_underlying ht, run_underlying hti, sizeOf, typeInfo, zeroValue, hi, hz, asInt, asIntOf, hw, hneg, hfits, hroom, hm, hs0, Addr.add_lit, hst]
        exact fun h => absurd h hne
      refine ⟨_, _, hr, ⟨hlen, .inr ⟨g, cap, _, rfl, hbg, setRow_heap w g cur _ e _ hg, hroom, hcm, ?_, ?_⟩⟩, ⟨rfl, rfl, rfl, by simp, fun k _ hk => setRow_other w g k _ (fun e => hk (by simp [Value.ownBlock, e]))⟩, ⟨_, _, _, rfl⟩, fun b hb => by simp [bk] at hb ⊢; exact .inl hb⟩
      · simp only [List.size_toArray, List.length_append, List.length_take, List.length_drop, Array.length_toList] at hfit ⊢
        omega
      · rw [htake, ← hlen]
        exact List.take_left
    · have holds : ∀ j u, xs[j]? = some u → w.cell? ((⟨g, 0, none⟩ : Addr).add j) = some u := hown.cells (g := g) rfl
      have hfo := run_firstCells_some (P := P) w.drew i.size n ⟨g, 0, none⟩ n cap xs hown.1 (by simpa using holds)
      have h48' : ¬ (281474976710656 < Builtin.nextslicecap (n + m) cap * i.bytes) := by
        have := growslice_fits (old := cap) (show cap < n + m by omega) hbytes; omega
      have hr : (Builtin.append_ #[t, ti] ty #[.slice (some ⟨g, 0, none⟩) n cap, .int k2 m]).run P w = .ok (.slice (some ⟨w.heap.size, 0, none⟩) (n + m) (grownCap w (n + m) cap e)) (w.drew.alloc (.cells (xs.toArray ++ Builtin.zeroCells z.cells m ++ Builtin.zeroCells z.cells (grownCap w (n + m) cap e - (n + m))) e)) := by
        simp [Builtin.append_, run_underlying ht, run_underlying hti, sizeOf, typeInfo, zeroValue, hi, hz, asInt, asIntOf, hw, hneg, hfits, hroom, hm, hs0, h63', h48', Question.forced, hfo, newRow, grownCap]
        exact fun h => absurd h hne
      have hgr := grown cap (by omega) (Value.ownBlock (.slice (some ⟨g, 0, none⟩) n cap))
      exact ⟨_, _, hr, hgr.1, hgr.2, ⟨_, _, _, rfl⟩, fun b hb => by simp [bk] at hb; right; omega⟩
end
/-- Append of made elements. -/
theorem app_outZ {P : Program} {X : Cx} {Z : Nat → Prop} {w : World} {θ : Nat → Value} {m : Nat → Option Blk} (hm : Mem X Z w θ m) {d : Nat} (hd : d + 1 ≠ 0) {t ti ty e : TypeId} {kk : IntKind} {i : TypeInfo} {zv : Value} (ht : P.underlying t = some (.slice e)) (hti : P.underlying ti = some (.int kk)) (hi : P.info? e = some i) (hz : i.zero = some zv)
    (hzs : zv.cells.size = i.size) (hsz : 0 < i.size) {z : List AV} (hzl : z.length = i.size) (hzc : constAVs zv.cells.toList = some z) {x y : AV} {vx vy : Value} (hx : Rep Z w θ x vx) (hy : Rep Z w θ y vy) {r : Res} (he : appZR m e i.bytes z d x y = some r) (hpre : ∀ q ∈ r.pre, q) :
    ∃ v' w' θ', (Builtin.append_ #[t, ti] ty #[vx, vy]).run P w = .ok v' w' ∧ Out X Z w θ m d r v' Z w' θ' := by
  unfold appZR at he
  split at he <;> try (cases he; done)
  rename_i id es t1 kv n hb
  simp only [Option.some.injEq] at he; subst he
  have h0n := hpre (0 ≤ n) (by simp)
  have h63 := hpre (es.length + n.toNat ≤ 9223372036854775807) (by simp)
  have hby := hpre ((es.length + n.toNat) * i.bytes ≤ 140737488355328) (by simp)
  obtain ⟨mm, rfl⟩ : ∃ mm : Nat, n = mm := ⟨n.toNat, by omega⟩
  simp only [Int.toNat_natCast] at h63 hby ⊢
  cases hy
  obtain ⟨hrows, ⟨xs, hown, hcx⟩, hid⟩ := base_spec hm hx hb
  have hzero : (Builtin.zeroCells zv.cells mm).toList = (List.replicate mm zv.cells.toList).flatten := by
    have := range_zero zv.cells.toList mm i.size (by rw [Array.length_toList, hzs]) (by omega)
    simp only [Builtin.zeroCells, hzs]
    simp only [Array.toArray_toList, hzs] at this
    rw [this]
  have hcn : Cells Z w th0 (List.replicate mm z).flatten (Builtin.zeroCells zv.cells mm).toList := by
    rw [hzero]; exact replicate_cells (constAVs_cells hzc).1 mm
  have hrows2 : ∀ q ∈ List.replicate mm z, q.length = z.length := fun q hq => by rw [(List.mem_replicate.1 hq).2]
  rw [hzl] at hown
  have hone : ∀ u ∈ (Builtin.zeroCells zv.cells mm).toList, u.oneCell' = true := hcn.one
  obtain ⟨v', w', hr, hown', hgb, ⟨a', n', c', hv'⟩, hblk⟩ := run_append_zat (P := P) w t ti ty e i zv kk kv ht hti hi hz hzs hsz vx es.length xs hown mm hone (by simp only [maxLen]; omega) hby
  have hnZ : ∀ b, bk v' = some b → ¬ Z b := by
    intro b hb' hzb
    rcases hblk b hb' with h | h
    · rcases hid with ⟨_, h0⟩ | ⟨_, _, _, h0⟩
      · rw [h0] at h; cases h
      · exact h0 b h hzb
    · have := hm.zlt b hzb; omega
  have hownX : ∀ b, bk v' = some b → X.w0.heap.size ≤ b := by
    intro b hb'
    rcases hblk b hb' with h | h
    · rcases hid with ⟨_, h0⟩ | ⟨h64, h0, h1, _⟩
      · rw [h0] at h; cases h
      · rcases hm.own id b h1 (by rw [h0]; exact h) with h | h
        · exact h
        · omega
    · have := hm.frame.size; omega
  -- the world goes on; the buffer is forgotten for a moment
  have hstep : ∃ m', Mem X Z w' θ m' ∧ Goes Z w Z w' ∧ (∀ k, k ≠ id → m' k = m k) := by
    rcases hid with ⟨_, h0⟩ | ⟨h64, h0, h1, h2⟩
    · have hno : vx.ownBlock = none := by
        cases hN : vx.ownBlock with
        | none => rfl
        | some k => rw [bk_own vx hN hown] at h0; cases h0
      obtain ⟨q1, q2⟩ := hm.stepW (w' := w') (m' := m) none (fun _ h => h) (fun _ h => .inl h) (fun b hb' => Nat.lt_of_lt_of_le (hm.zlt b hb') hgb.size) hgb.os hgb.tape hgb.output hgb.size (fun k hk _ => hgb.block k hk (by rw [hno]; simp)) (fun _ _ => rfl) (fun r h => by cases h)
      exact ⟨m, q1, q2, fun _ _ => rfl⟩
    · obtain ⟨q1, q2⟩ := hm.stepW (w' := w') (m' := updM m id none) (some id) (fun _ h => h) (fun _ h => .inl h) (fun b hb' => Nat.lt_of_lt_of_le (hm.zlt b hb') hgb.size) hgb.os hgb.tape hgb.output hgb.size
        (fun k hk hne => hgb.block k hk (by
          intro hk'
          have := bk_own vx hk'.symm hown
          exact hne id rfl (by rw [h0]; exact this)))
        (fun k hk => by have : k ≠ id := fun e => hk (by rw [e]); simp [updM, this])
        (fun k hk => by
          simp only [Option.some.injEq] at hk; subst hk
          exact ⟨h1, fun blk hblk => by simp [updM] at hblk⟩)
      exact ⟨_, q1, q2, fun k hk => by simp [updM, hk]⟩
  obtain ⟨m', hm', hg, hmm⟩ := hstep
  have h64 : 64 ≤ id := by
    rcases hid with ⟨h, _⟩ | ⟨h, _⟩
    · omega
    · exact h
  have hput := hm'.put1 id v' (.buf e z (es ++ List.replicate mm z)) h64 (by
      refine ⟨fun hz0 => ?_, ?_, xs ++ (Builtin.zeroCells zv.cells mm).toList, ?_, ?_, ?_⟩
      · rw [hz0] at hzl; simp at hzl; omega
      · intro q hq
        rcases List.mem_append.1 hq with hq | hq
        · exact hrows q hq
        · exact hrows2 q hq
      · simp only [if_true, List.length_append, List.length_replicate, hzl]
        exact hown'
      · intro b hb'
        simp only [if_true] at hb'
        exact hnZ b hb'
      · rw [List.flatten_append]
        exact (hcx.append hcn).step hg) (by
      intro r' blk' hne hr' b hb' hb2
      have hr0 : m r' = some blk' := by rw [← hmm r' hne]; exact hr'
      rcases hblk b hb' with h | h
      · rcases hid with ⟨_, h0⟩ | ⟨_, h0, h1, _⟩
        · rw [h0] at h; cases h
        · exact hne (hm.disj r' id b (by rw [hr0]; rfl) h1 hb2 (by rw [h0]; exact h))
      · have := hm.lt hr0 hb2; omega) hownX
  have heq : updM (killM id m') id (some (killB id (.buf e z (es ++ List.replicate mm z)))) = updM (killM id m) id (some (killB id (.buf e z (es ++ List.replicate mm z)))) := by
    funext k
    simp only [updM, killM]
    by_cases hk : k = id
    · simp [hk]
    · simp [hk, hmm k hk]
  rw [heq] at hput
  refine ⟨v', w', fun k => if k = id then v' else θ k, hr, ?_, hg, fun k hk => ?_, hput, by simp⟩
  · subst hv'
    exact .vw _ _ _ _ _ _ _ _ (by simp)
  · have := hk _ _ rfl
    simp [this]

end Go.Ev

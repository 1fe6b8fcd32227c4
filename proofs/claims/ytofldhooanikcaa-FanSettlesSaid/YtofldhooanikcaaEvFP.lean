/- A part of the proof: symbolic evaluation of the program's functions, proved sound against the model; no condition. -/
import Derived.Test.YtofldhooanikcaaEvFO
import Derived.Test.YtofldhooanikcaaEvFL
import Derived.Test.YtofldhooanikcaaEvM
namespace Go.Proofs.Ytofldhooanikcaa
open Go Go.RowKit Go.Ev
set_option linter.unusedSimpArgs false
set_option linter.unusedVariables false
set_option maxRecDepth 20000
theorem ex_u16s {es : List (List AV)} (h : ∀ r ∈ es, okAs [.int .u16] r) : ∃ l : List Int, es = u16s l ∧ ∀ k ∈ l, 0 ≤ k ∧ k ≤ 65535 := by
  refine ex_map (fun r hr => ?_)
  match r, h r hr with
  | [a], ⟨⟨n, ha, hw⟩, _⟩ =>
    subst ha
    exact ⟨n, rfl, bounds_u16 hw⟩
theorem ex_i64s {es : List (List AV)} (h : ∀ r ∈ es, okAs [.int .i64] r) : ∃ l : List Int, es = i64s l := by
  have key : ∀ r ∈ es, ∃ x : Int, r = [AV.int .i64 x] ∧ True := by
    intro r hr
    obtain ⟨n, _, rfl, _, k⟩ := un_int (h r hr)
    obtain rfl := okAs_unnil k
    exact ⟨n, rfl, trivial⟩
  obtain ⟨l, hl, _⟩ := ex_map key
  exact ⟨l, hl⟩
theorem ex_bls {es : List (List AV)} (h : ∀ r ∈ es, okAs [.bool] r) : ∃ l : List Bool, es = bls l := by
  have key : ∀ r ∈ es, ∃ x : Bool, r = [AV.bool x] ∧ True := by
    intro r hr
    obtain ⟨n, _, rfl, k⟩ := un_bool (h r hr)
    obtain rfl := okAs_unnil k
    exact ⟨n, rfl, trivial⟩
  obtain ⟨l, hl, _⟩ := ex_map key
  exact ⟨l, hl⟩
theorem zn_of {ys : List AV} (h : okAs [.sl [.int .u8], .int .i64, .int .i64, .int .i64, .int .i64, .int .i64, .int .i64] ys) : ∃ z : Zn, AV.agg ys = z.av := by
  obtain ⟨es, _, rfl, _, he, k0⟩ := un_sl h
  obtain ⟨L, rfl, _⟩ := ex_u8s he
  obtain ⟨t, _, rfl, _, k1⟩ := un_int k0
  obtain ⟨g, _, rfl, _, k2⟩ := un_int k1
  obtain ⟨i, _, rfl, _, k3⟩ := un_int k2
  obtain ⟨l, _, rfl, _, k4⟩ := un_int k3
  obtain ⟨m, _, rfl, _, k5⟩ := un_int k4
  obtain ⟨s, _, rfl, _, k6⟩ := un_int k5
  obtain rfl := okAs_unnil k6
  exact ⟨⟨L, t, g, i, l, m, s⟩, rfl⟩
theorem sp_of {ys : List AV} (h : okAs [.int .i64, .int .i64] ys) : ∃ s : Sp, AV.agg ys = s.av := by
  obtain ⟨t, _, rfl, _, k1⟩ := un_int h
  obtain ⟨b, _, rfl, _, k2⟩ := un_int k1
  obtain rfl := okAs_unnil k2
  exact ⟨⟨t, b⟩, rfl⟩
end Go.Proofs.Ytofldhooanikcaa

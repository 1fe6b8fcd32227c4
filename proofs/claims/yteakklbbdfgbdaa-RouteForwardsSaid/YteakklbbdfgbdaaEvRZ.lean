/- A part of the proof: symbolic evaluation of the program's functions, proved sound against the model; no condition. -/
import Derived.Test.YteakklbbdfgbdaaEvRJ
import Derived.Test.YteakklbbdfgbdaaEvRV
namespace Go.Proofs.Yteakklbbdfgbdaa
open Go Go.RowKit Go.Ev
set_option linter.unusedSimpArgs false
set_option linter.unusedVariables false
set_option maxRecDepth 20000
/-- What a law keeps while it looks at one endpoint: the network, the position in the codes, the endpoint, the bus at the beginning. -/
structure C4 where
  m : Nt
  a : Int
  i : Nat
  u : Int
  hv : vl m = 0
  ha : 0 ≤ a
  hi : i < m.es.length
  hu : 0 ≤ u ∧ u < m.N
def C4.x (c : C4) : Ep := c.m.es.getD c.i e0
def C4.O (c : C4) : List Int := nxO c.m c.x.id
def C4.l (c : C4) : List Int := ptL c.m c.u c.x.id
/-- Behind j bridges of the path. -/
structure At (c : C4) (j : Nat) (u : Int) : Prop where
  e : nxE c.m u c.x.id = 0
  d : nat c.O u + j = nat c.O c.u
  w : way c.m c.x.id (nat c.O u).toNat u = c.l.drop j
theorem way_len (m : Nt) (id : Int) : ∀ (k : Nat) (u : Int), (way m id k u).length = k
  | 0, _ => rfl
  | k + 1, u => by rw [way, List.length_cons, way_len m id k]
namespace C4
variable (c : C4)
theorem ok : Ok c.m := vl_ok c.hv
theorem xe : c.x = epF c.m.es c.x.id ∧ epK c.m.es c.x.id = true := ep_eq c.ok c.hi (decide_eq_true rfl)
theorem Oe : c.O = ds c.m.N.toNat c.m.bs c.x.bu := by unfold C4.O nxO; rw [← c.xe.1]
theorem bu : 0 ≤ c.x.bu ∧ c.x.bu < c.m.N := by
  have hN := c.ok.N
  have := c.ok.x _ (epF_mem c.xe.2)
  rw [← c.xe.1] at this
  unfold In at this
  omega
theorem nx {u : Int} (hu : 0 ≤ u ∧ u < c.m.N) : nxE c.m u c.x.id = far (nat c.O u) := by
  rw [nxE, if_neg (by rw [c.hv]; simp), if_neg (by omega), if_neg (by rw [c.xe.2]; simp)]; rfl
theorem dse {u : Int} (hu : 0 ≤ u ∧ u < c.m.N) : dsE c.m u c.x.bu = nxE c.m u c.x.id := by
  have hN := c.ok.N
  have hb := c.bu
  rw [c.nx hu, dsE, if_neg (by rw [c.hv]; simp), if_neg (by omega), c.Oe, ds_symm c.ok.v (x := u) (y := c.x.bu) ⟨by omega, by omega⟩ ⟨by omega, by omega⟩]
theorem dsv {u : Int} (hu : 0 ≤ u ∧ u < c.m.N) : dsV c.m u c.x.bu = if nxE c.m u c.x.id = 0 then nat c.O u else 0 := by
  have hN := c.ok.N
  have hb := c.bu
  rw [dsV, c.dse hu, c.Oe, ds_symm c.ok.v (x := u) (y := c.x.bu) ⟨by omega, by omega⟩ ⟨by omega, by omega⟩]
theorem len (h : nxE c.m c.u c.x.id = 0) : (c.l.length : Int) = nat c.O c.u := by
  have := (nx_0 h).2.2.2.2.1
  have e : c.l = way c.m c.x.id (nat c.O c.u).toNat c.u := by unfold C4.l ptL; rw [if_neg (by rw [h]; simp)]; rfl
  rw [e, way_len]
  show (((nat c.O c.u).toNat : Nat) : Int) = nat c.O c.u
  have h2 : 0 ≤ nat c.O c.u := this
  omega
theorem l0 (h : nxE c.m c.u c.x.id ≠ 0) : c.l = [] := by unfold C4.l ptL; rw [if_pos h]
theorem at0 (h : nxE c.m c.u c.x.id = 0) : At c 0 c.u := by
  refine ⟨h, by omega, ?_⟩
  unfold C4.l ptL
  rw [if_neg (by rw [h]; simp)]; rfl
end C4
namespace At
variable {c : C4} {j : Nat} {u : Int} (A : At c j u)
include A
theorem inn : 0 ≤ u ∧ u < c.m.N := by
  have hN := c.ok.N
  have := (nx_0 A.e).2.1
  unfold In at this
  omega
theorem nn : 0 ≤ nat c.O u := (nx_0 A.e).2.2.2.2.1
theorem fin (h : nat c.O u = 0) : u = c.x.bu ∧ nxI c.m u c.x.id = -1 ∧ nxA c.m u c.x.id = c.x.ad := by
  have hN := c.ok.N
  have hb := c.bu
  have hu := A.inn
  refine ⟨?_, ?_, ?_⟩
  · have := (ds_isD c.ok.v (x := c.x.bu) (y := u) ⟨by omega, by omega⟩ ⟨by omega, by omega⟩).zero
    rw [← c.Oe] at this
    exact (this.1 h).symm
  · rw [nxI, if_neg (by rw [A.e]; simp)]; exact if_pos h
  · rw [nxA, if_neg (by rw [A.e]; simp), if_pos (show nat (nxO c.m c.x.id) u = 0 from h), ← c.xe.1]
theorem next (h : nat c.O u ≠ 0) : ∃ b : Nat, b < c.m.bs.length ∧ nxI c.m u c.x.id = (b : Int) ∧ nxA c.m u c.x.id = (c.m.bs.getD b b0).ad ∧ c.l.getD j 0 = (b : Int) ∧ sdK (c.m.bs.getD b b0) u = true ∧ At c (j + 1) (sdV (c.m.bs.getD b b0) u) ∧ nat c.O (sdV (c.m.bs.getD b b0) u) = nat c.O u - 1 := by
  obtain ⟨h1, h2, h3, h4⟩ := nx_s A.e (show nat (nxO c.m c.x.id) u ≠ 0 from h)
  have hn := A.nn
  refine ⟨hop c.m.bs c.O u, h1, ?_, ?_, ?_, h2, ⟨h4, ?_, ?_⟩, h3⟩
  · rw [nxI, if_neg (by rw [A.e]; simp)]; exact if_neg h
  · rw [nxA, if_neg (by rw [A.e]; simp)]; exact if_neg h
  · have w := A.w
    obtain ⟨k, hk⟩ : ∃ k, (nat c.O u).toNat = k + 1 := ⟨(nat c.O u).toNat - 1, by omega⟩
    rw [hk, way] at w
    have := congrArg (fun q => q.getD 0 0) w
    have h5 : (c.l.drop j).getD 0 0 = c.l.getD j 0 := by simp [List.getD_eq_getElem?_getD, List.getElem?_drop]
    rw [← h5]
    exact this.symm
  · have h3' : nat c.O (sdV (c.m.bs.getD (hop c.m.bs c.O u) b0) u) = nat c.O u - 1 := h3
    have := A.d
    rw [h3']; omega
  · have w := A.w
    obtain ⟨k, hk⟩ : ∃ k, (nat c.O u).toNat = k + 1 := ⟨(nat c.O u).toNat - 1, by omega⟩
    have h3' : nat c.O (sdV (c.m.bs.getD (hop c.m.bs c.O u) b0) u) = nat c.O u - 1 := h3
    rw [hk, way] at w
    rw [h3', show (nat c.O u - 1).toNat = k by omega, ← List.drop_drop, List.drop_one, ← w]
    · rfl
end At
end Go.Proofs.Yteakklbbdfgbdaa

/- A part of the proof: symbolic evaluation of the program's functions, proved sound against the model; no condition. -/
import Derived.Test.YteakklbbdfgbdaaEvS
namespace Go.Ev
open Go Go.RowKit
theorem getE_map {α : Type} (z : List AV) (enc : α → List AV) (d : α) (hd : enc d = z) (l : List α) (i : Nat) : getE z (l.map enc) i = enc (l.getD i d) := by
  simp only [getE, List.getD_eq_getElem?_getD, List.getElem?_map]
  cases l[i]? <;> simp [hd]
/-- A row of bytes. -/
def u8s (l : List Int) : List (List AV) := l.map fun k => [AV.int .u8 k]
theorem u8s_len (l : List Int) : (u8s l).length = l.length := by simp [u8s]
theorem getE_u8 (l : List Int) (i : Nat) : getE [.int .u8 0] (u8s l) i = [.int .u8 (l.getD i 0)] := getE_map _ (fun k => [AV.int .u8 k]) 0 rfl l i
/-- A row of ints. -/
def i64s (l : List Int) : List (List AV) := l.map fun k => [AV.int .i64 k]
theorem i64s_len (l : List Int) : (i64s l).length = l.length := by simp [i64s]
theorem getE_i64 (l : List Int) (i : Nat) : getE [.int .i64 0] (i64s l) i = [.int .i64 (l.getD i 0)] := getE_map _ (fun k => [AV.int .i64 k]) 0 rfl l i
/-- The bounds of an element. -/
theorem getD_all {p : Int → Prop} {l : List Int} (h : ∀ k ∈ l, p k) (h0 : p 0) (i : Nat) : p (l.getD i 0) := by
  rw [List.getD_eq_getElem?_getD]
  cases e : l[i]? with
  | none => exact h0
  | some v => exact h v (List.mem_of_getElem? e)
theorem wr_in (n : Int) (h1 : -9223372036854775808 ≤ n) (h2 : n ≤ 9223372036854775807) : IntKind.i64.wrap n = n := by rw [IntKind.wrap_i64]; omega
theorem wr_u8 (n : Int) (h1 : 0 ≤ n) (h2 : n ≤ 255) : IntKind.u8.wrap n = n := by rw [IntKind.wrap_u8]; omega
theorem wr_u16 (n : Int) (h1 : 0 ≤ n) (h2 : n ≤ 65535) : IntKind.u16.wrap n = n := by rw [IntKind.wrap_u16]; omega
theorem wr_u32 (n : Int) (h1 : 0 ≤ n) (h2 : n ≤ 4294967295) : IntKind.u32.wrap n = n := by rw [IntKind.wrap_u32]; omega
theorem tmod_nn (a b : Int) (h : 0 ≤ a) : a.tmod b = a % b := Int.tmod_eq_emod_of_nonneg h
theorem AV.bool_inj' {a b : Bool} (h : a = b) : AV.bool a = AV.bool b := by rw [h]
theorem AV.int_inj' {k : IntKind} {a b : Int} (h : a = b) : AV.int k a = AV.int k b := by rw [h]
/-- Contracts, as a list. -/
def Phis : List (Nat × Ctr) → Nat → Option Ctr
  | [], _ => none
  | (n, c) :: l, f => if f = n then some c else Phis l f
theorem phis_nil {P : Program} : ∀ f C, Phis [] f = some C → Sound P f C := fun _ _ h => by cases h
theorem phis_cons {P : Program} {n : Nat} {c : Ctr} {l : List (Nat × Ctr)} (h : Sound P n c) (k : ∀ f C, Phis l f = some C → Sound P f C) : ∀ f C, Phis ((n, c) :: l) f = some C → Sound P f C := by
  intro f C hf
  simp only [Phis] at hf
  split at hf
  · rename_i e; cases hf; subst e; exact h
  · exact k f C hf
end Go.Ev

/- A part of the proof: symbolic evaluation of the program's functions, proved sound against the model; no condition. -/
import Derived.Test.YteakklbbdfgbdaaEvY
import Derived.Test.YteakklbbdfgbdaaEvM
namespace Go.Ev
open Go Go.RowKit
set_option linter.unusedSimpArgs false
/-! Lists of bytes, of ints, of bools; what is common to the chapters. -/
abbrev W (n : Int) : Int := IntKind.i64.wrap n
def noI : Nat → LI := fun _ => ⟨Unit, fun _ => ⟨[], []⟩, fun _ => 0, fun _ _ => True⟩
def decU (es : List (List AV)) : List Int := es.map fun e => match e with
  | [.int _ n] => n
  | _ => 0
theorem decU_u8s (l : List Int) : decU (u8s l) = l := by
  simp only [decU, u8s, List.map_map]
  exact (List.map_congr_left fun _ _ => rfl).trans (List.map_id l)
theorem decI_i64s (l : List Int) : decU (i64s l) = l := by
  simp only [decU, i64s, List.map_map]
  exact (List.map_congr_left fun _ _ => rfl).trans (List.map_id l)
def bls (l : List Bool) : List (List AV) := l.map fun b => [AV.bool b]
def decB (es : List (List AV)) : List Bool := es.map fun e => match e with
  | [.bool b] => b
  | _ => false
theorem decB_bls (l : List Bool) : decB (bls l) = l := by
  simp only [decB, bls, List.map_map]
  exact (List.map_congr_left fun _ _ => rfl).trans (List.map_id l)
theorem bls_len (l : List Bool) : (bls l).length = l.length := by simp [bls]
theorem getE_bl (l : List Bool) (i : Nat) : getE [.bool false] (bls l) i = [.bool (l.getD i false)] := getE_map _ (fun k => [AV.bool k]) false rfl l i
theorem decU_nil : decU [] = [] := rfl
theorem decU_cons (k : IntKind) (n : Int) (es : List (List AV)) : decU ([.int k n] :: es) = n :: decU es := rfl
theorem getE_lit0 (z e : List AV) (es : List (List AV)) : getE z (e :: es) 0 = e := rfl
theorem getE_lit1 (z e f : List AV) (es : List (List AV)) : getE z (e :: f :: es) 1 = f := rfl
theorem getE_lit2 (z e f g : List AV) (es : List (List AV)) : getE z (e :: f :: g :: es) 2 = g := rfl
theorem getE_lit3 (z e f g h : List AV) (es : List (List AV)) : getE z (e :: f :: g :: h :: es) 3 = h := rfl
theorem getE_lit4 (z e f g h i : List AV) (es : List (List AV)) : getE z (e :: f :: g :: h :: i :: es) 4 = i := rfl
theorem u8s_app (a b : List Int) : u8s (a ++ b) = u8s a ++ u8s b := by simp [u8s]
theorem i64s_app (a b : List Int) : i64s (a ++ b) = i64s a ++ i64s b := by simp [i64s]
theorem u8s_join (a b : List Int) : u8s a ++ u8s b = u8s (a ++ b) := by simp [u8s]
theorem i64s_join (a b : List Int) : i64s a ++ i64s b = i64s (a ++ b) := by simp [i64s]
theorem u8s_take (l : List Int) (n : Nat) : (u8s l).take n = u8s (l.take n) := by simp [u8s]
theorem u8s_drop (l : List Int) (n : Nat) : (u8s l).drop n = u8s (l.drop n) := by simp [u8s]
theorem i64s_take (l : List Int) (n : Nat) : (i64s l).take n = i64s (l.take n) := by simp [i64s]
theorem i64s_drop (l : List Int) (n : Nat) : (i64s l).drop n = i64s (l.drop n) := by simp [i64s]
theorem u8s_set (l : List Int) (i : Nat) (k : Int) : (u8s l).set i [.int .u8 k] = u8s (l.set i k) := by simp [u8s, List.map_set]
theorem u8s_nil : u8s [] = [] := rfl
theorem i64s_nil : i64s [] = [] := rfl
theorem u8s_snoc (l : List Int) (k : Int) : u8s l ++ [[AV.int .u8 k]] = u8s (l ++ [k]) := by simp [u8s]
theorem u8s_snoc2 (l : List Int) (k j : Int) : u8s l ++ [[AV.int .u8 k], [AV.int .u8 j]] = u8s (l ++ [k, j]) := by simp [u8s]
theorem i64s_snoc (l : List Int) (k : Int) : i64s l ++ [[AV.int .i64 k]] = i64s (l ++ [k]) := by simp [i64s]
theorem u8s_inj {a b : List Int} (h : u8s a = u8s b) : a = b := by rw [← decU_u8s a, h, decU_u8s]
theorem i64s_inj {a b : List Int} (h : i64s a = i64s b) : a = b := by rw [← decI_i64s a, h, decI_i64s]
/-- The bytes of a list. -/
def b8 (l : List Int) : List UInt8 := l.map fun k => UInt8.ofNat k.toNat
theorem bytesOf_u8s (l : List Int) : bytesOf (u8s l) = b8 l := by
  simp only [bytesOf, u8s, b8, List.map_map]; rfl
theorem ByteE_u8s (l : List Int) : ByteE (u8s l) = True := by
  simp only [ByteE, u8s, List.mem_map, eq_iff_iff, iff_true]
  rintro e ⟨k, _, rfl⟩
  exact ⟨k, rfl⟩
def Okb (L : List Int) : Prop := ∀ k ∈ L, 0 ≤ k ∧ k ≤ 255
theorem Okb.nil : Okb [] := fun _ h => by cases h
theorem Okb.app {a b : List Int} (ha : Okb a) (hb : Okb b) : Okb (a ++ b) := fun k hk => (List.mem_append.1 hk).elim (ha k) (hb k)
theorem Okb.cons {a : Int} {b : List Int} (ha : 0 ≤ a ∧ a ≤ 255) (hb : Okb b) : Okb (a :: b) := fun k hk => (List.mem_cons.1 hk).elim (fun e => e ▸ ha) (hb k)
theorem Okb.take {a : List Int} (h : Okb a) (n : Nat) : Okb (a.take n) := fun k hk => h k (List.mem_of_mem_take hk)
theorem Okb.drop {a : List Int} (h : Okb a) (n : Nat) : Okb (a.drop n) := fun k hk => h k (List.mem_of_mem_drop hk)
theorem Okb.getD {a : List Int} (h : Okb a) (i : Nat) : 0 ≤ a.getD i 0 ∧ a.getD i 0 ≤ 255 := getD_all (p := fun k => 0 ≤ k ∧ k ≤ 255) h (by decide) i
theorem b8_inj : ∀ {a b : List Int}, Okb a → Okb b → b8 a = b8 b → a = b
  | [], [], _, _, _ => rfl
  | [], _ :: _, _, _, h => by cases h
  | _ :: _, [], _, _, h => by cases h
  | x :: a, y :: b, ha, hb, h => by
    simp only [b8, List.map_cons, List.cons.injEq] at h
    have hx := ha x (by simp)
    have hy := hb y (by simp)
    have e1 : x = y := by
      have := congrArg UInt8.toNat h.1
      simp only [UInt8.toNat_ofNat', Nat.reducePow] at this
      omega
    have e2 := b8_inj (a := a) (b := b) (fun k hk => ha k (by simp [hk])) (fun k hk => hb k (by simp [hk])) h.2
    rw [e1, e2]
theorem b8_dec {a b : List Int} (ha : Okb a) (hb : Okb b) : decide (b8 a = b8 b) = decide (a = b) := by
  by_cases h : a = b
  · subst h; simp
  · have : ¬ b8 a = b8 b := fun e => h (b8_inj ha hb e)
    simp [h, this]
theorem b8_len (l : List Int) : (b8 l).length = l.length := by simp [b8]
/-- A string's bytes as a list. -/
theorem bytesE_u8s (s : List UInt8) : bytesE s = u8s (s.map fun b => (b.toNat : Int)) := by
  simp only [bytesE, u8s, List.map_map]; rfl
theorem take_snoc {α : Type} (l : List α) (d : α) (i : Nat) (h : i < l.length) : l.take (i + 1) = l.take i ++ [l.getD i d] := by
  rw [List.take_add_one, List.getD_eq_getElem?_getD, List.getElem?_eq_getElem h]; rfl
theorem drop_cons {α : Type} (l : List α) (d : α) (i : Nat) (h : i < l.length) : l.drop i = l.getD i d :: l.drop (i + 1) := by
  rw [List.drop_eq_getElem_cons h, List.getD_eq_getElem?_getD, List.getElem?_eq_getElem h]; rfl
/-- The loop's counter goes on. -/
theorem wr_succ (i : Nat) (h : (i : Int) < 9223372036854775807) : IntKind.i64.wrap ((i : Int) + 1) = ((i + 1 : Nat) : Int) := by rw [wr_in _ (by omega) (by omega)]; omega
/-- A contract of a function that hands back nothing of its caller's, as an outcome of a family of one. -/
theorem ext_of_mk {P : Program} {f : FuncId} {C : List AV → List AV → Option (Prop × AV × List AV)} {D : List AV → List AV → Option (Prop × (Unit → Prop × AV × List AV))} (h : Sound P f (.mk false C))
    (hd : ∀ xs q g, D [] xs = some (q, g) → ∃ r cs', C [] xs = some (q, r, cs') ∧ g () = (True, r, []) ∧ told2 r = r ∧ frs2 r = []) : Sound P f (.ext false Unit D) := by
  intro Z w xs vs q g hz hr hD hq
  obtain ⟨r, cs', hC, hg, h1, h2⟩ := hd xs q g hD
  refine (h Z w xs vs q r cs' hz hr hC hq).mono ?_
  rintro e w' ⟨v, Z', he, hF, hG, hR⟩
  refine ⟨(), v, Z', th0, by rw [hg]; trivial, he, hF, hG, by rw [hg]; show Rep Z' w' th0 (told2 r) v; rw [h1]; exact hR, ?_⟩
  rw [hg]
  show FrOK Z' w w' th0 (frs2 r)
  rw [h2]
  exact ⟨fun j b h => (by cases h), fun j b h => (by cases h), fun j b j' b' h => (by cases h)⟩
theorem ex_i64s {es : List (List AV)} (h : ∀ r ∈ es, okAs [.int .i64] r) : ∃ l : List Int, es = i64s l := by
  have key : ∀ r ∈ es, ∃ x : Int, r = [AV.int .i64 x] ∧ True := by
    intro r hr
    obtain ⟨n, _, rfl, _, k⟩ := un_int (h r hr)
    obtain rfl := okAs_unnil k
    exact ⟨n, rfl, trivial⟩
  obtain ⟨l, hl, _⟩ := ex_map key
  exact ⟨l, hl⟩
theorem ex_bls {es : List (List AV)} (h : ∀ r ∈ es, okAs [.bool] r) : ∃ l : List Bool, es = bls l := by
  have key : ∀ r ∈ es, ∃ x : Bool, r = [AV.bool x] ∧ True := by
    intro r hr
    obtain ⟨n, _, rfl, k⟩ := un_bool (h r hr)
    obtain rfl := okAs_unnil k
    exact ⟨n, rfl, trivial⟩
  obtain ⟨l, hl, _⟩ := ex_map key
  exact ⟨l, hl⟩
/-- A function that hands back one slice of its own. -/
theorem own_of_ext {P : Program} {f : FuncId} {T : Nat} {z : List AV} {fn : List AV → Option (Prop × List (List AV))} {D : List AV → List AV → Option (Prop × (Unit → Prop × AV × List AV))} (h : Sound P f (.ext false Unit D))
    (hd : ∀ xs q es, fn xs = some (q, es) → ∃ g, D [] xs = some (q, g) ∧ g () = (True, .fr 0 T z es, [])) : Sound P f (.own T z fn) := by
  intro Z w xs vs q es hz hr hf hq
  obtain ⟨g, hD, hg⟩ := hd xs q es hf
  refine (h Z w xs vs q g hz hr hD hq).mono ?_
  rintro e w' ⟨_, v, Z', θ, _, he, hF, hG, hR, hO⟩
  rw [hg] at hR hO
  refine ⟨v, Z', he, hF, hG, ?_⟩
  have hR : Rep Z' w' θ (.vw 0 0 0 0) v := hR
  have h0 := hO.rep 0 (.buf T z es) (by simp [frs2, frs1, frs0])
  have h1 := hO.new 0 (.buf T z es) (by simp [frs2, frs1, frs0])
  obtain ⟨hz0, hrows, us, hown, hnz, hc⟩ := h0
  cases hR with
  | vw _ _ _ _ _ a n c hθ =>
    rw [hθ] at hown h1 hnz
    exact ⟨hz0, hrows, ⟨_, _, _, rfl⟩, fun b hb => ⟨h1 b hb, hnz b hb⟩, us, hown, hc⟩
end Go.Ev

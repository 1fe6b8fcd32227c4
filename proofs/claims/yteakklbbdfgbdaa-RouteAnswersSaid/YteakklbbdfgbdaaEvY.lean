/- A part of the proof: symbolic evaluation of the program's functions, proved sound against the model; no condition. -/
import Derived.Test.YteakklbbdfgbdaaEvV
import Derived.Test.YteakklbbdfgbdaaEvU
namespace Go.Ev
open Go Go.RowKit
/-! The soundness of a contract, where the loops' invariants may depend on the arguments. -/
open Classical in
theorem sound_pureI {P : Program} {Φ : Nat → Option Ctr} (hmix : P.follows .mixedOrders = true) (hΦ : ∀ f C, Φ f = some C → Sound P f C) {f : FuncId} {fn : Func} (hf : P.funcs[f]? = some fn) {c : Code} (hb : fn.body = some c) {rc : RC} (hc : comp P fn.ntmps c = some (erase rc)) {rv : List RV} (hr : compRes P fn.results.toList = some rv)
    {C : List AV → List AV → Option (Prop × AV × List AV)}
    (h : ∀ (xs : List AV) (q : Prop) (r : AV) (cs' : List AV), C [] xs = some (q, r, cs') → q → ∃ I : Nat → LI, r.clean2 = true ∧ xs.length ≤ fn.ntmps ∧ evC Φ I rc ⟨initS xs, initM false []⟩ (kRet rv r false [])) : Sound P f (.mk false C) := by
  intro Z w xs vs q r cs' hz hreps hC hq
  obtain ⟨I, h3⟩ := h xs q r cs' hC hq
  have key : Sound P f (.mk false fun _ ys => if ys = xs then some (q, r, cs') else none) := sound_pure hmix hΦ I hf hb hc hr (by
    intro ys q2 r2 cs2 e _
    split at e
    · rename_i e2; subst e2; cases e; exact h3
    · cases e)
  exact key Z w xs vs q r cs' hz hreps (by simp) hq
open Classical in
theorem sound_stateI {P : Program} {Φ : Nat → Option Ctr} (hmix : P.follows .mixedOrders = true) (hΦ : ∀ f C, Φ f = some C → Sound P f C) {f : FuncId} {fn : Func} (hf : P.funcs[f]? = some fn) {c : Code} (hb : fn.body = some c) {rc : RC} (hc : comp P fn.ntmps c = some (erase rc)) {rv : List RV} (hr : compRes P fn.results.toList = some rv)
    {C : List AV → List AV → Option (Prop × AV × List AV)}
    (h : ∀ (cs xs : List AV) (q : Prop) (r : AV) (cs' : List AV), C cs xs = some (q, r, cs') → q → ∃ I : Nat → LI, r.clean2 = true ∧ cs'.all AV.clean0 = true ∧ xs.length + 1 ≤ fn.ntmps ∧ evC Φ I rc ⟨initS (.ptr 0 0 :: xs), initM true cs⟩ (kRet rv r true cs')) : Sound P f (.mk true C) := by
  intro Z w b T cs us xs vs q r cs' hz hheap hnZ hcells hreps hC hq
  obtain ⟨I, h3⟩ := h cs xs q r cs' hC hq
  have key : Sound P f (.mk true fun ds ys => if ds = cs ∧ ys = xs then some (q, r, cs') else none) := sound_state hmix hΦ I hf hb hc hr (by
    intro ds ys q2 r2 cs2 e _
    split at e
    · rename_i e2; obtain ⟨rfl, rfl⟩ := e2; cases e; exact h3
    · cases e)
  exact key Z w b T cs us xs vs q r cs' hz hheap hnZ hcells hreps (by simp) hq
open Classical in
theorem soundX_pureI {P : Program} {Φ : Nat → Option Ctr} (hmix : P.follows .mixedOrders = true) (hΦ : ∀ f C, Φ f = some C → Sound P f C) {f : FuncId} {fn : Func} (hf : P.funcs[f]? = some fn) {c : Code} (hb : fn.body = some c) {rc : RC} (hc : comp P fn.ntmps c = some (erase rc)) {rv : List RV} (hr : compRes P fn.results.toList = some rv)
    {ι : Type} {C : List AV → List AV → Option (Prop × (ι → Prop × AV × List AV))}
    (h : ∀ (xs : List AV) (q : Prop) (g : ι → Prop × AV × List AV), C [] xs = some (q, g) → q → ∃ I : Nat → LI, xs.length ≤ fn.ntmps ∧ evC Φ I rc ⟨initS xs, initM false []⟩ (kRetX rv false g)) : Sound P f (.ext false ι C) := by
  intro Z w xs vs q g hz hreps hC hq
  obtain ⟨I, h3⟩ := h xs q g hC hq
  have key : Sound P f (.ext false ι fun _ ys => if ys = xs then some (q, g) else none) := soundX_pure hmix hΦ I hf hb hc hr (by
    intro ys q2 g2 e _
    split at e
    · rename_i e2; subst e2; cases e; exact h3
    · cases e)
  exact key Z w xs vs q g hz hreps (by simp) hq
open Classical in
theorem soundX_stateI {P : Program} {Φ : Nat → Option Ctr} (hmix : P.follows .mixedOrders = true) (hΦ : ∀ f C, Φ f = some C → Sound P f C) {f : FuncId} {fn : Func} (hf : P.funcs[f]? = some fn) {c : Code} (hb : fn.body = some c) {rc : RC} (hc : comp P fn.ntmps c = some (erase rc)) {rv : List RV} (hr : compRes P fn.results.toList = some rv)
    {ι : Type} {C : List AV → List AV → Option (Prop × (ι → Prop × AV × List AV))}
    (h : ∀ (cs xs : List AV) (q : Prop) (g : ι → Prop × AV × List AV), C cs xs = some (q, g) → q → ∃ I : Nat → LI, (∀ i, (g i).1 → (g i).2.2.all AV.clean0 = true) ∧ xs.length + 1 ≤ fn.ntmps ∧ evC Φ I rc ⟨initS (.ptr 0 0 :: xs), initM true cs⟩ (kRetX rv true g)) : Sound P f (.ext true ι C) := by
  intro Z w b T cs us xs vs q g hz hheap hnZ hcells hreps hC hq
  obtain ⟨I, h3⟩ := h cs xs q g hC hq
  have key : Sound P f (.ext true ι fun ds ys => if ds = cs ∧ ys = xs then some (q, g) else none) := soundX_state hmix hΦ I hf hb hc hr (by
    intro ds ys q2 g2 e _
    split at e
    · rename_i e2; obtain ⟨rfl, rfl⟩ := e2; cases e; exact h3
    · cases e)
  exact key Z w b T cs us xs vs q g hz hheap hnZ hcells hreps (by simp) hq
end Go.Ev

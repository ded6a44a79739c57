/- The program's types, opened: changes, graphs. -/
import Derived.Test.YtlhfajmcnbcabaaO2
import Derived.Test.YtlhfajmcnbcabaaProg
set_option linter.unusedVariables false
set_option linter.unusedSimpArgs false
namespace Go.Proofs.Ytlhfajmcnbcabaa
open Go Go.Fw Go.Deep
theorem Opens.mono {P : Program} {t : TypeId} {p q : List T → Prop} (h : Opens P t p) (hq : ∀ ts, p ts → q ts) : Opens P t q := by
  intro H enc w base spare held fuel cs x h1 h2
  obtain ⟨ts, h3, h4⟩ := h _ _ _ _ _ _ _ _ _ h1 h2
  exact ⟨ts, hq _ h3, h4⟩
def cellI (c : T) : Prop := ∃ n, c = tI n
def cellS (c : T) : Prop := ∃ n, c = tS n
def cellR {α : Type} [Inhabited α] (sz : Nat) (E : α → List T) (c : T) : Prop := ∃ l : List α, c = rowsOf sz E l
theorem cell_I : Opens Try.prog 3 (fun ts => ∃ c, ts = [c] ∧ cellI c) := (Opens.int Try.underlying3).mono fun ts ⟨n, h⟩ => ⟨_, h, n, rfl⟩
theorem cell_S : Opens Try.prog 9 (fun ts => ∃ c, ts = [c] ∧ cellS c) := (Opens.string Try.underlying9).mono fun ts ⟨n, h⟩ => ⟨_, h, n, rfl⟩
theorem cell_R {α : Type} [Inhabited α] {t e : TypeId} {sz : Nat} {E : α → List T} (ht : Try.prog.underlying t = some (.slice e)) (hc : Try.prog.cellsOf e = sz) (hz : 0 < sz) (hb : 1 ≤ Try.prog.bytesOf e) (hE : ∀ a, (E a).length = sz)
    (he : Opens Try.prog e (fun ts => ∃ a, ts = E a)) : Opens Try.prog t (fun ts => ∃ c, ts = [c] ∧ cellR sz E c) := (Opens.slice ht hc hz hb hE he).mono fun ts ⟨n, h⟩ => ⟨_, h, n, rfl⟩
theorem open_int1 : Opens Try.prog 3 (fun ts => ∃ a, ts = eInt a) := Opens.int Try.underlying3
theorem open_pair : Opens Try.prog 80 (fun ts => ∃ a, ts = ePair a) := Opens.pair Try.underlying80 (by kernel_rfl) (by kernel_rfl) Try.underlying3
theorem cell_26 : Opens Try.prog 26 (fun ts => ∃ c, ts = [c] ∧ cellR 1 eInt c) := cell_R (sz := 1) Try.underlying26 (by kernel_rfl) (by decide) (Nat.le_of_ble_eq_true (by kernel_rfl)) (fun _ => rfl) open_int1
theorem cell_72 : Opens Try.prog 72 (fun ts => ∃ c, ts = [c] ∧ cellR 2 ePair c) := cell_R (sz := 2) Try.underlying72 (by kernel_rfl) (by decide) (Nat.le_of_ble_eq_true (by kernel_rfl)) (fun _ => rfl) open_pair
theorem open_chg : Opens Try.prog 74 (fun ts => ∃ c, ts = eChg c) := by
  refine (Opens.cells (ps := [cellR 1 eInt, cellR 1 eInt, cellR 2 ePair, cellR 1 eInt]) Try.underlying74 (by kernel_rfl) (by kernel_rfl) rfl ?_).mono ?_
  · intro i f p hf hp
    match i with
    | 0 => cases hf; cases hp; exact cell_26
    | 1 => cases hf; cases hp; exact cell_26
    | 2 => cases hf; cases hp; exact cell_72
    | 3 => cases hf; cases hp; exact cell_26
    | i + 4 => simp at hf
  · rintro ts ⟨hl, h⟩
    match ts, hl with
    | [a, b, c, d], _ =>
      obtain ⟨_, h0, n, rfl⟩ := h 0 _ rfl
      obtain ⟨_, h1, g, rfl⟩ := h 1 _ rfl
      obtain ⟨_, h2, s, rfl⟩ := h 2 _ rfl
      obtain ⟨_, h3, r, rfl⟩ := h 3 _ rfl
      cases h0; cases h1; cases h2; cases h3
      exact ⟨⟨n, g, s, r⟩, rfl⟩
end Go.Proofs.Ytlhfajmcnbcabaa

/- Plain lists: what stands in either of two, each once, rising. -/
import Derived.Test.YtlhfajmcnbcabaaEq
set_option linter.unusedVariables false
set_option linter.unusedSimpArgs false
namespace Go.Proofs.Ytlhfajmcnbcabaa
/-- Runs of equals become one. -/
def ddp {α : Type} [DecidableEq α] : List α → List α
  | [] => []
  | [x] => [x]
  | x :: y :: r => if x = y then ddp (y :: r) else x :: ddp (y :: r)
theorem ddp_mem {α : Type} [DecidableEq α] (z : α) : ∀ l : List α, z ∈ ddp l ↔ z ∈ l
  | [] => by simp [ddp]
  | [x] => by simp [ddp]
  | x :: y :: r => by
    have ih := ddp_mem z (y :: r)
    simp only [ddp]
    split
    · rename_i h; subst h; rw [ih]; simp
    · rw [List.mem_cons, ih]; simp
theorem ddp_snoc {α : Type} [DecidableEq α] (x : α) : ∀ l : List α, ddp (l ++ [x]) = if l.getLast? = some x then ddp l else ddp l ++ [x]
  | [] => by simp [ddp]
  | [y] => by
    simp only [List.cons_append, List.nil_append, ddp, List.getLast?_singleton, Option.some.injEq]
    split <;> simp_all
  | y :: z :: r => by
    have ih := ddp_snoc x (z :: r)
    simp only [List.cons_append] at ih ⊢
    simp only [ddp]
    rw [ih]
    have : (y :: z :: r).getLast? = (z :: r).getLast? := by simp [List.getLast?_cons_cons]
    rw [this]
    split <;> split <;> simp_all
/-- A strict order of all. -/
structure Tot {α : Type} (lt : α → α → Bool) : Prop where
  irr : ∀ x, lt x x = false
  tr : ∀ x y z, lt x y = true → lt y z = true → lt x z = true
  tot : ∀ x y, lt x y = false → lt y x = false → x = y
theorem Tot.asym {α : Type} {lt : α → α → Bool} (h : Tot lt) {x y : α} (hx : lt x y = true) : lt y x = false := by
  cases hy : lt y x with
  | false => rfl
  | true => have := h.tr _ _ _ hx hy; rw [h.irr] at this; cases this
def Rise {α : Type} (lt : α → α → Bool) (l : List α) : Prop := l.Pairwise fun x y => lt x y = true
theorem ddp_rise {α : Type} [DecidableEq α] {lt : α → α → Bool} (h : Tot lt) : ∀ l : List α, l.Pairwise (fun x y => lt y x = false) → Rise lt (ddp l)
  | [], _ => by simp [ddp, Rise]
  | [x], _ => by simp [ddp, Rise]
  | x :: y :: r, hp => by
    have ih := ddp_rise h (y :: r) (List.pairwise_cons.1 hp).2
    simp only [ddp]
    split
    · exact ih
    · rename_i hne
      refine List.pairwise_cons.2 ⟨fun z hz => ?_, ih⟩
      rw [ddp_mem] at hz
      have h1 := (List.pairwise_cons.1 hp).1
      cases hxz : lt x z with
      | true => rfl
      | false =>
        have := h.tot x z hxz (h1 z hz)
        subst this
        rcases List.mem_cons.1 hz with e | hr
        · exact absurd e hne
        · have h2 := (List.pairwise_cons.1 (List.pairwise_cons.1 hp).2).1 x hr
          have h3 := h1 y (by simp)
          exact absurd (h.tot x y h2 h3) hne
theorem Rise.ext {α : Type} {lt : α → α → Bool} (h : Tot lt) : ∀ {l m : List α}, Rise lt l → Rise lt m → (∀ x, x ∈ l ↔ x ∈ m) → l = m
  | [], [], _, _, _ => rfl
  | [], y :: m, _, _, he => by have := (he y).2 (by simp); simp at this
  | x :: l, [], _, _, he => by have := (he x).1 (by simp); simp at this
  | x :: l, y :: m, hl, hm, he => by
    have hl' := List.pairwise_cons.1 hl
    have hm' := List.pairwise_cons.1 hm
    have hxy : x = y := by
      rcases List.mem_cons.1 ((he x).1 (by simp)) with e | h1
      · exact e
      · rcases List.mem_cons.1 ((he y).2 (by simp)) with e | h2
        · exact e.symm
        · have a := hm'.1 x h1
          have b := hl'.1 y h2
          rw [h.asym a] at b; cases b
    subst hxy
    congr 1
    refine Rise.ext h hl'.2 hm'.2 fun z => ⟨fun hz => ?_, fun hz => ?_⟩
    · rcases List.mem_cons.1 ((he z).1 (List.mem_cons_of_mem _ hz)) with e | h1
      · subst e; have := hl'.1 z hz; rw [h.irr] at this; cases this
      · exact h1
    · rcases List.mem_cons.1 ((he z).2 (List.mem_cons_of_mem _ hz)) with e | h1
      · subst e; have := hm'.1 z hz; rw [h.irr] at this; cases this
      · exact h1
def sortL {α : Type} (lt : α → α → Bool) (l : List α) : List α := l.mergeSort fun x y => !lt y x
def uni {α : Type} [DecidableEq α] (lt : α → α → Bool) (xs ys : List α) : List α := ddp (sortL lt (xs ++ ys))
theorem sortL_pw {α : Type} {lt : α → α → Bool} (h : Tot lt) (l : List α) : (sortL lt l).Pairwise (fun x y => lt y x = false) := by
  have := List.pairwise_mergeSort (le := fun x y => !lt y x) (fun a b c hab hbc => by
    simp only [Bool.not_eq_true', ] at *
    cases hca : lt c a with
    | false => rfl
    | true =>
      cases hbc' : lt b c with
      | true => have := h.tr _ _ _ hbc' hca; rw [hab] at this; cases this
      | false => have e := h.tot _ _ hbc' hbc; subst e; rw [hab] at hca; cases hca) (fun a b => by
    cases hab : lt a b with
    | true => simp [h.asym hab]
    | false => simp) l
  refine this.imp fun hh => ?_
  simpa using hh
theorem uni_mem {α : Type} [DecidableEq α] (lt : α → α → Bool) (xs ys : List α) (z : α) : z ∈ uni lt xs ys ↔ z ∈ xs ∨ z ∈ ys := by
  unfold uni
  rw [ddp_mem]
  unfold sortL
  rw [List.mem_mergeSort, List.mem_append]
theorem uni_rise {α : Type} [DecidableEq α] {lt : α → α → Bool} (h : Tot lt) (xs ys : List α) : Rise lt (uni lt xs ys) := ddp_rise h _ (sortL_pw h _)
theorem uni_comm {α : Type} [DecidableEq α] {lt : α → α → Bool} (h : Tot lt) (xs ys : List α) : uni lt xs ys = uni lt ys xs :=
  Rise.ext h (uni_rise h _ _) (uni_rise h _ _) fun z => by rw [uni_mem, uni_mem, or_comm]
theorem uni_none {α : Type} [DecidableEq α] {lt : α → α → Bool} (h : Tot lt) (xs : List α) : uni lt xs xs = uni lt xs [] :=
  Rise.ext h (uni_rise h _ _) (uni_rise h _ _) fun z => by rw [uni_mem, uni_mem]; simp
theorem uni_own {α : Type} [DecidableEq α] {lt : α → α → Bool} (h : Tot lt) (xs : List α) : uni lt (uni lt xs xs) (uni lt xs xs) = uni lt xs xs :=
  Rise.ext h (uni_rise h _ _) (uni_rise h _ _) fun z => by simp [uni_mem]
theorem uni_again {α : Type} [DecidableEq α] {lt : α → α → Bool} (h : Tot lt) (xs ys : List α) : uni lt (uni lt xs ys) xs = uni lt xs ys :=
  Rise.ext h (uni_rise h _ _) (uni_rise h _ _) fun z => by simp only [uni_mem]; exact ⟨fun h => h.elim id Or.inl, Or.inl⟩
theorem uni_nil {α : Type} [DecidableEq α] {lt : α → α → Bool} (xs ys : List α) : uni lt xs ys = [] ↔ xs = [] ∧ ys = [] := by
  constructor
  · intro h
    have : ∀ z, ¬ (z ∈ xs ∨ z ∈ ys) := fun z hz => by rw [← uni_mem lt, h] at hz; cases hz
    exact ⟨List.eq_nil_iff_forall_not_mem.2 fun z hz => this z (.inl hz), List.eq_nil_iff_forall_not_mem.2 fun z hz => this z (.inr hz)⟩
  · rintro ⟨rfl, rfl⟩; simp [uni, sortL, ddp]
def ltI (x y : Int) : Bool := decide (x < y)
def ltP (x y : Int × Int) : Bool := decide (x.1 < y.1) || (decide (x.1 = y.1) && decide (x.2 < y.2))
theorem totI : Tot ltI := ⟨by simp [ltI], by simp [ltI]; intros; omega, by simp [ltI]; intros; omega⟩
theorem totP : Tot ltP := ⟨by simp [ltP], by simp [ltP]; intros; omega, fun ⟨a, b⟩ ⟨c, d⟩ h1 h2 => by
  simp [ltP] at h1 h2
  have e1 : a = c := by omega
  have e2 : b = d := by have := h1.2 e1; have := h2.2 e1.symm; omega
  rw [e1, e2]⟩
end Go.Proofs.Ytlhfajmcnbcabaa

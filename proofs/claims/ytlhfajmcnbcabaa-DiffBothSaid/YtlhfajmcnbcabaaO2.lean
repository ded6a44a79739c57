/- From a contract to a law's call: it returns true, and nothing that was there is written. -/
import Derived.Test.YtlhfajmcnbcabaaO1
import Derived.Test.YtlhfajmcnbcabaaFwD
import Derived.Below
import Derived.ProofKit
set_option linter.unusedVariables false
set_option linter.unusedSimpArgs false
namespace Go.Proofs.Ytlhfajmcnbcabaa
open Go Go.Fw Go.Deep Go.ChangeShapes Go.WideShapes Go.ChangeAt Go.RowKit
theorem calls_true {C : Cx} {f : FuncId} {args : List SV} (ht : PureT C f args [] 0 (s1 (tB true))) {W : World} {vs : List Value} (hv : RVs (fun _ => none) (fun b => b < W.heap.size) W args vs) :
    Calls C.P f vs.toArray W fun e W' => e = .returned (.bool true) ∧ Below W.heap.size W W' := by
  refine (ht.2 (fun _ => none) (fun b => b < W.heap.size) W vs hv ⟨(fun _ _ h => by cases h), (fun _ _ _ _ h => by cases h), List.nodup_nil⟩ (fun _ _ h => by cases h) (fun _ _ => rfl) (fun _ h => h)).mono ?_
  rintro e W' ⟨r, h', nx', γ', S', ⟨rfl, rfl, rfl⟩, hr, ha⟩
  refine ⟨?_, ha.kept.os, ha.kept.tape, ha.kept.output, ha.kept.size, fun k hk => ha.kept.block k hk ?_⟩
  · cases e with
    | returned x =>
      have : x = .bool true := SV.val_eq (x := s1 (tB true)) rfl hr
      rw [this]
    | _ => cases hr
  · rintro ⟨id, hid, _⟩
    cases hid
/-- A struct argument, opened: its cells hold the encoding of some a. -/
theorem Opens.arg {P : Program} {α : Type} {E : α → List T} {t : TypeId} {fs : List Field} (hs : P.underlying t = some (.struct fs.toArray)) (ho : Opens P t (fun ts => ∃ a, ts = E a))
    {H : Type} {enc : TypeId × Value → H} {W : World} {b0 : Nat} {r : Reach} {v : Value} {d : DataW H} {p : List MemPlace} (hv : Value.okWide P W r b0 t v) (h : DataW.Trod enc P W 0 (fun _ => true) true t v d p)
    (hw : ∀ n ∈ d.weights P t, n ≤ reachBytes) (γ : Nat → Option Value) : ∃ a, RV γ (fun b => b < W.heap.size) W (sA (E a)) v := by
  obtain ⟨cs, rfl, hsz⟩ := okWide_struct hs hv
  obtain ⟨fuel, hf⟩ := h
  obtain ⟨ts, ⟨a, rfl⟩, h2⟩ := ho _ _ _ _ _ _ _ _ _ hf hw
  refine ⟨a, cs.toList, by simp, ?_⟩
  have : ∀ l : List T, dat l = l.map D.data := fun l => by induction l with | nil => rfl | cons x r ih => simp [dat, ih]
  rw [this]
  exact RDs.of_data h2
end Go.Proofs.Ytlhfajmcnbcabaa

/- The law DiffBoth. -/
import Derived.Test.YtlhfajmcnbcabaaA19
set_option linter.unusedVariables false
set_option linter.unusedSimpArgs false
namespace Go.Proofs.Ytlhfajmcnbcabaa
open Go Go.Fw
set_option maxRecDepth 100000
set_option maxHeartbeats 4000000
theorem eqL_refl {α : Type} {q : α → α → Bool} (h : ∀ x, q x x = true) : ∀ l : List α, eqL q l l = true
  | [] => rfl
  | x :: r => by simp [eqL, h x, eqL_refl h r]
theorem qInt_refl (x : Int) : qInt x x = true := by simp [qInt]
theorem qPair_refl (x : Int × Int) : qPair x x = true := by rw [qPair_eq]; simp
theorem chSame_refl (c : Chg) : chSame c c = true := by simp [chSame, eqL_refl qInt_refl, eqL_refl qPair_refl]
theorem sameT (c : Chg) : PureT cx 29 [sA (eChg c), sA (eChg c)] [] 0 (s1 (tB true)) := by
  have := chSameT c c
  rwa [chSame_refl] at this
def nn (c : Chg) : Bool := c.new.isEmpty && c.gone.isEmpty && c.set.isEmpty && c.roots.isEmpty
theorem nnT (c : Chg) (hc : ChgOK c) : PureT cx 30 [sA (eChg c)] [] 0 (s1 (tB (nn c))) := by
  have := noneT c
  obtain ⟨n, g, s, r⟩ := c
  obtain ⟨hn, hg, hs, hr⟩ := hc
  have e : (IntKind.i64.wrap (IntKind.i64.wrap (IntKind.i64.wrap ((n.length : Int) + g.length) + s.length) + r.length) == 0) = nn ⟨n, g, s, r⟩ := by
    simp only at hn hg hs hr
    rw [wrap64 (n := (n.length : Int) + g.length) (by omega) (by omega), wrap64 (n := (n.length : Int) + g.length + s.length) (by omega) (by omega), wrap64 (by omega) (by omega), Bool.eq_iff_iff]
    simp only [beq_iff_eq, nn, Bool.and_eq_true, List.isEmpty_iff, ← List.length_eq_zero_iff]
    omega
  simp only at this
  rwa [e] at this
theorem uni_len {α : Type} [DecidableEq α] (lt : α → α → Bool) (xs ys : List α) : (uni lt xs ys).length ≤ xs.length + ys.length := by
  have h := ddp_len (sortL lt (xs ++ ys))
  simp only [sortL, List.length_mergeSort, List.length_append] at h
  exact h
theorem bothC_comm (x y : Chg) : bothC y x = bothC x y := by simp only [bothC, uni_comm totI y.new, uni_comm totI y.gone, uni_comm totP y.set, uni_comm totI y.roots]
theorem bothC_none (x : Chg) : bothC x noChg = bothC x x := by simp only [bothC, noChg, uni_none totI, uni_none totP]
theorem bothC_own (x : Chg) : bothC (bothC x x) (bothC x x) = bothC x x := by simp only [bothC, uni_own totI, uni_own totP]
theorem bothC_again (x y : Chg) : bothC (bothC x y) x = bothC x y := by simp only [bothC, uni_again totI, uni_again totP]
theorem nn_both (x y : Chg) : nn (bothC x y) = (nn x && nn y) := by
  rw [Bool.eq_iff_iff]
  simp only [nn, bothC, Bool.and_eq_true, List.isEmpty_iff, uni_nil]
  exact ⟨fun ⟨⟨⟨⟨a, b⟩, c, d⟩, e, f⟩, g, h⟩ => ⟨⟨⟨⟨a, c⟩, e⟩, g⟩, ⟨⟨b, d⟩, f⟩, h⟩, fun ⟨⟨⟨⟨a, c⟩, e⟩, g⟩, ⟨⟨b, d⟩, f⟩, h⟩ => ⟨⟨⟨⟨a, b⟩, c, d⟩, e, f⟩, g, h⟩⟩
theorem few_le {x : Chg} (h : few14 x = true) : x.new.length ≤ 20 ∧ x.gone.length ≤ 20 ∧ x.set.length ≤ 20 ∧ x.roots.length ≤ 20 := by
  simp only [few14, Bool.and_eq_true, decide_eq_true_eq] at h
  omega
theorem fitNil (a : SV) : Fit [a, .c (.agg nil4)] [a, sA (eChg noChg)] := fun γ S w vs h => by
  match vs, h with
  | [v1, v2], ⟨h1, h2, _⟩ => exact ⟨h1, SVLe.agg nil4_le _ _ _ _ h2, trivial⟩
theorem diffBothT (x y : Chg) : PureT cx 8 [sA (eChg x), sA (eChg y)] [] 0 (s1 (tB true)) := by
  refine PureT.run0 Try.func8 rfl rfl 71 Try.ntmps8 [.tmp 4] rfl rfl (fun _ => rfl) ?_
  have fx := few14T x
  have fy := few14T y
  cases hx : few14 x with
  | false =>
    rw [hx] at fx
    (repeat' (first | refine And.intro (by first | exact trivial | exact rfl | exact ⟨trivial, rfl⟩ | exact ⟨trivial, trivial⟩ | exact ⟨rfl, rfl⟩ | exact ⟨rfl, Nat.le_of_ble_eq_true rfl⟩ | decide) ?_ | refine two_t ?_ | refine two_f ?_ | refine two.intro (fun _ => ?_) (fun _ => ?_) | refine JL.nil ?_ | refine JC.seq ?_ | refine JC.block ?_ | refine JC.skip ?_ | refine JC.exit ?_ | refine JC.region ?_ | refine JC.cond rfl ?_ | refine JC.ret ⟨_, Le.refl, And.intro (by repeat' (first | exact trivial | exact rfl | apply And.intro)) ?_⟩ | refine fSt_in ?_ | refine fAcc_in ?_ | (refine JL.p0 rfl rfl rfl rfl rfl (Fit.refl _) (fun _ => rfl) (by first | exact awake14T | exact fx | exact few14T _) (fun _ => rfl) ?_; refine ev_run ?_) | fail))
    all_goals exact rfl
  | true =>
    cases hy : few14 y with
    | false =>
      rw [hx] at fx
      rw [hy] at fy
      (repeat' (first | refine And.intro (by first | exact trivial | exact rfl | exact ⟨trivial, rfl⟩ | exact ⟨trivial, trivial⟩ | exact ⟨rfl, rfl⟩ | exact ⟨rfl, Nat.le_of_ble_eq_true rfl⟩ | decide) ?_ | refine two_t ?_ | refine two_f ?_ | refine two.intro (fun _ => ?_) (fun _ => ?_) | refine JL.nil ?_ | refine JC.seq ?_ | refine JC.block ?_ | refine JC.skip ?_ | refine JC.exit ?_ | refine JC.region ?_ | refine JC.cond rfl ?_ | refine JC.ret ⟨_, Le.refl, And.intro (by repeat' (first | exact trivial | exact rfl | apply And.intro)) ?_⟩ | refine fSt_in ?_ | refine fAcc_in ?_ | (refine JL.p0 rfl rfl rfl rfl rfl (Fit.refl _) (fun _ => rfl) (by first | exact awake14T | exact fx | exact fy) (fun _ => rfl) ?_; refine ev_run ?_) | fail))
      all_goals exact rfl
    | true =>
      rw [hx] at fx
      rw [hy] at fy
      have lx := few_le hx
      have ly := few_le hy
      have ox : ChgOK x := ⟨by omega, by omega, by omega, by omega⟩
      have oy : ChgOK y := ⟨by omega, by omega, by omega, by omega⟩
      have oz : ChgOK noChg := ⟨by simp [noChg], by simp [noChg], by simp [noChg], by simp [noChg]⟩
      have ok2 : ∀ y : Chg, (y.new.length ≤ 20 ∧ y.gone.length ≤ 20 ∧ y.set.length ≤ 20 ∧ y.roots.length ≤ 20) → ChgOK (bothC x y) := fun y ly => by
        have h1 := uni_len ltI x.new y.new
        have h2 := uni_len ltI x.gone y.gone
        have h3 := uni_len ltP x.set y.set
        have h4 := uni_len ltI x.roots y.roots
        exact ⟨by show (uni _ _ _).length ≤ _; omega, by show (uni _ _ _).length ≤ _; omega, by show (uni _ _ _).length ≤ _; omega, by show (uni _ _ _).length ≤ _; omega⟩
      have b1 := bothT x y ox oy
      have b2 := bothT y x oy ox
      have b3 := bothT x x ox ox
      have b4 := bothT x noChg ox oz
      have b5 := bothT _ _ (ok2 x lx) (ok2 x lx)
      have b6 := bothT _ _ (ok2 y ly) ox
      rw [bothC_comm] at b2
      rw [bothC_none] at b4
      rw [bothC_own] at b5
      rw [bothC_again] at b6
      have n1 := nnT _ (ok2 y ly)
      rw [nn_both] at n1
      have n2 := nnT x ox
      have n3 := nnT y oy
      have sc := sameT (bothC x y)
      have sf := sameT (bothC x x)
      generalize bothC x y = c at *
      generalize bothC x x = f at *
      (repeat' (first | refine And.intro (by first | exact trivial | exact rfl | exact ⟨trivial, rfl⟩ | exact ⟨trivial, trivial⟩ | exact ⟨rfl, rfl⟩ | exact ⟨rfl, Nat.le_of_ble_eq_true rfl⟩ | decide) ?_ | refine two_t ?_ | refine two_f ?_ | refine two.intro (fun _ => ?_) (fun _ => ?_) | refine JL.nil ?_ | refine JC.seq ?_ | refine JC.block ?_ | refine JC.skip ?_ | refine JC.exit ?_ | refine JC.region ?_ | refine JC.cond rfl ?_ | refine JC.ret ⟨_, Le.refl, And.intro (by repeat' (first | exact trivial | exact rfl | apply And.intro)) ?_⟩ | refine fSt_in ?_ | refine fAcc_in ?_ | (refine JL.p0 rfl rfl rfl rfl rfl (fitNil _) (fun _ => rfl) b4 (fun _ => rfl) ?_; refine ev_run ?_) | (refine JL.p0 rfl rfl rfl rfl rfl (Fit.refl _) (fun _ => rfl) (by first | exact awake14T | exact fx | exact fy | exact b1 | exact b3) (fun _ => rfl) ?_; refine ev_run ?_) | fail))
      clear b1 b3 b4 fx fy
      generalize nn x = p at *
      generalize nn y = q at *
      refine JC.draw 35 rfl ?_
      (repeat (first | refine And.intro (by first | exact trivial | exact rfl | exact ⟨trivial, rfl⟩ | exact ⟨trivial, trivial⟩ | exact ⟨rfl, rfl⟩) ?_ | refine two_t ?_ | refine two_f ?_))
      (refine Exists.intro _ (And.intro (CallOK.p0 rfl rfl rfl rfl rfl (Fit.refl _) (fun _ => rfl) b2 (fun _ => rfl)) ?_))
      (repeat (first | refine And.intro (by first | exact trivial | exact rfl | exact ⟨trivial, rfl⟩ | exact ⟨trivial, trivial⟩ | exact ⟨rfl, rfl⟩) ?_ | refine two_t ?_ | refine two_f ?_))
      (refine Exists.intro _ (And.intro (CallOK.p0 rfl rfl rfl rfl rfl (Fit.refl _) (fun _ => rfl) sc (fun _ => rfl)) ?_))
      (repeat (first | refine And.intro (by first | exact trivial | exact rfl | exact ⟨trivial, rfl⟩ | exact ⟨trivial, trivial⟩ | exact ⟨rfl, rfl⟩) ?_ | refine two_t ?_ | refine two_f ?_))
      (refine Exists.intro _ (And.intro (CallOK.p0 rfl rfl rfl rfl rfl (Fit.refl _) (fun _ => rfl) sf (fun _ => rfl)) ?_))
      (repeat (first | refine And.intro (by first | exact trivial | exact rfl | exact ⟨trivial, rfl⟩ | exact ⟨trivial, trivial⟩ | exact ⟨rfl, rfl⟩) ?_ | refine two_t ?_ | refine two_f ?_))
      (refine Exists.intro _ (And.intro (CallOK.p0 rfl rfl rfl rfl rfl (Fit.refl _) (fun _ => rfl) b5 (fun _ => rfl)) ?_))
      (repeat (first | refine And.intro (by first | exact trivial | exact rfl | exact ⟨trivial, rfl⟩ | exact ⟨trivial, trivial⟩ | exact ⟨rfl, rfl⟩) ?_ | refine two_t ?_ | refine two_f ?_))
      (refine Exists.intro _ (And.intro (CallOK.p0 rfl rfl rfl rfl rfl (Fit.refl _) (fun _ => rfl) sf (fun _ => rfl)) ?_))
      (repeat (first | refine And.intro (by first | exact trivial | exact rfl | exact ⟨trivial, rfl⟩ | exact ⟨trivial, trivial⟩ | exact ⟨rfl, rfl⟩) ?_ | refine two_t ?_ | refine two_f ?_))
      (refine Exists.intro _ (And.intro (CallOK.p0 rfl rfl rfl rfl rfl (Fit.refl _) (fun _ => rfl) b6 (fun _ => rfl)) ?_))
      (repeat (first | refine And.intro (by first | exact trivial | exact rfl | exact ⟨trivial, rfl⟩ | exact ⟨trivial, trivial⟩ | exact ⟨rfl, rfl⟩) ?_ | refine two_t ?_ | refine two_f ?_))
      (refine Exists.intro _ (And.intro (CallOK.p0 rfl rfl rfl rfl rfl (Fit.refl _) (fun _ => rfl) sc (fun _ => rfl)) ?_))
      (repeat (first | refine And.intro (by first | exact trivial | exact rfl | exact ⟨trivial, rfl⟩ | exact ⟨trivial, trivial⟩ | exact ⟨rfl, rfl⟩) ?_ | refine two_t ?_ | refine two_f ?_))
      (refine Exists.intro _ (And.intro (CallOK.p0 rfl rfl rfl rfl rfl (Fit.refl _) (fun _ => rfl) n1 (fun _ => rfl)) ?_))
      (repeat (first | refine And.intro (by first | exact trivial | exact rfl | exact ⟨trivial, rfl⟩ | exact ⟨trivial, trivial⟩ | exact ⟨rfl, rfl⟩) ?_ | refine two_t ?_ | refine two_f ?_))
      (refine Exists.intro _ (And.intro (CallOK.p0 rfl rfl rfl rfl rfl (Fit.refl _) (fun _ => rfl) n2 (fun _ => rfl)) ?_))
      cases p
      · (repeat (first | refine And.intro (by first | exact trivial | exact rfl | exact ⟨trivial, rfl⟩ | exact ⟨trivial, trivial⟩ | exact ⟨rfl, rfl⟩) ?_ | refine two_t ?_ | refine two_f ?_))
        (refine ev_run ?_; (repeat (first | refine And.intro (by first | exact trivial | exact rfl | exact ⟨trivial, rfl⟩ | exact ⟨trivial, trivial⟩ | exact ⟨rfl, rfl⟩ | exact ⟨rfl, Nat.le_of_ble_eq_true rfl⟩ | decide) ?_ | refine fSt_in ?_ | refine fAcc_in ?_)); refine JL.nil ?_)
        (repeat' (first | refine And.intro (by first | exact trivial | exact rfl | exact ⟨trivial, rfl⟩ | exact ⟨trivial, trivial⟩ | exact ⟨rfl, rfl⟩ | exact ⟨rfl, Nat.le_of_ble_eq_true rfl⟩ | decide) ?_ | refine two_t ?_ | refine two_f ?_ | refine two.intro (fun _ => ?_) (fun _ => ?_) | refine JL.nil ?_ | refine JC.seq ?_ | refine JC.block ?_ | refine JC.skip ?_ | refine JC.exit ?_ | refine JC.region ?_ | refine JC.cond rfl ?_ | refine JC.ret ⟨_, Le.refl, And.intro (by repeat' (first | exact trivial | exact rfl | apply And.intro)) ?_⟩ | refine fSt_in ?_ | refine fAcc_in ?_ | (refine JL.p0 rfl rfl rfl rfl rfl (Fit.refl _) (fun _ => rfl) (by first | exact sc) (fun _ => rfl) ?_; refine ev_run ?_) | fail))
        all_goals (cases q <;> exact rfl)
      · (repeat (first | refine And.intro (by first | exact trivial | exact rfl | exact ⟨trivial, rfl⟩ | exact ⟨trivial, trivial⟩ | exact ⟨rfl, rfl⟩) ?_ | refine two_t ?_ | refine two_f ?_))
        (refine Exists.intro _ (And.intro (CallOK.p0 rfl rfl rfl rfl rfl (Fit.refl _) (fun _ => rfl) n3 (fun _ => rfl)) ?_))
        (repeat (first | refine And.intro (by first | exact trivial | exact rfl | exact ⟨trivial, rfl⟩ | exact ⟨trivial, trivial⟩ | exact ⟨rfl, rfl⟩) ?_ | refine two_t ?_ | refine two_f ?_))
        (refine ev_run ?_; (repeat (first | refine And.intro (by first | exact trivial | exact rfl | exact ⟨trivial, rfl⟩ | exact ⟨trivial, trivial⟩ | exact ⟨rfl, rfl⟩ | exact ⟨rfl, Nat.le_of_ble_eq_true rfl⟩ | decide) ?_ | refine fSt_in ?_ | refine fAcc_in ?_)); refine JL.nil ?_)
        (repeat' (first | refine And.intro (by first | exact trivial | exact rfl | exact ⟨trivial, rfl⟩ | exact ⟨trivial, trivial⟩ | exact ⟨rfl, rfl⟩ | exact ⟨rfl, Nat.le_of_ble_eq_true rfl⟩ | decide) ?_ | refine two_t ?_ | refine two_f ?_ | refine two.intro (fun _ => ?_) (fun _ => ?_) | refine JL.nil ?_ | refine JC.seq ?_ | refine JC.block ?_ | refine JC.skip ?_ | refine JC.exit ?_ | refine JC.region ?_ | refine JC.cond rfl ?_ | refine JC.ret ⟨_, Le.refl, And.intro (by repeat' (first | exact trivial | exact rfl | apply And.intro)) ?_⟩ | refine fSt_in ?_ | refine fAcc_in ?_ | (refine JL.p0 rfl rfl rfl rfl rfl (Fit.refl _) (fun _ => rfl) (by first | exact sc) (fun _ => rfl) ?_; refine ev_run ?_) | fail))
        all_goals (cases q <;> exact rfl)
end Go.Proofs.Ytlhfajmcnbcabaa

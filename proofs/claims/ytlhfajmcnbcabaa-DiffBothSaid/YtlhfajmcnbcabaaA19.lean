/- Layer 14's awake. -/
import Derived.Test.YtlhfajmcnbcabaaA18
set_option linter.unusedVariables false
set_option linter.unusedSimpArgs false
namespace Go.Proofs.Ytlhfajmcnbcabaa
open Go Go.Fw
set_option maxRecDepth 100000
set_option maxHeartbeats 1000000
theorem may2 : grMay twoG = true := by kernel_rfl
def v9 : Val := ⟨9, nS, 0⟩
def g9 : Gr := ⟨oneS, [⟨0, 0, [⟨7, nS, 0⟩, ⟨0, nS, -1⟩]⟩, ⟨5, 0, [⟨9, nS, 0⟩, ⟨0, nS, 0⟩]⟩], [0]⟩
theorem set9 : setG twoG 5 0 v9 = (g9, 0) := by kernel_rfl
theorem of9 : ofG twoG g9 = (⟨[], [], [(5, 0)], []⟩, 0) := by kernel_rfl
theorem small2 : Small twoG := by
  refine ⟨?_, ?_, ?_, fun t ht => ?_, fun o ho => ?_⟩
  · simp [small, twoG, oneS]
  · simp [small, twoG]
  · simp [small, twoG]
  · simp [twoG, oneS] at ht; subst ht; simp [small]
  · simp [twoG] at ho; rcases ho with rfl | rfl <;> simp [small]
theorem set9T : PureT cx 19 [sA (eGr twoG), s1 (tI 5), s1 (tI 0), sA (eVal v9)] [] 0 (.tup [.agg (dat (eGr g9)), .one (.data (tI 0))]) := by
  have := setT twoG small2 5 0 v9
  rwa [set9] at this
theorem of9T : PureT cx 35 [sA (eGr twoG), sA (eGr g9)] [] 0 (.tup [.agg (dat (eChg ⟨[], [], [(5, 0)], []⟩)), .one (.data (tI 0))]) := by
  have := diffOfT twoG g9
  rwa [of9] at this
theorem mixed : cx.P.follows .mixedOrders = true := by kernel_rfl
theorem awake14T : PureT cx 26 [] [] 0 (s1 (tB true)) := by
  refine PureT.run0 Try.func26 rfl rfl 47 Try.ntmps26 [.tmp 0] rfl rfl (fun _ => rfl) ?_
  refine JC.seq (JC.region ?_)
  (repeat (first | refine And.intro (by first | exact trivial | exact rfl | exact ⟨trivial, rfl⟩ | exact ⟨trivial, trivial⟩ | exact ⟨rfl, rfl⟩ | exact ⟨rfl, Nat.le_of_ble_eq_true rfl⟩ | decide) ?_ | refine fSt_in ?_ | refine fAcc_in ?_))
  refine JL.nil ?_
  refine JC.seq (JC.region ?_)
  (repeat' (first | refine And.intro (by first | exact trivial | exact rfl | exact ⟨trivial, rfl⟩ | exact ⟨trivial, trivial⟩ | exact ⟨rfl, rfl⟩ | exact ⟨rfl, Nat.le_of_ble_eq_true rfl⟩ | decide) ?_ | refine two_t ?_ | refine two_f ?_ | refine two.intro (fun _ => ?_) (fun _ => ?_) | refine JL.nil ?_ | refine JC.block ?_ | refine JC.skip ?_ | refine JC.exit ?_ | refine JC.region ?_ | refine JC.cond rfl ?_ | refine fSt_in ?_ | refine fAcc_in ?_ | (refine JL.p0 rfl rfl rfl rfl rfl (Fit.refl _) (fun _ => rfl) (by first | exact twoT | exact set9T) (fun _ => rfl) ?_; refine ev_run ?_) | fail))
  refine JC.conv (Le.drop (s' := ⟨[(1, Go.Fw.one (.ref 0 0)), (2, s1 (tI 0))], [(0, .box 28 (dat (eGr g9)))], 1⟩) (by repeat (first | exact trivial | refine SlLe.same rfl ?_ | refine SlLe.int rfl (by first | exact wrap_succ (by assumption) (by assumption) | exact wrap_succ2 (by first | omega | (simp only []; omega))) ?_)) (by repeat (first | exact trivial | refine ⟨rfl, ?_⟩ | refine ⟨row_kill rfl, ?_⟩ | refine ⟨row_snoc rfl, ?_⟩ | refine ⟨row_froz rfl, ?_⟩)) rfl) ?_
  refine JC.cut ⟨[(2, s1 (tI 0)), (3, Go.Fw.one (.ref 1 0)), (4, s1 (tI 0))], [(1, .box 74 (dat (eChg ⟨[], [], [(5, 0)], []⟩)))], 2⟩ ?_ ?_
  · refine JC.drawA mixed (AnyOK.split 5 7 rfl rfl rfl (AnyOK.ord [0, 1, 2, 3, 4, 5, 6, 7, 8] 7 (some ⟨6, [(1, .box 74 nil4)], 1⟩) rfl rfl ?_) (AnyOK.ord [0, 1, 2, 3, 4, 6, 7, 5, 8] 6 (some ⟨5, [(1, .box 74 nil4)], 1⟩) rfl rfl ?_))
    · refine Or.inl ⟨_, CallM.p0 rfl rfl rfl rfl rfl (Fit.refl _) (fun _ => rfl) twoT (fun _ => rfl), rfl, ?_⟩
      (repeat (first | refine And.intro (by first | exact trivial | exact rfl | exact ⟨trivial, rfl⟩ | exact ⟨trivial, trivial⟩ | exact ⟨rfl, rfl⟩ | exact ⟨rfl, Nat.le_of_ble_eq_true rfl⟩ | decide) ?_ | refine fSt_in ?_ | refine fAcc_in ?_))
      refine Or.inl ⟨_, CallM.p0 rfl rfl rfl rfl rfl (Fit.refl _) (fun _ => rfl) of9T (fun _ => rfl), rfl, ?_⟩
      (repeat (first | refine And.intro (by first | exact trivial | exact rfl | exact ⟨trivial, rfl⟩ | exact ⟨trivial, trivial⟩ | exact ⟨rfl, rfl⟩ | exact ⟨rfl, Nat.le_of_ble_eq_true rfl⟩ | decide) ?_ | refine fSt_in ?_ | refine fAcc_in ?_))
      (refine ev_run ?_; (repeat (first | refine And.intro (by first | exact trivial | exact rfl | exact ⟨trivial, rfl⟩ | exact ⟨trivial, trivial⟩ | exact ⟨rfl, rfl⟩ | exact ⟨rfl, Nat.le_of_ble_eq_true rfl⟩ | decide) ?_ | refine fSt_in ?_ | refine fAcc_in ?_)); refine JL.nil ?_)
      exact ⟨rfl, (Le.drop (by repeat (first | exact trivial | refine SlLe.same rfl ?_ | refine SlLe.int rfl (by first | exact wrap_succ (by assumption) (by assumption) | exact wrap_succ2 (by first | omega | (simp only []; omega))) ?_)) (by repeat (first | exact trivial | refine ⟨rfl, ?_⟩ | refine ⟨row_kill rfl, ?_⟩ | refine ⟨row_snoc rfl, ?_⟩ | refine ⟨row_froz rfl, ?_⟩)) (by simp only [hLt, O.lt, rws_lt]; rfl))⟩
    · refine Or.inl ⟨_, CallM.p0 rfl rfl rfl rfl rfl (Fit.refl _) (fun _ => rfl) twoT (fun _ => rfl), rfl, ?_⟩
      (repeat (first | refine And.intro (by first | exact trivial | exact rfl | exact ⟨trivial, rfl⟩ | exact ⟨trivial, trivial⟩ | exact ⟨rfl, rfl⟩ | exact ⟨rfl, Nat.le_of_ble_eq_true rfl⟩ | decide) ?_ | refine fSt_in ?_ | refine fAcc_in ?_))
      refine Or.inl ⟨_, CallM.p0 rfl rfl rfl rfl rfl (Fit.refl _) (fun _ => rfl) of9T (fun _ => rfl), rfl, ?_⟩
      (repeat (first | refine And.intro (by first | exact trivial | exact rfl | exact ⟨trivial, rfl⟩ | exact ⟨trivial, trivial⟩ | exact ⟨rfl, rfl⟩ | exact ⟨rfl, Nat.le_of_ble_eq_true rfl⟩ | decide) ?_ | refine fSt_in ?_ | refine fAcc_in ?_))
      (refine ev_run ?_; (repeat (first | refine And.intro (by first | exact trivial | exact rfl | exact ⟨trivial, rfl⟩ | exact ⟨trivial, trivial⟩ | exact ⟨rfl, rfl⟩ | exact ⟨rfl, Nat.le_of_ble_eq_true rfl⟩ | decide) ?_ | refine fSt_in ?_ | refine fAcc_in ?_)); refine JL.nil ?_)
      exact ⟨rfl, (Le.drop (by repeat (first | exact trivial | refine SlLe.same rfl ?_ | refine SlLe.int rfl (by first | exact wrap_succ (by assumption) (by assumption) | exact wrap_succ2 (by first | omega | (simp only []; omega))) ?_)) (by repeat (first | exact trivial | refine ⟨rfl, ?_⟩ | refine ⟨row_kill rfl, ?_⟩ | refine ⟨row_snoc rfl, ?_⟩ | refine ⟨row_froz rfl, ?_⟩)) (by simp only [hLt, O.lt, rws_lt]; rfl))⟩
  (repeat' (first | refine And.intro (by first | exact trivial | exact rfl | exact ⟨trivial, rfl⟩ | exact ⟨trivial, trivial⟩ | exact ⟨rfl, rfl⟩ | exact ⟨rfl, Nat.le_of_ble_eq_true rfl⟩ | decide) ?_ | refine two_t ?_ | refine two_f ?_ | refine two.intro (fun _ => ?_) (fun _ => ?_) | refine JL.nil ?_ | refine JC.seq ?_ | refine JC.block ?_ | refine JC.skip ?_ | refine JC.exit ?_ | refine JC.region ?_ | refine JC.cond rfl ?_ | refine JC.ret ⟨_, Le.refl, And.intro (by repeat' (first | exact trivial | exact rfl | apply And.intro)) ?_⟩ | refine fSt_in ?_ | refine fAcc_in ?_ | (refine JL.p0 rfl rfl rfl rfl rfl (Fit.refl _) (fun _ => rfl) (by first | exact chSameT _ _ | exact noneT _) (fun _ => rfl) ?_; refine ev_run ?_) | fail))
  exact congrArg Res.ret (congrArg s1 (congrArg tB (show chSame ⟨[], [], [(5, 0)], []⟩ ⟨[], [], [(5, 0)], []⟩ = true by kernel_rfl)))
end Go.Proofs.Ytlhfajmcnbcabaa

/- Graphs that may be. -/
import Derived.Test.YtlhfajmcnbcabaaA6
set_option linter.unusedVariables false
set_option linter.unusedSimpArgs false
namespace Go.Proofs.Ytlhfajmcnbcabaa
open Go Go.Fw
set_option maxRecDepth 100000

def oddR (es : List (Int × Int)) (r : Int) : Bool := !(r == -1) && !(findE es r).isSome
def hMay (es : List (Int × Int)) : Heap := [(1, .box 91 [.base 0]), (0, mI es)]
theorem may1 (es : List (Int × Int)) (r : Int) : PureT cx 75 [s1 (tI r), .c (.one (.ref 1 0))] (hMay es) 2 (s1 (tB (oddR es r))) := by
  refine PureT.runh Try.func75 rfl rfl 18 Try.ntmps75 [.tmp 3] rfl rfl (fun _ => rfl) ?_
  (repeat' (first | refine And.intro (by first | exact trivial | exact rfl | exact ⟨trivial, rfl⟩ | exact ⟨trivial, trivial⟩ | exact ⟨rfl, rfl⟩ | exact ⟨rfl, Nat.le_of_ble_eq_true rfl⟩ | decide) ?_ | refine two_t ?_ | refine two_f ?_ | refine two.intro (fun _ => ?_) (fun _ => ?_) | refine JL.nil ?_ | refine JC.seq ?_ | refine JC.block ?_ | refine JC.skip ?_ | refine JC.exit ?_ | refine JC.region ?_ | refine JC.cond rfl ?_ | refine JC.ret ⟨_, Le.refl, And.intro (by repeat' (first | exact trivial | exact rfl | apply And.intro)) ?_⟩))
  all_goals (refine And.intro (congrArg Res.ret (congrArg s1 (congrArg tB ?_))) ⟨rfl, rfl, trivial⟩)
  all_goals simp_all [oddR, bne]
theorem containsInt (xs : List Int) (p : Int → Bool) (fid : FuncId) (ids : List Nat) (caps : List SV) (h : Heap) (nx : Nat) (hrow : rowIds h = []) (hcap : ∀ s : St, s.h = h → capSV s ids = some caps)
    (hf : ∀ o, PureT cx fid (sI (eInt o) :: caps) h nx (s1 (tB (p o)))) : PureT cx 76 [s1 (rowsOf 1 eInt xs), .c (.one (.clo fid ids))] h nx (s1 (tB (decide (0 ≤ idx p xs)))) := by
  refine Triple.run Try.func76 rfl rfl 9 Try.ntmps76 [.tmp 4] rfl rfl ?_
  (repeat (first | refine JC.seq ?_ | refine JC.block ?_ | refine JC.skip ?_ | refine JC.exit ?_ | (refine JC.region ?_; (repeat (first | refine And.intro (by first | exact trivial | exact rfl | exact ⟨trivial, rfl⟩ | exact ⟨trivial, trivial⟩ | exact ⟨rfl, rfl⟩ | exact ⟨rfl, Nat.le_of_ble_eq_true rfl⟩ | decide) ?_ | refine fSt_in ?_ | refine fAcc_in ?_)); refine JL.nil ?_)))
  (refine JC.region ?_; (repeat (first | refine And.intro (by first | exact trivial | exact rfl | exact ⟨trivial, rfl⟩ | exact ⟨trivial, trivial⟩ | exact ⟨rfl, rfl⟩ | exact ⟨rfl, Nat.le_of_ble_eq_true rfl⟩ | decide) ?_ | refine fSt_in ?_ | refine fAcc_in ?_)))
  refine JL.pw rfl rfl rfl rfl rfl rfl (Fit.refl _) hrow (fun _ => by exact indexFuncInt xs p fid ids caps h nx hrow hcap hf) ?_
  (refine ev_run ?_; (repeat (first | refine And.intro (by first | exact trivial | exact rfl | exact ⟨trivial, rfl⟩ | exact ⟨trivial, trivial⟩ | exact ⟨rfl, rfl⟩ | exact ⟨rfl, Nat.le_of_ble_eq_true rfl⟩ | decide) ?_ | refine fSt_in ?_ | refine fAcc_in ?_)); refine JL.nil ?_)
  (refine JC.ret ⟨_, Le.refl, And.intro (by repeat' (first | exact trivial | exact rfl | apply And.intro)) ?_⟩)
  exact ⟨rfl, rfl, rfl⟩
def objsOK (s : List Typ) (es : List (Int × Int)) : Int → List Obj → Bool
  | _, [] => true
  | last, o :: r => objOK s es last o && objsOK s es o.id r
def grMay (g : Gr) : Bool := schMay g.s && !(decide ((g.o.length : Int) > 8)) && !(decide ((g.roots.length : Int) > 3)) && objsOK g.s (typesE g.o) (-1) g.o && !(decide (0 ≤ idx (oddR (typesE g.o)) g.roots))
theorem drop_at {α : Type} [Inhabited α] {l : List α} {i : Nat} (h : i < l.length) : l.drop i = l.getD i default :: l.drop (i + 1) := by
  rw [List.drop_eq_getElem_cons h, List.getD_eq_getElem?_getD, List.getElem?_eq_getElem h]; rfl
theorem grMayT (g : Gr) : PureT cx 25 [sA (eGr g)] [] 0 (s1 (tB (grMay g))) := by
  refine PureT.run0 Try.func25 rfl rfl 48 Try.ntmps25 [.tmp 2] rfl rfl (fun _ => rfl) ?_
  (repeat' (first | refine And.intro (by first | exact trivial | exact rfl | exact ⟨trivial, rfl⟩ | exact ⟨trivial, trivial⟩ | exact ⟨rfl, rfl⟩ | exact ⟨rfl, Nat.le_of_ble_eq_true rfl⟩ | decide) ?_ | refine two_t ?_ | refine two_f ?_ | refine two.intro (fun _ => ?_) (fun _ => ?_) | refine JL.nil ?_ | refine JC.seq ?_ | refine JC.block ?_ | refine JC.skip ?_ | refine JC.exit ?_ | refine JC.region ?_ | refine JC.cond rfl ?_ | refine JC.ret ⟨_, Le.refl, And.intro (by repeat' (first | exact trivial | exact rfl | apply And.intro)) ?_⟩ | refine fSt_in ?_ | refine fAcc_in ?_ | (refine JL.nw rfl rfl rfl rfl rfl (Fit.refl _) (fun _ => rfl) (typesT _) ?_; refine ev_run ?_) | (refine JL.p0 rfl rfl rfl rfl rfl (Fit.refl _) (fun _ => rfl) (by first | exact schMayT _) (fun _ => rfl) ?_; refine ev_run ?_) | fail))
  · refine congrArg Res.ret (congrArg s1 (congrArg tB ?_))
    simp_all [grMay]
  · refine congrArg Res.ret (congrArg s1 (congrArg tB ?_))
    simp_all [grMay]
  · refine congrArg Res.ret (congrArg s1 (congrArg tB ?_))
    simp_all [grMay]
  · rename_i h1 h2 h3
    have h1 : schMay g.s = true := not_f h1
    refine JC.have_big 27 rfl fun hbig => ?_
    refine JC.loop (ι := { x : Nat × Int // x.1 ≤ g.o.length ∧ objsOK g.s (typesE g.o) (-1) g.o = objsOK g.s (typesE g.o) x.2 (g.o.drop x.1) }) (fun x => ⟨[(1, Go.Fw.one (.ref 0 0)), (3, Go.Fw.one (.ref 3 0)), (4, s1 (tI x.1.2)), (27, s1 (rowsOf 3 eObj g.o)), (28, s1 (tI g.o.length)), (29, s1 (tI x.1.1))], [(3, .box 91 [.base 2]), (2, mI (typesE g.o)), (0, .box 28 (dat (eGr g)))], 4⟩) (fun x => g.o.length - x.1.1) ⟨(0, -1), Nat.zero_le _, rfl⟩ (Le.drop (by repeat (first | exact trivial | refine SlLe.same rfl ?_ | refine SlLe.int rfl (by first | exact wrap_succ (by assumption) (by assumption) | exact wrap_succ2 (by first | omega | (simp only []; omega))) ?_)) (by repeat (first | exact trivial | refine ⟨rfl, ?_⟩)) rfl) ?_
    rintro ⟨⟨i, last⟩, hi, he⟩
    simp only at hi he
    refine JC.seq ?_
    (repeat (first | refine JC.seq ?_ | refine JC.block ?_ | refine JC.skip ?_ | refine JC.exit ?_ | (refine JC.region ?_; (repeat (first | refine And.intro (by first | exact trivial | exact rfl | exact ⟨trivial, rfl⟩ | exact ⟨trivial, trivial⟩ | exact ⟨rfl, rfl⟩ | exact ⟨rfl, Nat.le_of_ble_eq_true rfl⟩ | decide) ?_ | refine fSt_in ?_ | refine fAcc_in ?_)); refine JL.nil ?_)))
    refine JC.cond rfl (two.intro ?_ ?_)
    · intro hlt
      have hlt : i < g.o.length := by simpa using hlt
      rw [drop_at hlt, objsOK] at he
      (repeat' (first | refine And.intro (by first | exact trivial | exact rfl | exact ⟨trivial, rfl⟩ | exact ⟨trivial, trivial⟩ | exact ⟨rfl, rfl⟩ | exact ⟨rfl, Nat.le_of_ble_eq_true rfl⟩ | decide) ?_ | refine two_t ?_ | refine two_f ?_ | refine two.intro (fun _ => ?_) (fun _ => ?_) | refine JL.nil ?_ | refine JC.seq ?_ | refine JC.block ?_ | refine JC.skip ?_ | refine JC.exit ?_ | refine JC.region ?_ | refine JC.cond rfl ?_ | refine JC.ret ⟨_, Le.refl, And.intro (by repeat' (first | exact trivial | exact rfl | apply And.intro)) ?_⟩ | refine And.intro (⟨Int.natCast_nonneg _, Int.ofNat_lt.2 hlt, rfl⟩) ?_ | refine fSt_in ?_ | refine fAcc_in ?_ | (refine JL.pl [2] rfl rfl rfl rfl rfl rfl rfl (Fit.refl _) (by exact ⟨rfl, trivial⟩) rfl rfl (objectT g (typesE g.o) (g.o.getD i default) last) rfl ?_; refine ev_run ?_) | fail))
      · rename_i h4
        have h4 : objOK g.s (typesE g.o) last (g.o.getD i default) = false := not_t h4
        refine congrArg Res.ret (congrArg s1 (congrArg tB ?_))
        simp only [grMay, he, h4, Bool.false_and, Bool.and_false]
      · rename_i h4
        have h4 : objOK g.s (typesE g.o) last (g.o.getD i default) = true := not_f h4
        rw [h4, Bool.true_and] at he
        exact ⟨⟨(i + 1, (g.o.getD i default).id), hlt, he⟩, by simp only; omega, (Le.drop (by repeat (first | exact trivial | refine SlLe.same rfl ?_ | refine SlLe.int rfl (by first | exact wrap_succ (by assumption) (by assumption) | exact wrap_succ2 (by first | omega | (simp only []; omega))) ?_)) (by repeat (first | exact trivial | refine ⟨rfl, ?_⟩)) rfl)⟩
    · intro hge
      have hge : ¬ i < g.o.length := by simpa using hge
      have he : objsOK g.s (typesE g.o) (-1) g.o = true := by
        rw [he, List.drop_of_length_le (by omega)]; rfl
      (repeat' (first | refine And.intro (by first | exact trivial | exact rfl | exact ⟨trivial, rfl⟩ | exact ⟨trivial, trivial⟩ | exact ⟨rfl, rfl⟩ | exact ⟨rfl, Nat.le_of_ble_eq_true rfl⟩ | decide) ?_ | refine two_t ?_ | refine two_f ?_ | refine two.intro (fun _ => ?_) (fun _ => ?_) | refine JL.nil ?_ | refine JC.seq ?_ | refine JC.block ?_ | refine JC.skip ?_ | refine JC.exit ?_ | refine JC.region ?_ | refine JC.cond rfl ?_ | refine JC.ret ⟨_, Le.refl, And.intro (by repeat' (first | exact trivial | exact rfl | apply And.intro)) ?_⟩ | refine fSt_in ?_ | refine fAcc_in ?_ | (refine JL.pl [2, 3] rfl rfl rfl rfl rfl rfl rfl (Fit.refl _) (by exact ⟨rfl, rfl, trivial⟩) rfl rfl (containsInt g.roots (oddR (typesE g.o)) _ [1] [_] (hMay (typesE g.o)) 2 rfl (capOf rfl) (fun r => may1 (typesE g.o) r)) rfl ?_; refine ev_run ?_) | fail))
      refine congrArg Res.ret (congrArg s1 (congrArg tB ?_))
      simp only [grMay, h1, he, h2, h3, Bool.not_false, Bool.true_and, Bool.and_true]
end Go.Proofs.Ytlhfajmcnbcabaa

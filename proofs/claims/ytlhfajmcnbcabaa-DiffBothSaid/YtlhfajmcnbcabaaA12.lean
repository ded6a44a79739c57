/- Schemas, graphs, changes that are the same; roots, other objects. -/
import Derived.Test.YtlhfajmcnbcabaaA11
import Derived.Test.YtlhfajmcnbcabaaFwF
set_option linter.unusedVariables false
set_option linter.unusedSimpArgs false
namespace Go.Proofs.Ytlhfajmcnbcabaa
open Go Go.Fw
set_option maxRecDepth 100000
set_option maxHeartbeats 1000000
abbrev IntP := Int × Int

theorem equalFuncTyp (xs ys : List Typ) (q : Typ → Typ → Bool) (fid : FuncId) (hf : ∀ x y, PureT cx fid [sA (eTyp x), sA (eTyp y)] [] 0 (s1 (tB (q x y)))) :
    PureT cx 104 [s1 (rowsOf 2 eTyp xs), s1 (rowsOf 2 eTyp ys), .c (.one (.clo fid []))] [] 0 (s1 (tB (eqL q xs ys))) := by
  refine PureT.run0 Try.func104 rfl rfl 32 Try.ntmps104 [.tmp 6] rfl rfl (fun _ => rfl) (JC.have_big 0 rfl fun hbig => ?_)
  (repeat (first | refine JC.seq ?_ | refine JC.block ?_ | refine JC.skip ?_ | refine JC.exit ?_ | (refine JC.region ?_; (repeat (first | refine And.intro (by first | exact trivial | exact rfl | exact ⟨trivial, rfl⟩ | exact ⟨trivial, trivial⟩ | exact ⟨rfl, rfl⟩ | exact ⟨rfl, Nat.le_of_ble_eq_true rfl⟩ | decide) ?_ | refine fSt_in ?_ | refine fAcc_in ?_)); refine JL.nil ?_)))
  refine JC.cond rfl (two.intro ?_ ?_)
  · intro hne
    (repeat' (first | refine And.intro (by first | exact trivial | exact rfl | exact ⟨trivial, rfl⟩ | exact ⟨trivial, trivial⟩ | exact ⟨rfl, rfl⟩ | exact ⟨rfl, Nat.le_of_ble_eq_true rfl⟩ | decide) ?_ | refine two_t ?_ | refine two_f ?_ | refine two.intro (fun _ => ?_) (fun _ => ?_) | refine JL.nil ?_ | refine JC.seq ?_ | refine JC.block ?_ | refine JC.skip ?_ | refine JC.exit ?_ | refine JC.region ?_ | refine JC.cond rfl ?_ | refine JC.ret ⟨_, Le.refl, And.intro (by repeat' (first | exact trivial | exact rfl | apply And.intro)) ?_⟩))
    exact congrArg Res.ret (congrArg s1 (congrArg tB (eqL_len _ xs ys (fun h => by simp [h] at hne)).symm))
  · intro heq
    have heq : xs.length = ys.length := Int.ofNat.inj (by simpa using heq)
    (repeat (first | refine JC.seq ?_ | refine JC.block ?_ | refine JC.skip ?_ | refine JC.exit ?_ | (refine JC.region ?_; (repeat (first | refine And.intro (by first | exact trivial | exact rfl | exact ⟨trivial, rfl⟩ | exact ⟨trivial, trivial⟩ | exact ⟨rfl, rfl⟩ | exact ⟨rfl, Nat.le_of_ble_eq_true rfl⟩ | decide) ?_ | refine fSt_in ?_ | refine fAcc_in ?_)); refine JL.nil ?_)))
    refine JC.loop (ι := { i : Nat // i ≤ xs.length ∧ ∀ j, j < i → q (xs.getD j default) (ys.getD j default) = true }) (fun i => ⟨[(1, s1 (rowsOf 2 eTyp ys)), (2, .c (.one (.clo fid []))), (15, s1 (rowsOf 2 eTyp xs)), (16, s1 (tI xs.length)), (17, s1 (tI i.1))], [], 0⟩) (fun i => xs.length - i.1) ⟨0, Nat.zero_le _, fun j h => absurd h (Nat.not_lt_zero j)⟩ (Le.drop (by repeat (first | exact trivial | refine SlLe.same rfl ?_ | refine SlLe.int rfl (by first | exact wrap_succ (by assumption) (by assumption) | exact wrap_succ2 (by first | omega | (simp only []; omega))) ?_)) (by repeat (first | exact trivial | refine ⟨rfl, ?_⟩)) rfl) ?_
    rintro ⟨i, hi, hno⟩
    refine JC.seq ?_
    (repeat (first | refine JC.seq ?_ | refine JC.block ?_ | refine JC.skip ?_ | refine JC.exit ?_ | (refine JC.region ?_; (repeat (first | refine And.intro (by first | exact trivial | exact rfl | exact ⟨trivial, rfl⟩ | exact ⟨trivial, trivial⟩ | exact ⟨rfl, rfl⟩ | exact ⟨rfl, Nat.le_of_ble_eq_true rfl⟩ | decide) ?_ | refine fSt_in ?_ | refine fAcc_in ?_)); refine JL.nil ?_)))
    refine JC.cond rfl (two.intro ?_ ?_)
    · intro hlt
      have hlt : i < xs.length := by simpa using hlt
      have hlt' : i < ys.length := by omega
      (repeat' (first | refine And.intro (by first | exact trivial | exact rfl | exact ⟨trivial, rfl⟩ | exact ⟨trivial, trivial⟩ | exact ⟨rfl, rfl⟩ | exact ⟨rfl, Nat.le_of_ble_eq_true rfl⟩ | decide) ?_ | refine two_t ?_ | refine two_f ?_ | refine two.intro (fun _ => ?_) (fun _ => ?_) | refine JL.nil ?_ | refine JC.seq ?_ | refine JC.block ?_ | refine JC.skip ?_ | refine JC.exit ?_ | refine JC.region ?_ | refine JC.cond rfl ?_ | refine JC.ret ⟨_, Le.refl, And.intro (by repeat' (first | exact trivial | exact rfl | apply And.intro)) ?_⟩ | refine And.intro (⟨Int.natCast_nonneg _, Int.ofNat_lt.2 hlt, rfl⟩) ?_ | refine And.intro (⟨Int.natCast_nonneg _, Int.ofNat_lt.2 hlt', rfl⟩) ?_ | refine fSt_in ?_ | refine fAcc_in ?_ | (refine JL.p0 rfl rfl rfl rfl rfl (Fit.refl _) (fun _ => rfl) (by first | exact hf _ _) (fun _ => rfl) ?_; refine ev_run ?_) | fail))
      · rename_i h1
        exact congrArg Res.ret (congrArg s1 (congrArg tB (eqL_no q xs ys i hlt (not_t h1)).symm))
      · rename_i h1
        exact ⟨⟨i + 1, hlt, upto_yes hno (not_f h1)⟩, by simp only; omega, (Le.drop (by repeat (first | exact trivial | refine SlLe.same rfl ?_ | refine SlLe.int rfl (by first | exact wrap_succ (by assumption) (by assumption) | exact wrap_succ2 (by first | omega | (simp only []; omega))) ?_)) (by repeat (first | exact trivial | refine ⟨rfl, ?_⟩)) rfl)⟩
    · intro hge
      have hge : ¬ i < xs.length := by simpa using hge
      (repeat' (first | refine And.intro (by first | exact trivial | exact rfl | exact ⟨trivial, rfl⟩ | exact ⟨trivial, trivial⟩ | exact ⟨rfl, rfl⟩ | exact ⟨rfl, Nat.le_of_ble_eq_true rfl⟩ | decide) ?_ | refine two_t ?_ | refine two_f ?_ | refine two.intro (fun _ => ?_) (fun _ => ?_) | refine JL.nil ?_ | refine JC.seq ?_ | refine JC.block ?_ | refine JC.skip ?_ | refine JC.exit ?_ | refine JC.region ?_ | refine JC.cond rfl ?_ | refine JC.ret ⟨_, Le.refl, And.intro (by repeat' (first | exact trivial | exact rfl | apply And.intro)) ?_⟩))
      exact congrArg Res.ret (congrArg s1 (congrArg tB (eqL_yes q xs ys heq (fun j hj => hno j (by omega))).symm))
theorem equalFuncIntP (xs ys : List IntP) (q : IntP → IntP → Bool) (fid : FuncId) (hf : ∀ x y, PureT cx fid [sA (ePair x), sA (ePair y)] [] 0 (s1 (tB (q x y)))) :
    PureT cx 82 [s1 (rowsOf 2 ePair xs), s1 (rowsOf 2 ePair ys), .c (.one (.clo fid []))] [] 0 (s1 (tB (eqL q xs ys))) := by
  refine PureT.run0 Try.func82 rfl rfl 32 Try.ntmps82 [.tmp 6] rfl rfl (fun _ => rfl) (JC.have_big 0 rfl fun hbig => ?_)
  (repeat (first | refine JC.seq ?_ | refine JC.block ?_ | refine JC.skip ?_ | refine JC.exit ?_ | (refine JC.region ?_; (repeat (first | refine And.intro (by first | exact trivial | exact rfl | exact ⟨trivial, rfl⟩ | exact ⟨trivial, trivial⟩ | exact ⟨rfl, rfl⟩ | exact ⟨rfl, Nat.le_of_ble_eq_true rfl⟩ | decide) ?_ | refine fSt_in ?_ | refine fAcc_in ?_)); refine JL.nil ?_)))
  refine JC.cond rfl (two.intro ?_ ?_)
  · intro hne
    (repeat' (first | refine And.intro (by first | exact trivial | exact rfl | exact ⟨trivial, rfl⟩ | exact ⟨trivial, trivial⟩ | exact ⟨rfl, rfl⟩ | exact ⟨rfl, Nat.le_of_ble_eq_true rfl⟩ | decide) ?_ | refine two_t ?_ | refine two_f ?_ | refine two.intro (fun _ => ?_) (fun _ => ?_) | refine JL.nil ?_ | refine JC.seq ?_ | refine JC.block ?_ | refine JC.skip ?_ | refine JC.exit ?_ | refine JC.region ?_ | refine JC.cond rfl ?_ | refine JC.ret ⟨_, Le.refl, And.intro (by repeat' (first | exact trivial | exact rfl | apply And.intro)) ?_⟩))
    exact congrArg Res.ret (congrArg s1 (congrArg tB (eqL_len _ xs ys (fun h => by simp [h] at hne)).symm))
  · intro heq
    have heq : xs.length = ys.length := Int.ofNat.inj (by simpa using heq)
    (repeat (first | refine JC.seq ?_ | refine JC.block ?_ | refine JC.skip ?_ | refine JC.exit ?_ | (refine JC.region ?_; (repeat (first | refine And.intro (by first | exact trivial | exact rfl | exact ⟨trivial, rfl⟩ | exact ⟨trivial, trivial⟩ | exact ⟨rfl, rfl⟩ | exact ⟨rfl, Nat.le_of_ble_eq_true rfl⟩ | decide) ?_ | refine fSt_in ?_ | refine fAcc_in ?_)); refine JL.nil ?_)))
    refine JC.loop (ι := { i : Nat // i ≤ xs.length ∧ ∀ j, j < i → q (xs.getD j default) (ys.getD j default) = true }) (fun i => ⟨[(1, s1 (rowsOf 2 ePair ys)), (2, .c (.one (.clo fid []))), (15, s1 (rowsOf 2 ePair xs)), (16, s1 (tI xs.length)), (17, s1 (tI i.1))], [], 0⟩) (fun i => xs.length - i.1) ⟨0, Nat.zero_le _, fun j h => absurd h (Nat.not_lt_zero j)⟩ (Le.drop (by repeat (first | exact trivial | refine SlLe.same rfl ?_ | refine SlLe.int rfl (by first | exact wrap_succ (by assumption) (by assumption) | exact wrap_succ2 (by first | omega | (simp only []; omega))) ?_)) (by repeat (first | exact trivial | refine ⟨rfl, ?_⟩)) rfl) ?_
    rintro ⟨i, hi, hno⟩
    refine JC.seq ?_
    (repeat (first | refine JC.seq ?_ | refine JC.block ?_ | refine JC.skip ?_ | refine JC.exit ?_ | (refine JC.region ?_; (repeat (first | refine And.intro (by first | exact trivial | exact rfl | exact ⟨trivial, rfl⟩ | exact ⟨trivial, trivial⟩ | exact ⟨rfl, rfl⟩ | exact ⟨rfl, Nat.le_of_ble_eq_true rfl⟩ | decide) ?_ | refine fSt_in ?_ | refine fAcc_in ?_)); refine JL.nil ?_)))
    refine JC.cond rfl (two.intro ?_ ?_)
    · intro hlt
      have hlt : i < xs.length := by simpa using hlt
      have hlt' : i < ys.length := by omega
      (repeat' (first | refine And.intro (by first | exact trivial | exact rfl | exact ⟨trivial, rfl⟩ | exact ⟨trivial, trivial⟩ | exact ⟨rfl, rfl⟩ | exact ⟨rfl, Nat.le_of_ble_eq_true rfl⟩ | decide) ?_ | refine two_t ?_ | refine two_f ?_ | refine two.intro (fun _ => ?_) (fun _ => ?_) | refine JL.nil ?_ | refine JC.seq ?_ | refine JC.block ?_ | refine JC.skip ?_ | refine JC.exit ?_ | refine JC.region ?_ | refine JC.cond rfl ?_ | refine JC.ret ⟨_, Le.refl, And.intro (by repeat' (first | exact trivial | exact rfl | apply And.intro)) ?_⟩ | refine And.intro (⟨Int.natCast_nonneg _, Int.ofNat_lt.2 hlt, rfl⟩) ?_ | refine And.intro (⟨Int.natCast_nonneg _, Int.ofNat_lt.2 hlt', rfl⟩) ?_ | refine fSt_in ?_ | refine fAcc_in ?_ | (refine JL.p0 rfl rfl rfl rfl rfl (Fit.refl _) (fun _ => rfl) (by first | exact hf _ _) (fun _ => rfl) ?_; refine ev_run ?_) | fail))
      · rename_i h1
        exact congrArg Res.ret (congrArg s1 (congrArg tB (eqL_no q xs ys i hlt (not_t h1)).symm))
      · rename_i h1
        exact ⟨⟨i + 1, hlt, upto_yes hno (not_f h1)⟩, by simp only; omega, (Le.drop (by repeat (first | exact trivial | refine SlLe.same rfl ?_ | refine SlLe.int rfl (by first | exact wrap_succ (by assumption) (by assumption) | exact wrap_succ2 (by first | omega | (simp only []; omega))) ?_)) (by repeat (first | exact trivial | refine ⟨rfl, ?_⟩)) rfl)⟩
    · intro hge
      have hge : ¬ i < xs.length := by simpa using hge
      (repeat' (first | refine And.intro (by first | exact trivial | exact rfl | exact ⟨trivial, rfl⟩ | exact ⟨trivial, trivial⟩ | exact ⟨rfl, rfl⟩ | exact ⟨rfl, Nat.le_of_ble_eq_true rfl⟩ | decide) ?_ | refine two_t ?_ | refine two_f ?_ | refine two.intro (fun _ => ?_) (fun _ => ?_) | refine JL.nil ?_ | refine JC.seq ?_ | refine JC.block ?_ | refine JC.skip ?_ | refine JC.exit ?_ | refine JC.region ?_ | refine JC.cond rfl ?_ | refine JC.ret ⟨_, Le.refl, And.intro (by repeat' (first | exact trivial | exact rfl | apply And.intro)) ?_⟩))
      exact congrArg Res.ret (congrArg s1 (congrArg tB (eqL_yes q xs ys heq (fun j hj => hno j (by omega))).symm))
theorem equalFuncObj (xs ys : List Obj) (q : Obj → Obj → Bool) (fid : FuncId) (hf : ∀ x y, PureT cx fid [sA (eObj x), sA (eObj y)] [] 0 (s1 (tB (q x y)))) :
    PureT cx 52 [s1 (rowsOf 3 eObj xs), s1 (rowsOf 3 eObj ys), .c (.one (.clo fid []))] [] 0 (s1 (tB (eqL q xs ys))) := by
  refine PureT.run0 Try.func52 rfl rfl 32 Try.ntmps52 [.tmp 6] rfl rfl (fun _ => rfl) (JC.have_big 0 rfl fun hbig => ?_)
  (repeat (first | refine JC.seq ?_ | refine JC.block ?_ | refine JC.skip ?_ | refine JC.exit ?_ | (refine JC.region ?_; (repeat (first | refine And.intro (by first | exact trivial | exact rfl | exact ⟨trivial, rfl⟩ | exact ⟨trivial, trivial⟩ | exact ⟨rfl, rfl⟩ | exact ⟨rfl, Nat.le_of_ble_eq_true rfl⟩ | decide) ?_ | refine fSt_in ?_ | refine fAcc_in ?_)); refine JL.nil ?_)))
  refine JC.cond rfl (two.intro ?_ ?_)
  · intro hne
    (repeat' (first | refine And.intro (by first | exact trivial | exact rfl | exact ⟨trivial, rfl⟩ | exact ⟨trivial, trivial⟩ | exact ⟨rfl, rfl⟩ | exact ⟨rfl, Nat.le_of_ble_eq_true rfl⟩ | decide) ?_ | refine two_t ?_ | refine two_f ?_ | refine two.intro (fun _ => ?_) (fun _ => ?_) | refine JL.nil ?_ | refine JC.seq ?_ | refine JC.block ?_ | refine JC.skip ?_ | refine JC.exit ?_ | refine JC.region ?_ | refine JC.cond rfl ?_ | refine JC.ret ⟨_, Le.refl, And.intro (by repeat' (first | exact trivial | exact rfl | apply And.intro)) ?_⟩))
    exact congrArg Res.ret (congrArg s1 (congrArg tB (eqL_len _ xs ys (fun h => by simp [h] at hne)).symm))
  · intro heq
    have heq : xs.length = ys.length := Int.ofNat.inj (by simpa using heq)
    (repeat (first | refine JC.seq ?_ | refine JC.block ?_ | refine JC.skip ?_ | refine JC.exit ?_ | (refine JC.region ?_; (repeat (first | refine And.intro (by first | exact trivial | exact rfl | exact ⟨trivial, rfl⟩ | exact ⟨trivial, trivial⟩ | exact ⟨rfl, rfl⟩ | exact ⟨rfl, Nat.le_of_ble_eq_true rfl⟩ | decide) ?_ | refine fSt_in ?_ | refine fAcc_in ?_)); refine JL.nil ?_)))
    refine JC.loop (ι := { i : Nat // i ≤ xs.length ∧ ∀ j, j < i → q (xs.getD j default) (ys.getD j default) = true }) (fun i => ⟨[(1, s1 (rowsOf 3 eObj ys)), (2, .c (.one (.clo fid []))), (15, s1 (rowsOf 3 eObj xs)), (16, s1 (tI xs.length)), (17, s1 (tI i.1))], [], 0⟩) (fun i => xs.length - i.1) ⟨0, Nat.zero_le _, fun j h => absurd h (Nat.not_lt_zero j)⟩ (Le.drop (by repeat (first | exact trivial | refine SlLe.same rfl ?_ | refine SlLe.int rfl (by first | exact wrap_succ (by assumption) (by assumption) | exact wrap_succ2 (by first | omega | (simp only []; omega))) ?_)) (by repeat (first | exact trivial | refine ⟨rfl, ?_⟩)) rfl) ?_
    rintro ⟨i, hi, hno⟩
    refine JC.seq ?_
    (repeat (first | refine JC.seq ?_ | refine JC.block ?_ | refine JC.skip ?_ | refine JC.exit ?_ | (refine JC.region ?_; (repeat (first | refine And.intro (by first | exact trivial | exact rfl | exact ⟨trivial, rfl⟩ | exact ⟨trivial, trivial⟩ | exact ⟨rfl, rfl⟩ | exact ⟨rfl, Nat.le_of_ble_eq_true rfl⟩ | decide) ?_ | refine fSt_in ?_ | refine fAcc_in ?_)); refine JL.nil ?_)))
    refine JC.cond rfl (two.intro ?_ ?_)
    · intro hlt
      have hlt : i < xs.length := by simpa using hlt
      have hlt' : i < ys.length := by omega
      (repeat' (first | refine And.intro (by first | exact trivial | exact rfl | exact ⟨trivial, rfl⟩ | exact ⟨trivial, trivial⟩ | exact ⟨rfl, rfl⟩ | exact ⟨rfl, Nat.le_of_ble_eq_true rfl⟩ | decide) ?_ | refine two_t ?_ | refine two_f ?_ | refine two.intro (fun _ => ?_) (fun _ => ?_) | refine JL.nil ?_ | refine JC.seq ?_ | refine JC.block ?_ | refine JC.skip ?_ | refine JC.exit ?_ | refine JC.region ?_ | refine JC.cond rfl ?_ | refine JC.ret ⟨_, Le.refl, And.intro (by repeat' (first | exact trivial | exact rfl | apply And.intro)) ?_⟩ | refine And.intro (⟨Int.natCast_nonneg _, Int.ofNat_lt.2 hlt, rfl⟩) ?_ | refine And.intro (⟨Int.natCast_nonneg _, Int.ofNat_lt.2 hlt', rfl⟩) ?_ | refine fSt_in ?_ | refine fAcc_in ?_ | (refine JL.p0 rfl rfl rfl rfl rfl (Fit.refl _) (fun _ => rfl) (by first | exact hf _ _) (fun _ => rfl) ?_; refine ev_run ?_) | fail))
      · rename_i h1
        exact congrArg Res.ret (congrArg s1 (congrArg tB (eqL_no q xs ys i hlt (not_t h1)).symm))
      · rename_i h1
        exact ⟨⟨i + 1, hlt, upto_yes hno (not_f h1)⟩, by simp only; omega, (Le.drop (by repeat (first | exact trivial | refine SlLe.same rfl ?_ | refine SlLe.int rfl (by first | exact wrap_succ (by assumption) (by assumption) | exact wrap_succ2 (by first | omega | (simp only []; omega))) ?_)) (by repeat (first | exact trivial | refine ⟨rfl, ?_⟩)) rfl)⟩
    · intro hge
      have hge : ¬ i < xs.length := by simpa using hge
      (repeat' (first | refine And.intro (by first | exact trivial | exact rfl | exact ⟨trivial, rfl⟩ | exact ⟨trivial, trivial⟩ | exact ⟨rfl, rfl⟩ | exact ⟨rfl, Nat.le_of_ble_eq_true rfl⟩ | decide) ?_ | refine two_t ?_ | refine two_f ?_ | refine two.intro (fun _ => ?_) (fun _ => ?_) | refine JL.nil ?_ | refine JC.seq ?_ | refine JC.block ?_ | refine JC.skip ?_ | refine JC.exit ?_ | refine JC.region ?_ | refine JC.cond rfl ?_ | refine JC.ret ⟨_, Le.refl, And.intro (by repeat' (first | exact trivial | exact rfl | apply And.intro)) ?_⟩))
      exact congrArg Res.ret (congrArg s1 (congrArg tB (eqL_yes q xs ys heq (fun j hj => hno j (by omega))).symm))
def qTyp (x y : Typ) : Bool := sEq x.name y.name && eqL qFld x.f y.f
theorem same1S (x y : Typ) : PureT cx 105 [sA (eTyp x), sA (eTyp y)] [] 0 (s1 (tB (qTyp x y))) := by
  refine PureT.run0 Try.func105 rfl rfl 17 Try.ntmps105 [.tmp 4] rfl rfl (fun _ => rfl) ?_
  (repeat' (first | refine And.intro (by first | exact trivial | exact rfl | exact ⟨trivial, rfl⟩ | exact ⟨trivial, trivial⟩ | exact ⟨rfl, rfl⟩ | exact ⟨rfl, Nat.le_of_ble_eq_true rfl⟩ | decide) ?_ | refine two_t ?_ | refine two_f ?_ | refine two.intro (fun _ => ?_) (fun _ => ?_) | refine JL.nil ?_ | refine JC.seq ?_ | refine JC.block ?_ | refine JC.skip ?_ | refine JC.exit ?_ | refine JC.region ?_ | refine JC.cond rfl ?_ | refine JC.ret ⟨_, Le.refl, And.intro (by repeat' (first | exact trivial | exact rfl | apply And.intro)) ?_⟩ | refine fSt_in ?_ | refine fAcc_in ?_ | (refine JL.p0 rfl rfl rfl rfl rfl (Fit.refl _) (fun _ => rfl) (by first | exact equalFld _ _) (fun _ => rfl) ?_; refine ev_run ?_) | fail))
  all_goals (refine congrArg Res.ret (congrArg s1 (congrArg tB ?_)); simp_all [qTyp, sEq])
def schSame (a b : List Typ) : Bool := eqL qTyp a b
theorem schSameT (a b : List Typ) : PureT cx 50 [sA (eSch a), sA (eSch b)] [] 0 (s1 (tB (schSame a b))) := by
  refine PureT.run0 Try.func50 rfl rfl 10 Try.ntmps50 [.tmp 4] rfl rfl (fun _ => rfl) ?_
  (repeat' (first | refine And.intro (by first | exact trivial | exact rfl | exact ⟨trivial, rfl⟩ | exact ⟨trivial, trivial⟩ | exact ⟨rfl, rfl⟩ | exact ⟨rfl, Nat.le_of_ble_eq_true rfl⟩ | decide) ?_ | refine two_t ?_ | refine two_f ?_ | refine two.intro (fun _ => ?_) (fun _ => ?_) | refine JL.nil ?_ | refine JC.seq ?_ | refine JC.block ?_ | refine JC.skip ?_ | refine JC.exit ?_ | refine JC.region ?_ | refine JC.cond rfl ?_ | refine JC.ret ⟨_, Le.refl, And.intro (by repeat' (first | exact trivial | exact rfl | apply And.intro)) ?_⟩ | refine fSt_in ?_ | refine fAcc_in ?_ | (refine JL.p0 rfl rfl rfl rfl rfl (Fit.refl _) (fun _ => rfl) (by first | exact equalFuncTyp _ _ _ _ same1S) (fun _ => rfl) ?_; refine ev_run ?_) | fail))
  exact rfl
def qObj (x y : Obj) : Bool := (x.id == y.id) && (x.t == y.t) && eqL qVal x.f y.f
theorem same1G (x y : Obj) : PureT cx 48 [sA (eObj x), sA (eObj y)] [] 0 (s1 (tB (qObj x y))) := by
  refine PureT.run0 Try.func48 rfl rfl 24 Try.ntmps48 [.tmp 4] rfl rfl (fun _ => rfl) ?_
  (repeat' (first | refine And.intro (by first | exact trivial | exact rfl | exact ⟨trivial, rfl⟩ | exact ⟨trivial, trivial⟩ | exact ⟨rfl, rfl⟩ | exact ⟨rfl, Nat.le_of_ble_eq_true rfl⟩ | decide) ?_ | refine two_t ?_ | refine two_f ?_ | refine two.intro (fun _ => ?_) (fun _ => ?_) | refine JL.nil ?_ | refine JC.seq ?_ | refine JC.block ?_ | refine JC.skip ?_ | refine JC.exit ?_ | refine JC.region ?_ | refine JC.cond rfl ?_ | refine JC.ret ⟨_, Le.refl, And.intro (by repeat' (first | exact trivial | exact rfl | apply And.intro)) ?_⟩ | refine fSt_in ?_ | refine fAcc_in ?_ | (refine JL.p0 rfl rfl rfl rfl rfl (Fit.refl _) (fun _ => rfl) (by first | exact equalVal _ _) (fun _ => rfl) ?_; refine ev_run ?_) | fail))
  all_goals (refine congrArg Res.ret (congrArg s1 (congrArg tB ?_)); simp_all [qObj])
def grSame (a b : Gr) : Bool := schSame a.s b.s && eqL qInt a.roots b.roots && eqL qObj a.o b.o
theorem grSameT (a b : Gr) : PureT cx 16 [sA (eGr a), sA (eGr b)] [] 0 (s1 (tB (grSame a b))) := by
  refine PureT.run0 Try.func16 rfl rfl 26 Try.ntmps16 [.tmp 4] rfl rfl (fun _ => rfl) ?_
  (repeat' (first | refine And.intro (by first | exact trivial | exact rfl | exact ⟨trivial, rfl⟩ | exact ⟨trivial, trivial⟩ | exact ⟨rfl, rfl⟩ | exact ⟨rfl, Nat.le_of_ble_eq_true rfl⟩ | decide) ?_ | refine two_t ?_ | refine two_f ?_ | refine two.intro (fun _ => ?_) (fun _ => ?_) | refine JL.nil ?_ | refine JC.seq ?_ | refine JC.block ?_ | refine JC.skip ?_ | refine JC.exit ?_ | refine JC.region ?_ | refine JC.cond rfl ?_ | refine JC.ret ⟨_, Le.refl, And.intro (by repeat' (first | exact trivial | exact rfl | apply And.intro)) ?_⟩ | refine fSt_in ?_ | refine fAcc_in ?_ | (refine JL.p0 rfl rfl rfl rfl rfl (Fit.refl _) (fun _ => rfl) (by first | exact schSameT _ _ | exact equalInt _ _ | exact equalFuncObj _ _ _ _ same1G) (fun _ => rfl) ?_; refine ev_run ?_) | fail))
  all_goals (refine congrArg Res.ret (congrArg s1 (congrArg tB ?_)); simp_all [grSame])
theorem same1D (x y : Int × Int) : PureT cx 83 [sA (ePair x), sA (ePair y)] [] 0 (s1 (tB (qPair x y))) := by
  refine PureT.run0 Try.func83 rfl rfl 8 Try.ntmps83 [.tmp 4] rfl rfl (fun _ => rfl) ?_
  (repeat' (first | refine And.intro (by first | exact trivial | exact rfl | exact ⟨trivial, rfl⟩ | exact ⟨trivial, trivial⟩ | exact ⟨rfl, rfl⟩ | exact ⟨rfl, Nat.le_of_ble_eq_true rfl⟩ | decide) ?_ | refine two_t ?_ | refine two_f ?_ | refine two.intro (fun _ => ?_) (fun _ => ?_) | refine JL.nil ?_ | refine JC.seq ?_ | refine JC.block ?_ | refine JC.skip ?_ | refine JC.exit ?_ | refine JC.region ?_ | refine JC.cond rfl ?_ | refine JC.ret ⟨_, Le.refl, And.intro (by repeat' (first | exact trivial | exact rfl | apply And.intro)) ?_⟩ | refine fSt_in ?_ | refine fAcc_in ?_ | (refine JL.p0 rfl rfl rfl rfl rfl (Fit.refl _) (fun _ => rfl) (by first | exact same1G _ _) (fun _ => rfl) ?_; refine ev_run ?_) | fail))
  all_goals exact rfl
def chSame (a b : Chg) : Bool := eqL qPair a.set b.set && eqL qInt a.new b.new && eqL qInt a.gone b.gone && eqL qInt a.roots b.roots
theorem chSameT (a b : Chg) : PureT cx 29 [sA (eChg a), sA (eChg b)] [] 0 (s1 (tB (chSame a b))) := by
  refine PureT.run0 Try.func29 rfl rfl 33 Try.ntmps29 [.tmp 4] rfl rfl (fun _ => rfl) ?_
  (repeat' (first | refine And.intro (by first | exact trivial | exact rfl | exact ⟨trivial, rfl⟩ | exact ⟨trivial, trivial⟩ | exact ⟨rfl, rfl⟩ | exact ⟨rfl, Nat.le_of_ble_eq_true rfl⟩ | decide) ?_ | refine two_t ?_ | refine two_f ?_ | refine two.intro (fun _ => ?_) (fun _ => ?_) | refine JL.nil ?_ | refine JC.seq ?_ | refine JC.block ?_ | refine JC.skip ?_ | refine JC.exit ?_ | refine JC.region ?_ | refine JC.cond rfl ?_ | refine JC.ret ⟨_, Le.refl, And.intro (by repeat' (first | exact trivial | exact rfl | apply And.intro)) ?_⟩ | refine fSt_in ?_ | refine fAcc_in ?_ | (refine JL.p0 rfl rfl rfl rfl rfl (Fit.refl _) (fun _ => rfl) (by first | exact equalFuncIntP _ _ _ _ same1D | exact equalInt _ _) (fun _ => rfl) ?_; refine ev_run ?_) | fail))
  all_goals (refine congrArg Res.ret (congrArg s1 (congrArg tB ?_)); simp_all [chSame])
/-- No object. -/
def noObj : List D := [.data (tI 0), .data (tI 0), .data (.lit (.slice none 0 0))]
def rOb (g : Gr) (id : Int) : SV := if findI g id == -1 then .tup [.agg noObj, .one (.data (tB false))] else .tup [.agg (dat (eObj (g.o.getD (findI g id).toNat default))), .one (.data (tB true))]
theorem find_lt (g : Gr) (id : Int) (h : (findI g id == -1) = false) : 0 ≤ findI g id ∧ findI g id < g.o.length := by
  obtain ⟨i, h1, h2, _⟩ := idx_in (fun o => o.id == id) g.o (by simpa [findI] using h)
  have : findI g id = (i : Int) := h1
  omega
theorem otherT (g : Gr) (id : Int) : PureT cx 90 [sA (eGr g), s1 (tI id)] [] 0 (rOb g id) := by
  refine PureT.run0 Try.func90 rfl rfl 18 Try.ntmps90 [.cell 4 53, .tmp 5] rfl rfl (fun _ => by unfold rOb; split <;> rfl) ?_
  (repeat' (first | refine And.intro (by first | exact trivial | exact rfl | exact ⟨trivial, rfl⟩ | exact ⟨trivial, trivial⟩ | exact ⟨rfl, rfl⟩ | exact ⟨rfl, Nat.le_of_ble_eq_true rfl⟩ | decide) ?_ | refine two_t ?_ | refine two_f ?_ | refine two.intro (fun _ => ?_) (fun _ => ?_) | refine JL.nil ?_ | refine JC.seq ?_ | refine JC.block ?_ | refine JC.skip ?_ | refine JC.exit ?_ | refine JC.region ?_ | refine JC.cond rfl ?_ | refine JC.ret ⟨_, Le.refl, And.intro (by repeat' (first | exact trivial | exact rfl | apply And.intro)) ?_⟩ | refine fSt_in ?_ | refine fAcc_in ?_ | (refine JL.p0 rfl rfl rfl rfl rfl (Fit.refl _) (fun _ => rfl) (by first | exact find g id) (fun _ => rfl) ?_; refine ev_run ?_) | fail))
  · rename_i h
    have h : (findI g id == -1) = true := h
    refine congrArg Res.ret ?_
    rw [rOb, if_pos h]; rfl
  · rename_i h
    have h : (findI g id == -1) = false := h
    obtain ⟨h1, h2⟩ := find_lt g id h
    (repeat' (first | refine And.intro (by first | exact trivial | exact rfl | exact ⟨trivial, rfl⟩ | exact ⟨trivial, trivial⟩ | exact ⟨rfl, rfl⟩ | exact ⟨rfl, Nat.le_of_ble_eq_true rfl⟩ | decide) ?_ | refine two_t ?_ | refine two_f ?_ | refine two.intro (fun _ => ?_) (fun _ => ?_) | refine JL.nil ?_ | refine JC.seq ?_ | refine JC.block ?_ | refine JC.skip ?_ | refine JC.exit ?_ | refine JC.region ?_ | refine JC.cond rfl ?_ | refine JC.ret ⟨_, Le.refl, And.intro (by repeat' (first | exact trivial | exact rfl | apply And.intro)) ?_⟩ | refine And.intro (⟨h1, h2, rfl⟩) ?_ | refine fSt_in ?_ | refine fAcc_in ?_ | fail))
    refine congrArg Res.ret ?_
    rw [rOb, if_neg (by rw [h]; decide)]; rfl
theorem other_no (g : Gr) (id : Int) (h : (findI g id == -1) = true) : PureT cx 90 [sA (eGr g), s1 (tI id)] [] 0 (.tup [.agg noObj, .one (.data (tB false))]) := by
  have := otherT g id
  rwa [rOb, if_pos h] at this
theorem other_yes (g : Gr) (id : Int) (h : (findI g id == -1) = false) : PureT cx 90 [sA (eGr g), s1 (tI id)] [] 0 (.tup [.agg (dat (eObj (g.o.getD (findI g id).toNat default))), .one (.data (tB true))]) := by
  have := otherT g id
  rwa [rOb, if_neg (by rw [h]; decide)] at this
theorem sideT (g : Gr) (id : Int) : PureT cx 165 [sA (eGr g), s1 (tI id)] [] 0 (rOb g id) := by
  refine PureT.run0 Try.func165 rfl rfl 18 Try.ntmps165 [.cell 4 53, .tmp 5] rfl rfl (fun _ => by unfold rOb; split <;> rfl) ?_
  (repeat' (first | refine And.intro (by first | exact trivial | exact rfl | exact ⟨trivial, rfl⟩ | exact ⟨trivial, trivial⟩ | exact ⟨rfl, rfl⟩ | exact ⟨rfl, Nat.le_of_ble_eq_true rfl⟩ | decide) ?_ | refine two_t ?_ | refine two_f ?_ | refine two.intro (fun _ => ?_) (fun _ => ?_) | refine JL.nil ?_ | refine JC.seq ?_ | refine JC.block ?_ | refine JC.skip ?_ | refine JC.exit ?_ | refine JC.region ?_ | refine JC.cond rfl ?_ | refine JC.ret ⟨_, Le.refl, And.intro (by repeat' (first | exact trivial | exact rfl | apply And.intro)) ?_⟩ | refine fSt_in ?_ | refine fAcc_in ?_ | (refine JL.p0 rfl rfl rfl rfl rfl (Fit.refl _) (fun _ => rfl) (by first | exact find g id) (fun _ => rfl) ?_; refine ev_run ?_) | fail))
  · rename_i h
    have h : (findI g id == -1) = true := h
    refine congrArg Res.ret ?_
    rw [rOb, if_pos h]; rfl
  · rename_i h
    have h : (findI g id == -1) = false := h
    obtain ⟨h1, h2⟩ := find_lt g id h
    (repeat' (first | refine And.intro (by first | exact trivial | exact rfl | exact ⟨trivial, rfl⟩ | exact ⟨trivial, trivial⟩ | exact ⟨rfl, rfl⟩ | exact ⟨rfl, Nat.le_of_ble_eq_true rfl⟩ | decide) ?_ | refine two_t ?_ | refine two_f ?_ | refine two.intro (fun _ => ?_) (fun _ => ?_) | refine JL.nil ?_ | refine JC.seq ?_ | refine JC.block ?_ | refine JC.skip ?_ | refine JC.exit ?_ | refine JC.region ?_ | refine JC.cond rfl ?_ | refine JC.ret ⟨_, Le.refl, And.intro (by repeat' (first | exact trivial | exact rfl | apply And.intro)) ?_⟩ | refine And.intro (⟨h1, h2, rfl⟩) ?_ | refine fSt_in ?_ | refine fAcc_in ?_ | fail))
    refine congrArg Res.ret ?_
    rw [rOb, if_neg (by rw [h]; decide)]; rfl
theorem side_no (g : Gr) (id : Int) (h : (findI g id == -1) = true) : PureT cx 165 [sA (eGr g), s1 (tI id)] [] 0 (.tup [.agg noObj, .one (.data (tB false))]) := by
  have := sideT g id
  rwa [rOb, if_pos h] at this
theorem side_yes (g : Gr) (id : Int) (h : (findI g id == -1) = false) : PureT cx 165 [sA (eGr g), s1 (tI id)] [] 0 (.tup [.agg (dat (eObj (g.o.getD (findI g id).toNat default))), .one (.data (tB true))]) := by
  have := sideT g id
  rwa [rOb, if_neg (by rw [h]; decide)] at this
def rootAt (g : Gr) (i : Int) : Int := if i < g.roots.length then g.roots.getD i.toNat default else -1
theorem rootDT (g : Gr) (i : Int) (hi : 0 ≤ i) : PureT cx 91 [sA (eGr g), s1 (tI i)] [] 0 (s1 (tI (rootAt g i))) := by
  refine PureT.run0 Try.func91 rfl rfl 15 Try.ntmps91 [.tmp 4] rfl rfl (fun _ => rfl) ?_
  (repeat' (first | refine And.intro (by first | exact trivial | exact rfl | exact ⟨trivial, rfl⟩ | exact ⟨trivial, trivial⟩ | exact ⟨rfl, rfl⟩ | exact ⟨rfl, Nat.le_of_ble_eq_true rfl⟩ | decide) ?_ | refine two_t ?_ | refine two_f ?_ | refine two.intro (fun _ => ?_) (fun _ => ?_) | refine JL.nil ?_ | refine JC.seq ?_ | refine JC.block ?_ | refine JC.skip ?_ | refine JC.exit ?_ | refine JC.region ?_ | refine JC.cond rfl ?_ | refine JC.ret ⟨_, Le.refl, And.intro (by repeat' (first | exact trivial | exact rfl | apply And.intro)) ?_⟩ | refine fSt_in ?_ | refine fAcc_in ?_ | (refine JL.p0 rfl rfl rfl rfl rfl (Fit.refl _) (fun _ => rfl) (by first | exact find g i) (fun _ => rfl) ?_; refine ev_run ?_) | fail))
  · rename_i h
    have h : i < g.roots.length := of_decide_eq_true h
    (repeat' (first | refine And.intro (by first | exact trivial | exact rfl | exact ⟨trivial, rfl⟩ | exact ⟨trivial, trivial⟩ | exact ⟨rfl, rfl⟩ | exact ⟨rfl, Nat.le_of_ble_eq_true rfl⟩ | decide) ?_ | refine two_t ?_ | refine two_f ?_ | refine two.intro (fun _ => ?_) (fun _ => ?_) | refine JL.nil ?_ | refine JC.seq ?_ | refine JC.block ?_ | refine JC.skip ?_ | refine JC.exit ?_ | refine JC.region ?_ | refine JC.cond rfl ?_ | refine JC.ret ⟨_, Le.refl, And.intro (by repeat' (first | exact trivial | exact rfl | apply And.intro)) ?_⟩ | refine And.intro (⟨hi, h, rfl⟩) ?_ | refine fSt_in ?_ | refine fAcc_in ?_ | fail))
    refine congrArg Res.ret ?_
    rw [rootAt, if_pos h]; rfl
  · rename_i h
    have h : ¬ i < g.roots.length := of_decide_eq_false h
    refine congrArg Res.ret ?_
    rw [rootAt, if_neg h]; rfl
theorem rootMT (g : Gr) (i : Int) (hi : 0 ≤ i) : PureT cx 136 [sA (eGr g), s1 (tI i)] [] 0 (s1 (tI (rootAt g i))) := by
  refine PureT.run0 Try.func136 rfl rfl 15 Try.ntmps136 [.tmp 4] rfl rfl (fun _ => rfl) ?_
  (repeat' (first | refine And.intro (by first | exact trivial | exact rfl | exact ⟨trivial, rfl⟩ | exact ⟨trivial, trivial⟩ | exact ⟨rfl, rfl⟩ | exact ⟨rfl, Nat.le_of_ble_eq_true rfl⟩ | decide) ?_ | refine two_t ?_ | refine two_f ?_ | refine two.intro (fun _ => ?_) (fun _ => ?_) | refine JL.nil ?_ | refine JC.seq ?_ | refine JC.block ?_ | refine JC.skip ?_ | refine JC.exit ?_ | refine JC.region ?_ | refine JC.cond rfl ?_ | refine JC.ret ⟨_, Le.refl, And.intro (by repeat' (first | exact trivial | exact rfl | apply And.intro)) ?_⟩ | refine fSt_in ?_ | refine fAcc_in ?_ | (refine JL.p0 rfl rfl rfl rfl rfl (Fit.refl _) (fun _ => rfl) (by first | exact find g i) (fun _ => rfl) ?_; refine ev_run ?_) | fail))
  · rename_i h
    have h : i < g.roots.length := of_decide_eq_true h
    (repeat' (first | refine And.intro (by first | exact trivial | exact rfl | exact ⟨trivial, rfl⟩ | exact ⟨trivial, trivial⟩ | exact ⟨rfl, rfl⟩ | exact ⟨rfl, Nat.le_of_ble_eq_true rfl⟩ | decide) ?_ | refine two_t ?_ | refine two_f ?_ | refine two.intro (fun _ => ?_) (fun _ => ?_) | refine JL.nil ?_ | refine JC.seq ?_ | refine JC.block ?_ | refine JC.skip ?_ | refine JC.exit ?_ | refine JC.region ?_ | refine JC.cond rfl ?_ | refine JC.ret ⟨_, Le.refl, And.intro (by repeat' (first | exact trivial | exact rfl | apply And.intro)) ?_⟩ | refine And.intro (⟨hi, h, rfl⟩) ?_ | refine fSt_in ?_ | refine fAcc_in ?_ | fail))
    refine congrArg Res.ret ?_
    rw [rootAt, if_pos h]; rfl
  · rename_i h
    have h : ¬ i < g.roots.length := of_decide_eq_false h
    refine congrArg Res.ret ?_
    rw [rootAt, if_neg h]; rfl
theorem noneT (c : Chg) : PureT cx 30 [sA (eChg c)] [] 0 (s1 (tB (IntKind.i64.wrap (IntKind.i64.wrap (IntKind.i64.wrap ((c.new.length : Int) + c.gone.length) + c.set.length) + c.roots.length) == 0))) := by
  refine PureT.run0 Try.func30 rfl rfl 19 Try.ntmps30 [.tmp 2] rfl rfl (fun _ => rfl) ?_
  (repeat' (first | refine And.intro (by first | exact trivial | exact rfl | exact ⟨trivial, rfl⟩ | exact ⟨trivial, trivial⟩ | exact ⟨rfl, rfl⟩ | exact ⟨rfl, Nat.le_of_ble_eq_true rfl⟩ | decide) ?_ | refine two_t ?_ | refine two_f ?_ | refine two.intro (fun _ => ?_) (fun _ => ?_) | refine JL.nil ?_ | refine JC.seq ?_ | refine JC.block ?_ | refine JC.skip ?_ | refine JC.exit ?_ | refine JC.region ?_ | refine JC.cond rfl ?_ | refine JC.ret ⟨_, Le.refl, And.intro (by repeat' (first | exact trivial | exact rfl | apply And.intro)) ?_⟩ | refine fSt_in ?_ | refine fAcc_in ?_ | (refine JL.p0 rfl rfl rfl rfl rfl (Fit.refl _) (fun _ => rfl) (by first | exact same1G _ _) (fun _ => rfl) ?_; refine ev_run ?_) | fail))
  exact rfl
end Go.Proofs.Ytlhfajmcnbcabaa

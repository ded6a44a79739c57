import Derived.Test.YtlhfajmcnbcabaaEnc
import Derived.Test.YtlhfajmcnbcabaaFwD
set_option linter.unusedVariables false
set_option linter.unusedSimpArgs false
namespace Go.Proofs.Ytlhfajmcnbcabaa
open Go Go.Fw
set_option maxRecDepth 100000

theorem find1 (o : Obj) (id : Int) : PureT cx 66 [sA (eObj o), .c (.one (.ref 0 0))] [(0, .box 3 [.data (tI id)])] 1 (s1 (tB (o.id == id))) := by
  refine Triple.pure (Triple.run (QR := fun r h' nx' => r = .ret (s1 (tB (o.id == id))) ∧ h' = [(1, .box 53 (dat (eObj o))), (0, .box 3 [.data (tI id)])] ∧ nx' = 2) Try.func66 rfl rfl 8 Try.ntmps66 [.tmp 3] rfl rfl ?_) ?_
  · (refine JC.seq (JC.region ?_); (repeat (first | refine And.intro (by first | exact trivial | exact rfl | exact ⟨trivial, rfl⟩ | exact ⟨trivial, trivial⟩ | exact ⟨rfl, rfl⟩ | exact ⟨rfl, Nat.le_of_ble_eq_true rfl⟩ | decide) ?_ | refine fSt_in ?_ | refine fAcc_in ?_)); refine JL.nil ?_)
    (refine JC.seq (JC.region ?_); (repeat (first | refine And.intro (by first | exact trivial | exact rfl | exact ⟨trivial, rfl⟩ | exact ⟨trivial, trivial⟩ | exact ⟨rfl, rfl⟩ | exact ⟨rfl, Nat.le_of_ble_eq_true rfl⟩ | decide) ?_ | refine fSt_in ?_ | refine fAcc_in ?_)); refine JL.nil ?_)
    (refine JC.ret ⟨_, Le.refl, And.intro (by repeat' (first | exact trivial | exact rfl | apply And.intro)) ?_⟩)
    exact ⟨rfl, rfl, rfl⟩
  · rintro r h' nx' ⟨rfl, rfl, rfl⟩
    exact ⟨rfl, by simp, fun _ _ => rfl⟩

theorem indexFuncObj (xs : List Obj) (p : Obj → Bool) (fid : FuncId) (ids : List Nat) (caps : List SV) (h : Heap) (nx : Nat) (hrow : rowIds h = []) (hcap : ∀ s : St, s.h = h → capSV s ids = some caps)
    (hf : ∀ o, PureT cx fid (sA (eObj o) :: caps) h nx (s1 (tB (p o)))) : PureT cx 65 [s1 (rowsOf 3 eObj xs), .c (.one (.clo fid ids))] h nx (s1 (tI (idx p xs))) := by
  refine Triple.run Try.func65 rfl rfl 19 Try.ntmps65 [.tmp 4] rfl rfl (JC.have_big 0 rfl fun hbig => ?_)
  (repeat (first | refine JC.seq ?_ | refine JC.block ?_ | refine JC.skip ?_ | refine JC.exit ?_ | (refine JC.region ?_; (repeat (first | refine And.intro (by first | exact trivial | exact rfl | exact ⟨trivial, rfl⟩ | exact ⟨trivial, trivial⟩ | exact ⟨rfl, rfl⟩ | exact ⟨rfl, Nat.le_of_ble_eq_true rfl⟩ | decide) ?_ | refine fSt_in ?_ | refine fAcc_in ?_)); refine JL.nil ?_)))
  refine JC.loop (ι := { i : Nat // i ≤ xs.length ∧ ∀ j, j < i → p (xs.getD j default) = false }) (fun i => ⟨[(0, s1 (rowsOf 3 eObj xs)), (1, .c (.one (.clo fid ids))), (7, s1 (tI xs.length)), (8, s1 (tI i.1))], h, nx⟩) (fun i => xs.length - i.1) ⟨0, Nat.zero_le _, fun j h => absurd h (Nat.not_lt_zero j)⟩ (Le.slots (by repeat (first | exact trivial | refine SlLe.same rfl ?_ | refine SlLe.int rfl (by first | exact wrap_succ (by assumption) (by assumption) | exact wrap_succ2 (by first | omega | (simp only []; omega))) ?_)) rfl rfl) ?_
  rintro ⟨i, hi, hno⟩
  (repeat (first | refine JC.seq ?_ | refine JC.block ?_ | refine JC.skip ?_ | refine JC.exit ?_ | (refine JC.region ?_; (repeat (first | refine And.intro (by first | exact trivial | exact rfl | exact ⟨trivial, rfl⟩ | exact ⟨trivial, trivial⟩ | exact ⟨rfl, rfl⟩ | exact ⟨rfl, Nat.le_of_ble_eq_true rfl⟩ | decide) ?_ | refine fSt_in ?_ | refine fAcc_in ?_)); refine JL.nil ?_)))
  refine JC.cond rfl (two.intro ?_ ?_)
  · intro hlt
    (repeat (first | refine JC.seq ?_ | refine JC.block ?_ | refine JC.skip ?_ | refine JC.exit ?_ | (refine JC.region ?_; (repeat (first | refine And.intro (by first | exact trivial | exact rfl | exact ⟨trivial, rfl⟩ | exact ⟨trivial, trivial⟩ | exact ⟨rfl, rfl⟩ | exact ⟨rfl, Nat.le_of_ble_eq_true rfl⟩ | decide) ?_ | refine fSt_in ?_ | refine fAcc_in ?_)); refine JL.nil ?_)))
    (refine JC.region ?_; (repeat (first | refine And.intro (by first | exact trivial | exact rfl | exact ⟨trivial, rfl⟩ | exact ⟨trivial, trivial⟩ | exact ⟨rfl, rfl⟩ | exact ⟨rfl, Nat.le_of_ble_eq_true rfl⟩ | decide) ?_ | refine fSt_in ?_ | refine fAcc_in ?_)))
    have hlt : i < xs.length := by simpa using hlt
    refine And.intro ⟨Int.natCast_nonneg _, Int.ofNat_lt.2 hlt, rfl⟩ ?_
    (repeat (first | refine And.intro (by first | exact trivial | exact rfl | exact ⟨trivial, rfl⟩ | exact ⟨trivial, trivial⟩ | exact ⟨rfl, rfl⟩ | exact ⟨rfl, Nat.le_of_ble_eq_true rfl⟩ | decide) ?_ | refine fSt_in ?_ | refine fAcc_in ?_))
    refine JL.pw rfl rfl rfl rfl rfl (hcap _ rfl) (Fit.refl _) hrow (fun _ => hf _) (JL.nil ?_)
    refine JC.cond rfl (two.intro ?_ ?_)
    · intro hp
      (repeat (first | refine JC.seq ?_ | refine JC.block ?_ | refine JC.skip ?_ | refine JC.exit ?_ | (refine JC.region ?_; (repeat (first | refine And.intro (by first | exact trivial | exact rfl | exact ⟨trivial, rfl⟩ | exact ⟨trivial, trivial⟩ | exact ⟨rfl, rfl⟩ | exact ⟨rfl, Nat.le_of_ble_eq_true rfl⟩ | decide) ?_ | refine fSt_in ?_ | refine fAcc_in ?_)); refine JL.nil ?_)))
      (refine JC.ret ⟨_, Le.refl, And.intro (by repeat' (first | exact trivial | exact rfl | apply And.intro)) ?_⟩)
      exact ⟨congrArg Res.ret (congrArg s1 (congrArg tI (idx_at p xs i hlt hno hp).symm)), rfl, rfl⟩
    · intro hp
      (repeat (first | refine JC.seq ?_ | refine JC.block ?_ | refine JC.skip ?_ | refine JC.exit ?_ | (refine JC.region ?_; (repeat (first | refine And.intro (by first | exact trivial | exact rfl | exact ⟨trivial, rfl⟩ | exact ⟨trivial, trivial⟩ | exact ⟨rfl, rfl⟩ | exact ⟨rfl, Nat.le_of_ble_eq_true rfl⟩ | decide) ?_ | refine fSt_in ?_ | refine fAcc_in ?_)); refine JL.nil ?_)))
      exact ⟨⟨i + 1, hlt, upto_succ hno hp⟩, by simp only; omega, (Le.slots (by repeat (first | exact trivial | refine SlLe.same rfl ?_ | refine SlLe.int rfl (by first | exact wrap_succ (by assumption) (by assumption) | exact wrap_succ2 (by first | omega | (simp only []; omega))) ?_)) rfl rfl)⟩
  · intro hge
    (repeat (first | refine JC.seq ?_ | refine JC.block ?_ | refine JC.skip ?_ | refine JC.exit ?_ | (refine JC.region ?_; (repeat (first | refine And.intro (by first | exact trivial | exact rfl | exact ⟨trivial, rfl⟩ | exact ⟨trivial, trivial⟩ | exact ⟨rfl, rfl⟩ | exact ⟨rfl, Nat.le_of_ble_eq_true rfl⟩ | decide) ?_ | refine fSt_in ?_ | refine fAcc_in ?_)); refine JL.nil ?_)))
    (refine JC.ret ⟨_, Le.refl, And.intro (by repeat' (first | exact trivial | exact rfl | apply And.intro)) ?_⟩)
    have hge : ¬ i < xs.length := by simpa using hge
    exact ⟨congrArg Res.ret (congrArg s1 (congrArg tI (idx_no p xs (fun j hj => hno j (by omega))).symm)), rfl, rfl⟩
theorem indexFuncTyp (xs : List Typ) (p : Typ → Bool) (fid : FuncId) (ids : List Nat) (caps : List SV) (h : Heap) (nx : Nat) (hrow : rowIds h = []) (hcap : ∀ s : St, s.h = h → capSV s ids = some caps)
    (hf : ∀ o, PureT cx fid (sA (eTyp o) :: caps) h nx (s1 (tB (p o)))) : PureT cx 150 [s1 (rowsOf 2 eTyp xs), .c (.one (.clo fid ids))] h nx (s1 (tI (idx p xs))) := by
  refine Triple.run Try.func150 rfl rfl 19 Try.ntmps150 [.tmp 4] rfl rfl (JC.have_big 0 rfl fun hbig => ?_)
  (repeat (first | refine JC.seq ?_ | refine JC.block ?_ | refine JC.skip ?_ | refine JC.exit ?_ | (refine JC.region ?_; (repeat (first | refine And.intro (by first | exact trivial | exact rfl | exact ⟨trivial, rfl⟩ | exact ⟨trivial, trivial⟩ | exact ⟨rfl, rfl⟩ | exact ⟨rfl, Nat.le_of_ble_eq_true rfl⟩ | decide) ?_ | refine fSt_in ?_ | refine fAcc_in ?_)); refine JL.nil ?_)))
  refine JC.loop (ι := { i : Nat // i ≤ xs.length ∧ ∀ j, j < i → p (xs.getD j default) = false }) (fun i => ⟨[(0, s1 (rowsOf 2 eTyp xs)), (1, .c (.one (.clo fid ids))), (7, s1 (tI xs.length)), (8, s1 (tI i.1))], h, nx⟩) (fun i => xs.length - i.1) ⟨0, Nat.zero_le _, fun j h => absurd h (Nat.not_lt_zero j)⟩ (Le.slots (by repeat (first | exact trivial | refine SlLe.same rfl ?_ | refine SlLe.int rfl (by first | exact wrap_succ (by assumption) (by assumption) | exact wrap_succ2 (by first | omega | (simp only []; omega))) ?_)) rfl rfl) ?_
  rintro ⟨i, hi, hno⟩
  (repeat (first | refine JC.seq ?_ | refine JC.block ?_ | refine JC.skip ?_ | refine JC.exit ?_ | (refine JC.region ?_; (repeat (first | refine And.intro (by first | exact trivial | exact rfl | exact ⟨trivial, rfl⟩ | exact ⟨trivial, trivial⟩ | exact ⟨rfl, rfl⟩ | exact ⟨rfl, Nat.le_of_ble_eq_true rfl⟩ | decide) ?_ | refine fSt_in ?_ | refine fAcc_in ?_)); refine JL.nil ?_)))
  refine JC.cond rfl (two.intro ?_ ?_)
  · intro hlt
    (repeat (first | refine JC.seq ?_ | refine JC.block ?_ | refine JC.skip ?_ | refine JC.exit ?_ | (refine JC.region ?_; (repeat (first | refine And.intro (by first | exact trivial | exact rfl | exact ⟨trivial, rfl⟩ | exact ⟨trivial, trivial⟩ | exact ⟨rfl, rfl⟩ | exact ⟨rfl, Nat.le_of_ble_eq_true rfl⟩ | decide) ?_ | refine fSt_in ?_ | refine fAcc_in ?_)); refine JL.nil ?_)))
    (refine JC.region ?_; (repeat (first | refine And.intro (by first | exact trivial | exact rfl | exact ⟨trivial, rfl⟩ | exact ⟨trivial, trivial⟩ | exact ⟨rfl, rfl⟩ | exact ⟨rfl, Nat.le_of_ble_eq_true rfl⟩ | decide) ?_ | refine fSt_in ?_ | refine fAcc_in ?_)))
    have hlt : i < xs.length := by simpa using hlt
    refine And.intro ⟨Int.natCast_nonneg _, Int.ofNat_lt.2 hlt, rfl⟩ ?_
    (repeat (first | refine And.intro (by first | exact trivial | exact rfl | exact ⟨trivial, rfl⟩ | exact ⟨trivial, trivial⟩ | exact ⟨rfl, rfl⟩ | exact ⟨rfl, Nat.le_of_ble_eq_true rfl⟩ | decide) ?_ | refine fSt_in ?_ | refine fAcc_in ?_))
    refine JL.pw rfl rfl rfl rfl rfl (hcap _ rfl) (Fit.refl _) hrow (fun _ => hf _) (JL.nil ?_)
    refine JC.cond rfl (two.intro ?_ ?_)
    · intro hp
      (repeat (first | refine JC.seq ?_ | refine JC.block ?_ | refine JC.skip ?_ | refine JC.exit ?_ | (refine JC.region ?_; (repeat (first | refine And.intro (by first | exact trivial | exact rfl | exact ⟨trivial, rfl⟩ | exact ⟨trivial, trivial⟩ | exact ⟨rfl, rfl⟩ | exact ⟨rfl, Nat.le_of_ble_eq_true rfl⟩ | decide) ?_ | refine fSt_in ?_ | refine fAcc_in ?_)); refine JL.nil ?_)))
      (refine JC.ret ⟨_, Le.refl, And.intro (by repeat' (first | exact trivial | exact rfl | apply And.intro)) ?_⟩)
      exact ⟨congrArg Res.ret (congrArg s1 (congrArg tI (idx_at p xs i hlt hno hp).symm)), rfl, rfl⟩
    · intro hp
      (repeat (first | refine JC.seq ?_ | refine JC.block ?_ | refine JC.skip ?_ | refine JC.exit ?_ | (refine JC.region ?_; (repeat (first | refine And.intro (by first | exact trivial | exact rfl | exact ⟨trivial, rfl⟩ | exact ⟨trivial, trivial⟩ | exact ⟨rfl, rfl⟩ | exact ⟨rfl, Nat.le_of_ble_eq_true rfl⟩ | decide) ?_ | refine fSt_in ?_ | refine fAcc_in ?_)); refine JL.nil ?_)))
      exact ⟨⟨i + 1, hlt, upto_succ hno hp⟩, by simp only; omega, (Le.slots (by repeat (first | exact trivial | refine SlLe.same rfl ?_ | refine SlLe.int rfl (by first | exact wrap_succ (by assumption) (by assumption) | exact wrap_succ2 (by first | omega | (simp only []; omega))) ?_)) rfl rfl)⟩
  · intro hge
    (repeat (first | refine JC.seq ?_ | refine JC.block ?_ | refine JC.skip ?_ | refine JC.exit ?_ | (refine JC.region ?_; (repeat (first | refine And.intro (by first | exact trivial | exact rfl | exact ⟨trivial, rfl⟩ | exact ⟨trivial, trivial⟩ | exact ⟨rfl, rfl⟩ | exact ⟨rfl, Nat.le_of_ble_eq_true rfl⟩ | decide) ?_ | refine fSt_in ?_ | refine fAcc_in ?_)); refine JL.nil ?_)))
    (refine JC.ret ⟨_, Le.refl, And.intro (by repeat' (first | exact trivial | exact rfl | apply And.intro)) ?_⟩)
    have hge : ¬ i < xs.length := by simpa using hge
    exact ⟨congrArg Res.ret (congrArg s1 (congrArg tI (idx_no p xs (fun j hj => hno j (by omega))).symm)), rfl, rfl⟩
theorem indexFuncFld (xs : List Fld) (p : Fld → Bool) (fid : FuncId) (ids : List Nat) (caps : List SV) (h : Heap) (nx : Nat) (hrow : rowIds h = []) (hcap : ∀ s : St, s.h = h → capSV s ids = some caps)
    (hf : ∀ o, PureT cx fid (sA (eFld o) :: caps) h nx (s1 (tB (p o)))) : PureT cx 155 [s1 (rowsOf 3 eFld xs), .c (.one (.clo fid ids))] h nx (s1 (tI (idx p xs))) := by
  refine Triple.run Try.func155 rfl rfl 19 Try.ntmps155 [.tmp 4] rfl rfl (JC.have_big 0 rfl fun hbig => ?_)
  (repeat (first | refine JC.seq ?_ | refine JC.block ?_ | refine JC.skip ?_ | refine JC.exit ?_ | (refine JC.region ?_; (repeat (first | refine And.intro (by first | exact trivial | exact rfl | exact ⟨trivial, rfl⟩ | exact ⟨trivial, trivial⟩ | exact ⟨rfl, rfl⟩ | exact ⟨rfl, Nat.le_of_ble_eq_true rfl⟩ | decide) ?_ | refine fSt_in ?_ | refine fAcc_in ?_)); refine JL.nil ?_)))
  refine JC.loop (ι := { i : Nat // i ≤ xs.length ∧ ∀ j, j < i → p (xs.getD j default) = false }) (fun i => ⟨[(0, s1 (rowsOf 3 eFld xs)), (1, .c (.one (.clo fid ids))), (7, s1 (tI xs.length)), (8, s1 (tI i.1))], h, nx⟩) (fun i => xs.length - i.1) ⟨0, Nat.zero_le _, fun j h => absurd h (Nat.not_lt_zero j)⟩ (Le.slots (by repeat (first | exact trivial | refine SlLe.same rfl ?_ | refine SlLe.int rfl (by first | exact wrap_succ (by assumption) (by assumption) | exact wrap_succ2 (by first | omega | (simp only []; omega))) ?_)) rfl rfl) ?_
  rintro ⟨i, hi, hno⟩
  (repeat (first | refine JC.seq ?_ | refine JC.block ?_ | refine JC.skip ?_ | refine JC.exit ?_ | (refine JC.region ?_; (repeat (first | refine And.intro (by first | exact trivial | exact rfl | exact ⟨trivial, rfl⟩ | exact ⟨trivial, trivial⟩ | exact ⟨rfl, rfl⟩ | exact ⟨rfl, Nat.le_of_ble_eq_true rfl⟩ | decide) ?_ | refine fSt_in ?_ | refine fAcc_in ?_)); refine JL.nil ?_)))
  refine JC.cond rfl (two.intro ?_ ?_)
  · intro hlt
    (repeat (first | refine JC.seq ?_ | refine JC.block ?_ | refine JC.skip ?_ | refine JC.exit ?_ | (refine JC.region ?_; (repeat (first | refine And.intro (by first | exact trivial | exact rfl | exact ⟨trivial, rfl⟩ | exact ⟨trivial, trivial⟩ | exact ⟨rfl, rfl⟩ | exact ⟨rfl, Nat.le_of_ble_eq_true rfl⟩ | decide) ?_ | refine fSt_in ?_ | refine fAcc_in ?_)); refine JL.nil ?_)))
    (refine JC.region ?_; (repeat (first | refine And.intro (by first | exact trivial | exact rfl | exact ⟨trivial, rfl⟩ | exact ⟨trivial, trivial⟩ | exact ⟨rfl, rfl⟩ | exact ⟨rfl, Nat.le_of_ble_eq_true rfl⟩ | decide) ?_ | refine fSt_in ?_ | refine fAcc_in ?_)))
    have hlt : i < xs.length := by simpa using hlt
    refine And.intro ⟨Int.natCast_nonneg _, Int.ofNat_lt.2 hlt, rfl⟩ ?_
    (repeat (first | refine And.intro (by first | exact trivial | exact rfl | exact ⟨trivial, rfl⟩ | exact ⟨trivial, trivial⟩ | exact ⟨rfl, rfl⟩ | exact ⟨rfl, Nat.le_of_ble_eq_true rfl⟩ | decide) ?_ | refine fSt_in ?_ | refine fAcc_in ?_))
    refine JL.pw rfl rfl rfl rfl rfl (hcap _ rfl) (Fit.refl _) hrow (fun _ => hf _) (JL.nil ?_)
    refine JC.cond rfl (two.intro ?_ ?_)
    · intro hp
      (repeat (first | refine JC.seq ?_ | refine JC.block ?_ | refine JC.skip ?_ | refine JC.exit ?_ | (refine JC.region ?_; (repeat (first | refine And.intro (by first | exact trivial | exact rfl | exact ⟨trivial, rfl⟩ | exact ⟨trivial, trivial⟩ | exact ⟨rfl, rfl⟩ | exact ⟨rfl, Nat.le_of_ble_eq_true rfl⟩ | decide) ?_ | refine fSt_in ?_ | refine fAcc_in ?_)); refine JL.nil ?_)))
      (refine JC.ret ⟨_, Le.refl, And.intro (by repeat' (first | exact trivial | exact rfl | apply And.intro)) ?_⟩)
      exact ⟨congrArg Res.ret (congrArg s1 (congrArg tI (idx_at p xs i hlt hno hp).symm)), rfl, rfl⟩
    · intro hp
      (repeat (first | refine JC.seq ?_ | refine JC.block ?_ | refine JC.skip ?_ | refine JC.exit ?_ | (refine JC.region ?_; (repeat (first | refine And.intro (by first | exact trivial | exact rfl | exact ⟨trivial, rfl⟩ | exact ⟨trivial, trivial⟩ | exact ⟨rfl, rfl⟩ | exact ⟨rfl, Nat.le_of_ble_eq_true rfl⟩ | decide) ?_ | refine fSt_in ?_ | refine fAcc_in ?_)); refine JL.nil ?_)))
      exact ⟨⟨i + 1, hlt, upto_succ hno hp⟩, by simp only; omega, (Le.slots (by repeat (first | exact trivial | refine SlLe.same rfl ?_ | refine SlLe.int rfl (by first | exact wrap_succ (by assumption) (by assumption) | exact wrap_succ2 (by first | omega | (simp only []; omega))) ?_)) rfl rfl)⟩
  · intro hge
    (repeat (first | refine JC.seq ?_ | refine JC.block ?_ | refine JC.skip ?_ | refine JC.exit ?_ | (refine JC.region ?_; (repeat (first | refine And.intro (by first | exact trivial | exact rfl | exact ⟨trivial, rfl⟩ | exact ⟨trivial, trivial⟩ | exact ⟨rfl, rfl⟩ | exact ⟨rfl, Nat.le_of_ble_eq_true rfl⟩ | decide) ?_ | refine fSt_in ?_ | refine fAcc_in ?_)); refine JL.nil ?_)))
    (refine JC.ret ⟨_, Le.refl, And.intro (by repeat' (first | exact trivial | exact rfl | apply And.intro)) ?_⟩)
    have hge : ¬ i < xs.length := by simpa using hge
    exact ⟨congrArg Res.ret (congrArg s1 (congrArg tI (idx_no p xs (fun j hj => hno j (by omega))).symm)), rfl, rfl⟩
theorem indexFuncInt (xs : List Int) (p : Int → Bool) (fid : FuncId) (ids : List Nat) (caps : List SV) (h : Heap) (nx : Nat) (hrow : rowIds h = []) (hcap : ∀ s : St, s.h = h → capSV s ids = some caps)
    (hf : ∀ o, PureT cx fid (sI (eInt o) :: caps) h nx (s1 (tB (p o)))) : PureT cx 125 [s1 (rowsOf 1 eInt xs), .c (.one (.clo fid ids))] h nx (s1 (tI (idx p xs))) := by
  refine Triple.run Try.func125 rfl rfl 19 Try.ntmps125 [.tmp 4] rfl rfl (JC.have_big 0 rfl fun hbig => ?_)
  (repeat (first | refine JC.seq ?_ | refine JC.block ?_ | refine JC.skip ?_ | refine JC.exit ?_ | (refine JC.region ?_; (repeat (first | refine And.intro (by first | exact trivial | exact rfl | exact ⟨trivial, rfl⟩ | exact ⟨trivial, trivial⟩ | exact ⟨rfl, rfl⟩ | exact ⟨rfl, Nat.le_of_ble_eq_true rfl⟩ | decide) ?_ | refine fSt_in ?_ | refine fAcc_in ?_)); refine JL.nil ?_)))
  refine JC.loop (ι := { i : Nat // i ≤ xs.length ∧ ∀ j, j < i → p (xs.getD j default) = false }) (fun i => ⟨[(0, s1 (rowsOf 1 eInt xs)), (1, .c (.one (.clo fid ids))), (7, s1 (tI xs.length)), (8, s1 (tI i.1))], h, nx⟩) (fun i => xs.length - i.1) ⟨0, Nat.zero_le _, fun j h => absurd h (Nat.not_lt_zero j)⟩ (Le.slots (by repeat (first | exact trivial | refine SlLe.same rfl ?_ | refine SlLe.int rfl (by first | exact wrap_succ (by assumption) (by assumption) | exact wrap_succ2 (by first | omega | (simp only []; omega))) ?_)) rfl rfl) ?_
  rintro ⟨i, hi, hno⟩
  (repeat (first | refine JC.seq ?_ | refine JC.block ?_ | refine JC.skip ?_ | refine JC.exit ?_ | (refine JC.region ?_; (repeat (first | refine And.intro (by first | exact trivial | exact rfl | exact ⟨trivial, rfl⟩ | exact ⟨trivial, trivial⟩ | exact ⟨rfl, rfl⟩ | exact ⟨rfl, Nat.le_of_ble_eq_true rfl⟩ | decide) ?_ | refine fSt_in ?_ | refine fAcc_in ?_)); refine JL.nil ?_)))
  refine JC.cond rfl (two.intro ?_ ?_)
  · intro hlt
    (repeat (first | refine JC.seq ?_ | refine JC.block ?_ | refine JC.skip ?_ | refine JC.exit ?_ | (refine JC.region ?_; (repeat (first | refine And.intro (by first | exact trivial | exact rfl | exact ⟨trivial, rfl⟩ | exact ⟨trivial, trivial⟩ | exact ⟨rfl, rfl⟩ | exact ⟨rfl, Nat.le_of_ble_eq_true rfl⟩ | decide) ?_ | refine fSt_in ?_ | refine fAcc_in ?_)); refine JL.nil ?_)))
    (refine JC.region ?_; (repeat (first | refine And.intro (by first | exact trivial | exact rfl | exact ⟨trivial, rfl⟩ | exact ⟨trivial, trivial⟩ | exact ⟨rfl, rfl⟩ | exact ⟨rfl, Nat.le_of_ble_eq_true rfl⟩ | decide) ?_ | refine fSt_in ?_ | refine fAcc_in ?_)))
    have hlt : i < xs.length := by simpa using hlt
    refine And.intro ⟨Int.natCast_nonneg _, Int.ofNat_lt.2 hlt, rfl⟩ ?_
    (repeat (first | refine And.intro (by first | exact trivial | exact rfl | exact ⟨trivial, rfl⟩ | exact ⟨trivial, trivial⟩ | exact ⟨rfl, rfl⟩ | exact ⟨rfl, Nat.le_of_ble_eq_true rfl⟩ | decide) ?_ | refine fSt_in ?_ | refine fAcc_in ?_))
    refine JL.pw rfl rfl rfl rfl rfl (hcap _ rfl) (Fit.refl _) hrow (fun _ => hf _) (JL.nil ?_)
    refine JC.cond rfl (two.intro ?_ ?_)
    · intro hp
      (repeat (first | refine JC.seq ?_ | refine JC.block ?_ | refine JC.skip ?_ | refine JC.exit ?_ | (refine JC.region ?_; (repeat (first | refine And.intro (by first | exact trivial | exact rfl | exact ⟨trivial, rfl⟩ | exact ⟨trivial, trivial⟩ | exact ⟨rfl, rfl⟩ | exact ⟨rfl, Nat.le_of_ble_eq_true rfl⟩ | decide) ?_ | refine fSt_in ?_ | refine fAcc_in ?_)); refine JL.nil ?_)))
      (refine JC.ret ⟨_, Le.refl, And.intro (by repeat' (first | exact trivial | exact rfl | apply And.intro)) ?_⟩)
      exact ⟨congrArg Res.ret (congrArg s1 (congrArg tI (idx_at p xs i hlt hno hp).symm)), rfl, rfl⟩
    · intro hp
      (repeat (first | refine JC.seq ?_ | refine JC.block ?_ | refine JC.skip ?_ | refine JC.exit ?_ | (refine JC.region ?_; (repeat (first | refine And.intro (by first | exact trivial | exact rfl | exact ⟨trivial, rfl⟩ | exact ⟨trivial, trivial⟩ | exact ⟨rfl, rfl⟩ | exact ⟨rfl, Nat.le_of_ble_eq_true rfl⟩ | decide) ?_ | refine fSt_in ?_ | refine fAcc_in ?_)); refine JL.nil ?_)))
      exact ⟨⟨i + 1, hlt, upto_succ hno hp⟩, by simp only; omega, (Le.slots (by repeat (first | exact trivial | refine SlLe.same rfl ?_ | refine SlLe.int rfl (by first | exact wrap_succ (by assumption) (by assumption) | exact wrap_succ2 (by first | omega | (simp only []; omega))) ?_)) rfl rfl)⟩
  · intro hge
    (repeat (first | refine JC.seq ?_ | refine JC.block ?_ | refine JC.skip ?_ | refine JC.exit ?_ | (refine JC.region ?_; (repeat (first | refine And.intro (by first | exact trivial | exact rfl | exact ⟨trivial, rfl⟩ | exact ⟨trivial, trivial⟩ | exact ⟨rfl, rfl⟩ | exact ⟨rfl, Nat.le_of_ble_eq_true rfl⟩ | decide) ?_ | refine fSt_in ?_ | refine fAcc_in ?_)); refine JL.nil ?_)))
    (refine JC.ret ⟨_, Le.refl, And.intro (by repeat' (first | exact trivial | exact rfl | apply And.intro)) ?_⟩)
    have hge : ¬ i < xs.length := by simpa using hge
    exact ⟨congrArg Res.ret (congrArg s1 (congrArg tI (idx_no p xs (fun j hj => hno j (by omega))).symm)), rfl, rfl⟩
theorem find (g : Gr) (id : Int) : PureT cx 20 [sA (eGr g), s1 (tI id)] [] 0 (s1 (tI (idx (fun o => o.id == id) g.o))) := by
  refine Triple.pure (Triple.run (QR := fun r h' nx' => r = .ret (s1 (tI (idx (fun o => o.id == id) g.o)))) Try.func20 rfl rfl 9 Try.ntmps20 [.tmp 4] rfl rfl ?_) ?_
  · (repeat (first | refine JC.seq ?_ | refine JC.block ?_ | refine JC.skip ?_ | refine JC.exit ?_ | (refine JC.region ?_; (repeat (first | refine And.intro (by first | exact trivial | exact rfl | exact ⟨trivial, rfl⟩ | exact ⟨trivial, trivial⟩ | exact ⟨rfl, rfl⟩ | exact ⟨rfl, Nat.le_of_ble_eq_true rfl⟩ | decide) ?_ | refine fSt_in ?_ | refine fAcc_in ?_)); refine JL.nil ?_)))
    (refine JC.region ?_; (repeat (first | refine And.intro (by first | exact trivial | exact rfl | exact ⟨trivial, rfl⟩ | exact ⟨trivial, trivial⟩ | exact ⟨rfl, rfl⟩ | exact ⟨rfl, Nat.le_of_ble_eq_true rfl⟩ | decide) ?_ | refine fSt_in ?_ | refine fAcc_in ?_)))
    refine JL.pure (fun i => i + 1) (args0 := [s1 (rowsOf 3 eObj g.o), .c (.one (.clo 66 [0]))]) (h0 := [(0, .box 3 [.data (tI id)])]) (nx0 := 1) rfl rfl rfl rfl rfl rfl ⟨fun i j _ _ h => by simpa using h, fun i h => by show i + 1 < 2; omega, fun i h => by show i + 1 = 2 + (i - 1); omega⟩ (Fit.refl _) ⟨rfl, trivial⟩ (by simp [hids]) rfl
      (indexFuncObj g.o (fun o => o.id == id) _ [0] [_] _ _ rfl (fun s hs => by cases s; cases hs; rfl) (fun o => find1 o id)) rfl ?_
    (refine ev_run ?_; (repeat (first | refine And.intro (by first | exact trivial | exact rfl | exact ⟨trivial, rfl⟩ | exact ⟨trivial, trivial⟩ | exact ⟨rfl, rfl⟩ | exact ⟨rfl, Nat.le_of_ble_eq_true rfl⟩ | decide) ?_ | refine fSt_in ?_ | refine fAcc_in ?_)); refine JL.nil ?_)
    (repeat (first | refine JC.seq ?_ | refine JC.block ?_ | refine JC.skip ?_ | refine JC.exit ?_ | (refine JC.region ?_; (repeat (first | refine And.intro (by first | exact trivial | exact rfl | exact ⟨trivial, rfl⟩ | exact ⟨trivial, trivial⟩ | exact ⟨rfl, rfl⟩ | exact ⟨rfl, Nat.le_of_ble_eq_true rfl⟩ | decide) ?_ | refine fSt_in ?_ | refine fAcc_in ?_)); refine JL.nil ?_)))
    (refine JC.ret ⟨_, Le.refl, And.intro (by repeat' (first | exact trivial | exact rfl | apply And.intro)) ?_⟩)
    exact rfl
  · rintro r h' nx' rfl
    exact ⟨rfl, by simp, fun _ _ => rfl⟩
end Go.Proofs.Ytlhfajmcnbcabaa

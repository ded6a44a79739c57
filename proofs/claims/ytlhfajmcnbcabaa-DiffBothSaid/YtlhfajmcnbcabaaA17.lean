/- What is another one in either. -/
import Derived.Test.YtlhfajmcnbcabaaA16
import Derived.Test.YtlhfajmcnbcabaaFwF
set_option linter.unusedVariables false
set_option linter.unusedSimpArgs false
namespace Go.Proofs.Ytlhfajmcnbcabaa
open Go Go.Fw
set_option maxRecDepth 100000
set_option maxHeartbeats 1000000

def cmpI (x y : Int) : Int := if x < y then -1 else if x > y then 1 else 0
theorem isNaNT (x : Int) : PureT cx 129 [s1 (tI x)] [] 0 (s1 (tB false)) := by
  refine PureT.run0 Try.func129 rfl rfl 6 Try.ntmps129 [.tmp 2] rfl rfl (fun _ => rfl) ?_
  (repeat' (first | refine And.intro (by first | exact trivial | exact rfl | exact ⟨trivial, rfl⟩ | exact ⟨trivial, trivial⟩ | exact ⟨rfl, rfl⟩ | exact ⟨rfl, Nat.le_of_ble_eq_true rfl⟩ | decide) ?_ | refine two_t ?_ | refine two_f ?_ | refine two.intro (fun _ => ?_) (fun _ => ?_) | refine JL.nil ?_ | refine JC.seq ?_ | refine JC.block ?_ | refine JC.skip ?_ | refine JC.exit ?_ | refine JC.region ?_ | refine JC.cond rfl ?_ | refine JC.ret ⟨_, Le.refl, And.intro (by repeat' (first | exact trivial | exact rfl | apply And.intro)) ?_⟩))
  exact congrArg Res.ret (congrArg s1 (congrArg tB (by simp)))
theorem compareT (x y : Int) : PureT cx 79 [s1 (tI x), s1 (tI y)] [] 0 (s1 (tI (cmpI x y))) := by
  refine PureT.run0 Try.func79 rfl rfl 20 Try.ntmps79 [.tmp 4] rfl rfl (fun _ => rfl) ?_
  (repeat' (first | refine And.intro (by first | exact trivial | exact rfl | exact ⟨trivial, rfl⟩ | exact ⟨trivial, trivial⟩ | exact ⟨rfl, rfl⟩ | exact ⟨rfl, Nat.le_of_ble_eq_true rfl⟩ | decide) ?_ | refine two_t ?_ | refine two_f ?_ | refine two.intro (fun _ => ?_) (fun _ => ?_) | refine JL.nil ?_ | refine JC.seq ?_ | refine JC.block ?_ | refine JC.skip ?_ | refine JC.exit ?_ | refine JC.region ?_ | refine JC.cond rfl ?_ | refine JC.ret ⟨_, Le.refl, And.intro (by repeat' (first | exact trivial | exact rfl | apply And.intro)) ?_⟩ | refine fSt_in ?_ | refine fAcc_in ?_ | (refine JL.p0 rfl rfl rfl rfl rfl (Fit.refl _) (fun _ => rfl) (by first | exact isNaNT _) (fun _ => rfl) ?_; refine ev_run ?_) | fail))
  all_goals (refine congrArg Res.ret (congrArg s1 (congrArg tI ?_)); simp_all [cmpI])
  all_goals omega
def orL : List Int → Int
  | [] => 0
  | x :: r => if x = 0 then orL r else x
theorem orL_at : ∀ (l : List Int) (i : Nat), i < l.length → (∀ j, j < i → l.getD j default = 0) → l.getD i default ≠ 0 → orL l = l.getD i default
  | [], i, h, _, _ => by simp at h
  | x :: r, 0, _, _, h => by
    simp only [List.getD_cons_zero] at h ⊢
    simp [orL, h]
  | x :: r, i + 1, hl, hn, h => by
    have h0 := hn 0 (by omega)
    simp only [List.getD_cons_zero] at h0
    have := orL_at r i (by simpa using hl) (fun j hj => by simpa using hn (j + 1) (by omega)) (by simpa using h)
    simp only [orL, h0, if_true, this, List.getD_cons_succ]
theorem orL_no : ∀ (l : List Int), (∀ j, j < l.length → l.getD j default = 0) → orL l = 0
  | [], _ => rfl
  | x :: r, hn => by
    have h0 := hn 0 (by simp)
    simp only [List.getD_cons_zero] at h0
    simp only [orL, h0, if_true]
    exact orL_no r (fun j hj => by simpa using hn (j + 1) (by simpa using hj))
theorem orT (xs : List Int) (hl : xs.length ≤ 1000000) : PureT cx 133 [s1 (rowsOf 1 eInt xs)] [] 0 (s1 (tI (orL xs))) := by
  refine PureT.run0 Try.func133 rfl rfl 18 Try.ntmps133 [.tmp 2] rfl rfl (fun _ => rfl) ?_
  (repeat' (first | refine And.intro (by first | exact trivial | exact rfl | exact ⟨trivial, rfl⟩ | exact ⟨trivial, trivial⟩ | exact ⟨rfl, rfl⟩ | exact ⟨rfl, Nat.le_of_ble_eq_true rfl⟩ | decide) ?_ | refine two_t ?_ | refine two_f ?_ | refine two.intro (fun _ => ?_) (fun _ => ?_) | refine JL.nil ?_ | refine JC.seq ?_ | refine JC.block ?_ | refine JC.skip ?_ | refine JC.exit ?_ | refine JC.region ?_ | refine JC.cond rfl ?_ | refine fSt_in ?_ | refine fAcc_in ?_ | (refine JL.p0 rfl rfl rfl rfl rfl (Fit.refl _) (fun _ => rfl) (by first | exact isNaNT _) (fun _ => rfl) ?_; refine ev_run ?_) | fail))
  have hbig : xs.length ≤ big := by unfold big; omega
  refine JC.loop (ι := { i : Nat // i ≤ xs.length ∧ ∀ j, j < i → xs.getD j default = 0 }) (fun i => ⟨[(3, s1 (tI 0)), (6, s1 (rowsOf 1 eInt xs)), (7, s1 (tI xs.length)), (8, s1 (tI i.1))], [], 0⟩) (fun i => xs.length - i.1) ⟨0, Nat.zero_le _, fun j h => absurd h (Nat.not_lt_zero j)⟩ (Le.drop (by repeat (first | exact trivial | refine SlLe.same rfl ?_ | refine SlLe.int rfl (by first | exact wrap_succ (by assumption) (by assumption) | exact wrap_succ2 (by first | omega | (simp only []; omega))) ?_)) (by repeat (first | exact trivial | refine ⟨rfl, ?_⟩)) rfl) ?_
  rintro ⟨i, hi, hno⟩
  refine JC.seq ?_
  (repeat (first | refine JC.seq ?_ | refine JC.block ?_ | refine JC.skip ?_ | refine JC.exit ?_ | (refine JC.region ?_; (repeat (first | refine And.intro (by first | exact trivial | exact rfl | exact ⟨trivial, rfl⟩ | exact ⟨trivial, trivial⟩ | exact ⟨rfl, rfl⟩ | exact ⟨rfl, Nat.le_of_ble_eq_true rfl⟩ | decide) ?_ | refine fSt_in ?_ | refine fAcc_in ?_)); refine JL.nil ?_)))
  refine JC.cond rfl (two.intro ?_ ?_)
  · intro hlt
    have hlt : i < xs.length := by simpa using hlt
    (repeat' (first | refine And.intro (by first | exact trivial | exact rfl | exact ⟨trivial, rfl⟩ | exact ⟨trivial, trivial⟩ | exact ⟨rfl, rfl⟩ | exact ⟨rfl, Nat.le_of_ble_eq_true rfl⟩ | decide) ?_ | refine two_t ?_ | refine two_f ?_ | refine two.intro (fun _ => ?_) (fun _ => ?_) | refine JL.nil ?_ | refine JC.seq ?_ | refine JC.block ?_ | refine JC.skip ?_ | refine JC.exit ?_ | refine JC.region ?_ | refine JC.cond rfl ?_ | refine JC.ret ⟨_, Le.refl, And.intro (by repeat' (first | exact trivial | exact rfl | apply And.intro)) ?_⟩ | refine And.intro (⟨Int.natCast_nonneg _, Int.ofNat_lt.2 hlt, rfl⟩) ?_ | refine fSt_in ?_ | refine fAcc_in ?_ | fail))
    · rename_i h
      have h : xs.getD i default ≠ 0 := by simpa using h
      exact congrArg Res.ret (congrArg s1 (congrArg tI (orL_at xs i hlt hno h).symm))
    · rename_i h
      have h : xs.getD i default = 0 := by simpa using h
      refine ⟨⟨i + 1, hlt, fun j hj => ?_⟩, by simp only; omega, (Le.drop (by repeat (first | exact trivial | refine SlLe.same rfl ?_ | refine SlLe.int rfl (by first | exact wrap_succ (by assumption) (by assumption) | exact wrap_succ2 (by first | omega | (simp only []; omega))) ?_)) (by repeat (first | exact trivial | refine ⟨rfl, ?_⟩)) rfl)⟩
      rcases Nat.lt_succ_iff_lt_or_eq.1 hj with h1 | rfl
      · exact hno j h1
      · exact h
  · intro hge
    have hge : ¬ i < xs.length := by simpa using hge
    (repeat' (first | refine And.intro (by first | exact trivial | exact rfl | exact ⟨trivial, rfl⟩ | exact ⟨trivial, trivial⟩ | exact ⟨rfl, rfl⟩ | exact ⟨rfl, Nat.le_of_ble_eq_true rfl⟩ | decide) ?_ | refine two_t ?_ | refine two_f ?_ | refine two.intro (fun _ => ?_) (fun _ => ?_) | refine JL.nil ?_ | refine JC.seq ?_ | refine JC.block ?_ | refine JC.skip ?_ | refine JC.exit ?_ | refine JC.region ?_ | refine JC.cond rfl ?_ | refine JC.ret ⟨_, Le.refl, And.intro (by repeat' (first | exact trivial | exact rfl | apply And.intro)) ?_⟩))
    exact congrArg Res.ret (congrArg s1 (congrArg tI (orL_no xs (fun j hj => hno j (by omega))).symm))
def cmpP (x y : Int × Int) : Int := orL [cmpI x.1 y.1, cmpI x.2 y.2]
theorem pairT (x y : Int × Int) : PureT cx 81 [sA (ePair x), sA (ePair y)] [] 0 (s1 (tI (cmpP x y))) := by
  refine PureT.run0 Try.func81 rfl rfl 17 Try.ntmps81 [.tmp 4] rfl rfl (fun _ => rfl) ?_
  (repeat (first | refine JC.seq ?_ | refine JC.block ?_ | refine JC.skip ?_ | refine JC.exit ?_ | (refine JC.region ?_; (repeat (first | refine And.intro (by first | exact trivial | exact rfl | exact ⟨trivial, rfl⟩ | exact ⟨trivial, trivial⟩ | exact ⟨rfl, rfl⟩ | exact ⟨rfl, Nat.le_of_ble_eq_true rfl⟩ | decide) ?_ | refine fSt_in ?_ | refine fAcc_in ?_)); refine JL.nil ?_)))
  refine JC.draw 10 rfl ?_
  (repeat (first | refine And.intro (by first | exact trivial | exact rfl | exact ⟨trivial, rfl⟩ | exact ⟨trivial, trivial⟩ | exact ⟨rfl, rfl⟩ | exact ⟨rfl, Nat.le_of_ble_eq_true rfl⟩ | decide) ?_ | refine fSt_in ?_ | refine fAcc_in ?_))
  (repeat (first | refine And.intro (by first | exact trivial | exact rfl | exact ⟨trivial, rfl⟩ | exact ⟨trivial, trivial⟩ | exact ⟨rfl, rfl⟩ | exact ⟨rfl, Nat.le_of_ble_eq_true rfl⟩ | decide) ?_ | refine fSt_in ?_ | refine fAcc_in ?_))
  (repeat (first | refine And.intro (by first | exact trivial | exact rfl | exact ⟨trivial, rfl⟩ | exact ⟨trivial, trivial⟩ | exact ⟨rfl, rfl⟩ | exact ⟨rfl, Nat.le_of_ble_eq_true rfl⟩ | decide) ?_ | refine fSt_in ?_ | refine fAcc_in ?_))
  refine ⟨_, CallOK.p0 rfl rfl rfl rfl rfl (Fit.refl _) (fun _ => rfl) (compareT x.1 y.1) (fun _ => rfl), ?_⟩
  (repeat (first | refine And.intro (by first | exact trivial | exact rfl | exact ⟨trivial, rfl⟩ | exact ⟨trivial, trivial⟩ | exact ⟨rfl, rfl⟩ | exact ⟨rfl, Nat.le_of_ble_eq_true rfl⟩ | decide) ?_ | refine fSt_in ?_ | refine fAcc_in ?_))
  (repeat (first | refine And.intro (by first | exact trivial | exact rfl | exact ⟨trivial, rfl⟩ | exact ⟨trivial, trivial⟩ | exact ⟨rfl, rfl⟩ | exact ⟨rfl, Nat.le_of_ble_eq_true rfl⟩ | decide) ?_ | refine fSt_in ?_ | refine fAcc_in ?_))
  (repeat (first | refine And.intro (by first | exact trivial | exact rfl | exact ⟨trivial, rfl⟩ | exact ⟨trivial, trivial⟩ | exact ⟨rfl, rfl⟩ | exact ⟨rfl, Nat.le_of_ble_eq_true rfl⟩ | decide) ?_ | refine fSt_in ?_ | refine fAcc_in ?_))
  refine ⟨_, CallOK.p0 rfl rfl rfl rfl rfl (Fit.refl _) (fun _ => rfl) (compareT x.2 y.2) (fun _ => rfl), ?_⟩
  refine JL.upto 1 ?_
  (repeat (first | refine And.intro (by first | exact trivial | exact rfl | exact ⟨trivial, rfl⟩ | exact ⟨trivial, trivial⟩ | exact ⟨rfl, rfl⟩ | exact ⟨rfl, Nat.le_of_ble_eq_true rfl⟩ | decide) ?_ | refine fSt_in ?_ | refine fAcc_in ?_))
  refine JL.conv (Le.frz 2 (E := eInt) (xs := [cmpI x.1 y.1, cmpI x.2 y.2]) (s' := ⟨[(15, s1 (rowsOf 1 eInt [cmpI x.1 y.1, cmpI x.2 y.2]))], [], 2⟩) rfl (by repeat (first | exact trivial | refine SlLe.same rfl ?_ | refine SlLe.int rfl (by first | exact wrap_succ (by assumption) (by assumption) | exact wrap_succ2 (by first | omega | (simp only []; omega))) ?_)) trivial rfl) ?_
  refine JL.p0 rfl rfl rfl rfl rfl (Fit.refl _) (fun _ => rfl) (orT _ (by simp)) (fun _ => rfl) ?_
  (refine ev_run ?_; (repeat (first | refine And.intro (by first | exact trivial | exact rfl | exact ⟨trivial, rfl⟩ | exact ⟨trivial, trivial⟩ | exact ⟨rfl, rfl⟩ | exact ⟨rfl, Nat.le_of_ble_eq_true rfl⟩ | decide) ?_ | refine fSt_in ?_ | refine fAcc_in ?_)); refine JL.nil ?_)
  (repeat' (first | refine And.intro (by first | exact trivial | exact rfl | exact ⟨trivial, rfl⟩ | exact ⟨trivial, trivial⟩ | exact ⟨rfl, rfl⟩ | exact ⟨rfl, Nat.le_of_ble_eq_true rfl⟩ | decide) ?_ | refine two_t ?_ | refine two_f ?_ | refine two.intro (fun _ => ?_) (fun _ => ?_) | refine JL.nil ?_ | refine JC.seq ?_ | refine JC.block ?_ | refine JC.skip ?_ | refine JC.exit ?_ | refine JC.region ?_ | refine JC.cond rfl ?_ | refine fSt_in ?_ | refine fAcc_in ?_ | (refine JL.p0 rfl rfl rfl rfl rfl (Fit.refl _) (fun _ => rfl) (by first | exact isNaNT _) (fun _ => rfl) ?_; refine ev_run ?_) | fail))
  exact JC.ret ⟨_, Le.refl, And.intro (by repeat' (first | exact trivial | exact rfl | apply And.intro)) rfl⟩
theorem lt_cmpI : Go.Proofs.ltOf cmpI = ltI := by
  funext x y
  simp only [Go.Proofs.ltOf, cmpI, ltI]
  split <;> simp_all
  split <;> simp_all
theorem lt_cmpP : Go.Proofs.ltOf cmpP = ltP := by
  funext x y
  simp only [Go.Proofs.ltOf, cmpP, ltP, orL, cmpI]
  rw [Bool.eq_iff_iff]
  by_cases h1 : x.1 < y.1 <;> by_cases h2 : y.1 < x.1 <;> by_cases h3 : x.2 < y.2 <;> by_cases h4 : y.2 < x.2 <;> simp [h1, h2, h3, h4] <;> omega
theorem Tot.swo {α : Type} {lt : α → α → Bool} (h : Tot lt) : Go.Sort.SWO lt := ⟨h.irr, h.tr, fun x y z h1 h2 => by
  cases hxz : lt x z with
  | false => rfl
  | true =>
    cases hyx : lt y x with
    | true => rw [h.tr _ _ _ hyx hxz] at h2; cases h2
    | false => have := h.tot _ _ h1 hyx; subst this; rw [hxz] at h2; cases h2⟩

def twos1Int (x y : Int) : List SV := [s1 (tI x), s1 (tI y)]
def twosAP (x y : Int × Int) : List SV := [sA (ePair x), sA (ePair y)]
theorem unionInt (fid : FuncId) (hf : ∀ x y, PureT cx fid (twos1Int x y) [] 0 (s1 (tI (cmpI x y)))) (xs ys : List Int) (hx : xs.length ≤ 1000) (hy : ys.length ≤ 1000) :
    PureT cx 78 [s1 (rowsOf 1 eInt xs), s1 (rowsOf 1 eInt ys), .c (.one (.clo fid []))] [] 0 (s1 (rowsOf 1 eInt (uni ltI xs ys))) := by
  have hO : Go.Sort.SWO (Go.Proofs.ltOf cmpI) := by rw [lt_cmpI]; exact Tot.swo totI
  have hT : ∀ x y, Go.Proofs.ltOf cmpI x y = false → Go.Proofs.ltOf cmpI y x = false → x = y := by rw [lt_cmpI]; exact totI.tot
  have hfl : ([xs, ys] : List (List Int)).flatten = xs ++ ys := by simp
  have hlen : (xs ++ ys).length ≤ 1000000 := by rw [List.length_append]; omega
  refine PureT.run0 Try.func78 rfl rfl 17 Try.ntmps78 [.tmp 6] rfl rfl (fun _ => rfl) ?_
  (repeat (first | refine JC.seq ?_ | refine JC.block ?_ | refine JC.skip ?_ | refine JC.exit ?_ | (refine JC.region ?_; (repeat (first | refine And.intro (by first | exact trivial | exact rfl | exact ⟨trivial, rfl⟩ | exact ⟨trivial, trivial⟩ | exact ⟨rfl, rfl⟩ | exact ⟨rfl, Nat.le_of_ble_eq_true rfl⟩ | decide) ?_ | refine fSt_in ?_ | refine fAcc_in ?_)); refine JL.nil ?_)))
  refine JC.regionL (JL.upto 3 ?_)
  (repeat (first | refine And.intro (by first | exact trivial | exact rfl | exact ⟨trivial, rfl⟩ | exact ⟨trivial, trivial⟩ | exact ⟨rfl, rfl⟩ | exact ⟨rfl, Nat.le_of_ble_eq_true rfl⟩ | decide) ?_ | refine fSt_in ?_ | refine fAcc_in ?_))
  refine JL.conv (Le.frz 0 (E := eLst 1 eInt) (xs := [xs, ys]) (s' := ⟨[(10, s1 (rowsOf 1 (eLst 1 eInt) [xs, ys])), (2, .c (.one (.clo fid [])))], [], 1⟩) rfl (by repeat (first | exact trivial | refine SlLe.same rfl ?_ | refine SlLe.int rfl (by first | exact wrap_succ (by assumption) (by assumption) | exact wrap_succ2 (by first | omega | (simp only []; omega))) ?_)) trivial rfl) ?_
  refine JL.nw2 (h1' := [(1, .row 3 1 (rws eInt (xs ++ ys)))]) rfl rfl rfl rfl rfl (Fit.refl _) (fun _ => rfl) (concatInt [xs, ys] (by rw [hfl]; exact hlen) (by simp)) (by rw [hfl]; simp only [renH, O.ren, rws_ren]) rfl ?_
  (refine ev_run ?_; (repeat (first | refine And.intro (by first | exact trivial | exact rfl | exact ⟨trivial, rfl⟩ | exact ⟨trivial, trivial⟩ | exact ⟨rfl, rfl⟩ | exact ⟨rfl, Nat.le_of_ble_eq_true rfl⟩ | decide) ?_ | refine fSt_in ?_ | refine fAcc_in ?_)); refine JL.nil ?_)
  (repeat (first | refine JC.seq ?_ | refine JC.block ?_ | refine JC.skip ?_ | refine JC.exit ?_ | (refine JC.region ?_; (repeat (first | refine And.intro (by first | exact trivial | exact rfl | exact ⟨trivial, rfl⟩ | exact ⟨trivial, trivial⟩ | exact ⟨rfl, rfl⟩ | exact ⟨rfl, Nat.le_of_ble_eq_true rfl⟩ | decide) ?_ | refine fSt_in ?_ | refine fAcc_in ?_)); refine JL.nil ?_)))
  refine JC.regionL (JL.upto 2 ?_)
  (repeat (first | refine And.intro (by first | exact trivial | exact rfl | exact ⟨trivial, rfl⟩ | exact ⟨trivial, trivial⟩ | exact ⟨rfl, rfl⟩ | exact ⟨rfl, Nat.le_of_ble_eq_true rfl⟩ | decide) ?_ | refine fSt_in ?_ | refine fAcc_in ?_))
  refine JL.rowS (id := 1) (o1 := .row 3 1 (rws eInt (xs ++ ys))) (o2 := .row 3 1 (rws eInt (sortL ltI (xs ++ ys)))) rfl rfl rfl rfl rfl rfl (Fit.refl _)
    (by have := sortIntT cmpI hO hT fid hf (xs ++ ys) hlen 1 2; rw [lt_cmpI] at this; exact this) ?_
  (refine ev_run ?_; (repeat (first | refine And.intro (by first | exact trivial | exact rfl | exact ⟨trivial, rfl⟩ | exact ⟨trivial, trivial⟩ | exact ⟨rfl, rfl⟩ | exact ⟨rfl, Nat.le_of_ble_eq_true rfl⟩ | decide) ?_ | refine fSt_in ?_ | refine fAcc_in ?_)); refine JL.nil ?_)
  (repeat (first | refine JC.seq ?_ | refine JC.block ?_ | refine JC.skip ?_ | refine JC.exit ?_ | (refine JC.region ?_; (repeat (first | refine And.intro (by first | exact trivial | exact rfl | exact ⟨trivial, rfl⟩ | exact ⟨trivial, trivial⟩ | exact ⟨rfl, rfl⟩ | exact ⟨rfl, Nat.le_of_ble_eq_true rfl⟩ | decide) ?_ | refine fSt_in ?_ | refine fAcc_in ?_)); refine JL.nil ?_)))
  refine JC.regionL (JL.upto 1 ?_)
  (repeat (first | refine And.intro (by first | exact trivial | exact rfl | exact ⟨trivial, rfl⟩ | exact ⟨trivial, trivial⟩ | exact ⟨rfl, rfl⟩ | exact ⟨rfl, Nat.le_of_ble_eq_true rfl⟩ | decide) ?_ | refine fSt_in ?_ | refine fAcc_in ?_))
  have hsl : (sortL ltI (xs ++ ys)).length ≤ 1000000 := by rw [sortL_len]; exact hlen
  refine JL.row1 (id := 1) (o1 := .row 3 1 (rws eInt (sortL ltI (xs ++ ys)))) (o2 := .row 3 1 (rws eInt (ddp (sortL ltI (xs ++ ys))))) (o2' := .row 3 1 (rws eInt (uni ltI xs ys))) rfl rfl rfl rfl rfl rfl rfl (by simp only [O.ren, rws_ren]) (by simp only [O.ren, rws_ren]; rfl) rfl (Fit.refl _)
    (compactInt _ hsl) rfl ?_
  (refine ev_run ?_; (repeat (first | refine And.intro (by first | exact trivial | exact rfl | exact ⟨trivial, rfl⟩ | exact ⟨trivial, trivial⟩ | exact ⟨rfl, rfl⟩ | exact ⟨rfl, Nat.le_of_ble_eq_true rfl⟩ | decide) ?_ | refine fSt_in ?_ | refine fAcc_in ?_)); refine JL.nil ?_)
  (repeat' (first | refine And.intro (by first | exact trivial | exact rfl | exact ⟨trivial, rfl⟩ | exact ⟨trivial, trivial⟩ | exact ⟨rfl, rfl⟩ | exact ⟨rfl, Nat.le_of_ble_eq_true rfl⟩ | decide) ?_ | refine two_t ?_ | refine two_f ?_ | refine two.intro (fun _ => ?_) (fun _ => ?_) | refine JL.nil ?_ | refine JC.seq ?_ | refine JC.block ?_ | refine JC.skip ?_ | refine JC.exit ?_ | refine JC.region ?_ | refine JC.cond rfl ?_ | refine fSt_in ?_ | refine fAcc_in ?_ | (refine JL.p0 rfl rfl rfl rfl rfl (Fit.refl _) (fun _ => rfl) (by first | exact isNaNT _) (fun _ => rfl) ?_; refine ev_run ?_) | fail))
  refine JC.ret ⟨_, Le.frz 1 (E := eInt) (xs := uni ltI xs ys) (s' := ⟨[(6, s1 (rowsOf 1 eInt (uni ltI xs ys)))], [], 2⟩) rfl (by repeat (first | exact trivial | refine SlLe.same rfl ?_ | refine SlLe.int rfl (by first | exact wrap_succ (by assumption) (by assumption) | exact wrap_succ2 (by first | omega | (simp only []; omega))) ?_)) trivial rfl, And.intro (by repeat' (first | exact trivial | exact rfl | apply And.intro)) rfl⟩
theorem unionIntP (fid : FuncId) (hf : ∀ x y, PureT cx fid (twosAP x y) [] 0 (s1 (tI (cmpP x y)))) (xs ys : List IntP) (hx : xs.length ≤ 1000) (hy : ys.length ≤ 1000) :
    PureT cx 80 [s1 (rowsOf 2 ePair xs), s1 (rowsOf 2 ePair ys), .c (.one (.clo fid []))] [] 0 (s1 (rowsOf 2 ePair (uni ltP xs ys))) := by
  have hO : Go.Sort.SWO (Go.Proofs.ltOf cmpP) := by rw [lt_cmpP]; exact Tot.swo totP
  have hT : ∀ x y, Go.Proofs.ltOf cmpP x y = false → Go.Proofs.ltOf cmpP y x = false → x = y := by rw [lt_cmpP]; exact totP.tot
  have hfl : ([xs, ys] : List (List IntP)).flatten = xs ++ ys := by simp
  have hlen : (xs ++ ys).length ≤ 1000000 := by rw [List.length_append]; omega
  refine PureT.run0 Try.func80 rfl rfl 17 Try.ntmps80 [.tmp 6] rfl rfl (fun _ => rfl) ?_
  (repeat (first | refine JC.seq ?_ | refine JC.block ?_ | refine JC.skip ?_ | refine JC.exit ?_ | (refine JC.region ?_; (repeat (first | refine And.intro (by first | exact trivial | exact rfl | exact ⟨trivial, rfl⟩ | exact ⟨trivial, trivial⟩ | exact ⟨rfl, rfl⟩ | exact ⟨rfl, Nat.le_of_ble_eq_true rfl⟩ | decide) ?_ | refine fSt_in ?_ | refine fAcc_in ?_)); refine JL.nil ?_)))
  refine JC.regionL (JL.upto 3 ?_)
  (repeat (first | refine And.intro (by first | exact trivial | exact rfl | exact ⟨trivial, rfl⟩ | exact ⟨trivial, trivial⟩ | exact ⟨rfl, rfl⟩ | exact ⟨rfl, Nat.le_of_ble_eq_true rfl⟩ | decide) ?_ | refine fSt_in ?_ | refine fAcc_in ?_))
  refine JL.conv (Le.frz 0 (E := eLst 2 ePair) (xs := [xs, ys]) (s' := ⟨[(10, s1 (rowsOf 1 (eLst 2 ePair) [xs, ys])), (2, .c (.one (.clo fid [])))], [], 1⟩) rfl (by repeat (first | exact trivial | refine SlLe.same rfl ?_ | refine SlLe.int rfl (by first | exact wrap_succ (by assumption) (by assumption) | exact wrap_succ2 (by first | omega | (simp only []; omega))) ?_)) trivial rfl) ?_
  refine JL.nw2 (h1' := [(1, .row 80 2 (rws ePair (xs ++ ys)))]) rfl rfl rfl rfl rfl (Fit.refl _) (fun _ => rfl) (concatIntP [xs, ys] (by rw [hfl]; exact hlen) (by simp)) (by rw [hfl]; simp only [renH, O.ren, rws_ren]) rfl ?_
  (refine ev_run ?_; (repeat (first | refine And.intro (by first | exact trivial | exact rfl | exact ⟨trivial, rfl⟩ | exact ⟨trivial, trivial⟩ | exact ⟨rfl, rfl⟩ | exact ⟨rfl, Nat.le_of_ble_eq_true rfl⟩ | decide) ?_ | refine fSt_in ?_ | refine fAcc_in ?_)); refine JL.nil ?_)
  (repeat (first | refine JC.seq ?_ | refine JC.block ?_ | refine JC.skip ?_ | refine JC.exit ?_ | (refine JC.region ?_; (repeat (first | refine And.intro (by first | exact trivial | exact rfl | exact ⟨trivial, rfl⟩ | exact ⟨trivial, trivial⟩ | exact ⟨rfl, rfl⟩ | exact ⟨rfl, Nat.le_of_ble_eq_true rfl⟩ | decide) ?_ | refine fSt_in ?_ | refine fAcc_in ?_)); refine JL.nil ?_)))
  refine JC.regionL (JL.upto 2 ?_)
  (repeat (first | refine And.intro (by first | exact trivial | exact rfl | exact ⟨trivial, rfl⟩ | exact ⟨trivial, trivial⟩ | exact ⟨rfl, rfl⟩ | exact ⟨rfl, Nat.le_of_ble_eq_true rfl⟩ | decide) ?_ | refine fSt_in ?_ | refine fAcc_in ?_))
  refine JL.rowS (id := 1) (o1 := .row 80 2 (rws ePair (xs ++ ys))) (o2 := .row 80 2 (rws ePair (sortL ltP (xs ++ ys)))) rfl rfl rfl rfl rfl rfl (Fit.refl _)
    (by have := sortPairT cmpP hO hT fid hf (xs ++ ys) hlen 1 2; rw [lt_cmpP] at this; exact this) ?_
  (refine ev_run ?_; (repeat (first | refine And.intro (by first | exact trivial | exact rfl | exact ⟨trivial, rfl⟩ | exact ⟨trivial, trivial⟩ | exact ⟨rfl, rfl⟩ | exact ⟨rfl, Nat.le_of_ble_eq_true rfl⟩ | decide) ?_ | refine fSt_in ?_ | refine fAcc_in ?_)); refine JL.nil ?_)
  (repeat (first | refine JC.seq ?_ | refine JC.block ?_ | refine JC.skip ?_ | refine JC.exit ?_ | (refine JC.region ?_; (repeat (first | refine And.intro (by first | exact trivial | exact rfl | exact ⟨trivial, rfl⟩ | exact ⟨trivial, trivial⟩ | exact ⟨rfl, rfl⟩ | exact ⟨rfl, Nat.le_of_ble_eq_true rfl⟩ | decide) ?_ | refine fSt_in ?_ | refine fAcc_in ?_)); refine JL.nil ?_)))
  refine JC.regionL (JL.upto 1 ?_)
  (repeat (first | refine And.intro (by first | exact trivial | exact rfl | exact ⟨trivial, rfl⟩ | exact ⟨trivial, trivial⟩ | exact ⟨rfl, rfl⟩ | exact ⟨rfl, Nat.le_of_ble_eq_true rfl⟩ | decide) ?_ | refine fSt_in ?_ | refine fAcc_in ?_))
  have hsl : (sortL ltP (xs ++ ys)).length ≤ 1000000 := by rw [sortL_len]; exact hlen
  refine JL.row1 (id := 1) (o1 := .row 80 2 (rws ePair (sortL ltP (xs ++ ys)))) (o2 := .row 80 2 (rws ePair (ddp (sortL ltP (xs ++ ys))))) (o2' := .row 80 2 (rws ePair (uni ltP xs ys))) rfl rfl rfl rfl rfl rfl rfl (by simp only [O.ren, rws_ren]) (by simp only [O.ren, rws_ren]; rfl) rfl (Fit.refl _)
    (compactIntP _ hsl) rfl ?_
  (refine ev_run ?_; (repeat (first | refine And.intro (by first | exact trivial | exact rfl | exact ⟨trivial, rfl⟩ | exact ⟨trivial, trivial⟩ | exact ⟨rfl, rfl⟩ | exact ⟨rfl, Nat.le_of_ble_eq_true rfl⟩ | decide) ?_ | refine fSt_in ?_ | refine fAcc_in ?_)); refine JL.nil ?_)
  (repeat' (first | refine And.intro (by first | exact trivial | exact rfl | exact ⟨trivial, rfl⟩ | exact ⟨trivial, trivial⟩ | exact ⟨rfl, rfl⟩ | exact ⟨rfl, Nat.le_of_ble_eq_true rfl⟩ | decide) ?_ | refine two_t ?_ | refine two_f ?_ | refine two.intro (fun _ => ?_) (fun _ => ?_) | refine JL.nil ?_ | refine JC.seq ?_ | refine JC.block ?_ | refine JC.skip ?_ | refine JC.exit ?_ | refine JC.region ?_ | refine JC.cond rfl ?_ | refine fSt_in ?_ | refine fAcc_in ?_ | (refine JL.p0 rfl rfl rfl rfl rfl (Fit.refl _) (fun _ => rfl) (by first | exact isNaNT _) (fun _ => rfl) ?_; refine ev_run ?_) | fail))
  refine JC.ret ⟨_, Le.frz 1 (E := ePair) (xs := uni ltP xs ys) (s' := ⟨[(6, s1 (rowsOf 2 ePair (uni ltP xs ys)))], [], 2⟩) rfl (by repeat (first | exact trivial | refine SlLe.same rfl ?_ | refine SlLe.int rfl (by first | exact wrap_succ (by assumption) (by assumption) | exact wrap_succ2 (by first | omega | (simp only []; omega))) ?_)) trivial rfl, And.intro (by repeat' (first | exact trivial | exact rfl | apply And.intro)) rfl⟩
theorem both1T (xs ys : List Int) (hx : xs.length ≤ 1000) (hy : ys.length ≤ 1000) : PureT cx 77 [s1 (rowsOf 1 eInt xs), s1 (rowsOf 1 eInt ys)] [] 0 (s1 (rowsOf 1 eInt (uni ltI xs ys))) := by
  refine PureT.run0 Try.func77 rfl rfl 8 Try.ntmps77 [.tmp 4] rfl rfl (fun _ => rfl) ?_
  (repeat' (first | refine And.intro (by first | exact trivial | exact rfl | exact ⟨trivial, rfl⟩ | exact ⟨trivial, trivial⟩ | exact ⟨rfl, rfl⟩ | exact ⟨rfl, Nat.le_of_ble_eq_true rfl⟩ | decide) ?_ | refine two_t ?_ | refine two_f ?_ | refine two.intro (fun _ => ?_) (fun _ => ?_) | refine JL.nil ?_ | refine JC.seq ?_ | refine JC.block ?_ | refine JC.skip ?_ | refine JC.exit ?_ | refine JC.region ?_ | refine JC.cond rfl ?_ | refine JC.ret ⟨_, Le.refl, And.intro (by repeat' (first | exact trivial | exact rfl | apply And.intro)) ?_⟩ | refine fSt_in ?_ | refine fAcc_in ?_ | (refine JL.p0 rfl rfl rfl rfl rfl (Fit.refl _) (fun _ => rfl) (by first | exact unionInt _ compareT xs ys hx hy) (fun _ => rfl) ?_; refine ev_run ?_) | fail))
  exact rfl
structure ChgOK (c : Chg) : Prop where
  n : c.new.length ≤ 1000
  g : c.gone.length ≤ 1000
  s : c.set.length ≤ 1000
  r : c.roots.length ≤ 1000
def bothC (a b : Chg) : Chg := ⟨uni ltI a.new b.new, uni ltI a.gone b.gone, uni ltP a.set b.set, uni ltI a.roots b.roots⟩
theorem bothT (a b : Chg) (ha : ChgOK a) (hb : ChgOK b) : PureT cx 28 [sA (eChg a), sA (eChg b)] [] 0 (sA (eChg (bothC a b))) := by
  refine PureT.run0 Try.func28 rfl rfl 30 Try.ntmps28 [.cell 4 74] rfl rfl (fun _ => rfl) ?_
  (repeat (first | refine JC.seq ?_ | refine JC.block ?_ | refine JC.skip ?_ | refine JC.exit ?_ | (refine JC.region ?_; (repeat (first | refine And.intro (by first | exact trivial | exact rfl | exact ⟨trivial, rfl⟩ | exact ⟨trivial, trivial⟩ | exact ⟨rfl, rfl⟩ | exact ⟨rfl, Nat.le_of_ble_eq_true rfl⟩ | decide) ?_ | refine fSt_in ?_ | refine fAcc_in ?_)); refine JL.nil ?_)))
  refine JC.draw 24 rfl ?_
  (repeat (first | refine And.intro (by first | exact trivial | exact rfl | exact ⟨trivial, rfl⟩ | exact ⟨trivial, trivial⟩ | exact ⟨rfl, rfl⟩ | exact ⟨rfl, Nat.le_of_ble_eq_true rfl⟩ | decide) ?_ | refine fSt_in ?_ | refine fAcc_in ?_))
  refine ⟨_, CallOK.p0 rfl rfl rfl rfl rfl (Fit.refl _) (fun _ => rfl) (both1T a.new b.new ha.n hb.n) (fun _ => rfl), ?_⟩
  (repeat (first | refine And.intro (by first | exact trivial | exact rfl | exact ⟨trivial, rfl⟩ | exact ⟨trivial, trivial⟩ | exact ⟨rfl, rfl⟩ | exact ⟨rfl, Nat.le_of_ble_eq_true rfl⟩ | decide) ?_ | refine fSt_in ?_ | refine fAcc_in ?_))
  refine ⟨_, CallOK.p0 rfl rfl rfl rfl rfl (Fit.refl _) (fun _ => rfl) (both1T a.gone b.gone ha.g hb.g) (fun _ => rfl), ?_⟩
  (repeat (first | refine And.intro (by first | exact trivial | exact rfl | exact ⟨trivial, rfl⟩ | exact ⟨trivial, trivial⟩ | exact ⟨rfl, rfl⟩ | exact ⟨rfl, Nat.le_of_ble_eq_true rfl⟩ | decide) ?_ | refine fSt_in ?_ | refine fAcc_in ?_))
  refine ⟨_, CallOK.p0 rfl rfl rfl rfl rfl (Fit.refl _) (fun _ => rfl) (unionIntP _ pairT a.set b.set ha.s hb.s) (fun _ => rfl), ?_⟩
  (repeat (first | refine And.intro (by first | exact trivial | exact rfl | exact ⟨trivial, rfl⟩ | exact ⟨trivial, trivial⟩ | exact ⟨rfl, rfl⟩ | exact ⟨rfl, Nat.le_of_ble_eq_true rfl⟩ | decide) ?_ | refine fSt_in ?_ | refine fAcc_in ?_))
  refine ⟨_, CallOK.p0 rfl rfl rfl rfl rfl (Fit.refl _) (fun _ => rfl) (both1T a.roots b.roots ha.r hb.r) (fun _ => rfl), ?_⟩
  (repeat (first | refine And.intro (by first | exact trivial | exact rfl | exact ⟨trivial, rfl⟩ | exact ⟨trivial, trivial⟩ | exact ⟨rfl, rfl⟩ | exact ⟨rfl, Nat.le_of_ble_eq_true rfl⟩ | decide) ?_ | refine fSt_in ?_ | refine fAcc_in ?_))
  (refine ev_run ?_; (repeat (first | refine And.intro (by first | exact trivial | exact rfl | exact ⟨trivial, rfl⟩ | exact ⟨trivial, trivial⟩ | exact ⟨rfl, rfl⟩ | exact ⟨rfl, Nat.le_of_ble_eq_true rfl⟩ | decide) ?_ | refine fSt_in ?_ | refine fAcc_in ?_)); refine JL.nil ?_)
  (repeat' (first | refine And.intro (by first | exact trivial | exact rfl | exact ⟨trivial, rfl⟩ | exact ⟨trivial, trivial⟩ | exact ⟨rfl, rfl⟩ | exact ⟨rfl, Nat.le_of_ble_eq_true rfl⟩ | decide) ?_ | refine two_t ?_ | refine two_f ?_ | refine two.intro (fun _ => ?_) (fun _ => ?_) | refine JL.nil ?_ | refine JC.seq ?_ | refine JC.block ?_ | refine JC.skip ?_ | refine JC.exit ?_ | refine JC.region ?_ | refine JC.cond rfl ?_ | refine fSt_in ?_ | refine fAcc_in ?_ | (refine JL.p0 rfl rfl rfl rfl rfl (Fit.refl _) (fun _ => rfl) (by first | exact isNaNT _) (fun _ => rfl) ?_; refine ev_run ?_) | fail))
  exact JC.ret ⟨_, Le.refl, And.intro (by repeat' (first | exact trivial | exact rfl | apply And.intro)) rfl⟩
end Go.Proofs.Ytlhfajmcnbcabaa

/- Schemas. -/
import Derived.Test.YtlhfajmcnbcabaaA4
set_option linter.unusedVariables false
set_option linter.unusedSimpArgs false
namespace Go.Proofs.Ytlhfajmcnbcabaa
open Go Go.Fw
set_option maxRecDepth 100000

def sEq (a b : Str) : Bool := a.toList == b.toList
theorem find1S (o : Typ) (id : Str) : PureT cx 151 [sA (eTyp o), .c (.one (.ref 0 0))] [(0, .box 9 [.data (tS id)])] 1 (s1 (tB (sEq o.name id))) := by
  refine PureT.runh Try.func151 rfl rfl 8 Try.ntmps151 [.tmp 3] rfl rfl (fun _ => rfl) ?_
  (repeat' (first | refine And.intro (by first | exact trivial | exact rfl | exact ⟨trivial, rfl⟩ | exact ⟨trivial, trivial⟩ | exact ⟨rfl, rfl⟩ | exact ⟨rfl, Nat.le_of_ble_eq_true rfl⟩ | decide) ?_ | refine two_t ?_ | refine two_f ?_ | refine two.intro (fun _ => ?_) (fun _ => ?_) | refine JL.nil ?_ | refine JC.seq ?_ | refine JC.block ?_ | refine JC.skip ?_ | refine JC.exit ?_ | refine JC.region ?_ | refine JC.cond rfl ?_ | refine JC.ret ⟨_, Le.refl, And.intro (by repeat' (first | exact trivial | exact rfl | apply And.intro)) ?_⟩))
  exact trivial
theorem field1S (o : Fld) (id : Str) : PureT cx 156 [sA (eFld o), .c (.one (.ref 0 0))] [(0, .box 9 [.data (tS id)])] 1 (s1 (tB (sEq o.name id))) := by
  refine PureT.runh Try.func156 rfl rfl 8 Try.ntmps156 [.tmp 3] rfl rfl (fun _ => rfl) ?_
  (repeat' (first | refine And.intro (by first | exact trivial | exact rfl | exact ⟨trivial, rfl⟩ | exact ⟨trivial, trivial⟩ | exact ⟨rfl, rfl⟩ | exact ⟨rfl, Nat.le_of_ble_eq_true rfl⟩ | decide) ?_ | refine two_t ?_ | refine two_f ?_ | refine two.intro (fun _ => ?_) (fun _ => ?_) | refine JL.nil ?_ | refine JC.seq ?_ | refine JC.block ?_ | refine JC.skip ?_ | refine JC.exit ?_ | refine JC.region ?_ | refine JC.cond rfl ?_ | refine JC.ret ⟨_, Le.refl, And.intro (by repeat' (first | exact trivial | exact rfl | apply And.intro)) ?_⟩))
  exact trivial
def eSch (s : List Typ) : List T := [rowsOf 2 eTyp s]
def findS (s : List Typ) (n : Str) : Int := idx (fun t => sEq t.name n) s
def fieldS (s : List Fld) (n : Str) : Int := idx (fun t => sEq t.name n) s
theorem findST (s : List Typ) (n : Str) : PureT cx 114 [sA (eSch s), s1 (tS n)] [] 0 (s1 (tI (findS s n))) := by
  refine PureT.run0 Try.func114 rfl rfl 9 Try.ntmps114 [.tmp 4] rfl rfl (fun _ => rfl) ?_
  (repeat (first | refine JC.seq ?_ | refine JC.block ?_ | refine JC.skip ?_ | refine JC.exit ?_ | (refine JC.region ?_; (repeat (first | refine And.intro (by first | exact trivial | exact rfl | exact ⟨trivial, rfl⟩ | exact ⟨trivial, trivial⟩ | exact ⟨rfl, rfl⟩ | exact ⟨rfl, Nat.le_of_ble_eq_true rfl⟩ | decide) ?_ | refine fSt_in ?_ | refine fAcc_in ?_)); refine JL.nil ?_)))
  (refine JC.region ?_; (repeat (first | refine And.intro (by first | exact trivial | exact rfl | exact ⟨trivial, rfl⟩ | exact ⟨trivial, trivial⟩ | exact ⟨rfl, rfl⟩ | exact ⟨rfl, Nat.le_of_ble_eq_true rfl⟩ | decide) ?_ | refine fSt_in ?_ | refine fAcc_in ?_)))
  refine JL.pure (fun i => i + 1) (args0 := [s1 (rowsOf 2 eTyp s), .c (.one (.clo 151 [0]))]) (h0 := [(0, .box 9 [.data (tS n)])]) (nx0 := 1) rfl rfl rfl rfl rfl rfl ⟨fun i j _ _ h => by simpa using h, fun i h => by show i + 1 < 2; omega, fun i h => by show i + 1 = 2 + (i - 1); omega⟩ (Fit.refl _) ⟨rfl, trivial⟩ (by simp [hids]) rfl
    (indexFuncTyp s (fun t => sEq t.name n) _ [0] [_] _ _ rfl (fun s hs => by cases s; cases hs; rfl) (fun o => find1S o n)) rfl ?_
  (refine ev_run ?_; (repeat (first | refine And.intro (by first | exact trivial | exact rfl | exact ⟨trivial, rfl⟩ | exact ⟨trivial, trivial⟩ | exact ⟨rfl, rfl⟩ | exact ⟨rfl, Nat.le_of_ble_eq_true rfl⟩ | decide) ?_ | refine fSt_in ?_ | refine fAcc_in ?_)); refine JL.nil ?_)
  (refine JC.ret ⟨_, Le.refl, And.intro (by repeat' (first | exact trivial | exact rfl | apply And.intro)) ?_⟩)
  exact rfl
theorem fieldST (t : Typ) (n : Str) : PureT cx 117 [sA (eTyp t), s1 (tS n)] [] 0 (s1 (tI (fieldS t.f n))) := by
  refine PureT.run0 Try.func117 rfl rfl 9 Try.ntmps117 [.tmp 4] rfl rfl (fun _ => rfl) ?_
  (repeat (first | refine JC.seq ?_ | refine JC.block ?_ | refine JC.skip ?_ | refine JC.exit ?_ | (refine JC.region ?_; (repeat (first | refine And.intro (by first | exact trivial | exact rfl | exact ⟨trivial, rfl⟩ | exact ⟨trivial, trivial⟩ | exact ⟨rfl, rfl⟩ | exact ⟨rfl, Nat.le_of_ble_eq_true rfl⟩ | decide) ?_ | refine fSt_in ?_ | refine fAcc_in ?_)); refine JL.nil ?_)))
  (refine JC.region ?_; (repeat (first | refine And.intro (by first | exact trivial | exact rfl | exact ⟨trivial, rfl⟩ | exact ⟨trivial, trivial⟩ | exact ⟨rfl, rfl⟩ | exact ⟨rfl, Nat.le_of_ble_eq_true rfl⟩ | decide) ?_ | refine fSt_in ?_ | refine fAcc_in ?_)))
  refine JL.pure (fun i => i + 1) (args0 := [s1 (rowsOf 3 eFld t.f), .c (.one (.clo 156 [0]))]) (h0 := [(0, .box 9 [.data (tS n)])]) (nx0 := 1) rfl rfl rfl rfl rfl rfl ⟨fun i j _ _ h => by simpa using h, fun i h => by show i + 1 < 2; omega, fun i h => by show i + 1 = 2 + (i - 1); omega⟩ (Fit.refl _) ⟨rfl, trivial⟩ (by simp [hids]) rfl
    (indexFuncFld t.f (fun t => sEq t.name n) _ [0] [_] _ _ rfl (fun s hs => by cases s; cases hs; rfl) (fun o => field1S o n)) rfl ?_
  (refine ev_run ?_; (repeat (first | refine And.intro (by first | exact trivial | exact rfl | exact ⟨trivial, rfl⟩ | exact ⟨trivial, trivial⟩ | exact ⟨rfl, rfl⟩ | exact ⟨rfl, Nat.le_of_ble_eq_true rfl⟩ | decide) ?_ | refine fSt_in ?_ | refine fAcc_in ?_)); refine JL.nil ?_)
  (refine JC.ret ⟨_, Le.refl, And.intro (by repeat' (first | exact trivial | exact rfl | apply And.intro)) ?_⟩)
  exact rfl
def nS : Str := { data := { toList := [] } }
def fieldMay (s : List Typ) (f : Fld) : Bool := (if f.kind == 5 then !(findS s f.to == -1) else sEq f.to nS) && nameMay f.name && decide (0 ≤ f.kind) && decide (f.kind < 6)
theorem fieldMayT (s : List Typ) (f : Fld) : PureT cx 124 [sA (eSch s), sA (eFld f)] [] 0 (s1 (tB (fieldMay s f))) := by
  refine PureT.run0 Try.func124 rfl rfl 33 Try.ntmps124 [.tmp 4] rfl rfl (fun _ => rfl) ?_
  (repeat' (first | refine And.intro (by first | exact trivial | exact rfl | exact ⟨trivial, rfl⟩ | exact ⟨trivial, trivial⟩ | exact ⟨rfl, rfl⟩ | exact ⟨rfl, Nat.le_of_ble_eq_true rfl⟩ | decide) ?_ | refine two_t ?_ | refine two_f ?_ | refine two.intro (fun _ => ?_) (fun _ => ?_) | refine JL.nil ?_ | refine JC.seq ?_ | refine JC.block ?_ | refine JC.skip ?_ | refine JC.exit ?_ | refine JC.region ?_ | refine JC.cond rfl ?_ | refine JC.ret ⟨_, Le.refl, And.intro (by repeat' (first | exact trivial | exact rfl | apply And.intro)) ?_⟩ | refine fSt_in ?_ | refine fAcc_in ?_ | (refine JL.p0 rfl rfl rfl rfl rfl (Fit.refl _) (fun _ => rfl) (by first | exact findST _ _ | exact nameMayT _) (fun _ => rfl) ?_; refine ev_run ?_) | fail))
  all_goals refine congrArg Res.ret (congrArg s1 (congrArg tB ?_))
  all_goals (rw [Bool.eq_iff_iff]; simp_all [fieldMay, sEq, nS, bne])
  all_goals (try omega)
def fldOK (s : List Typ) (t : Typ) (k : Nat) (f : Fld) : Bool := fieldMay s f && (fieldS t.f f.name == (k : Int))
def typOK (s : List Typ) (i : Nat) (t : Typ) : Bool := nameMay t.name && (findS s t.name == (i : Int)) && decide ((t.f.length : Int) ≤ 5) && allI (fldOK s t) t.f
def schMay (s : List Typ) : Bool := !((s.length : Int) == 0) && decide ((s.length : Int) ≤ 4) && allI (typOK s) s
theorem schMay_no {s : List Typ} (i : Nat) (hi : i < s.length) (h : typOK s i (s.getD i default) = false) : schMay s = false := by
  simp [schMay, allI_no i hi h]
theorem typOK_no {s : List Typ} {i : Nat} {t : Typ} (k : Nat) (hk : k < t.f.length) (h : fldOK s t k (t.f.getD k default) = false) : typOK s i t = false := by
  simp [typOK, allI_no k hk h]
theorem schMayT (s : List Typ) : PureT cx 73 [sA (eSch s)] [] 0 (s1 (tB (schMay s))) := by
  refine PureT.run0 Try.func73 rfl rfl 65 Try.ntmps73 [.tmp 2] rfl rfl (fun _ => rfl) ?_
  (repeat' (first | refine And.intro (by first | exact trivial | exact rfl | exact ⟨trivial, rfl⟩ | exact ⟨trivial, trivial⟩ | exact ⟨rfl, rfl⟩ | exact ⟨rfl, Nat.le_of_ble_eq_true rfl⟩ | decide) ?_ | refine two_t ?_ | refine two_f ?_ | refine two.intro (fun _ => ?_) (fun _ => ?_) | refine JL.nil ?_ | refine JC.seq ?_ | refine JC.block ?_ | refine JC.skip ?_ | refine JC.exit ?_ | refine JC.region ?_ | refine JC.cond rfl ?_ | refine JC.ret ⟨_, Le.refl, And.intro (by repeat' (first | exact trivial | exact rfl | apply And.intro)) ?_⟩ | refine fSt_in ?_ | refine fAcc_in ?_ | (refine JL.p0 rfl rfl rfl rfl rfl (Fit.refl _) (fun _ => rfl) (by first | exact findST _ _ | exact nameMayT _) (fun _ => rfl) ?_; refine ev_run ?_) | fail))
  · refine congrArg Res.ret (congrArg s1 (congrArg tB ?_))
    simp_all [schMay]
  · refine congrArg Res.ret (congrArg s1 (congrArg tB ?_))
    simp_all [schMay]
    intros; omega
  · rename_i hb1 hb2
    have hb3 : (!((s.length : Int) == 0) && decide ((s.length : Int) ≤ 4)) = true := by simp_all
    have hbig : s.length ≤ big := by
      have : s.length ≤ 4 := by simp_all; omega
      unfold big; omega
    refine JC.loop (ι := { i : Nat // i ≤ s.length ∧ ∀ j, j < i → typOK s j (s.getD j default) = true }) (fun i => ⟨[(1, Go.Fw.one (.ref 0 0)), (18, s1 (rowsOf 2 eTyp s)), (19, s1 (tI s.length)), (20, s1 (tI i.1))], [(0, .box 24 [.data (rowsOf 2 eTyp s)])], 1⟩) (fun i => s.length - i.1) ⟨0, Nat.zero_le _, fun j h => absurd h (Nat.not_lt_zero j)⟩ (Le.drop (by repeat (first | exact trivial | refine SlLe.same rfl ?_ | refine SlLe.int rfl (by first | exact wrap_succ (by assumption) (by assumption) | exact wrap_succ2 (by first | omega | (simp only []; omega))) ?_)) (by repeat (first | exact trivial | refine ⟨rfl, ?_⟩)) rfl) ?_
    rintro ⟨i, hi, hno⟩
    refine JC.seq ?_
    (repeat (first | refine JC.seq ?_ | refine JC.block ?_ | refine JC.skip ?_ | refine JC.exit ?_ | (refine JC.region ?_; (repeat (first | refine And.intro (by first | exact trivial | exact rfl | exact ⟨trivial, rfl⟩ | exact ⟨trivial, trivial⟩ | exact ⟨rfl, rfl⟩ | exact ⟨rfl, Nat.le_of_ble_eq_true rfl⟩ | decide) ?_ | refine fSt_in ?_ | refine fAcc_in ?_)); refine JL.nil ?_)))
    refine JC.cond rfl (two.intro ?_ ?_)
    · intro hlt
      have hlt : i < s.length := by simpa using hlt
      (repeat' (first | refine And.intro (by first | exact trivial | exact rfl | exact ⟨trivial, rfl⟩ | exact ⟨trivial, trivial⟩ | exact ⟨rfl, rfl⟩ | exact ⟨rfl, Nat.le_of_ble_eq_true rfl⟩ | decide) ?_ | refine two_t ?_ | refine two_f ?_ | refine two.intro (fun _ => ?_) (fun _ => ?_) | refine JL.nil ?_ | refine JC.seq ?_ | refine JC.block ?_ | refine JC.skip ?_ | refine JC.exit ?_ | refine JC.region ?_ | refine JC.cond rfl ?_ | refine JC.ret ⟨_, Le.refl, And.intro (by repeat' (first | exact trivial | exact rfl | apply And.intro)) ?_⟩ | refine And.intro (⟨Int.natCast_nonneg _, Int.ofNat_lt.2 hlt, rfl⟩) ?_ | refine fSt_in ?_ | refine fAcc_in ?_ | (refine JL.p0 rfl rfl rfl rfl rfl (Fit.refl _) (fun _ => rfl) (by first | exact findST _ _ | exact nameMayT _) (fun _ => rfl) ?_; refine ev_run ?_) | fail))
      · rename_i h1
        have h1 : nameMay (s.getD i default).name = false := not_t h1
        refine congrArg Res.ret (congrArg s1 (congrArg tB (schMay_no i hlt ?_).symm))
        simp only [typOK, h1, Bool.false_and]
      · rename_i h1 h2
        have h2 : (findS s (s.getD i default).name == (i : Int)) = false := not_t h2
        refine congrArg Res.ret (congrArg s1 (congrArg tB (schMay_no i hlt ?_).symm))
        simp only [typOK, h2, Bool.false_and, Bool.and_false]
      · rename_i h1 h2 h3
        have h3 : ((s.getD i default).f.length : Int) > 5 := of_decide_eq_true h3
        refine congrArg Res.ret (congrArg s1 (congrArg tB (schMay_no i hlt ?_).symm))
        simp only [typOK, show decide (((s.getD i default).f.length : Int) ≤ 5) = false from decide_eq_false (by omega), Bool.false_and, Bool.and_false]
      · rename_i h1 h2 h3
        have h1 : nameMay (s.getD i default).name = true := not_f h1
        have h2 : (findS s (s.getD i default).name == (i : Int)) = true := not_f h2
        have h3 : ¬ ((s.getD i default).f.length : Int) > 5 := of_decide_eq_false h3
        generalize ht : s.getD i default = t at h1 h2 h3
        have hbig2 : t.f.length ≤ big := by unfold big; omega
        refine JC.loop (ι := { k : Nat // k ≤ t.f.length ∧ ∀ j, j < k → fldOK s t j (t.f.getD j default) = true }) (fun k => ⟨[(1, Go.Fw.one (.ref 0 0)), (18, s1 (rowsOf 2 eTyp s)), (19, s1 (tI s.length)), (20, s1 (tI i)), (3, s1 (tI i)), (4, Go.Fw.one (.ref 1 0)), (44, s1 (rowsOf 3 eFld t.f)), (45, s1 (tI t.f.length)), (46, s1 (tI k.1))], [(1, .box 58 (dat (eTyp t))), (0, .box 24 [.data (rowsOf 2 eTyp s)])], 2⟩) (fun k => t.f.length - k.1) ⟨0, Nat.zero_le _, fun j h => absurd h (Nat.not_lt_zero j)⟩ (by subst ht; exact (Le.drop (by repeat (first | exact trivial | refine SlLe.same rfl ?_ | refine SlLe.int rfl (by first | exact wrap_succ (by assumption) (by assumption) | exact wrap_succ2 (by first | omega | (simp only []; omega))) ?_)) (by repeat (first | exact trivial | refine ⟨rfl, ?_⟩)) rfl)) ?_
        rintro ⟨k, hk, hnk⟩
        refine JC.seq ?_
        (repeat (first | refine JC.seq ?_ | refine JC.block ?_ | refine JC.skip ?_ | refine JC.exit ?_ | (refine JC.region ?_; (repeat (first | refine And.intro (by first | exact trivial | exact rfl | exact ⟨trivial, rfl⟩ | exact ⟨trivial, trivial⟩ | exact ⟨rfl, rfl⟩ | exact ⟨rfl, Nat.le_of_ble_eq_true rfl⟩ | decide) ?_ | refine fSt_in ?_ | refine fAcc_in ?_)); refine JL.nil ?_)))
        refine JC.cond rfl (two.intro ?_ ?_)
        · intro hltk
          have hltk : k < t.f.length := by simpa using hltk
          (repeat' (first | refine And.intro (by first | exact trivial | exact rfl | exact ⟨trivial, rfl⟩ | exact ⟨trivial, trivial⟩ | exact ⟨rfl, rfl⟩ | exact ⟨rfl, Nat.le_of_ble_eq_true rfl⟩ | decide) ?_ | refine two_t ?_ | refine two_f ?_ | refine two.intro (fun _ => ?_) (fun _ => ?_) | refine JL.nil ?_ | refine JC.seq ?_ | refine JC.block ?_ | refine JC.skip ?_ | refine JC.exit ?_ | refine JC.region ?_ | refine JC.cond rfl ?_ | refine JC.ret ⟨_, Le.refl, And.intro (by repeat' (first | exact trivial | exact rfl | apply And.intro)) ?_⟩ | refine And.intro (⟨Int.natCast_nonneg _, Int.ofNat_lt.2 hltk, rfl⟩) ?_ | refine fSt_in ?_ | refine fAcc_in ?_ | (refine JL.p0 rfl rfl rfl rfl rfl (Fit.refl _) (fun _ => rfl) (by first | exact fieldMayT _ _ | exact fieldST _ _) (fun _ => rfl) ?_; refine ev_run ?_) | fail))
          · rename_i h4
            have h4 : fieldMay s (t.f.getD k default) = false := not_t h4
            refine congrArg Res.ret (congrArg s1 (congrArg tB (schMay_no i hlt (ht ▸ typOK_no k hltk ?_)).symm))
            simp only [fldOK, h4, Bool.false_and]
          · rename_i h4 h5
            have h5 : (fieldS t.f (t.f.getD k default).name == (k : Int)) = false := not_t h5
            refine congrArg Res.ret (congrArg s1 (congrArg tB (schMay_no i hlt (ht ▸ typOK_no k hltk ?_)).symm))
            simp only [fldOK, h5, Bool.and_false]
          · rename_i h4 h5
            have h4 : fieldMay s (t.f.getD k default) = true := not_f h4
            have h5 : (fieldS t.f (t.f.getD k default).name == (k : Int)) = true := not_f h5
            refine ⟨⟨k + 1, hltk, upto_yes hnk ?_⟩, by simp only; omega, (Le.drop (by repeat (first | exact trivial | refine SlLe.same rfl ?_ | refine SlLe.int rfl (by first | exact wrap_succ (by assumption) (by assumption) | exact wrap_succ2 (by first | omega | (simp only []; omega))) ?_)) (by repeat (first | exact trivial | refine ⟨rfl, ?_⟩)) rfl)⟩
            simp only [fldOK, h4, h5, Bool.and_self]
        · intro hgek
          have hgek : ¬ k < t.f.length := by simpa using hgek
          (repeat' (first | refine And.intro (by first | exact trivial | exact rfl | exact ⟨trivial, rfl⟩ | exact ⟨trivial, trivial⟩ | exact ⟨rfl, rfl⟩ | exact ⟨rfl, Nat.le_of_ble_eq_true rfl⟩ | decide) ?_ | refine two_t ?_ | refine two_f ?_ | refine two.intro (fun _ => ?_) (fun _ => ?_) | refine JL.nil ?_ | refine JC.seq ?_ | refine JC.block ?_ | refine JC.skip ?_ | refine JC.exit ?_ | refine JC.region ?_ | refine JC.cond rfl ?_ | refine JC.ret ⟨_, Le.refl, And.intro (by repeat' (first | exact trivial | exact rfl | apply And.intro)) ?_⟩))
          refine ⟨⟨i + 1, hlt, upto_yes hno ?_⟩, by simp only; omega, (Le.drop (by repeat (first | exact trivial | refine SlLe.same rfl ?_ | refine SlLe.int rfl (by first | exact wrap_succ (by assumption) (by assumption) | exact wrap_succ2 (by first | omega | (simp only []; omega))) ?_)) (by repeat (first | exact trivial | refine ⟨rfl, ?_⟩)) rfl)⟩
          have h6 := allI_yes (p := fldOK s t) (xs := t.f) (fun j hj => hnk j (by omega))
          have h7 : ((t.f.length : Int) ≤ 5) := by omega
          simp only [ht, typOK, h1, h2, h6, h7, decide_true, Bool.and_self]
    · intro hge
      have hge : ¬ i < s.length := by simpa using hge
      (repeat' (first | refine And.intro (by first | exact trivial | exact rfl | exact ⟨trivial, rfl⟩ | exact ⟨trivial, trivial⟩ | exact ⟨rfl, rfl⟩ | exact ⟨rfl, Nat.le_of_ble_eq_true rfl⟩ | decide) ?_ | refine two_t ?_ | refine two_f ?_ | refine two.intro (fun _ => ?_) (fun _ => ?_) | refine JL.nil ?_ | refine JC.seq ?_ | refine JC.block ?_ | refine JC.skip ?_ | refine JC.exit ?_ | refine JC.region ?_ | refine JC.cond rfl ?_ | refine JC.ret ⟨_, Le.refl, And.intro (by repeat' (first | exact trivial | exact rfl | apply And.intro)) ?_⟩))
      refine congrArg Res.ret (congrArg s1 (congrArg tB ?_))
      have := allI_yes (p := typOK s) (xs := s) (fun j hj => hno j (by omega))
      simp [schMay, hb3, this]
end Go.Proofs.Ytlhfajmcnbcabaa

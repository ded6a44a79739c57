/- Graphs that may be. -/
import Derived.Test.YtlhfajmcnbcabaaA5
import Derived.Test.YtlhfajmcnbcabaaFwE
set_option linter.unusedVariables false
set_option linter.unusedSimpArgs false
namespace Go.Proofs.Ytlhfajmcnbcabaa
open Go Go.Fw
set_option maxRecDepth 100000

/-- Objects' types, by ids. -/
def typesE (o : List Obj) : List (Int × Int) := o.foldl (fun es x => updE es x.id x.t) []
theorem foldl_take {α β : Type} [Inhabited α] (f : β → α → β) (z : β) (l : List α) (i : Nat) (h : i < l.length) : (l.take (i + 1)).foldl f z = f ((l.take i).foldl f z) (l.getD i default) := by
  rw [List.take_succ_eq_append_getElem h, List.foldl_append, List.foldl_cons, List.foldl_nil, List.getD_eq_getElem?_getD, List.getElem?_eq_getElem h, Option.getD_some]
theorem typesT (g : Gr) : NewT cx 64 [sA (eGr g)] (Go.Fw.one (.base 1)) [(1, .mi .i64 (typesE g.o))] 2 := by
  refine Triple.run Try.func64 rfl rfl 21 Try.ntmps64 [.tmp 2] rfl rfl ?_
  (repeat (first | refine JC.seq ?_ | refine JC.block ?_ | refine JC.skip ?_ | refine JC.exit ?_ | (refine JC.region ?_; (repeat (first | refine And.intro (by first | exact trivial | exact rfl | exact ⟨trivial, rfl⟩ | exact ⟨trivial, trivial⟩ | exact ⟨rfl, rfl⟩ | exact ⟨rfl, Nat.le_of_ble_eq_true rfl⟩ | decide) ?_ | refine fSt_in ?_ | refine fAcc_in ?_)); refine JL.nil ?_)))
  refine JC.have_big 8 rfl fun hbig => ?_
  refine JC.loop (ι := { i : Nat // i ≤ g.o.length }) (fun i => ⟨[(3, Go.Fw.one (.base 1)), (8, s1 (rowsOf 3 eObj g.o)), (9, s1 (tI g.o.length)), (10, s1 (tI i.1))], [(1, .mi .i64 (typesE (g.o.take i.1)))], 2⟩) (fun i => g.o.length - i.1) ⟨0, Nat.zero_le _⟩ (Le.drop (by repeat (first | exact trivial | refine SlLe.same rfl ?_ | refine SlLe.int rfl (by first | exact wrap_succ (by assumption) (by assumption) | exact wrap_succ2 (by first | omega | (simp only []; omega))) ?_)) (by repeat (first | exact trivial | refine ⟨rfl, ?_⟩)) rfl) ?_
  rintro ⟨i, hi⟩
  refine JC.seq ?_
  (repeat (first | refine JC.seq ?_ | refine JC.block ?_ | refine JC.skip ?_ | refine JC.exit ?_ | (refine JC.region ?_; (repeat (first | refine And.intro (by first | exact trivial | exact rfl | exact ⟨trivial, rfl⟩ | exact ⟨trivial, trivial⟩ | exact ⟨rfl, rfl⟩ | exact ⟨rfl, Nat.le_of_ble_eq_true rfl⟩ | decide) ?_ | refine fSt_in ?_ | refine fAcc_in ?_)); refine JL.nil ?_)))
  refine JC.cond rfl (two.intro ?_ ?_)
  · intro hlt
    have hlt : i < g.o.length := by simpa using hlt
    (repeat' (first | refine And.intro (by first | exact trivial | exact rfl | exact ⟨trivial, rfl⟩ | exact ⟨trivial, trivial⟩ | exact ⟨rfl, rfl⟩ | exact ⟨rfl, Nat.le_of_ble_eq_true rfl⟩ | decide) ?_ | refine two_t ?_ | refine two_f ?_ | refine two.intro (fun _ => ?_) (fun _ => ?_) | refine JL.nil ?_ | refine JC.seq ?_ | refine JC.block ?_ | refine JC.skip ?_ | refine JC.exit ?_ | refine JC.region ?_ | refine JC.cond rfl ?_ | refine JC.ret ⟨_, Le.refl, And.intro (by repeat' (first | exact trivial | exact rfl | apply And.intro)) ?_⟩ | refine And.intro (⟨Int.natCast_nonneg _, Int.ofNat_lt.2 hlt, rfl⟩) ?_ | refine fSt_in ?_ | refine fAcc_in ?_ | fail))
    refine ⟨⟨i + 1, hlt⟩, by simp only; omega, ?_⟩
    rw [show typesE (g.o.take (i + 1)) = updE (typesE (g.o.take i)) (g.o.getD i default).id (g.o.getD i default).t from foldl_take _ _ _ _ hlt]
    exact (Le.drop (by repeat (first | exact trivial | refine SlLe.same rfl ?_ | refine SlLe.int rfl (by first | exact wrap_succ (by assumption) (by assumption) | exact wrap_succ2 (by first | omega | (simp only []; omega))) ?_)) (by repeat (first | exact trivial | refine ⟨rfl, ?_⟩)) rfl)
  · intro hge
    have hge : ¬ i < g.o.length := by simpa using hge
    obtain rfl : i = g.o.length := by omega
    simp only [List.take_length]
    (repeat (first | refine JC.seq ?_ | refine JC.block ?_ | refine JC.skip ?_ | refine JC.exit ?_ | (refine JC.region ?_; (repeat (first | refine And.intro (by first | exact trivial | exact rfl | exact ⟨trivial, rfl⟩ | exact ⟨trivial, trivial⟩ | exact ⟨rfl, rfl⟩ | exact ⟨rfl, Nat.le_of_ble_eq_true rfl⟩ | decide) ?_ | refine fSt_in ?_ | refine fAcc_in ?_)); refine JL.nil ?_)))
    refine JC.ret ⟨⟨[(2, Go.Fw.one (.base 1))], [(1, .mi .i64 (typesE g.o))], 2⟩, (Le.drop (by repeat (first | exact trivial | refine SlLe.same rfl ?_ | refine SlLe.int rfl (by first | exact wrap_succ (by assumption) (by assumption) | exact wrap_succ2 (by first | omega | (simp only []; omega))) ?_)) (by repeat (first | exact trivial | refine ⟨rfl, ?_⟩)) rfl), And.intro (by repeat' (first | exact trivial | exact rfl | apply And.intro)) ?_⟩
    exact ⟨rfl, rfl, rfl⟩

def leadsOK (s : List Typ) (es : List (Int × Int)) (f : Fld) (v : Val) : Bool :=
  fits f v && (!(f.kind == 5) || (v.r == -1) || ((findE es v.r).isSome && ((findE es v.r).getD 0 == findS s f.to)))
def mI (es : List (Int × Int)) : O := .mi .i64 es
theorem leadsT (g : Gr) (es : List (Int × Int)) (f : Fld) (v : Val) : PureT cx 63 [sA (eGr g), Go.Fw.one (.base 0), sA (eFld f), sA (eVal v)] [(0, mI es)] 1 (s1 (tB (leadsOK g.s es f v))) := by
  refine PureT.runh Try.func63 rfl rfl 42 Try.ntmps63 [.tmp 8] rfl rfl (fun _ => rfl) ?_
  (repeat' (first | refine And.intro (by first | exact trivial | exact rfl | exact ⟨trivial, rfl⟩ | exact ⟨trivial, trivial⟩ | exact ⟨rfl, rfl⟩ | exact ⟨rfl, Nat.le_of_ble_eq_true rfl⟩ | decide) ?_ | refine two_t ?_ | refine two_f ?_ | refine two.intro (fun _ => ?_) (fun _ => ?_) | refine JL.nil ?_ | refine JC.seq ?_ | refine JC.block ?_ | refine JC.skip ?_ | refine JC.exit ?_ | refine JC.region ?_ | refine JC.cond rfl ?_ | refine JC.ret ⟨_, Le.refl, And.intro (by repeat' (first | exact trivial | exact rfl | apply And.intro)) ?_⟩ | refine fSt_in ?_ | refine fAcc_in ?_ | (refine JL.p0 rfl rfl rfl rfl rfl (Fit.refl _) (fun _ => rfl) (by first | exact fitsT _ _ | exact findST _ _) (fun _ => rfl) ?_; refine ev_run ?_) | fail))
  all_goals (refine And.intro (congrArg Res.ret (congrArg s1 (congrArg tB ?_))) ⟨rfl, trivial⟩)
  all_goals simp_all [leadsOK, bne]
/-- The fields of an object's type. -/
def fldsOf (s : List Typ) (o : Obj) : List Fld := (s.getD o.t.toNat default).f
def objOK (s : List Typ) (es : List (Int × Int)) (last : Int) (o : Obj) : Bool :=
  !(decide (o.id ≤ last)) && !(decide (o.id > 1073741824)) && !(decide (o.t < 0)) && !(decide (o.t ≥ (s.length : Int))) && ((o.f.length : Int) == ((fldsOf s o).length : Int)) && allI (fun k v => leadsOK s es ((fldsOf s o).getD k default) v) o.f
theorem objOK_no {s : List Typ} {es : List (Int × Int)} {last : Int} {o : Obj} (k : Nat) (hk : k < o.f.length) (h : leadsOK s es ((fldsOf s o).getD k default) (o.f.getD k default) = false) : objOK s es last o = false := by
  simp only [objOK, allI_no (p := fun k v => leadsOK s es ((fldsOf s o).getD k default) v) k hk h, Bool.and_false]
theorem objectT (g : Gr) (es : List (Int × Int)) (o : Obj) (last : Int) : PureT cx 74 [sA (eGr g), Go.Fw.one (.base 0), sA (eObj o), s1 (tI last)] [(0, mI es)] 1 (s1 (tB (objOK g.s es last o))) := by
  refine PureT.runh Try.func74 rfl rfl 67 Try.ntmps74 [.tmp 8] rfl rfl (fun _ => rfl) ?_
  (repeat' (first | refine And.intro (by first | exact trivial | exact rfl | exact ⟨trivial, rfl⟩ | exact ⟨trivial, trivial⟩ | exact ⟨rfl, rfl⟩ | exact ⟨rfl, Nat.le_of_ble_eq_true rfl⟩ | decide) ?_ | refine two_t ?_ | refine two_f ?_ | refine two.intro (fun _ => ?_) (fun _ => ?_) | refine JL.nil ?_ | refine JC.seq ?_ | refine JC.block ?_ | refine JC.skip ?_ | refine JC.exit ?_ | refine JC.region ?_ | refine JC.cond rfl ?_ | refine JC.ret ⟨_, Le.refl, And.intro (by repeat' (first | exact trivial | exact rfl | apply And.intro)) ?_⟩))
  · refine And.intro (congrArg Res.ret (congrArg s1 (congrArg tB ?_))) ⟨rfl, trivial⟩
    simp_all [objOK]
  · refine And.intro (congrArg Res.ret (congrArg s1 (congrArg tB ?_))) ⟨rfl, trivial⟩
    simp_all [objOK]
  · refine And.intro (congrArg Res.ret (congrArg s1 (congrArg tB ?_))) ⟨rfl, trivial⟩
    simp_all [objOK]
  · refine And.intro (congrArg Res.ret (congrArg s1 (congrArg tB ?_))) ⟨rfl, trivial⟩
    simp_all [objOK]
  · rename_i h1 h2 h3' h4'
    have h3 : ¬ o.t < 0 := of_decide_eq_false h3'
    have h4 : ¬ o.t ≥ (g.s.length : Int) := of_decide_eq_false h4'
    (repeat' (first | refine And.intro (by first | exact trivial | exact rfl | exact ⟨trivial, rfl⟩ | exact ⟨trivial, trivial⟩ | exact ⟨rfl, rfl⟩ | exact ⟨rfl, Nat.le_of_ble_eq_true rfl⟩ | decide) ?_ | refine two_t ?_ | refine two_f ?_ | refine two.intro (fun _ => ?_) (fun _ => ?_) | refine JL.nil ?_ | refine JC.seq ?_ | refine JC.block ?_ | refine JC.skip ?_ | refine JC.exit ?_ | refine JC.region ?_ | refine JC.cond rfl ?_ | refine JC.ret ⟨_, Le.refl, And.intro (by repeat' (first | exact trivial | exact rfl | apply And.intro)) ?_⟩ | refine And.intro (⟨(by omega), (by omega), rfl⟩) ?_ | refine fSt_in ?_ | refine fAcc_in ?_ | fail))
    · rename_i h5
      refine And.intro (congrArg Res.ret (congrArg s1 (congrArg tB ?_))) ⟨rfl, trivial⟩
      have h5 : ((o.f.length : Int) == ((fldsOf g.s o).length : Int)) = false := not_t h5
      simp only [objOK, h5, Bool.and_false, Bool.false_and]
    · rename_i h5
      have h5 : ((o.f.length : Int) == ((fldsOf g.s o).length : Int)) = true := not_f h5
      have h6 : o.f.length = (fldsOf g.s o).length := Int.ofNat.inj (by simpa using h5)
      refine JC.have_big 50 rfl fun hbig => ?_
      refine JC.loop (ι := { k : Nat // k ≤ o.f.length ∧ ∀ j, j < k → leadsOK g.s es ((fldsOf g.s o).getD j default) (o.f.getD j default) = true }) (fun k => ⟨[(1, Go.Fw.one (.base 0)), (4, Go.Fw.one (.ref 1 0)), (9, s1 (rowsOf 3 eFld (fldsOf g.s o))), (50, s1 (rowsOf 3 eVal o.f)), (51, s1 (tI o.f.length)), (52, s1 (tI k.1))], [(1, .box 28 (dat (eGr g))), (0, mI es)], 2⟩) (fun k => o.f.length - k.1) ⟨0, Nat.zero_le _, fun j h => absurd h (Nat.not_lt_zero j)⟩ (Le.drop (by repeat (first | exact trivial | refine SlLe.same rfl ?_ | refine SlLe.int rfl (by first | exact wrap_succ (by assumption) (by assumption) | exact wrap_succ2 (by first | omega | (simp only []; omega))) ?_)) (by repeat (first | exact trivial | refine ⟨rfl, ?_⟩)) rfl) ?_
      rintro ⟨k, hk, hnk⟩
      refine JC.seq ?_
      (repeat (first | refine JC.seq ?_ | refine JC.block ?_ | refine JC.skip ?_ | refine JC.exit ?_ | (refine JC.region ?_; (repeat (first | refine And.intro (by first | exact trivial | exact rfl | exact ⟨trivial, rfl⟩ | exact ⟨trivial, trivial⟩ | exact ⟨rfl, rfl⟩ | exact ⟨rfl, Nat.le_of_ble_eq_true rfl⟩ | decide) ?_ | refine fSt_in ?_ | refine fAcc_in ?_)); refine JL.nil ?_)))
      refine JC.cond rfl (two.intro ?_ ?_)
      · intro hlt
        have hlt : k < o.f.length := by simpa using hlt
        (repeat' (first | refine And.intro (by first | exact trivial | exact rfl | exact ⟨trivial, rfl⟩ | exact ⟨trivial, trivial⟩ | exact ⟨rfl, rfl⟩ | exact ⟨rfl, Nat.le_of_ble_eq_true rfl⟩ | decide) ?_ | refine two_t ?_ | refine two_f ?_ | refine two.intro (fun _ => ?_) (fun _ => ?_) | refine JL.nil ?_ | refine JC.seq ?_ | refine JC.block ?_ | refine JC.skip ?_ | refine JC.exit ?_ | refine JC.region ?_ | refine JC.cond rfl ?_ | refine JC.ret ⟨_, Le.refl, And.intro (by repeat' (first | exact trivial | exact rfl | apply And.intro)) ?_⟩ | refine And.intro (⟨Int.natCast_nonneg _, Int.ofNat_lt.2 hlt, rfl⟩) ?_ | refine fSt_in ?_ | refine fAcc_in ?_ | fail))
        refine JC.draw 9 rfl ?_
        (repeat (first | refine And.intro (by first | exact trivial | exact rfl | exact ⟨trivial, rfl⟩ | exact ⟨trivial, trivial⟩ | exact ⟨rfl, rfl⟩ | exact ⟨rfl, Nat.le_of_ble_eq_true rfl⟩ | decide) ?_ | refine fSt_in ?_ | refine fAcc_in ?_))
        have hlt2 : k < (fldsOf g.s o).length := by omega
        refine And.intro ⟨Int.natCast_nonneg _, Int.ofNat_lt.2 hlt2, rfl⟩ ?_
        (repeat (first | refine And.intro (by first | exact trivial | exact rfl | exact ⟨trivial, rfl⟩ | exact ⟨trivial, trivial⟩ | exact ⟨rfl, rfl⟩ | exact ⟨rfl, Nat.le_of_ble_eq_true rfl⟩ | decide) ?_ | refine fSt_in ?_ | refine fAcc_in ?_))
        refine ⟨_, CallOK.pl [0] rfl rfl rfl rfl rfl rfl rfl (Fit.refl _) (by exact ⟨rfl, trivial⟩) rfl rfl (leadsT g es ((fldsOf g.s o).getD k default) (o.f.getD k default)) rfl, ?_⟩
        (repeat (first | refine And.intro (by first | exact trivial | exact rfl | exact ⟨trivial, rfl⟩ | exact ⟨trivial, trivial⟩ | exact ⟨rfl, rfl⟩ | exact ⟨rfl, Nat.le_of_ble_eq_true rfl⟩ | decide) ?_ | refine fSt_in ?_ | refine fAcc_in ?_))
        refine JL.nil ?_
        (repeat' (first | refine And.intro (by first | exact trivial | exact rfl | exact ⟨trivial, rfl⟩ | exact ⟨trivial, trivial⟩ | exact ⟨rfl, rfl⟩ | exact ⟨rfl, Nat.le_of_ble_eq_true rfl⟩ | decide) ?_ | refine two_t ?_ | refine two_f ?_ | refine two.intro (fun _ => ?_) (fun _ => ?_) | refine JL.nil ?_ | refine JC.seq ?_ | refine JC.block ?_ | refine JC.skip ?_ | refine JC.exit ?_ | refine JC.region ?_ | refine JC.cond rfl ?_ | refine JC.ret ⟨_, Le.refl, And.intro (by repeat' (first | exact trivial | exact rfl | apply And.intro)) ?_⟩))
        · rename_i h7
          have h7 : leadsOK g.s es ((fldsOf g.s o).getD k default) (o.f.getD k default) = false := not_t h7
          refine And.intro (congrArg Res.ret (congrArg s1 (congrArg tB (objOK_no k hlt h7).symm))) ⟨rfl, trivial⟩
        · rename_i h7
          have h7 : leadsOK g.s es ((fldsOf g.s o).getD k default) (o.f.getD k default) = true := not_f h7
          exact ⟨⟨k + 1, hlt, upto_yes hnk h7⟩, by simp only; omega, (Le.drop (by repeat (first | exact trivial | refine SlLe.same rfl ?_ | refine SlLe.int rfl (by first | exact wrap_succ (by assumption) (by assumption) | exact wrap_succ2 (by first | omega | (simp only []; omega))) ?_)) (by repeat (first | exact trivial | refine ⟨rfl, ?_⟩)) rfl)⟩
      · intro hge
        have hge : ¬ k < o.f.length := by simpa using hge
        (repeat' (first | refine And.intro (by first | exact trivial | exact rfl | exact ⟨trivial, rfl⟩ | exact ⟨trivial, trivial⟩ | exact ⟨rfl, rfl⟩ | exact ⟨rfl, Nat.le_of_ble_eq_true rfl⟩ | decide) ?_ | refine two_t ?_ | refine two_f ?_ | refine two.intro (fun _ => ?_) (fun _ => ?_) | refine JL.nil ?_ | refine JC.seq ?_ | refine JC.block ?_ | refine JC.skip ?_ | refine JC.exit ?_ | refine JC.region ?_ | refine JC.cond rfl ?_ | refine JC.ret ⟨_, Le.refl, And.intro (by repeat' (first | exact trivial | exact rfl | apply And.intro)) ?_⟩))
        refine And.intro (congrArg Res.ret (congrArg s1 (congrArg tB ?_))) ⟨rfl, trivial⟩
        have h7 := allI_yes (p := fun k v => leadsOK g.s es ((fldsOf g.s o).getD k default) v) (xs := o.f) (fun j hj => hnk j (by omega))
        simp only [objOK, h1, h2, h3', h4', h5, h7]
        rfl
end Go.Proofs.Ytlhfajmcnbcabaa

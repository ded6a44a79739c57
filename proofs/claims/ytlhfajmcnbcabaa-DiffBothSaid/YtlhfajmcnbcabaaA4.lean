/- Values, schemas. -/
import Derived.Test.YtlhfajmcnbcabaaA3
import Derived.Test.YtlhfajmcnbcabaaFwE
set_option linter.unusedVariables false
set_option linter.unusedSimpArgs false
namespace Go.Proofs.Ytlhfajmcnbcabaa
open Go Go.Fw
set_option maxRecDepth 100000

theorem nameMayT (z : Str) : PureT cx 123 [s1 (tS z)] [] 0 (s1 (tB (nameMay z))) := by
  refine PureT.run0 Try.func123 rfl rfl 6 Try.ntmps123 [.tmp 2] rfl rfl (fun _ => rfl) ?_
  (repeat' (first | refine And.intro (by first | exact trivial | exact rfl | exact ⟨trivial, rfl⟩ | exact ⟨trivial, trivial⟩ | exact ⟨rfl, rfl⟩ | exact ⟨rfl, Nat.le_of_ble_eq_true rfl⟩ | decide) ?_ | refine two_t ?_ | refine two_f ?_ | refine two.intro (fun _ => ?_) (fun _ => ?_) | refine JL.nil ?_ | refine JC.seq ?_ | refine JC.block ?_ | refine JC.skip ?_ | refine JC.exit ?_ | refine JC.region ?_ | refine JC.cond rfl ?_ | refine JC.ret ⟨_, Le.refl, And.intro (by repeat' (first | exact trivial | exact rfl | apply And.intro)) ?_⟩ | refine fSt_in ?_ | refine fAcc_in ?_ | (refine JL.p0 rfl rfl rfl rfl rfl (Fit.refl _) (fun _ => rfl) (by first | exact nameLenT _) (fun _ => rfl) ?_; refine ev_run ?_) | fail))
  exact rfl

/-- What a value holds, as a field of a kind has it. -/
def zVal : Val := ⟨0, { data := { toList := [] } }, 0⟩
def isN (k : Int) (v : Val) : Bool := decide (0 ≤ k) && decide (k ≤ 3) && qVal v { zVal with n := v.n }
def isS (k : Int) (v : Val) : Bool := (k == 4) && qVal v { zVal with s := v.s }
def isR (k : Int) (v : Val) : Bool := (k == 5) && qVal v { zVal with r := v.r }
def ofD (k : Int) (v : Val) : D := if isN k v then .ifc 3 false [tI v.n] else if isS k v then .ifc 9 false [tS v.s] else if isR k v then .ifc 260 false [tI v.r] else .data (.lit .nilIface)
theorem ofT (k : Int) (v : Val) : PureT cx 149 [s1 (tI k), sA (eVal v)] [] 0 (Go.Fw.one (ofD k v)) := by
  refine PureT.run0 Try.func149 rfl rfl 48 Try.ntmps149 [.tmp 4] rfl rfl (fun id => by simp only [ofD]; repeat (split <;> try rfl)) ?_
  (repeat' (first | refine And.intro (by first | exact trivial | exact rfl | exact ⟨trivial, rfl⟩ | exact ⟨trivial, trivial⟩ | exact ⟨rfl, rfl⟩ | exact ⟨rfl, Nat.le_of_ble_eq_true rfl⟩ | decide) ?_ | refine two_t ?_ | refine two_f ?_ | refine two.intro (fun _ => ?_) (fun _ => ?_) | refine JL.nil ?_ | refine JC.seq ?_ | refine JC.block ?_ | refine JC.skip ?_ | refine JC.exit ?_ | refine JC.region ?_ | refine JC.cond rfl ?_ | refine JC.ret ⟨_, Le.refl, And.intro (by repeat' (first | exact trivial | exact rfl | apply And.intro)) ?_⟩))
  all_goals refine congrArg Res.ret (congrArg (fun d => SV.c (Cv.one d)) ?_)
  all_goals simp_all [ofD, isN, isS, isR, qVal, vVal, zVal, cstD]
  all_goals (try intros; omega)

/-- Whether a number fits into so many bits. -/
def fitsI (k n : Int) : Bool :=
  let b := IntKind.i64.wrap (IntKind.i64.wrap (8 * 2 ^ (min k.toNat IntKind.i64.bits)) - 1)
  (n.fdiv (2 ^ (min b.toNat IntKind.i64.bits)) == 0) || (n.fdiv (2 ^ (min b.toNat IntKind.i64.bits)) == -1)
theorem fits_shift {k : Int} (h0 : 0 ≤ k) (h3 : k ≤ 3) : 0 ≤ IntKind.i64.wrap (IntKind.i64.wrap (8 * 2 ^ (min k.toNat IntKind.i64.bits)) - 1) := by
  obtain rfl | rfl | rfl | rfl : k = 0 ∨ k = 1 ∨ k = 2 ∨ k = 3 := by omega
  all_goals decide
theorem fitsIT (k n : Int) (h0 : 0 ≤ k) (h3 : k ≤ 3) : PureT cx 148 [s1 (tI k), Go.Fw.one (.ifc 3 false [tI n])] [] 0 (s1 (tB (fitsI k n))) := by
  refine PureT.run0 Try.func148 rfl rfl 42 Try.ntmps148 [.tmp 4] rfl rfl (fun _ => rfl) ?_
  (repeat' (first | refine And.intro (by first | exact trivial | exact rfl | exact ⟨trivial, rfl⟩ | exact ⟨trivial, trivial⟩ | exact ⟨rfl, rfl⟩ | exact ⟨rfl, Nat.le_of_ble_eq_true rfl⟩ | decide) ?_ | refine two_t ?_ | refine two_f ?_ | refine two.intro (fun _ => ?_) (fun _ => ?_) | refine JL.nil ?_ | refine JC.seq ?_ | refine JC.block ?_ | refine JC.skip ?_ | refine JC.exit ?_ | refine JC.region ?_ | refine JC.cond rfl ?_ | refine JC.ret ⟨_, Le.refl, And.intro (by repeat' (first | exact trivial | exact rfl | apply And.intro)) ?_⟩ | refine And.intro (h0) ?_ | refine And.intro (fits_shift h0 h3) ?_ | refine fSt_in ?_ | refine fAcc_in ?_ | fail))
  all_goals refine congrArg Res.ret (congrArg s1 (congrArg tB ?_))
  all_goals simp_all [fitsI]
theorem fitsST (k : Int) (z : Str) : PureT cx 148 [s1 (tI k), Go.Fw.one (.ifc 9 false [tS z])] [] 0 (s1 (tB (decide ((z.size : Int) ≤ 12)))) := by
  refine PureT.run0 Try.func148 rfl rfl 42 Try.ntmps148 [.tmp 4] rfl rfl (fun _ => rfl) ?_
  (repeat' (first | refine And.intro (by first | exact trivial | exact rfl | exact ⟨trivial, rfl⟩ | exact ⟨trivial, trivial⟩ | exact ⟨rfl, rfl⟩ | exact ⟨rfl, Nat.le_of_ble_eq_true rfl⟩ | decide) ?_ | refine two_t ?_ | refine two_f ?_ | refine two.intro (fun _ => ?_) (fun _ => ?_) | refine JL.nil ?_ | refine JC.seq ?_ | refine JC.block ?_ | refine JC.skip ?_ | refine JC.exit ?_ | refine JC.region ?_ | refine JC.cond rfl ?_ | refine JC.ret ⟨_, Le.refl, And.intro (by repeat' (first | exact trivial | exact rfl | apply And.intro)) ?_⟩))
  exact rfl
theorem fitsRT (k n : Int) : PureT cx 148 [s1 (tI k), Go.Fw.one (.ifc 260 false [tI n])] [] 0 (s1 (tB (decide (-1 ≤ n) && decide (n ≤ 1073741824)))) := by
  refine PureT.run0 Try.func148 rfl rfl 42 Try.ntmps148 [.tmp 4] rfl rfl (fun _ => rfl) ?_
  (repeat' (first | refine And.intro (by first | exact trivial | exact rfl | exact ⟨trivial, rfl⟩ | exact ⟨trivial, trivial⟩ | exact ⟨rfl, rfl⟩ | exact ⟨rfl, Nat.le_of_ble_eq_true rfl⟩ | decide) ?_ | refine two_t ?_ | refine two_f ?_ | refine two.intro (fun _ => ?_) (fun _ => ?_) | refine JL.nil ?_ | refine JC.seq ?_ | refine JC.block ?_ | refine JC.skip ?_ | refine JC.exit ?_ | refine JC.region ?_ | refine JC.cond rfl ?_ | refine JC.ret ⟨_, Le.refl, And.intro (by repeat' (first | exact trivial | exact rfl | apply And.intro)) ?_⟩))
  all_goals refine congrArg Res.ret (congrArg s1 (congrArg tB ?_))
  all_goals simp_all
  all_goals omega
theorem fitsNT (k : Int) : PureT cx 148 [s1 (tI k), Go.Fw.one (.data (.lit .nilIface))] [] 0 (s1 (tB false)) := by
  refine PureT.run0 Try.func148 rfl rfl 42 Try.ntmps148 [.tmp 4] rfl rfl (fun _ => rfl) ?_
  (repeat' (first | refine And.intro (by first | exact trivial | exact rfl | exact ⟨trivial, rfl⟩ | exact ⟨trivial, trivial⟩ | exact ⟨rfl, rfl⟩ | exact ⟨rfl, Nat.le_of_ble_eq_true rfl⟩ | decide) ?_ | refine two_t ?_ | refine two_f ?_ | refine two.intro (fun _ => ?_) (fun _ => ?_) | refine JL.nil ?_ | refine JC.seq ?_ | refine JC.block ?_ | refine JC.skip ?_ | refine JC.exit ?_ | refine JC.region ?_ | refine JC.cond rfl ?_ | refine JC.ret ⟨_, Le.refl, And.intro (by repeat' (first | exact trivial | exact rfl | apply And.intro)) ?_⟩))
  exact rfl
def fits (f : Fld) (v : Val) : Bool :=
  if isN f.kind v then fitsI f.kind v.n else if isS f.kind v then decide ((v.s.size : Int) ≤ 12) else if isR f.kind v then decide (-1 ≤ v.r) && decide (v.r ≤ 1073741824) else false
theorem fits_ofT (f : Fld) (v : Val) : PureT cx 148 [s1 (tI f.kind), Go.Fw.one (ofD f.kind v)] [] 0 (s1 (tB (fits f v))) := by
  unfold ofD fits
  split
  · rename_i h
    simp only [isN, Bool.and_eq_true, decide_eq_true_eq] at h
    exact fitsIT _ _ h.1.1 h.1.2
  · split
    · exact fitsST _ _
    · split
      · exact fitsRT _ _
      · exact fitsNT _
theorem fitsT (f : Fld) (v : Val) : PureT cx 113 [sA (eFld f), sA (eVal v)] [] 0 (s1 (tB (fits f v))) := by
  refine PureT.run0 Try.func113 rfl rfl 12 Try.ntmps113 [.tmp 4] rfl rfl (fun _ => rfl) ?_
  (repeat (first | refine JC.seq ?_ | refine JC.block ?_ | refine JC.skip ?_ | refine JC.exit ?_ | (refine JC.region ?_; (repeat (first | refine And.intro (by first | exact trivial | exact rfl | exact ⟨trivial, rfl⟩ | exact ⟨trivial, trivial⟩ | exact ⟨rfl, rfl⟩ | exact ⟨rfl, Nat.le_of_ble_eq_true rfl⟩ | decide) ?_ | refine fSt_in ?_ | refine fAcc_in ?_)); refine JL.nil ?_)))
  refine JC.draw 7 rfl ?_
  (repeat (first | refine And.intro (by first | exact trivial | exact rfl | exact ⟨trivial, rfl⟩ | exact ⟨trivial, trivial⟩ | exact ⟨rfl, rfl⟩ | exact ⟨rfl, Nat.le_of_ble_eq_true rfl⟩ | decide) ?_ | refine fSt_in ?_ | refine fAcc_in ?_))
  refine ⟨_, CallOK.p0 rfl rfl rfl rfl rfl (Fit.refl _) (fun _ => rfl) (ofT f.kind v) (fun ρ => ?_), ?_⟩
  · simp only [ofD]; repeat (split <;> try rfl)
  (repeat (first | refine And.intro (by first | exact trivial | exact rfl | exact ⟨trivial, rfl⟩ | exact ⟨trivial, trivial⟩ | exact ⟨rfl, rfl⟩ | exact ⟨rfl, Nat.le_of_ble_eq_true rfl⟩ | decide) ?_ | refine fSt_in ?_ | refine fAcc_in ?_))
  refine ⟨_, CallOK.p0 rfl rfl rfl rfl rfl (Fit.refl _) (fun ρ => ?_) (fits_ofT f v) (fun _ => rfl), ?_⟩
  · simp only [ofD]; repeat (split <;> try rfl)
  (refine ev_run ?_; (repeat (first | refine And.intro (by first | exact trivial | exact rfl | exact ⟨trivial, rfl⟩ | exact ⟨trivial, trivial⟩ | exact ⟨rfl, rfl⟩ | exact ⟨rfl, Nat.le_of_ble_eq_true rfl⟩ | decide) ?_ | refine fSt_in ?_ | refine fAcc_in ?_)); refine JL.nil ?_)
  (refine JC.ret ⟨_, Le.refl, And.intro (by repeat' (first | exact trivial | exact rfl | apply And.intro)) ?_⟩)
  exact rfl
end Go.Proofs.Ytlhfajmcnbcabaa

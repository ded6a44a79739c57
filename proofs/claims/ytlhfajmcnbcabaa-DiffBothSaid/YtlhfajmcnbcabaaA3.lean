/- Names and values. -/
import Derived.Test.YtlhfajmcnbcabaaA2
import Derived.Test.YtlhfajmcnbcabaaFwD
set_option linter.unusedVariables false
set_option linter.unusedSimpArgs false
namespace Go.Proofs.Ytlhfajmcnbcabaa
open Go Go.Fw
set_option maxRecDepth 100000

def t32 (c : Int) : T := .lit (.int .i32 c)
def letter (c : Int) : Bool := (decide (97 ≤ c) && decide (c ≤ 122)) || (decide (223 ≤ c) && decide (c ≤ 255) && !(c == 247))
def digit (c : Int) : Bool := decide (48 ≤ c) && decide (c ≤ 57)
theorem letterT (c : Int) : PureT cx 185 [s1 (t32 c)] [] 0 (s1 (tB (letter c))) := by
  refine Triple.run Try.func185 rfl rfl 21 Try.ntmps185 [.tmp 2] rfl rfl ?_
  (repeat' (first | refine And.intro (by first | exact trivial | exact rfl | exact ⟨trivial, rfl⟩ | exact ⟨trivial, trivial⟩ | exact ⟨rfl, rfl⟩ | exact ⟨rfl, Nat.le_of_ble_eq_true rfl⟩ | decide) ?_ | refine two_t ?_ | refine two_f ?_ | refine two.intro (fun _ => ?_) (fun _ => ?_) | refine JL.nil ?_ | refine JC.seq ?_ | refine JC.block ?_ | refine JC.skip ?_ | refine JC.exit ?_ | refine JC.region ?_ | refine JC.cond rfl ?_ | refine JC.ret ⟨_, Le.refl, And.intro (by repeat' (first | exact trivial | exact rfl | apply And.intro)) ?_⟩))
  all_goals (refine ⟨congrArg Res.ret (congrArg s1 (congrArg tB ?_)), rfl, rfl⟩)
  all_goals (rw [Bool.eq_iff_iff]; simp_all [letter]; try omega)
theorem digitT (c : Int) : PureT cx 186 [s1 (t32 c)] [] 0 (s1 (tB (digit c))) := by
  refine Triple.run Try.func186 rfl rfl 9 Try.ntmps186 [.tmp 2] rfl rfl ?_
  (repeat' (first | refine And.intro (by first | exact trivial | exact rfl | exact ⟨trivial, rfl⟩ | exact ⟨trivial, trivial⟩ | exact ⟨rfl, rfl⟩ | exact ⟨rfl, Nat.le_of_ble_eq_true rfl⟩ | decide) ?_ | refine two_t ?_ | refine two_f ?_ | refine two.intro (fun _ => ?_) (fun _ => ?_) | refine JL.nil ?_ | refine JC.seq ?_ | refine JC.block ?_ | refine JC.skip ?_ | refine JC.exit ?_ | refine JC.region ?_ | refine JC.cond rfl ?_ | refine JC.ret ⟨_, Le.refl, And.intro (by repeat' (first | exact trivial | exact rfl | apply And.intro)) ?_⟩))
  all_goals (refine ⟨congrArg Res.ret (congrArg s1 (congrArg tB ?_)), rfl, rfl⟩)
  all_goals (rw [Bool.eq_iff_iff]; simp_all [digit]; try omega)

/-- A name's signs, from a place on; none, if one of them may not be. -/
def nameGo (z : Str) : Nat → Nat → Int → Option Int
  | 0, _, n => some n
  | f + 1, pos, n => if pos < z.size then
      (if !letter (Utf8.decode z pos).1 && (((pos : Int) == 0) || !digit (Utf8.decode z pos).1) then none else nameGo z f (pos + (Utf8.decode z pos).2) (IntKind.i64.wrap (n + 1)))
    else some n
def nameLen (z : Str) : Int := match nameGo z (z.size + 1) 0 0 with
  | none => 0
  | some n => if 8 < n then 0 else n
def nameMay (z : Str) : Bool := decide (0 < nameLen z)
theorem decode_pos (z : Str) (pos : Nat) (h : pos < z.size) : 1 ≤ (Utf8.decode z pos).2 := by
  by_cases ha : (z[pos]'h).toNat < 128
  · rw [decode_ascii z pos h ha]; exact Nat.le_refl _
  · exact (decode_high z pos h (by omega)).2
theorem nameLenT (z : Str) : PureT cx 160 [s1 (tS z)] [] 0 (s1 (tI (nameLen z))) := by
  refine Triple.pure (Triple.run (QR := fun r h' nx' => r = .ret (s1 (tI (nameLen z)))) Try.func160 rfl rfl 29 Try.ntmps160 [.tmp 2] rfl rfl ?_) ?_
  · (repeat (first | refine JC.seq ?_ | refine JC.block ?_ | refine JC.skip ?_ | refine JC.exit ?_ | (refine JC.region ?_; (repeat (first | refine And.intro (by first | exact trivial | exact rfl | exact ⟨trivial, rfl⟩ | exact ⟨trivial, trivial⟩ | exact ⟨rfl, rfl⟩ | exact ⟨rfl, Nat.le_of_ble_eq_true rfl⟩ | decide) ?_ | refine fSt_in ?_ | refine fAcc_in ?_)); refine JL.nil ?_)))
    refine JC.loop (ι := { x : Nat × Nat × Int // nameGo z (z.size + 1) 0 0 = nameGo z x.1 x.2.1 x.2.2 ∧ z.size < x.1 + x.2.1 }) (fun x => ⟨[(0, s1 (tS z)), (3, s1 (tI x.1.2.2)), (7, Go.Fw.one (.ref 0 0))], [(0, .it z x.1.2.1)], 1⟩) (fun x => x.1.1) ⟨(z.size + 1, 0, 0), rfl, by simp⟩ (Le.slots (by repeat (first | exact trivial | refine SlLe.same rfl ?_ | refine SlLe.int rfl (by first | exact wrap_succ (by assumption) (by assumption) | exact wrap_succ2 (by first | omega | (simp only []; omega))) ?_)) rfl rfl) ?_
    rintro ⟨⟨f, pos, n⟩, he, hlt⟩
    simp only at he hlt
    refine JC.seq ?_
    (refine JC.region ?_; (repeat (first | refine And.intro (by first | exact trivial | exact rfl | exact ⟨trivial, rfl⟩ | exact ⟨trivial, trivial⟩ | exact ⟨rfl, rfl⟩ | exact ⟨rfl, Nat.le_of_ble_eq_true rfl⟩ | decide) ?_ | refine fSt_in ?_ | refine fAcc_in ?_)))
    refine JL.next rfl rfl rfl rfl rfl (fun hp => ?_) (fun hp => ?_)
    · (refine ev_run ?_; (repeat (first | refine And.intro (by first | exact trivial | exact rfl | exact ⟨trivial, rfl⟩ | exact ⟨trivial, trivial⟩ | exact ⟨rfl, rfl⟩ | exact ⟨rfl, Nat.le_of_ble_eq_true rfl⟩ | decide) ?_ | refine fSt_in ?_ | refine fAcc_in ?_)); refine JL.nil ?_)
      have hp : pos < z.size := hp
      obtain ⟨f, rfl⟩ : ∃ f', f = f' + 1 := ⟨f - 1, by omega⟩
      have e2 : nameGo z (f + 1) pos n = (if !letter (Utf8.decode z pos).1 && (((pos : Int) == 0) || !digit (Utf8.decode z pos).1) then none else nameGo z f (pos + (Utf8.decode z pos).2) (IntKind.i64.wrap (n + 1))) := by rw [nameGo, if_pos hp]
      rw [e2] at he
      have hw := decode_pos z pos hp
      refine JC.seq (JC.cond rfl (two_t ?_))
      (repeat' (first | refine And.intro (by first | exact trivial | exact rfl | exact ⟨trivial, rfl⟩ | exact ⟨trivial, trivial⟩ | exact ⟨rfl, rfl⟩ | exact ⟨rfl, Nat.le_of_ble_eq_true rfl⟩ | decide) ?_ | refine two_t ?_ | refine two_f ?_ | refine two.intro (fun _ => ?_) (fun _ => ?_) | refine JL.nil ?_ | refine JC.seq ?_ | refine JC.block ?_ | refine JC.skip ?_ | refine JC.exit ?_ | refine JC.region ?_ | refine JC.cond rfl ?_ | refine JC.ret ⟨_, Le.refl, And.intro (by repeat' (first | exact trivial | exact rfl | apply And.intro)) ?_⟩ | refine fSt_in ?_ | refine fAcc_in ?_ | (refine JL.p0 rfl rfl rfl rfl rfl (Fit.refl _) (fun _ => rfl) (by first | exact letterT _ | exact digitT _) (fun _ => rfl) ?_; refine ev_run ?_) | fail))
      · refine congrArg Res.ret (congrArg s1 (congrArg tI ?_))
        simp_all [nameLen]
      · refine congrArg Res.ret (congrArg s1 (congrArg tI ?_))
        simp_all [nameLen]
      all_goals refine ⟨⟨(f, pos + (Utf8.decode z pos).2, IntKind.i64.wrap (n + 1)), ?_, ?_⟩, Nat.lt_succ_self _, (Le.slots (by repeat (first | exact trivial | refine SlLe.same rfl ?_ | refine SlLe.int rfl (by first | exact wrap_succ (by assumption) (by assumption) | exact wrap_succ2 (by first | omega | (simp only []; omega))) ?_)) rfl rfl)⟩
      all_goals simp_all
      all_goals omega
    · (refine ev_run ?_; (repeat (first | refine And.intro (by first | exact trivial | exact rfl | exact ⟨trivial, rfl⟩ | exact ⟨trivial, trivial⟩ | exact ⟨rfl, rfl⟩ | exact ⟨rfl, Nat.le_of_ble_eq_true rfl⟩ | decide) ?_ | refine fSt_in ?_ | refine fAcc_in ?_)); refine JL.nil ?_)
      refine JC.seq (JC.cond rfl (two_f ?_))
      have he : nameGo z (z.size + 1) 0 0 = some n := by
        rw [he]; cases f with
        | zero => rfl
        | succ f => rw [nameGo, if_neg hp]
      (repeat' (first | refine And.intro (by first | exact trivial | exact rfl | exact ⟨trivial, rfl⟩ | exact ⟨trivial, trivial⟩ | exact ⟨rfl, rfl⟩ | exact ⟨rfl, Nat.le_of_ble_eq_true rfl⟩ | decide) ?_ | refine two_t ?_ | refine two_f ?_ | refine two.intro (fun _ => ?_) (fun _ => ?_) | refine JL.nil ?_ | refine JC.seq ?_ | refine JC.block ?_ | refine JC.skip ?_ | refine JC.exit ?_ | refine JC.region ?_ | refine JC.cond rfl ?_ | refine JC.ret ⟨_, Le.refl, And.intro (by repeat' (first | exact trivial | exact rfl | apply And.intro)) ?_⟩))
      all_goals (refine congrArg Res.ret (congrArg s1 (congrArg tI ?_)))
      all_goals simp_all [nameLen]
      all_goals omega
  · rintro r h' nx' rfl
    exact ⟨rfl, by simp, fun _ _ => rfl⟩
end Go.Proofs.Ytlhfajmcnbcabaa

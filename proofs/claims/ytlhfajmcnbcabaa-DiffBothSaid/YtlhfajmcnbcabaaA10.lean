/- A graph of its own, of which one object's values stay one's own. -/
import Derived.Test.YtlhfajmcnbcabaaA9
set_option linter.unusedVariables false
set_option linter.unusedSimpArgs false
namespace Go.Proofs.Ytlhfajmcnbcabaa
open Go Go.Fw
set_option maxRecDepth 100000

/-- The objects' rows; those of one object's values are its own. -/
def rowsG (g : Gr) (i0 : Nat) : List (List D) := (rws eObj g.o).set i0 [.data (tI (g.o.getD i0 default).id), .data (tI (g.o.getD i0 default).t), .base 5]
theorem rowsG_lt (g : Gr) (i0 n : Nat) (hn : 5 < n) : (rowsG g i0).all (dsLt n) = true := by
  rw [List.all_eq_true]
  intro r hr
  rcases List.mem_or_eq_of_mem_set hr with h | rfl
  · exact List.all_eq_true.1 (rws_lt eObj g.o n) r h
  · simp only [dsLt, D.lt, Bool.true_and, Bool.and_true]
    exact Nat.ble_eq_true_of_le hn
theorem rowsG_len (g : Gr) (i0 : Nat) : (rowsG g i0).length = g.o.length := by simp [rowsG, rws_len]
theorem rowsG_at {g : Gr} {i0 i : Nat} (h : i < g.o.length) (hne : i0 ≠ i) : (rowsG g i0)[i]? = some ((eObj (g.o.getD i default)).map .data) := by
  rw [rowsG, List.getElem?_set_ne hne]; exact rws_at eObj h
theorem rowsG_same {g : Gr} {i0 i : Nat} (h : i < g.o.length) (hne : i0 ≠ i) : (rowsG g i0).set i ((eObj (g.o.getD i default)).map .data) = rowsG g i0 := set_self (rowsG_at h hne)
theorem ownG (g : Gr) (hg : Small g) (i0 : Nat) (h0 : i0 < g.o.length) : NewT cx 62 [sA (eGr g)] (.c (.agg [.data (rowsOf 2 eTyp g.s), .base 3, .data (rowsOf 1 eInt g.roots)])) [(5, .row 48 3 (rws eVal (g.o.getD i0 default).f)), (3, .row 53 3 (rowsG g i0)), (1, .box 28 [.data (rowsOf 2 eTyp g.s), .base 3, .data (rowsOf 1 eInt g.roots)])] 6 := by
  refine Triple.run Try.func62 rfl rfl 58 Try.ntmps62 [.cell 2 28] rfl rfl ?_
  (repeat' (first | refine And.intro (by first | exact trivial | exact rfl | exact ⟨trivial, rfl⟩ | exact ⟨trivial, trivial⟩ | exact ⟨rfl, rfl⟩ | exact ⟨rfl, Nat.le_of_ble_eq_true rfl⟩ | decide) ?_ | refine two_t ?_ | refine two_f ?_ | refine two.intro (fun _ => ?_) (fun _ => ?_) | refine JL.nil ?_ | refine JC.seq ?_ | refine JC.block ?_ | refine JC.skip ?_ | refine JC.exit ?_ | refine JC.region ?_ | refine JC.cond rfl ?_ | refine JC.ret ⟨_, Le.refl, And.intro (by repeat' (first | exact trivial | exact rfl | apply And.intro)) ?_⟩ | refine fSt_in ?_ | refine fAcc_in ?_ | (refine JL.nw2 (h1' := [(2, .row 58 2 (rws eTyp g.s))]) rfl rfl rfl rfl rfl (Fit.refl _) (fun _ => rfl) (cloneTyp g.s hg.s) (by simp only [renH, O.ren, rws_ren]; rfl) rfl ?_; refine ev_run ?_) | fail))
  refine JC.loop (ι := { i : Nat // i ≤ g.s.length }) (fun i => ⟨[(1, Go.Fw.one (.ref 0 0)), (2, Go.Fw.one (.ref 1 0)), (15, Go.Fw.one (.base 2)), (16, s1 (tI g.s.length)), (17, s1 (tI i.1))], [(2, .row 58 2 (rws eTyp g.s)), (1, .box 28 [.data (.lit (.slice none 0 0)), .data (.lit (.slice none 0 0)), .data (.lit (.slice none 0 0))]), (0, .box 28 [.base 2, .data (rowsOf 3 eObj g.o), .data (rowsOf 1 eInt g.roots)])], 3⟩) (fun i => g.s.length - i.1) ⟨0, Nat.zero_le _⟩ ?_ ?_
  · exact Le.drop (by repeat (first | exact trivial | refine SlLe.same rfl ?_ | refine SlLe.int rfl (by rw [rws_len]) ?_)) (by exact ⟨rfl, rfl, rfl, trivial⟩) (by simp only [hLt, O.lt, rws_lt]; rfl)
  rintro ⟨i, hi⟩
  refine JC.seq ?_
  (repeat (first | refine JC.seq ?_ | refine JC.block ?_ | refine JC.skip ?_ | refine JC.exit ?_ | (refine JC.region ?_; (repeat (first | refine And.intro (by first | exact trivial | exact rfl | exact ⟨trivial, rfl⟩ | exact ⟨trivial, trivial⟩ | exact ⟨rfl, rfl⟩ | exact ⟨rfl, Nat.le_of_ble_eq_true rfl⟩ | decide) ?_ | refine fSt_in ?_ | refine fAcc_in ?_)); refine JL.nil ?_)))
  refine JC.cond rfl (two.intro ?_ ?_)
  · intro hlt
    have hlt : i < g.s.length := by simpa using hlt
    (repeat (first | refine JC.seq ?_ | refine JC.block ?_ | refine JC.skip ?_ | refine JC.exit ?_ | (refine JC.region ?_; (repeat (first | refine And.intro (by first | exact trivial | exact rfl | exact ⟨trivial, rfl⟩ | exact ⟨trivial, trivial⟩ | exact ⟨rfl, rfl⟩ | exact ⟨rfl, Nat.le_of_ble_eq_true rfl⟩ | decide) ?_ | refine fSt_in ?_ | refine fAcc_in ?_)); refine JL.nil ?_)))
    refine JC.regionL (JL.upto 2 ?_)
    (repeat (first | refine And.intro (by first | exact trivial | exact rfl | exact ⟨trivial, rfl⟩ | exact ⟨trivial, trivial⟩ | exact ⟨rfl, rfl⟩ | exact ⟨rfl, Nat.le_of_ble_eq_true rfl⟩ | decide) ?_ | refine fSt_in ?_ | refine fAcc_in ?_))
    refine And.intro ⟨Int.natCast_nonneg _, by rw [rws_len]; exact Int.ofNat_lt.2 hlt, rfl⟩ ?_
    refine JL.loadE (r := (eTyp (g.s.getD i default)).map .data) rfl rfl rfl rfl rfl rfl (rws_at eTyp hlt) (Nat.zero_le _) rfl ?_
    (refine ev_run ?_; (repeat (first | refine And.intro (by first | exact trivial | exact rfl | exact ⟨trivial, rfl⟩ | exact ⟨trivial, trivial⟩ | exact ⟨rfl, rfl⟩ | exact ⟨rfl, Nat.le_of_ble_eq_true rfl⟩ | decide) ?_ | refine fSt_in ?_ | refine fAcc_in ?_)); refine JL.nil ?_)
    (repeat (first | refine JC.seq ?_ | refine JC.block ?_ | refine JC.skip ?_ | refine JC.exit ?_ | (refine JC.region ?_; (repeat (first | refine And.intro (by first | exact trivial | exact rfl | exact ⟨trivial, rfl⟩ | exact ⟨trivial, trivial⟩ | exact ⟨rfl, rfl⟩ | exact ⟨rfl, Nat.le_of_ble_eq_true rfl⟩ | decide) ?_ | refine fSt_in ?_ | refine fAcc_in ?_)); refine JL.nil ?_)))
    refine JC.draw 7 rfl ?_
    (repeat (first | refine And.intro (by first | exact trivial | exact rfl | exact ⟨trivial, rfl⟩ | exact ⟨trivial, trivial⟩ | exact ⟨rfl, rfl⟩ | exact ⟨rfl, Nat.le_of_ble_eq_true rfl⟩ | decide) ?_ | refine fSt_in ?_ | refine fAcc_in ?_))
    refine ⟨_, CallOK.p0 rfl rfl rfl rfl rfl (Fit.refl _) (fun _ => rfl) (copyFld (g.s.getD i default).f (hg.f _ (getD_mem hlt))) (fun _ => rfl), ?_⟩
    refine JL.upto 2 ?_
    (repeat (first | refine And.intro (by first | exact trivial | exact rfl | exact ⟨trivial, rfl⟩ | exact ⟨trivial, trivial⟩ | exact ⟨rfl, rfl⟩ | exact ⟨rfl, Nat.le_of_ble_eq_true rfl⟩ | decide) ?_ | refine fSt_in ?_ | refine fAcc_in ?_))
    refine And.intro ⟨Int.natCast_nonneg _, by rw [rws_len]; exact Int.ofNat_lt.2 hlt, rfl⟩ ?_
    (repeat (first | refine And.intro (by first | exact trivial | exact rfl | exact ⟨trivial, rfl⟩ | exact ⟨trivial, trivial⟩ | exact ⟨rfl, rfl⟩ | exact ⟨rfl, Nat.le_of_ble_eq_true rfl⟩ | decide) ?_ | refine fSt_in ?_ | refine fAcc_in ?_))
    refine JL.storeE (r := (eTyp (g.s.getD i default)).map .data) rfl rfl rfl rfl rfl rfl rfl rfl (rws_at eTyp hlt) rfl (Nat.le_of_ble_eq_true rfl) (JL.nil ?_)
    (repeat (first | refine JC.seq ?_ | refine JC.block ?_ | refine JC.skip ?_ | refine JC.exit ?_ | (refine JC.region ?_; (repeat (first | refine And.intro (by first | exact trivial | exact rfl | exact ⟨trivial, rfl⟩ | exact ⟨trivial, trivial⟩ | exact ⟨rfl, rfl⟩ | exact ⟨rfl, Nat.le_of_ble_eq_true rfl⟩ | decide) ?_ | refine fSt_in ?_ | refine fAcc_in ?_)); refine JL.nil ?_)))
    have hb : i + 1 ≤ big := by have := hg.s; unfold small at this; unfold big; omega
    refine ⟨⟨i + 1, hlt⟩, by simp only; omega, ?_⟩
    refine Le.drop (by repeat (first | exact trivial | refine SlLe.same rfl ?_ | refine SlLe.int rfl (wrap_succ2 hb) ?_)) (by refine ⟨?_, rfl, rfl, trivial⟩; exact congrArg (fun r => some (O.row 58 2 r)) (rws_same eTyp hlt)) (by simp only [hLt, O.lt, rws_lt]; rfl)
  · intro _
    (repeat' (first | refine And.intro (by first | exact trivial | exact rfl | exact ⟨trivial, rfl⟩ | exact ⟨trivial, trivial⟩ | exact ⟨rfl, rfl⟩ | exact ⟨rfl, Nat.le_of_ble_eq_true rfl⟩ | decide) ?_ | refine two_t ?_ | refine two_f ?_ | refine two.intro (fun _ => ?_) (fun _ => ?_) | refine JL.nil ?_ | refine JC.seq ?_ | refine JC.block ?_ | refine JC.skip ?_ | refine JC.exit ?_ | refine JC.region ?_ | refine JC.cond rfl ?_ | refine JC.ret ⟨_, Le.refl, And.intro (by repeat' (first | exact trivial | exact rfl | apply And.intro)) ?_⟩ | refine fSt_in ?_ | refine fAcc_in ?_ | (refine JL.nw2 (h1' := [(3, .row 53 3 (rws eObj g.o))]) rfl rfl rfl rfl rfl (Fit.refl _) (fun _ => rfl) (cloneObj g.o hg.o) (by simp only [renH, O.ren, rws_ren]; rfl) rfl ?_; refine ev_run ?_) | fail))
    refine JC.loop (ι := { x : Nat × Bool // x.1 ≤ g.o.length ∧ x.2 = decide (i0 < x.1) }) (fun x => match x.1.2 with
      | false => ⟨[(1, Go.Fw.one (.ref 0 0)), (2, Go.Fw.one (.ref 1 0)), (37, Go.Fw.one (.base 3)), (38, s1 (tI g.o.length)), (39, s1 (tI x.1.1))], [(3, .row 53 3 (rws eObj g.o)), (2, .row 58 2 (rws eTyp g.s)), (1, .box 28 [.data (.lit (.slice none 0 0)), .data (.lit (.slice none 0 0)), .data (.lit (.slice none 0 0))]), (0, .box 28 [.base 2, .base 3, .data (rowsOf 1 eInt g.roots)])], 4⟩
      | true => ⟨[(1, Go.Fw.one (.ref 0 0)), (2, Go.Fw.one (.ref 1 0)), (37, Go.Fw.one (.base 3)), (38, s1 (tI g.o.length)), (39, s1 (tI x.1.1))], [(5, .row 48 3 (rws eVal (g.o.getD i0 default).f)), (3, .row 53 3 (rowsG g i0)), (2, .row 58 2 (rws eTyp g.s)), (1, .box 28 [.data (.lit (.slice none 0 0)), .data (.lit (.slice none 0 0)), .data (.lit (.slice none 0 0))]), (0, .box 28 [.base 2, .base 3, .data (rowsOf 1 eInt g.roots)])], 6⟩) (fun x => g.o.length - x.1.1) ⟨(0, false), Nat.zero_le _, by simp⟩ ?_ ?_
    · exact Le.drop (by repeat (first | exact trivial | refine SlLe.same rfl ?_ | refine SlLe.int rfl (by rw [rws_len]) ?_)) (by exact ⟨rfl, rfl, rfl, rfl, trivial⟩) (by simp only [hLt, O.lt, rws_lt]; rfl)
    rintro ⟨⟨i, past⟩, hi, hp⟩
    simp only at hi hp
    cases past with
    | false =>
      have hi0 : ¬ i0 < i := by simpa using hp
      refine JC.seq ?_
      (repeat (first | refine JC.seq ?_ | refine JC.block ?_ | refine JC.skip ?_ | refine JC.exit ?_ | (refine JC.region ?_; (repeat (first | refine And.intro (by first | exact trivial | exact rfl | exact ⟨trivial, rfl⟩ | exact ⟨trivial, trivial⟩ | exact ⟨rfl, rfl⟩ | exact ⟨rfl, Nat.le_of_ble_eq_true rfl⟩ | decide) ?_ | refine fSt_in ?_ | refine fAcc_in ?_)); refine JL.nil ?_)))
      refine JC.cond rfl (two.intro ?_ ?_)
      · intro hlt
        have hlt : i < g.o.length := by simpa using hlt
        (repeat (first | refine JC.seq ?_ | refine JC.block ?_ | refine JC.skip ?_ | refine JC.exit ?_ | (refine JC.region ?_; (repeat (first | refine And.intro (by first | exact trivial | exact rfl | exact ⟨trivial, rfl⟩ | exact ⟨trivial, trivial⟩ | exact ⟨rfl, rfl⟩ | exact ⟨rfl, Nat.le_of_ble_eq_true rfl⟩ | decide) ?_ | refine fSt_in ?_ | refine fAcc_in ?_)); refine JL.nil ?_)))
        refine JC.regionL (JL.upto 2 ?_)
        (repeat (first | refine And.intro (by first | exact trivial | exact rfl | exact ⟨trivial, rfl⟩ | exact ⟨trivial, trivial⟩ | exact ⟨rfl, rfl⟩ | exact ⟨rfl, Nat.le_of_ble_eq_true rfl⟩ | decide) ?_ | refine fSt_in ?_ | refine fAcc_in ?_))
        refine And.intro ⟨Int.natCast_nonneg _, by rw [rws_len]; exact Int.ofNat_lt.2 hlt, rfl⟩ ?_
        refine JL.loadE (r := (eObj (g.o.getD i default)).map .data) rfl rfl rfl rfl rfl rfl (rws_at eObj hlt) (Nat.zero_le _) rfl ?_
        (refine ev_run ?_; (repeat (first | refine And.intro (by first | exact trivial | exact rfl | exact ⟨trivial, rfl⟩ | exact ⟨trivial, trivial⟩ | exact ⟨rfl, rfl⟩ | exact ⟨rfl, Nat.le_of_ble_eq_true rfl⟩ | decide) ?_ | refine fSt_in ?_ | refine fAcc_in ?_)); refine JL.nil ?_)
        (repeat (first | refine JC.seq ?_ | refine JC.block ?_ | refine JC.skip ?_ | refine JC.exit ?_ | (refine JC.region ?_; (repeat (first | refine And.intro (by first | exact trivial | exact rfl | exact ⟨trivial, rfl⟩ | exact ⟨trivial, trivial⟩ | exact ⟨rfl, rfl⟩ | exact ⟨rfl, Nat.le_of_ble_eq_true rfl⟩ | decide) ?_ | refine fSt_in ?_ | refine fAcc_in ?_)); refine JL.nil ?_)))
        have hb : i + 1 ≤ big := by have := hg.o; unfold small at this; unfold big; omega
        by_cases he : i = i0
        · subst he
          refine JC.drawM 6 (some ⟨5, [(5, .row 48 3 (rws eVal (g.o.getD i default).f))], 1⟩) rfl ?_
          (repeat (first | refine And.intro (by first | exact trivial | exact rfl | exact ⟨trivial, rfl⟩ | exact ⟨trivial, trivial⟩ | exact ⟨rfl, rfl⟩ | exact ⟨rfl, Nat.le_of_ble_eq_true rfl⟩ | decide) ?_ | refine fSt_in ?_ | refine fAcc_in ?_))
          refine Or.inr ⟨_, _, _, rfl, MakeM.nw rfl rfl rfl rfl rfl (Fit.refl _) (fun _ => rfl) (cloneVal (g.o.getD i default).f (hg.v _ (getD_mem h0))) rfl (by simp only [renH, O.ren, rws_ren]; rfl), ?_⟩
          refine JL.upto 2 ?_
          (repeat (first | refine And.intro (by first | exact trivial | exact rfl | exact ⟨trivial, rfl⟩ | exact ⟨trivial, trivial⟩ | exact ⟨rfl, rfl⟩ | exact ⟨rfl, Nat.le_of_ble_eq_true rfl⟩ | decide) ?_ | refine fSt_in ?_ | refine fAcc_in ?_))
          refine And.intro ⟨Int.natCast_nonneg _, by rw [rws_len]; exact Int.ofNat_lt.2 h0, rfl⟩ ?_
          (repeat (first | refine And.intro (by first | exact trivial | exact rfl | exact ⟨trivial, rfl⟩ | exact ⟨trivial, trivial⟩ | exact ⟨rfl, rfl⟩ | exact ⟨rfl, Nat.le_of_ble_eq_true rfl⟩ | decide) ?_ | refine fSt_in ?_ | refine fAcc_in ?_))
          refine JL.storeE (r := (eObj (g.o.getD i default)).map .data) rfl rfl rfl rfl rfl rfl rfl rfl (rws_at eObj h0) rfl (Nat.le_of_ble_eq_true rfl) (JL.nil ?_)
          (repeat (first | refine JC.seq ?_ | refine JC.block ?_ | refine JC.skip ?_ | refine JC.exit ?_ | (refine JC.region ?_; (repeat (first | refine And.intro (by first | exact trivial | exact rfl | exact ⟨trivial, rfl⟩ | exact ⟨trivial, trivial⟩ | exact ⟨rfl, rfl⟩ | exact ⟨rfl, Nat.le_of_ble_eq_true rfl⟩ | decide) ?_ | refine fSt_in ?_ | refine fAcc_in ?_)); refine JL.nil ?_)))
          refine ⟨⟨(i + 1, true), h0, by simp⟩, by simp only; omega, ?_⟩
          refine Le.drop (by repeat (first | exact trivial | refine SlLe.same rfl ?_ | refine SlLe.int rfl (wrap_succ2 hb) ?_)) (by exact ⟨rfl, rfl, rfl, rfl, rfl, trivial⟩) (by simp only [hLt, O.lt, rws_lt, rowsG_lt _ _ _ (by decide : 5 < 6)]; rfl)
        · refine JC.draw 6 rfl ?_
          (repeat (first | refine And.intro (by first | exact trivial | exact rfl | exact ⟨trivial, rfl⟩ | exact ⟨trivial, trivial⟩ | exact ⟨rfl, rfl⟩ | exact ⟨rfl, Nat.le_of_ble_eq_true rfl⟩ | decide) ?_ | refine fSt_in ?_ | refine fAcc_in ?_))
          refine ⟨_, CallOK.p0 rfl rfl rfl rfl rfl (Fit.refl _) (fun _ => rfl) (copyVal (g.o.getD i default).f (hg.v _ (getD_mem hlt))) (fun _ => rfl), ?_⟩
          refine JL.upto 2 ?_
          (repeat (first | refine And.intro (by first | exact trivial | exact rfl | exact ⟨trivial, rfl⟩ | exact ⟨trivial, trivial⟩ | exact ⟨rfl, rfl⟩ | exact ⟨rfl, Nat.le_of_ble_eq_true rfl⟩ | decide) ?_ | refine fSt_in ?_ | refine fAcc_in ?_))
          refine And.intro ⟨Int.natCast_nonneg _, by rw [rws_len]; exact Int.ofNat_lt.2 hlt, rfl⟩ ?_
          (repeat (first | refine And.intro (by first | exact trivial | exact rfl | exact ⟨trivial, rfl⟩ | exact ⟨trivial, trivial⟩ | exact ⟨rfl, rfl⟩ | exact ⟨rfl, Nat.le_of_ble_eq_true rfl⟩ | decide) ?_ | refine fSt_in ?_ | refine fAcc_in ?_))
          refine JL.storeE (r := (eObj (g.o.getD i default)).map .data) rfl rfl rfl rfl rfl rfl rfl rfl (rws_at eObj hlt) rfl (Nat.le_of_ble_eq_true rfl) (JL.nil ?_)
          (repeat (first | refine JC.seq ?_ | refine JC.block ?_ | refine JC.skip ?_ | refine JC.exit ?_ | (refine JC.region ?_; (repeat (first | refine And.intro (by first | exact trivial | exact rfl | exact ⟨trivial, rfl⟩ | exact ⟨trivial, trivial⟩ | exact ⟨rfl, rfl⟩ | exact ⟨rfl, Nat.le_of_ble_eq_true rfl⟩ | decide) ?_ | refine fSt_in ?_ | refine fAcc_in ?_)); refine JL.nil ?_)))
          refine ⟨⟨(i + 1, false), hlt, by simp; omega⟩, by simp only; omega, ?_⟩
          refine Le.drop (by repeat (first | exact trivial | refine SlLe.same rfl ?_ | refine SlLe.int rfl (wrap_succ2 hb) ?_)) (by refine ⟨?_, rfl, rfl, rfl, trivial⟩; exact congrArg (fun r => some (O.row 53 3 r)) (rws_same eObj hlt)) (by simp only [hLt, O.lt, rws_lt]; rfl)
      · intro hge
        exfalso
        have hge : ¬ i < g.o.length := by simpa using hge
        omega
    | true =>
      have hi0 : i0 < i := by simpa using hp
      refine JC.seq ?_
      (repeat (first | refine JC.seq ?_ | refine JC.block ?_ | refine JC.skip ?_ | refine JC.exit ?_ | (refine JC.region ?_; (repeat (first | refine And.intro (by first | exact trivial | exact rfl | exact ⟨trivial, rfl⟩ | exact ⟨trivial, trivial⟩ | exact ⟨rfl, rfl⟩ | exact ⟨rfl, Nat.le_of_ble_eq_true rfl⟩ | decide) ?_ | refine fSt_in ?_ | refine fAcc_in ?_)); refine JL.nil ?_)))
      refine JC.cond rfl (two.intro ?_ ?_)
      · intro hlt
        have hlt : i < g.o.length := by simpa using hlt
        have hne : i0 ≠ i := by omega
        (repeat (first | refine JC.seq ?_ | refine JC.block ?_ | refine JC.skip ?_ | refine JC.exit ?_ | (refine JC.region ?_; (repeat (first | refine And.intro (by first | exact trivial | exact rfl | exact ⟨trivial, rfl⟩ | exact ⟨trivial, trivial⟩ | exact ⟨rfl, rfl⟩ | exact ⟨rfl, Nat.le_of_ble_eq_true rfl⟩ | decide) ?_ | refine fSt_in ?_ | refine fAcc_in ?_)); refine JL.nil ?_)))
        refine JC.regionL (JL.upto 2 ?_)
        (repeat (first | refine And.intro (by first | exact trivial | exact rfl | exact ⟨trivial, rfl⟩ | exact ⟨trivial, trivial⟩ | exact ⟨rfl, rfl⟩ | exact ⟨rfl, Nat.le_of_ble_eq_true rfl⟩ | decide) ?_ | refine fSt_in ?_ | refine fAcc_in ?_))
        refine And.intro ⟨Int.natCast_nonneg _, by rw [rowsG_len]; exact Int.ofNat_lt.2 hlt, rfl⟩ ?_
        refine JL.loadE (r := (eObj (g.o.getD i default)).map .data) rfl rfl rfl rfl rfl rfl (rowsG_at hlt hne) (Nat.zero_le _) rfl ?_
        (refine ev_run ?_; (repeat (first | refine And.intro (by first | exact trivial | exact rfl | exact ⟨trivial, rfl⟩ | exact ⟨trivial, trivial⟩ | exact ⟨rfl, rfl⟩ | exact ⟨rfl, Nat.le_of_ble_eq_true rfl⟩ | decide) ?_ | refine fSt_in ?_ | refine fAcc_in ?_)); refine JL.nil ?_)
        (repeat (first | refine JC.seq ?_ | refine JC.block ?_ | refine JC.skip ?_ | refine JC.exit ?_ | (refine JC.region ?_; (repeat (first | refine And.intro (by first | exact trivial | exact rfl | exact ⟨trivial, rfl⟩ | exact ⟨trivial, trivial⟩ | exact ⟨rfl, rfl⟩ | exact ⟨rfl, Nat.le_of_ble_eq_true rfl⟩ | decide) ?_ | refine fSt_in ?_ | refine fAcc_in ?_)); refine JL.nil ?_)))
        have hb : i + 1 ≤ big := by have := hg.o; unfold small at this; unfold big; omega
        refine JC.draw 6 rfl ?_
        (repeat (first | refine And.intro (by first | exact trivial | exact rfl | exact ⟨trivial, rfl⟩ | exact ⟨trivial, trivial⟩ | exact ⟨rfl, rfl⟩ | exact ⟨rfl, Nat.le_of_ble_eq_true rfl⟩ | decide) ?_ | refine fSt_in ?_ | refine fAcc_in ?_))
        refine ⟨_, CallOK.p0 rfl rfl rfl rfl rfl (Fit.refl _) (fun _ => rfl) (copyVal (g.o.getD i default).f (hg.v _ (getD_mem hlt))) (fun _ => rfl), ?_⟩
        refine JL.upto 2 ?_
        (repeat (first | refine And.intro (by first | exact trivial | exact rfl | exact ⟨trivial, rfl⟩ | exact ⟨trivial, trivial⟩ | exact ⟨rfl, rfl⟩ | exact ⟨rfl, Nat.le_of_ble_eq_true rfl⟩ | decide) ?_ | refine fSt_in ?_ | refine fAcc_in ?_))
        refine And.intro ⟨Int.natCast_nonneg _, by rw [rowsG_len]; exact Int.ofNat_lt.2 hlt, rfl⟩ ?_
        (repeat (first | refine And.intro (by first | exact trivial | exact rfl | exact ⟨trivial, rfl⟩ | exact ⟨trivial, trivial⟩ | exact ⟨rfl, rfl⟩ | exact ⟨rfl, Nat.le_of_ble_eq_true rfl⟩ | decide) ?_ | refine fSt_in ?_ | refine fAcc_in ?_))
        refine JL.storeE (r := (eObj (g.o.getD i default)).map .data) rfl rfl rfl rfl rfl rfl rfl rfl (rowsG_at hlt hne) rfl (Nat.le_of_ble_eq_true rfl) (JL.nil ?_)
        (repeat (first | refine JC.seq ?_ | refine JC.block ?_ | refine JC.skip ?_ | refine JC.exit ?_ | (refine JC.region ?_; (repeat (first | refine And.intro (by first | exact trivial | exact rfl | exact ⟨trivial, rfl⟩ | exact ⟨trivial, trivial⟩ | exact ⟨rfl, rfl⟩ | exact ⟨rfl, Nat.le_of_ble_eq_true rfl⟩ | decide) ?_ | refine fSt_in ?_ | refine fAcc_in ?_)); refine JL.nil ?_)))
        refine ⟨⟨(i + 1, true), hlt, by simp; omega⟩, by simp only; omega, ?_⟩
        refine Le.drop (by repeat (first | exact trivial | refine SlLe.same rfl ?_ | refine SlLe.int rfl (wrap_succ2 hb) ?_)) (by refine ⟨rfl, ?_, rfl, rfl, rfl, trivial⟩; exact congrArg (fun r => some (O.row 53 3 r)) (rowsG_same hlt hne)) (by simp only [hLt, O.lt, rws_lt, rowsG_lt _ _ _ (by decide : 5 < 6)]; rfl)
      · intro _
        (repeat (first | refine JC.seq ?_ | refine JC.block ?_ | refine JC.skip ?_ | refine JC.exit ?_ | (refine JC.region ?_; (repeat (first | refine And.intro (by first | exact trivial | exact rfl | exact ⟨trivial, rfl⟩ | exact ⟨trivial, trivial⟩ | exact ⟨rfl, rfl⟩ | exact ⟨rfl, Nat.le_of_ble_eq_true rfl⟩ | decide) ?_ | refine fSt_in ?_ | refine fAcc_in ?_)); refine JL.nil ?_)))
        (refine JC.region ?_; (repeat (first | refine And.intro (by first | exact trivial | exact rfl | exact ⟨trivial, rfl⟩ | exact ⟨trivial, trivial⟩ | exact ⟨rfl, rfl⟩ | exact ⟨rfl, Nat.le_of_ble_eq_true rfl⟩ | decide) ?_ | refine fSt_in ?_ | refine fAcc_in ?_)))
        refine JL.p0 rfl rfl rfl rfl rfl (Fit.refl _) (fun _ => rfl) (copyInt g.roots hg.r) (fun _ => rfl) ?_
        (refine ev_run ?_; (repeat (first | refine And.intro (by first | exact trivial | exact rfl | exact ⟨trivial, rfl⟩ | exact ⟨trivial, trivial⟩ | exact ⟨rfl, rfl⟩ | exact ⟨rfl, Nat.le_of_ble_eq_true rfl⟩ | decide) ?_ | refine fSt_in ?_ | refine fAcc_in ?_)); refine JL.nil ?_)
        (repeat (first | refine JC.seq ?_ | refine JC.block ?_ | refine JC.skip ?_ | refine JC.exit ?_ | (refine JC.region ?_; (repeat (first | refine And.intro (by first | exact trivial | exact rfl | exact ⟨trivial, rfl⟩ | exact ⟨trivial, trivial⟩ | exact ⟨rfl, rfl⟩ | exact ⟨rfl, Nat.le_of_ble_eq_true rfl⟩ | decide) ?_ | refine fSt_in ?_ | refine fAcc_in ?_)); refine JL.nil ?_)))
        refine JC.ret ⟨⟨[(2, Go.Fw.one (.ref 1 0))], [(5, .row 48 3 (rws eVal (g.o.getD i0 default).f)), (3, .row 53 3 (rowsG g i0)), (1, .box 28 [.data (rowsOf 2 eTyp g.s), .base 3, .data (rowsOf 1 eInt g.roots)])], 6⟩, Le.trans (Le.drop (s' := ⟨[(2, Go.Fw.one (.ref 1 0))], [(5, .row 48 3 (rws eVal (g.o.getD i0 default).f)), (3, .row 53 3 (rowsG g i0)), (2, .row 58 2 (rws eTyp g.s)), (1, .box 28 [.base 2, .base 3, .data (rowsOf 1 eInt g.roots)])], 6⟩) (by repeat (first | exact trivial | refine SlLe.same rfl ?_)) (by exact ⟨rfl, rfl, rfl, rfl, trivial⟩) (by simp only [hLt, O.lt, rws_lt, rowsG_lt _ _ _ (by decide : 5 < 6)]; rfl))
          (Le.trans (Le.froz 2 g.s.length (fun i => eTyp (g.s.getD i default)) rfl rfl (rws_len _ _) (fun i hi => rws_at _ hi)) (Le.drop (by repeat (first | exact trivial | refine SlLe.same rfl ?_)) ⟨?_, ?_, rfl, trivial⟩ (by simp only [hLt, O.lt, rws_lt, rowsG_lt _ _ _ (by decide : 5 < 6)]; rfl))), And.intro (by repeat' (first | exact trivial | exact rfl | apply And.intro)) ⟨rfl, rfl, rfl⟩⟩
        · exact congrArg (fun r => some (O.row 48 3 r)) (rws_froz _ _ _ _)
        · refine congrArg (fun r => some (O.row 53 3 r)) ?_
          show (rowsG g i0).map (fun r => r.map (D.froz 2 (.rows 2 g.s.length fun i => eTyp (g.s.getD i default)))) = rowsG g i0
          rw [rowsG, List.map_set]
          have := rws_froz eObj g.o 2 (.rows 2 g.s.length fun i => eTyp (g.s.getD i default))
          rw [this]; rfl
end Go.Proofs.Ytlhfajmcnbcabaa

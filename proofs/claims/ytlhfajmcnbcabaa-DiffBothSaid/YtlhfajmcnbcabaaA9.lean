/- A graph of its own. -/
import Derived.Test.YtlhfajmcnbcabaaA8
import Derived.Test.YtlhfajmcnbcabaaFwF
set_option linter.unusedVariables false
set_option linter.unusedSimpArgs false
namespace Go.Proofs.Ytlhfajmcnbcabaa
open Go Go.Fw
set_option maxRecDepth 100000

theorem rws_same {α : Type} [Inhabited α] (E : α → List T) {xs : List α} {i : Nat} (h : i < xs.length) : (rws E xs).set i ((E (xs.getD i default)).map .data) = rws E xs := set_self (rws_at E h)
theorem rws_froz {α : Type} (E : α → List T) (xs : List α) (id : Nat) (t : T) : (rws E xs).map (fun r => r.map (D.froz id t)) = rws E xs := by
  simp only [rws, List.map_map, Function.comp_def]
  rfl
/-- Small enough to be copied. -/
structure Small (g : Gr) : Prop where
  s : small g.s
  o : small g.o
  r : small g.roots
  f : ∀ t, t ∈ g.s → small t.f
  v : ∀ o, o ∈ g.o → small o.f
theorem getD_mem {α : Type} [Inhabited α] {l : List α} {i : Nat} (h : i < l.length) : l.getD i default ∈ l := by
  rw [List.getD_eq_getElem?_getD, List.getElem?_eq_getElem h]; exact List.getElem_mem h
theorem ownF (g : Gr) (hg : Small g) : PureT cx 62 [sA (eGr g)] [] 0 (sA (eGr g)) := by
  refine PureT.run0 Try.func62 rfl rfl 58 Try.ntmps62 [.cell 2 28] rfl rfl (fun _ => rfl) ?_
  (repeat' (first | refine And.intro (by first | exact trivial | exact rfl | exact ⟨trivial, rfl⟩ | exact ⟨trivial, trivial⟩ | exact ⟨rfl, rfl⟩ | exact ⟨rfl, Nat.le_of_ble_eq_true rfl⟩ | decide) ?_ | refine two_t ?_ | refine two_f ?_ | refine two.intro (fun _ => ?_) (fun _ => ?_) | refine JL.nil ?_ | refine JC.seq ?_ | refine JC.block ?_ | refine JC.skip ?_ | refine JC.exit ?_ | refine JC.region ?_ | refine JC.cond rfl ?_ | refine JC.ret ⟨_, Le.refl, And.intro (by repeat' (first | exact trivial | exact rfl | apply And.intro)) ?_⟩ | refine fSt_in ?_ | refine fAcc_in ?_ | (refine JL.nw2 (h1' := [(2, .row 58 2 (rws eTyp g.s))]) rfl rfl rfl rfl rfl (Fit.refl _) (fun _ => rfl) (cloneTyp g.s hg.s) (by simp only [renH, O.ren, rws_ren]; rfl) rfl ?_; refine ev_run ?_) | fail))
  refine JC.loop (ι := { i : Nat // i ≤ g.s.length }) (fun i => ⟨[(1, Go.Fw.one (.ref 0 0)), (2, Go.Fw.one (.ref 1 0)), (15, Go.Fw.one (.base 2)), (16, s1 (tI g.s.length)), (17, s1 (tI i.1))], [(2, .row 58 2 (rws eTyp g.s)), (1, .box 28 [.data (.lit (.slice none 0 0)), .data (.lit (.slice none 0 0)), .data (.lit (.slice none 0 0))]), (0, .box 28 [.base 2, .data (rowsOf 3 eObj g.o), .data (rowsOf 1 eInt g.roots)])], 3⟩) (fun i => g.s.length - i.1) ⟨0, Nat.zero_le _⟩ ?_ ?_
  · exact Le.drop (by repeat (first | exact trivial | refine SlLe.same rfl ?_ | refine SlLe.int rfl (by rw [rws_len]) ?_)) (by exact ⟨rfl, rfl, rfl, trivial⟩) (by simp only [hLt, O.lt, rws_lt]; rfl)
  rintro ⟨i, hi⟩
  refine JC.seq ?_
  (repeat (first | refine JC.seq ?_ | refine JC.block ?_ | refine JC.skip ?_ | refine JC.exit ?_ | (refine JC.region ?_; (repeat (first | refine And.intro (by first | exact trivial | exact rfl | exact ⟨trivial, rfl⟩ | exact ⟨trivial, trivial⟩ | exact ⟨rfl, rfl⟩ | exact ⟨rfl, Nat.le_of_ble_eq_true rfl⟩ | decide) ?_ | refine fSt_in ?_ | refine fAcc_in ?_)); refine JL.nil ?_)))
  refine JC.cond rfl (two.intro ?_ ?_)
  · intro hlt
    have hlt : i < g.s.length := by simpa using hlt
    (repeat (first | refine JC.seq ?_ | refine JC.block ?_ | refine JC.skip ?_ | refine JC.exit ?_ | (refine JC.region ?_; (repeat (first | refine And.intro (by first | exact trivial | exact rfl | exact ⟨trivial, rfl⟩ | exact ⟨trivial, trivial⟩ | exact ⟨rfl, rfl⟩ | exact ⟨rfl, Nat.le_of_ble_eq_true rfl⟩ | decide) ?_ | refine fSt_in ?_ | refine fAcc_in ?_)); refine JL.nil ?_)))
    refine JC.regionL (JL.upto 2 ?_)
    (repeat (first | refine And.intro (by first | exact trivial | exact rfl | exact ⟨trivial, rfl⟩ | exact ⟨trivial, trivial⟩ | exact ⟨rfl, rfl⟩ | exact ⟨rfl, Nat.le_of_ble_eq_true rfl⟩ | decide) ?_ | refine fSt_in ?_ | refine fAcc_in ?_))
    refine And.intro ⟨Int.natCast_nonneg _, by rw [rws_len]; exact Int.ofNat_lt.2 hlt, rfl⟩ ?_
    refine JL.loadE (r := (eTyp (g.s.getD i default)).map .data) rfl rfl rfl rfl rfl rfl (rws_at eTyp hlt) (Nat.zero_le _) rfl ?_
    (refine ev_run ?_; (repeat (first | refine And.intro (by first | exact trivial | exact rfl | exact ⟨trivial, rfl⟩ | exact ⟨trivial, trivial⟩ | exact ⟨rfl, rfl⟩ | exact ⟨rfl, Nat.le_of_ble_eq_true rfl⟩ | decide) ?_ | refine fSt_in ?_ | refine fAcc_in ?_)); refine JL.nil ?_)
    (repeat (first | refine JC.seq ?_ | refine JC.block ?_ | refine JC.skip ?_ | refine JC.exit ?_ | (refine JC.region ?_; (repeat (first | refine And.intro (by first | exact trivial | exact rfl | exact ⟨trivial, rfl⟩ | exact ⟨trivial, trivial⟩ | exact ⟨rfl, rfl⟩ | exact ⟨rfl, Nat.le_of_ble_eq_true rfl⟩ | decide) ?_ | refine fSt_in ?_ | refine fAcc_in ?_)); refine JL.nil ?_)))
    refine JC.draw 7 rfl ?_
    (repeat (first | refine And.intro (by first | exact trivial | exact rfl | exact ⟨trivial, rfl⟩ | exact ⟨trivial, trivial⟩ | exact ⟨rfl, rfl⟩ | exact ⟨rfl, Nat.le_of_ble_eq_true rfl⟩ | decide) ?_ | refine fSt_in ?_ | refine fAcc_in ?_))
    refine ⟨_, CallOK.p0 rfl rfl rfl rfl rfl (Fit.refl _) (fun _ => rfl) (copyFld (g.s.getD i default).f (hg.f _ (getD_mem hlt))) (fun _ => rfl), ?_⟩
    refine JL.upto 2 ?_
    (repeat (first | refine And.intro (by first | exact trivial | exact rfl | exact ⟨trivial, rfl⟩ | exact ⟨trivial, trivial⟩ | exact ⟨rfl, rfl⟩ | exact ⟨rfl, Nat.le_of_ble_eq_true rfl⟩ | decide) ?_ | refine fSt_in ?_ | refine fAcc_in ?_))
    refine And.intro ⟨Int.natCast_nonneg _, by rw [rws_len]; exact Int.ofNat_lt.2 hlt, rfl⟩ ?_
    (repeat (first | refine And.intro (by first | exact trivial | exact rfl | exact ⟨trivial, rfl⟩ | exact ⟨trivial, trivial⟩ | exact ⟨rfl, rfl⟩ | exact ⟨rfl, Nat.le_of_ble_eq_true rfl⟩ | decide) ?_ | refine fSt_in ?_ | refine fAcc_in ?_))
    refine JL.storeE (r := (eTyp (g.s.getD i default)).map .data) rfl rfl rfl rfl rfl rfl rfl rfl (rws_at eTyp hlt) rfl (Nat.le_of_ble_eq_true rfl) (JL.nil ?_)
    (repeat (first | refine JC.seq ?_ | refine JC.block ?_ | refine JC.skip ?_ | refine JC.exit ?_ | (refine JC.region ?_; (repeat (first | refine And.intro (by first | exact trivial | exact rfl | exact ⟨trivial, rfl⟩ | exact ⟨trivial, trivial⟩ | exact ⟨rfl, rfl⟩ | exact ⟨rfl, Nat.le_of_ble_eq_true rfl⟩ | decide) ?_ | refine fSt_in ?_ | refine fAcc_in ?_)); refine JL.nil ?_)))
    have hb : i + 1 ≤ big := by have := hg.s; unfold small at this; unfold big; omega
    refine ⟨⟨i + 1, hlt⟩, by simp only; omega, ?_⟩
    refine Le.drop (by repeat (first | exact trivial | refine SlLe.same rfl ?_ | refine SlLe.int rfl (wrap_succ2 hb) ?_)) (by refine ⟨?_, rfl, rfl, trivial⟩; exact congrArg (fun r => some (O.row 58 2 r)) (rws_same eTyp hlt)) (by simp only [hLt, O.lt, rws_lt]; rfl)
  · intro _
    (repeat' (first | refine And.intro (by first | exact trivial | exact rfl | exact ⟨trivial, rfl⟩ | exact ⟨trivial, trivial⟩ | exact ⟨rfl, rfl⟩ | exact ⟨rfl, Nat.le_of_ble_eq_true rfl⟩ | decide) ?_ | refine two_t ?_ | refine two_f ?_ | refine two.intro (fun _ => ?_) (fun _ => ?_) | refine JL.nil ?_ | refine JC.seq ?_ | refine JC.block ?_ | refine JC.skip ?_ | refine JC.exit ?_ | refine JC.region ?_ | refine JC.cond rfl ?_ | refine JC.ret ⟨_, Le.refl, And.intro (by repeat' (first | exact trivial | exact rfl | apply And.intro)) ?_⟩ | refine fSt_in ?_ | refine fAcc_in ?_ | (refine JL.nw2 (h1' := [(3, .row 53 3 (rws eObj g.o))]) rfl rfl rfl rfl rfl (Fit.refl _) (fun _ => rfl) (cloneObj g.o hg.o) (by simp only [renH, O.ren, rws_ren]; rfl) rfl ?_; refine ev_run ?_) | fail))
    refine JC.loop (ι := { i : Nat // i ≤ g.o.length }) (fun i => ⟨[(1, Go.Fw.one (.ref 0 0)), (2, Go.Fw.one (.ref 1 0)), (37, Go.Fw.one (.base 3)), (38, s1 (tI g.o.length)), (39, s1 (tI i.1))], [(3, .row 53 3 (rws eObj g.o)), (2, .row 58 2 (rws eTyp g.s)), (1, .box 28 [.data (.lit (.slice none 0 0)), .data (.lit (.slice none 0 0)), .data (.lit (.slice none 0 0))]), (0, .box 28 [.base 2, .base 3, .data (rowsOf 1 eInt g.roots)])], 4⟩) (fun i => g.o.length - i.1) ⟨0, Nat.zero_le _⟩ ?_ ?_
    · exact Le.drop (by repeat (first | exact trivial | refine SlLe.same rfl ?_ | refine SlLe.int rfl (by rw [rws_len]) ?_)) (by exact ⟨rfl, rfl, rfl, rfl, trivial⟩) (by simp only [hLt, O.lt, rws_lt]; rfl)
    rintro ⟨i, hi⟩
    refine JC.seq ?_
    (repeat (first | refine JC.seq ?_ | refine JC.block ?_ | refine JC.skip ?_ | refine JC.exit ?_ | (refine JC.region ?_; (repeat (first | refine And.intro (by first | exact trivial | exact rfl | exact ⟨trivial, rfl⟩ | exact ⟨trivial, trivial⟩ | exact ⟨rfl, rfl⟩ | exact ⟨rfl, Nat.le_of_ble_eq_true rfl⟩ | decide) ?_ | refine fSt_in ?_ | refine fAcc_in ?_)); refine JL.nil ?_)))
    refine JC.cond rfl (two.intro ?_ ?_)
    · intro hlt
      have hlt : i < g.o.length := by simpa using hlt
      (repeat (first | refine JC.seq ?_ | refine JC.block ?_ | refine JC.skip ?_ | refine JC.exit ?_ | (refine JC.region ?_; (repeat (first | refine And.intro (by first | exact trivial | exact rfl | exact ⟨trivial, rfl⟩ | exact ⟨trivial, trivial⟩ | exact ⟨rfl, rfl⟩ | exact ⟨rfl, Nat.le_of_ble_eq_true rfl⟩ | decide) ?_ | refine fSt_in ?_ | refine fAcc_in ?_)); refine JL.nil ?_)))
      refine JC.regionL (JL.upto 2 ?_)
      (repeat (first | refine And.intro (by first | exact trivial | exact rfl | exact ⟨trivial, rfl⟩ | exact ⟨trivial, trivial⟩ | exact ⟨rfl, rfl⟩ | exact ⟨rfl, Nat.le_of_ble_eq_true rfl⟩ | decide) ?_ | refine fSt_in ?_ | refine fAcc_in ?_))
      refine And.intro ⟨Int.natCast_nonneg _, by rw [rws_len]; exact Int.ofNat_lt.2 hlt, rfl⟩ ?_
      refine JL.loadE (r := (eObj (g.o.getD i default)).map .data) rfl rfl rfl rfl rfl rfl (rws_at eObj hlt) (Nat.zero_le _) rfl ?_
      (refine ev_run ?_; (repeat (first | refine And.intro (by first | exact trivial | exact rfl | exact ⟨trivial, rfl⟩ | exact ⟨trivial, trivial⟩ | exact ⟨rfl, rfl⟩ | exact ⟨rfl, Nat.le_of_ble_eq_true rfl⟩ | decide) ?_ | refine fSt_in ?_ | refine fAcc_in ?_)); refine JL.nil ?_)
      (repeat (first | refine JC.seq ?_ | refine JC.block ?_ | refine JC.skip ?_ | refine JC.exit ?_ | (refine JC.region ?_; (repeat (first | refine And.intro (by first | exact trivial | exact rfl | exact ⟨trivial, rfl⟩ | exact ⟨trivial, trivial⟩ | exact ⟨rfl, rfl⟩ | exact ⟨rfl, Nat.le_of_ble_eq_true rfl⟩ | decide) ?_ | refine fSt_in ?_ | refine fAcc_in ?_)); refine JL.nil ?_)))
      refine JC.draw 6 rfl ?_
      (repeat (first | refine And.intro (by first | exact trivial | exact rfl | exact ⟨trivial, rfl⟩ | exact ⟨trivial, trivial⟩ | exact ⟨rfl, rfl⟩ | exact ⟨rfl, Nat.le_of_ble_eq_true rfl⟩ | decide) ?_ | refine fSt_in ?_ | refine fAcc_in ?_))
      refine ⟨_, CallOK.p0 rfl rfl rfl rfl rfl (Fit.refl _) (fun _ => rfl) (copyVal (g.o.getD i default).f (hg.v _ (getD_mem hlt))) (fun _ => rfl), ?_⟩
      refine JL.upto 2 ?_
      (repeat (first | refine And.intro (by first | exact trivial | exact rfl | exact ⟨trivial, rfl⟩ | exact ⟨trivial, trivial⟩ | exact ⟨rfl, rfl⟩ | exact ⟨rfl, Nat.le_of_ble_eq_true rfl⟩ | decide) ?_ | refine fSt_in ?_ | refine fAcc_in ?_))
      refine And.intro ⟨Int.natCast_nonneg _, by rw [rws_len]; exact Int.ofNat_lt.2 hlt, rfl⟩ ?_
      (repeat (first | refine And.intro (by first | exact trivial | exact rfl | exact ⟨trivial, rfl⟩ | exact ⟨trivial, trivial⟩ | exact ⟨rfl, rfl⟩ | exact ⟨rfl, Nat.le_of_ble_eq_true rfl⟩ | decide) ?_ | refine fSt_in ?_ | refine fAcc_in ?_))
      refine JL.storeE (r := (eObj (g.o.getD i default)).map .data) rfl rfl rfl rfl rfl rfl rfl rfl (rws_at eObj hlt) rfl (Nat.le_of_ble_eq_true rfl) (JL.nil ?_)
      (repeat (first | refine JC.seq ?_ | refine JC.block ?_ | refine JC.skip ?_ | refine JC.exit ?_ | (refine JC.region ?_; (repeat (first | refine And.intro (by first | exact trivial | exact rfl | exact ⟨trivial, rfl⟩ | exact ⟨trivial, trivial⟩ | exact ⟨rfl, rfl⟩ | exact ⟨rfl, Nat.le_of_ble_eq_true rfl⟩ | decide) ?_ | refine fSt_in ?_ | refine fAcc_in ?_)); refine JL.nil ?_)))
      have hb : i + 1 ≤ big := by have := hg.o; unfold small at this; unfold big; omega
      refine ⟨⟨i + 1, hlt⟩, by simp only; omega, ?_⟩
      refine Le.drop (by repeat (first | exact trivial | refine SlLe.same rfl ?_ | refine SlLe.int rfl (wrap_succ2 hb) ?_)) (by refine ⟨?_, rfl, rfl, rfl, trivial⟩; exact congrArg (fun r => some (O.row 53 3 r)) (rws_same eObj hlt)) (by simp only [hLt, O.lt, rws_lt]; rfl)
    · intro _
      (repeat (first | refine JC.seq ?_ | refine JC.block ?_ | refine JC.skip ?_ | refine JC.exit ?_ | (refine JC.region ?_; (repeat (first | refine And.intro (by first | exact trivial | exact rfl | exact ⟨trivial, rfl⟩ | exact ⟨trivial, trivial⟩ | exact ⟨rfl, rfl⟩ | exact ⟨rfl, Nat.le_of_ble_eq_true rfl⟩ | decide) ?_ | refine fSt_in ?_ | refine fAcc_in ?_)); refine JL.nil ?_)))
      (refine JC.region ?_; (repeat (first | refine And.intro (by first | exact trivial | exact rfl | exact ⟨trivial, rfl⟩ | exact ⟨trivial, trivial⟩ | exact ⟨rfl, rfl⟩ | exact ⟨rfl, Nat.le_of_ble_eq_true rfl⟩ | decide) ?_ | refine fSt_in ?_ | refine fAcc_in ?_)))
      refine JL.p0 rfl rfl rfl rfl rfl (Fit.refl _) (fun _ => rfl) (copyInt g.roots hg.r) (fun _ => rfl) ?_
      (refine ev_run ?_; (repeat (first | refine And.intro (by first | exact trivial | exact rfl | exact ⟨trivial, rfl⟩ | exact ⟨trivial, trivial⟩ | exact ⟨rfl, rfl⟩ | exact ⟨rfl, Nat.le_of_ble_eq_true rfl⟩ | decide) ?_ | refine fSt_in ?_ | refine fAcc_in ?_)); refine JL.nil ?_)
      (repeat (first | refine JC.seq ?_ | refine JC.block ?_ | refine JC.skip ?_ | refine JC.exit ?_ | (refine JC.region ?_; (repeat (first | refine And.intro (by first | exact trivial | exact rfl | exact ⟨trivial, rfl⟩ | exact ⟨trivial, trivial⟩ | exact ⟨rfl, rfl⟩ | exact ⟨rfl, Nat.le_of_ble_eq_true rfl⟩ | decide) ?_ | refine fSt_in ?_ | refine fAcc_in ?_)); refine JL.nil ?_)))
      refine JC.ret ⟨_, Le.trans (Le.drop (s' := ⟨[(2, Go.Fw.one (.ref 1 0))], [(3, .row 53 3 (rws eObj g.o)), (2, .row 58 2 (rws eTyp g.s)), (1, .box 28 [.base 2, .base 3, .data (rowsOf 1 eInt g.roots)])], 4⟩) (by repeat (first | exact trivial | refine SlLe.same rfl ?_)) (by exact ⟨rfl, rfl, rfl, trivial⟩) (by simp only [hLt, O.lt, rws_lt]; rfl))
        (Le.trans (Le.froz 2 g.s.length (fun i => eTyp (g.s.getD i default)) rfl rfl (rws_len _ _) (fun i hi => rws_at _ hi)) (Le.froz 3 g.o.length (fun i => eObj (g.o.getD i default)) (rs := (rws eObj g.o).map (fun r => r.map (D.froz 2 (.rows 2 g.s.length fun i => eTyp (g.s.getD i default))))) rfl rfl (by simp [rws]) (fun i hi => by simp only [rws_froz]; exact rws_at _ hi))), And.intro (by repeat' (first | exact trivial | exact rfl | apply And.intro)) rfl⟩
end Go.Proofs.Ytlhfajmcnbcabaa

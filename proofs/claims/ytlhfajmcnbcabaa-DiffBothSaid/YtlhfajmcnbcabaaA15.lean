/- Runs of equals become one. -/
import Derived.Test.YtlhfajmcnbcabaaA14
import Derived.Test.YtlhfajmcnbcabaaP1
set_option linter.unusedVariables false
set_option linter.unusedSimpArgs false
namespace Go.Proofs.Ytlhfajmcnbcabaa
open Go Go.Fw
set_option maxRecDepth 100000
set_option maxHeartbeats 2000000

theorem ddp_take {α : Type} [DecidableEq α] [Inhabited α] {xs : List α} {m : Nat} (h : m < xs.length) (h0 : 0 < m) : ddp (xs.take (m + 1)) = if xs.getD (m - 1) default = xs.getD m default then ddp (xs.take m) else ddp (xs.take m) ++ [xs.getD m default] := by
  rw [take_succ' h, ddp_snoc]
  have : (xs.take m).getLast? = some (xs.getD (m - 1) default) := by
    rw [List.getLast?_eq_getElem?, List.length_take, Nat.min_eq_left (by omega), List.getElem?_take_of_lt (by omega), List.getD_eq_getElem?_getD, List.getElem?_eq_getElem (by omega)]; rfl
  rw [this]
  simp only [Option.some.injEq]
theorem ddp_len {α : Type} [DecidableEq α] : ∀ l : List α, (ddp l).length ≤ l.length
  | [] => by simp [ddp]
  | [x] => by simp [ddp]
  | x :: y :: r => by
    have := ddp_len (y :: r)
    simp only [ddp]; split <;> simp only [List.length_cons] at * <;> omega
theorem qInt_eq (a b : Int) : qInt a b = decide (a = b) := by rw [Bool.eq_iff_iff]; simp [qInt]
theorem qPair_eq (a b : Int × Int) : qPair a b = decide (a = b) := by
  rw [Bool.eq_iff_iff]
  simp only [qPair, vPair, eqCells, Bool.and_true, Bool.and_eq_true, beq_iff_eq, decide_eq_true_eq]
  exact Prod.ext_iff.symm
theorem rws_take {α : Type} (E : α → List T) (xs : List α) (k : Nat) : (rws E xs).take k = rws E (xs.take k) := by simp [rws, List.map_take]
theorem take_set' {α : Type} {l : List α} {k : Nat} {x : α} (h : k < l.length) : (l.set k x).take (k + 1) = l.take k ++ [x] := by
  rw [List.take_succ_eq_append_getElem (by simpa using h), List.take_set_of_le (Nat.le_refl k)]; simp
theorem getD_set_ne {α : Type} [Inhabited α] {l : List α} {k j : Nat} {x : α} (h : k ≠ j) : (l.set k x).getD j default = l.getD j default := by
  rw [List.getD_eq_getElem?_getD, List.getD_eq_getElem?_getD, List.getElem?_set_ne h]
theorem row_set {α : Type} [Inhabited α] {E : α → List T} {xs : List α} {m : Nat} {v : α} {el sz : Nat} {L : List (List D)} (hm : m < xs.length) (hL : L = (rws E xs).set m (splice (((rws E xs).drop m).headD []) 0 ((E v).map D.data)))
    (hlen : (E v).length = (E (xs.getD m default)).length) : some (O.row el sz L) = some (O.row el sz (rws E (xs.set m v))) := by
  rw [hL, headD_of (rws_at E hm), splice_eq, ← rws_set]
  simp only [List.take_zero, List.nil_append, Nat.zero_add, List.length_map, hlen]
  rw [List.drop_of_length_le (by simp), List.append_nil]
theorem row_cut {α : Type} {E : α → List T} {xs ys : List α} {m id el sz : Nat} {R : List (List D)} {L : List (List D)} (hm : m ≤ xs.length) (he : xs.take m = ys) (hL : L = (((rws E xs).take m ++ R).take m).map (fun r => r.map (D.kill id))) : some (O.row el sz L) = some (O.row el sz (rws E ys)) := by
  rw [hL, List.take_append_of_le_length (by simp [rws_len]; omega), List.take_take, Nat.min_self, rws_take, he, rws_kill]
theorem compactInt (xs : List Int) (hl : xs.length ≤ 1000000) : Triple cx 128 [Go.Fw.one (.base 0)] [(0, .row 3 1 (rws eInt xs))] 1 (fun r h nx => r = .ret (Go.Fw.one (.base 0)) ∧ h = [(0, .row 3 1 (rws eInt (ddp xs)))] ∧ nx = 1) := by
  refine Triple.run Try.func128 rfl rfl 61 Try.ntmps128 [.tmp 2] rfl rfl ?_
  (repeat' (first | refine And.intro (by first | exact trivial | exact rfl | exact ⟨trivial, rfl⟩ | exact ⟨trivial, trivial⟩ | exact ⟨rfl, rfl⟩ | exact ⟨rfl, Nat.le_of_ble_eq_true rfl⟩ | decide) ?_ | refine two_t ?_ | refine two_f ?_ | refine two.intro (fun _ => ?_) (fun _ => ?_) | refine JL.nil ?_ | refine JC.seq ?_ | refine JC.block ?_ | refine JC.skip ?_ | refine JC.exit ?_ | refine JC.region ?_ | refine JC.cond rfl ?_ | refine fSt_in ?_ | refine fAcc_in ?_ | (refine JL.p0 rfl rfl rfl rfl rfl (Fit.refl _) (fun _ => rfl) (by first | exact find a 0) (fun _ => rfl) ?_; refine ev_run ?_) | fail))
  · rename_i h
    have h : xs.length < 2 := by have h := of_decide_eq_true h; rw [rws_len] at h; omega
    have hd : ddp xs = xs := by
      match xs, h with
      | [], _ => rfl
      | [_], _ => rfl
    rw [hd]
    exact JC.ret ⟨_, Le.drop (s' := ⟨[(2, Go.Fw.one (.base 0))], [(0, .row 3 1 (rws eInt xs))], 1⟩) (by repeat (first | exact trivial | refine SlLe.same rfl ?_ | refine SlLe.int rfl (by first | exact wrap_succ (by assumption) (by assumption) | exact wrap_succ2 (by first | omega | (simp only []; omega))) ?_)) (by repeat (first | exact trivial | refine ⟨rfl, ?_⟩ | refine ⟨row_kill rfl, ?_⟩ | refine ⟨row_snoc rfl, ?_⟩ | refine ⟨row_froz rfl, ?_⟩)) (by simp only [hLt, O.lt, rws_lt]; rfl), And.intro (by repeat' (first | exact trivial | exact rfl | apply And.intro)) ⟨rfl, rfl, rfl⟩⟩
  · rename_i h
    have h : 2 ≤ xs.length := by have h := of_decide_eq_false h; rw [rws_len] at h; omega
    have hbig : xs.length ≤ big := by unfold big; omega
    have hd1 : ddp (xs.take 1) = xs.take 1 := by
      match xs, h with
      | x :: r, _ => rfl
    refine JC.loop (ι := { k : Nat // 1 ≤ k ∧ k ≤ xs.length ∧ ddp (xs.take k) = xs.take k }) (fun k => ⟨[(0, Go.Fw.one (.base 0)), (3, s1 (tI k.1))], [(0, .row 3 1 (rws eInt xs))], 1⟩) (fun k => xs.length - k.1) ⟨1, Nat.le_refl _, by omega, hd1⟩ (Le.drop (by repeat (first | exact trivial | refine SlLe.same rfl ?_ | refine SlLe.int rfl (by first | exact wrap_succ (by assumption) (by assumption) | exact wrap_succ2 (by first | omega | (simp only []; omega))) ?_)) (by repeat (first | exact trivial | refine ⟨rfl, ?_⟩ | refine ⟨row_kill rfl, ?_⟩ | refine ⟨row_snoc rfl, ?_⟩ | refine ⟨row_froz rfl, ?_⟩)) (by simp only [hLt, O.lt, rws_lt]; rfl)) ?_
    rintro ⟨k, hk1, hk, hdk⟩
    refine JC.seq ?_
    (repeat (first | refine JC.seq ?_ | refine JC.block ?_ | refine JC.skip ?_ | refine JC.exit ?_ | (refine JC.region ?_; (repeat (first | refine And.intro (by first | exact trivial | exact rfl | exact ⟨trivial, rfl⟩ | exact ⟨trivial, trivial⟩ | exact ⟨rfl, rfl⟩ | exact ⟨rfl, Nat.le_of_ble_eq_true rfl⟩ | decide) ?_ | refine fSt_in ?_ | refine fAcc_in ?_)); refine JL.nil ?_)))
    refine JC.cond rfl (two.intro ?_ ?_)
    · intro hlt
      have hlt : k < xs.length := by have h := of_decide_eq_true hlt; rw [rws_len] at h; exact Int.ofNat_lt.1 h
      have hlt2 : k - 1 < xs.length := by omega
      have hltI : (k : Int) < ((rws eInt xs).length : Nat) := by rw [rws_len]; exact Int.ofNat_lt.2 hlt
      have hw : IntKind.i64.wrap ((k : Int) - 1) = ((k - 1 : Nat) : Int) := by rw [wrap64 (by omega) (by omega)]; omega
      have hdt := ddp_take hlt (by omega)
      (repeat' (first | refine And.intro (by first | exact trivial | exact rfl | exact ⟨trivial, rfl⟩ | exact ⟨trivial, trivial⟩ | exact ⟨rfl, rfl⟩ | exact ⟨rfl, Nat.le_of_ble_eq_true rfl⟩ | decide) ?_ | refine two_t ?_ | refine two_f ?_ | refine two.intro (fun _ => ?_) (fun _ => ?_) | refine JL.nil ?_ | refine JC.seq ?_ | refine JC.block ?_ | refine JC.skip ?_ | refine JC.exit ?_ | refine JC.region ?_ | refine JC.cond rfl ?_ | refine fSt_in ?_ | refine fAcc_in ?_ | (refine JL.p0 rfl rfl rfl rfl rfl (Fit.refl _) (fun _ => rfl) (by first | exact find a 0) (fun _ => rfl) ?_; refine ev_run ?_) | fail))
      refine JC.draw 10 rfl ?_
      (repeat (first | refine And.intro (by first | exact trivial | exact rfl | exact ⟨trivial, rfl⟩ | exact ⟨trivial, trivial⟩ | exact ⟨rfl, rfl⟩ | exact ⟨rfl, Nat.le_of_ble_eq_true rfl⟩ | decide) ?_ | refine fSt_in ?_ | refine fAcc_in ?_))
      refine And.intro ⟨Int.natCast_nonneg _, by rw [rws_len]; exact Int.ofNat_lt.2 hlt, rfl⟩ ?_
      (repeat (first | refine And.intro (by first | exact trivial | exact rfl | exact ⟨trivial, rfl⟩ | exact ⟨trivial, trivial⟩ | exact ⟨rfl, rfl⟩ | exact ⟨rfl, Nat.le_of_ble_eq_true rfl⟩ | decide) ?_ | refine fSt_in ?_ | refine fAcc_in ?_))
      refine And.intro ⟨⟨rfl, by rw [rws_len]; exact hlt, Nat.le_of_ble_eq_true rfl⟩, ?_⟩ ?_
      · simp only [Int.toNat_natCast, headD_of (rws_at eInt hlt)]; rfl
      simp only [Int.toNat_natCast, headD_of (rws_at eInt hlt)]
      (repeat (first | refine And.intro (by first | exact trivial | exact rfl | exact ⟨trivial, rfl⟩ | exact ⟨trivial, trivial⟩ | exact ⟨rfl, rfl⟩ | exact ⟨rfl, Nat.le_of_ble_eq_true rfl⟩ | decide) ?_ | refine fSt_in ?_ | refine fAcc_in ?_))
      simp only [hw]
      refine And.intro ⟨Int.natCast_nonneg _, by rw [rws_len]; exact Int.ofNat_lt.2 hlt2, rfl⟩ ?_
      (repeat (first | refine And.intro (by first | exact trivial | exact rfl | exact ⟨trivial, rfl⟩ | exact ⟨trivial, trivial⟩ | exact ⟨rfl, rfl⟩ | exact ⟨rfl, Nat.le_of_ble_eq_true rfl⟩ | decide) ?_ | refine fSt_in ?_ | refine fAcc_in ?_))
      refine And.intro ⟨⟨rfl, by rw [rws_len]; exact hlt2, Nat.le_of_ble_eq_true rfl⟩, ?_⟩ ?_
      · simp only [Int.toNat_natCast, headD_of (rws_at eInt hlt2)]; rfl
      simp only [Int.toNat_natCast, headD_of (rws_at eInt hlt2)]
      (repeat (first | refine And.intro (by first | exact trivial | exact rfl | exact ⟨trivial, rfl⟩ | exact ⟨trivial, trivial⟩ | exact ⟨rfl, rfl⟩ | exact ⟨rfl, Nat.le_of_ble_eq_true rfl⟩ | decide) ?_ | refine fSt_in ?_ | refine fAcc_in ?_))
      refine JL.nil ?_
      refine JC.cond rfl (two.intro (fun hq => ?_) (fun hq => ?_))
      · have hq : qInt (xs.getD k default) (xs.getD (k - 1) default) = true := hq
        have hqe : xs.getD (k - 1) default = xs.getD k default := by rw [qInt_eq] at hq; exact (of_decide_eq_true hq).symm
        rw [if_pos hqe, hdk] at hdt
        (repeat' (first | refine And.intro (by first | exact trivial | exact rfl | exact ⟨trivial, rfl⟩ | exact ⟨trivial, trivial⟩ | exact ⟨rfl, rfl⟩ | exact ⟨rfl, Nat.le_of_ble_eq_true rfl⟩ | decide) ?_ | refine two_t ?_ | refine two_f ?_ | refine two.intro (fun _ => ?_) (fun _ => ?_) | refine JL.nil ?_ | refine JC.seq ?_ | refine JC.block ?_ | refine JC.skip ?_ | refine JC.exit ?_ | refine JC.region ?_ | refine JC.cond rfl ?_ | refine And.intro (⟨Int.natCast_nonneg _, hltI, rfl⟩) ?_ | refine fSt_in ?_ | refine fAcc_in ?_ | fail))
        refine JC.loop (ι := { p : Nat × Nat × List Int // 1 ≤ p.1 ∧ p.1 ≤ xs.length - k ∧ p.2.1 + 1 ≤ k + p.1 ∧ k ≤ p.2.1 ∧ p.2.2.length = xs.length ∧ p.2.2.take p.2.1 = ddp (xs.take (k + p.1)) ∧ ∀ j, k + p.1 ≤ j + 1 → j < xs.length → p.2.2.getD j default = xs.getD j default })
          (fun p => ⟨[(0, Go.Fw.one (.base 0)), (3, s1 (tI p.1.2.1)), (4, Go.Fw.one (.sub 0 1 k (xs.length - k))), (5, s1 (tI p.1.1))], [(0, .row 3 1 (rws eInt p.1.2.2))], 1⟩) (fun p => xs.length - p.1.1) ⟨(1, k, xs), Nat.le_refl _, by simp only; omega, by simp only; omega, Nat.le_refl _, rfl, hdt.symm, fun _ _ _ => rfl⟩ ?_ ?_
        · exact Le.drop (by repeat (first | exact trivial | refine SlLe.same rfl ?_ | refine ⟨⟨_, rfl, by rw [rws_len]; exact SVLe.refl _⟩, ?_⟩)) (by repeat (first | exact trivial | refine ⟨rfl, ?_⟩ | refine ⟨row_kill rfl, ?_⟩ | refine ⟨row_snoc rfl, ?_⟩ | refine ⟨row_froz rfl, ?_⟩)) (by simp only [hLt, O.lt, rws_lt]; rfl)
        rintro ⟨⟨k2, m, cur⟩, i1, i2, i3, i4, i5, i6, i7⟩
        simp only at i1 i2 i3 i4 i5 i6 i7
        refine JC.seq ?_
        (repeat (first | refine JC.seq ?_ | refine JC.block ?_ | refine JC.skip ?_ | refine JC.exit ?_ | (refine JC.region ?_; (repeat (first | refine And.intro (by first | exact trivial | exact rfl | exact ⟨trivial, rfl⟩ | exact ⟨trivial, trivial⟩ | exact ⟨rfl, rfl⟩ | exact ⟨rfl, Nat.le_of_ble_eq_true rfl⟩ | decide) ?_ | refine fSt_in ?_ | refine fAcc_in ?_)); refine JL.nil ?_)))
        refine JC.cond rfl (two.intro ?_ ?_)
        · intro hlt3
          have hlt3 : k2 < xs.length - k := by have h := of_decide_eq_true hlt3; exact Int.ofNat_lt.1 h
          have hr1 : k + k2 < cur.length := by omega
          have hr2 : k + (k2 - 1) < cur.length := by omega
          have hw3 : IntKind.i64.wrap ((k2 : Int) - 1) = ((k2 - 1 : Nat) : Int) := by rw [wrap64 (by omega) (by omega)]; omega
          have hlt4 : k2 - 1 < xs.length - k := by omega
          have hbig2 : xs.length - k ≤ big := by omega
          have hdt2 := ddp_take (xs := xs) (m := k + k2) (by omega) (by omega)
          rw [show k + k2 - 1 = k + (k2 - 1) by omega] at hdt2
          have hc1 := i7 (k + k2) (by omega) (by omega)
          have hc2 := i7 (k + (k2 - 1)) (by omega) (by omega)
          rw [← hc1, ← hc2] at hdt2
          (repeat' (first | refine And.intro (by first | exact trivial | exact rfl | exact ⟨trivial, rfl⟩ | exact ⟨trivial, trivial⟩ | exact ⟨rfl, rfl⟩ | exact ⟨rfl, Nat.le_of_ble_eq_true rfl⟩ | decide) ?_ | refine two_t ?_ | refine two_f ?_ | refine two.intro (fun _ => ?_) (fun _ => ?_) | refine JL.nil ?_ | refine JC.seq ?_ | refine JC.block ?_ | refine JC.skip ?_ | refine JC.exit ?_ | refine JC.region ?_ | refine JC.cond rfl ?_ | refine fSt_in ?_ | refine fAcc_in ?_ | (refine JL.p0 rfl rfl rfl rfl rfl (Fit.refl _) (fun _ => rfl) (by first | exact find a 0) (fun _ => rfl) ?_; refine ev_run ?_) | fail))
          refine JC.draw 10 rfl ?_
          (repeat (first | refine And.intro (by first | exact trivial | exact rfl | exact ⟨trivial, rfl⟩ | exact ⟨trivial, trivial⟩ | exact ⟨rfl, rfl⟩ | exact ⟨rfl, Nat.le_of_ble_eq_true rfl⟩ | decide) ?_ | refine fSt_in ?_ | refine fAcc_in ?_))
          refine And.intro ⟨Int.natCast_nonneg _, Int.ofNat_lt.2 hlt3, rfl⟩ ?_
          (repeat (first | refine And.intro (by first | exact trivial | exact rfl | exact ⟨trivial, rfl⟩ | exact ⟨trivial, trivial⟩ | exact ⟨rfl, rfl⟩ | exact ⟨rfl, Nat.le_of_ble_eq_true rfl⟩ | decide) ?_ | refine fSt_in ?_ | refine fAcc_in ?_))
          refine And.intro ⟨⟨rfl, by rw [rws_len]; exact hr1, Nat.le_of_ble_eq_true rfl⟩, ?_⟩ ?_
          · simp only [Int.toNat_natCast, headD_of (rws_at eInt hr1)]; rfl
          simp only [Int.toNat_natCast, headD_of (rws_at eInt hr1)]
          (repeat (first | refine And.intro (by first | exact trivial | exact rfl | exact ⟨trivial, rfl⟩ | exact ⟨trivial, trivial⟩ | exact ⟨rfl, rfl⟩ | exact ⟨rfl, Nat.le_of_ble_eq_true rfl⟩ | decide) ?_ | refine fSt_in ?_ | refine fAcc_in ?_))
          simp only [hw3]
          refine And.intro ⟨Int.natCast_nonneg _, Int.ofNat_lt.2 hlt4, rfl⟩ ?_
          (repeat (first | refine And.intro (by first | exact trivial | exact rfl | exact ⟨trivial, rfl⟩ | exact ⟨trivial, trivial⟩ | exact ⟨rfl, rfl⟩ | exact ⟨rfl, Nat.le_of_ble_eq_true rfl⟩ | decide) ?_ | refine fSt_in ?_ | refine fAcc_in ?_))
          refine And.intro ⟨⟨rfl, by rw [rws_len]; exact hr2, Nat.le_of_ble_eq_true rfl⟩, ?_⟩ ?_
          · simp only [Int.toNat_natCast, headD_of (rws_at eInt hr2)]; rfl
          simp only [Int.toNat_natCast, headD_of (rws_at eInt hr2)]
          (repeat (first | refine And.intro (by first | exact trivial | exact rfl | exact ⟨trivial, rfl⟩ | exact ⟨trivial, trivial⟩ | exact ⟨rfl, rfl⟩ | exact ⟨rfl, Nat.le_of_ble_eq_true rfl⟩ | decide) ?_ | refine fSt_in ?_ | refine fAcc_in ?_))
          refine JL.nil ?_
          refine JC.cond rfl (two.intro (fun hq2 => ?_) (fun hq2 => ?_))
          · have hq2 : qInt (cur.getD (k + k2) default) (cur.getD (k + (k2 - 1)) default) = false := not_t hq2
            have hne : ¬ cur.getD (k + (k2 - 1)) default = cur.getD (k + k2) default := by rw [qInt_eq] at hq2; exact fun h => of_decide_eq_false hq2 h.symm
            rw [if_neg hne, ← i6] at hdt2
            have hm : m < cur.length := by omega
            (repeat' (first | refine And.intro (by first | exact trivial | exact rfl | exact ⟨trivial, rfl⟩ | exact ⟨trivial, trivial⟩ | exact ⟨rfl, rfl⟩ | exact ⟨rfl, Nat.le_of_ble_eq_true rfl⟩ | decide) ?_ | refine two_t ?_ | refine two_f ?_ | refine two.intro (fun _ => ?_) (fun _ => ?_) | refine JL.nil ?_ | refine JC.seq ?_ | refine JC.block ?_ | refine JC.skip ?_ | refine JC.exit ?_ | refine JC.region ?_ | refine JC.cond rfl ?_ | refine fSt_in ?_ | refine fAcc_in ?_ | (refine JL.p0 rfl rfl rfl rfl rfl (Fit.refl _) (fun _ => rfl) (by first | exact find a 0) (fun _ => rfl) ?_; refine ev_run ?_) | fail))
            refine And.intro ⟨Int.natCast_nonneg _, Int.ofNat_lt.2 hlt3, rfl⟩ ?_
            (repeat (first | refine And.intro (by first | exact trivial | exact rfl | exact ⟨trivial, rfl⟩ | exact ⟨trivial, trivial⟩ | exact ⟨rfl, rfl⟩ | exact ⟨rfl, Nat.le_of_ble_eq_true rfl⟩ | decide) ?_ | refine fSt_in ?_ | refine fAcc_in ?_))
            refine And.intro ⟨⟨rfl, by rw [rws_len]; exact hr1, Nat.le_of_ble_eq_true rfl⟩, ?_⟩ ?_
            · simp only [Int.toNat_natCast, headD_of (rws_at eInt hr1)]; rfl
            simp only [Int.toNat_natCast, headD_of (rws_at eInt hr1)]
            (repeat (first | refine And.intro (by first | exact trivial | exact rfl | exact ⟨trivial, rfl⟩ | exact ⟨trivial, trivial⟩ | exact ⟨rfl, rfl⟩ | exact ⟨rfl, Nat.le_of_ble_eq_true rfl⟩ | decide) ?_ | refine fSt_in ?_ | refine fAcc_in ?_))
            refine And.intro ⟨Int.natCast_nonneg _, by rw [rws_len]; exact Int.ofNat_lt.2 hm, rfl⟩ ?_
            (repeat (first | refine And.intro (by first | exact trivial | exact rfl | exact ⟨trivial, rfl⟩ | exact ⟨trivial, trivial⟩ | exact ⟨rfl, rfl⟩ | exact ⟨rfl, Nat.le_of_ble_eq_true rfl⟩ | decide) ?_ | refine fSt_in ?_ | refine fAcc_in ?_))
            refine And.intro ⟨rfl, by rw [rws_len]; exact hm, rfl, Nat.le_of_ble_eq_true rfl⟩ ?_
            (repeat (first | refine And.intro (by first | exact trivial | exact rfl | exact ⟨trivial, rfl⟩ | exact ⟨trivial, trivial⟩ | exact ⟨rfl, rfl⟩ | exact ⟨rfl, Nat.le_of_ble_eq_true rfl⟩ | decide) ?_ | refine fSt_in ?_ | refine fAcc_in ?_))
            refine JL.nil ?_
            (repeat' (first | refine And.intro (by first | exact trivial | exact rfl | exact ⟨trivial, rfl⟩ | exact ⟨trivial, trivial⟩ | exact ⟨rfl, rfl⟩ | exact ⟨rfl, Nat.le_of_ble_eq_true rfl⟩ | decide) ?_ | refine two_t ?_ | refine two_f ?_ | refine two.intro (fun _ => ?_) (fun _ => ?_) | refine JL.nil ?_ | refine JC.seq ?_ | refine JC.block ?_ | refine JC.skip ?_ | refine JC.exit ?_ | refine JC.region ?_ | refine JC.cond rfl ?_ | refine fSt_in ?_ | refine fAcc_in ?_ | (refine JL.p0 rfl rfl rfl rfl rfl (Fit.refl _) (fun _ => rfl) (by first | exact find a 0) (fun _ => rfl) ?_; refine ev_run ?_) | fail))
            have hbig3 : m + 1 ≤ big := by omega
            refine ⟨⟨(k2 + 1, m + 1, cur.set m (cur.getD (k + k2) default)), by simp only; omega, by simp only; omega, by simp only; omega, by simp only; omega, by simp only [List.length_set]; exact i5, ?_, fun j h1 h2 => ?_⟩, by simp only; omega, ?_⟩
            · simp only
              rw [take_set' hm, ← Nat.add_assoc, hdt2]
            · simp only at h1 ⊢
              rw [getD_set_ne (by omega)]
              exact i7 j (by omega) h2
            · exact Le.drop (by repeat (first | exact trivial | refine SlLe.same rfl ?_ | refine SlLe.int rfl (wrap_succ2 hbig3) ?_ | refine SlLe.int rfl (wrap_succ hbig2 hlt3) ?_)) ⟨row_set hm rfl rfl, trivial⟩ (by simp only [hLt, O.lt, rws_lt]; rfl)
          · have hq2 : qInt (cur.getD (k + k2) default) (cur.getD (k + (k2 - 1)) default) = true := not_f hq2
            have heq : cur.getD (k + (k2 - 1)) default = cur.getD (k + k2) default := by rw [qInt_eq] at hq2; exact (of_decide_eq_true hq2).symm
            rw [if_pos heq, ← i6] at hdt2
            (repeat' (first | refine And.intro (by first | exact trivial | exact rfl | exact ⟨trivial, rfl⟩ | exact ⟨trivial, trivial⟩ | exact ⟨rfl, rfl⟩ | exact ⟨rfl, Nat.le_of_ble_eq_true rfl⟩ | decide) ?_ | refine two_t ?_ | refine two_f ?_ | refine two.intro (fun _ => ?_) (fun _ => ?_) | refine JL.nil ?_ | refine JC.seq ?_ | refine JC.block ?_ | refine JC.skip ?_ | refine JC.exit ?_ | refine JC.region ?_ | refine JC.cond rfl ?_ | refine fSt_in ?_ | refine fAcc_in ?_ | (refine JL.p0 rfl rfl rfl rfl rfl (Fit.refl _) (fun _ => rfl) (by first | exact find a 0) (fun _ => rfl) ?_; refine ev_run ?_) | fail))
            refine ⟨⟨(k2 + 1, m, cur), by simp only; omega, by simp only; omega, by simp only; omega, i4, i5, hdt2.symm, fun j h1 h2 => i7 j (by simp only at h1; omega) h2⟩, by simp only; omega, ?_⟩
            exact Le.drop (by repeat (first | exact trivial | refine SlLe.same rfl ?_ | refine SlLe.int rfl (wrap_succ hbig2 hlt3) ?_)) (by repeat (first | exact trivial | refine ⟨rfl, ?_⟩ | refine ⟨row_kill rfl, ?_⟩ | refine ⟨row_snoc rfl, ?_⟩ | refine ⟨row_froz rfl, ?_⟩)) (by simp only [hLt, O.lt, rws_lt]; rfl)
        · intro hge3
          have hge3 : ¬ k2 < xs.length - k := by have h := of_decide_eq_false hge3; exact fun h' => h (Int.ofNat_lt.2 h')
          obtain rfl : k2 = xs.length - k := by omega
          rw [show k + (xs.length - k) = xs.length by omega, List.take_length] at i6
          have hm : m < xs.length := by omega
          have hmI : (m : Int) < ((rws eInt cur).length : Nat) := by rw [rws_len, i5]; exact Int.ofNat_lt.2 hm
          (repeat' (first | refine And.intro (by first | exact trivial | exact rfl | exact ⟨trivial, rfl⟩ | exact ⟨trivial, trivial⟩ | exact ⟨rfl, rfl⟩ | exact ⟨rfl, Nat.le_of_ble_eq_true rfl⟩ | decide) ?_ | refine two_t ?_ | refine two_f ?_ | refine two.intro (fun _ => ?_) (fun _ => ?_) | refine JL.nil ?_ | refine JC.seq ?_ | refine JC.block ?_ | refine JC.skip ?_ | refine JC.exit ?_ | refine JC.region ?_ | refine JC.cond rfl ?_ | refine And.intro (⟨Int.natCast_nonneg _, hmI, rfl⟩) ?_ | refine fSt_in ?_ | refine fAcc_in ?_ | fail))
          refine ev_none rfl rfl ?_
          refine JL.clear rfl rfl rfl rfl rfl rfl rfl rfl rfl rfl rfl rfl (by show m + ((rws eInt cur).length - m) = _; rw [rws_len]; omega) (by show 0 < (rws eInt cur).length - m; rw [rws_len]; omega) ?_
          (refine ev_run ?_; (repeat (first | refine And.intro (by first | exact trivial | exact rfl | exact ⟨trivial, rfl⟩ | exact ⟨trivial, trivial⟩ | exact ⟨rfl, rfl⟩ | exact ⟨rfl, Nat.le_of_ble_eq_true rfl⟩ | decide) ?_ | refine fSt_in ?_ | refine fAcc_in ?_)); refine JL.nil ?_)
          (repeat' (first | refine And.intro (by first | exact trivial | exact rfl | exact ⟨trivial, rfl⟩ | exact ⟨trivial, trivial⟩ | exact ⟨rfl, rfl⟩ | exact ⟨rfl, Nat.le_of_ble_eq_true rfl⟩ | decide) ?_ | refine two_t ?_ | refine two_f ?_ | refine two.intro (fun _ => ?_) (fun _ => ?_) | refine JL.nil ?_ | refine JC.seq ?_ | refine JC.block ?_ | refine JC.skip ?_ | refine JC.exit ?_ | refine JC.region ?_ | refine JC.cond rfl ?_ | refine fSt_in ?_ | refine fAcc_in ?_ | (refine JL.p0 rfl rfl rfl rfl rfl (Fit.refl _) (fun _ => rfl) (by first | exact find a 0) (fun _ => rfl) ?_; refine ev_run ?_) | fail))
          refine ev_none rfl rfl ?_
          refine JL.shrink (k := m) rfl rfl rfl rfl rfl rfl rfl rfl rfl (by simp [rws_len]; omega) ?_
          (refine ev_run ?_; (repeat (first | refine And.intro (by first | exact trivial | exact rfl | exact ⟨trivial, rfl⟩ | exact ⟨trivial, trivial⟩ | exact ⟨rfl, rfl⟩ | exact ⟨rfl, Nat.le_of_ble_eq_true rfl⟩ | decide) ?_ | refine fSt_in ?_ | refine fAcc_in ?_)); refine JL.nil ?_)
          (repeat' (first | refine And.intro (by first | exact trivial | exact rfl | exact ⟨trivial, rfl⟩ | exact ⟨trivial, trivial⟩ | exact ⟨rfl, rfl⟩ | exact ⟨rfl, Nat.le_of_ble_eq_true rfl⟩ | decide) ?_ | refine two_t ?_ | refine two_f ?_ | refine two.intro (fun _ => ?_) (fun _ => ?_) | refine JL.nil ?_ | refine JC.seq ?_ | refine JC.block ?_ | refine JC.skip ?_ | refine JC.exit ?_ | refine JC.region ?_ | refine JC.cond rfl ?_ | refine fSt_in ?_ | refine fAcc_in ?_ | (refine JL.p0 rfl rfl rfl rfl rfl (Fit.refl _) (fun _ => rfl) (by first | exact find a 0) (fun _ => rfl) ?_; refine ev_run ?_) | fail))
          exact JC.ret ⟨_, Le.drop (s' := ⟨[(2, Go.Fw.one (.base 0))], [(0, .row 3 1 (rws eInt (ddp xs)))], 1⟩) (by repeat (first | exact trivial | refine SlLe.same rfl ?_ | refine SlLe.int rfl (by first | exact wrap_succ (by assumption) (by assumption) | exact wrap_succ2 (by first | omega | (simp only []; omega))) ?_)) ⟨row_cut (by omega) i6 rfl, trivial⟩ (by simp only [hLt, O.lt, rws_lt]; rfl), And.intro (by repeat' (first | exact trivial | exact rfl | apply And.intro)) ⟨rfl, rfl, rfl⟩⟩
      · have hq : qInt (xs.getD k default) (xs.getD (k - 1) default) = false := hq
        have hqe : ¬ xs.getD (k - 1) default = xs.getD k default := by rw [qInt_eq] at hq; exact fun h => of_decide_eq_false hq h.symm
        rw [if_neg hqe, hdk] at hdt
        (repeat' (first | refine And.intro (by first | exact trivial | exact rfl | exact ⟨trivial, rfl⟩ | exact ⟨trivial, trivial⟩ | exact ⟨rfl, rfl⟩ | exact ⟨rfl, Nat.le_of_ble_eq_true rfl⟩ | decide) ?_ | refine two_t ?_ | refine two_f ?_ | refine two.intro (fun _ => ?_) (fun _ => ?_) | refine JL.nil ?_ | refine JC.seq ?_ | refine JC.block ?_ | refine JC.skip ?_ | refine JC.exit ?_ | refine JC.region ?_ | refine JC.cond rfl ?_ | refine fSt_in ?_ | refine fAcc_in ?_ | (refine JL.p0 rfl rfl rfl rfl rfl (Fit.refl _) (fun _ => rfl) (by first | exact find a 0) (fun _ => rfl) ?_; refine ev_run ?_) | fail))
        refine ⟨⟨k + 1, by omega, hlt, by rw [hdt, take_succ' hlt]⟩, by simp only; omega, (Le.drop (by repeat (first | exact trivial | refine SlLe.same rfl ?_ | refine SlLe.int rfl (by first | exact wrap_succ (by assumption) (by assumption) | exact wrap_succ2 (by first | omega | (simp only []; omega))) ?_)) (by repeat (first | exact trivial | refine ⟨rfl, ?_⟩ | refine ⟨row_kill rfl, ?_⟩ | refine ⟨row_snoc rfl, ?_⟩ | refine ⟨row_froz rfl, ?_⟩)) (by simp only [hLt, O.lt, rws_lt]; rfl))⟩
    · intro hge
      have hge : ¬ k < xs.length := by have h := of_decide_eq_false hge; rw [rws_len] at h; exact fun h' => h (Int.ofNat_lt.2 h')
      obtain rfl : k = xs.length := by omega
      rw [List.take_length] at hdk
      rw [hdk]
      (repeat' (first | refine And.intro (by first | exact trivial | exact rfl | exact ⟨trivial, rfl⟩ | exact ⟨trivial, trivial⟩ | exact ⟨rfl, rfl⟩ | exact ⟨rfl, Nat.le_of_ble_eq_true rfl⟩ | decide) ?_ | refine two_t ?_ | refine two_f ?_ | refine two.intro (fun _ => ?_) (fun _ => ?_) | refine JL.nil ?_ | refine JC.seq ?_ | refine JC.block ?_ | refine JC.skip ?_ | refine JC.exit ?_ | refine JC.region ?_ | refine JC.cond rfl ?_ | refine fSt_in ?_ | refine fAcc_in ?_ | (refine JL.p0 rfl rfl rfl rfl rfl (Fit.refl _) (fun _ => rfl) (by first | exact find a 0) (fun _ => rfl) ?_; refine ev_run ?_) | fail))
      exact JC.ret ⟨_, Le.drop (s' := ⟨[(2, Go.Fw.one (.base 0))], [(0, .row 3 1 (rws eInt xs))], 1⟩) (by repeat (first | exact trivial | refine SlLe.same rfl ?_ | refine SlLe.int rfl (by first | exact wrap_succ (by assumption) (by assumption) | exact wrap_succ2 (by first | omega | (simp only []; omega))) ?_)) (by repeat (first | exact trivial | refine ⟨rfl, ?_⟩ | refine ⟨row_kill rfl, ?_⟩ | refine ⟨row_snoc rfl, ?_⟩ | refine ⟨row_froz rfl, ?_⟩)) (by simp only [hLt, O.lt, rws_lt]; rfl), And.intro (by repeat' (first | exact trivial | exact rfl | apply And.intro)) ⟨rfl, rfl, rfl⟩⟩
theorem compactIntP (xs : List IntP) (hl : xs.length ≤ 1000000) : Triple cx 132 [Go.Fw.one (.base 0)] [(0, .row 80 2 (rws ePair xs))] 1 (fun r h nx => r = .ret (Go.Fw.one (.base 0)) ∧ h = [(0, .row 80 2 (rws ePair (ddp xs)))] ∧ nx = 1) := by
  refine Triple.run Try.func132 rfl rfl 61 Try.ntmps132 [.tmp 2] rfl rfl ?_
  (repeat' (first | refine And.intro (by first | exact trivial | exact rfl | exact ⟨trivial, rfl⟩ | exact ⟨trivial, trivial⟩ | exact ⟨rfl, rfl⟩ | exact ⟨rfl, Nat.le_of_ble_eq_true rfl⟩ | decide) ?_ | refine two_t ?_ | refine two_f ?_ | refine two.intro (fun _ => ?_) (fun _ => ?_) | refine JL.nil ?_ | refine JC.seq ?_ | refine JC.block ?_ | refine JC.skip ?_ | refine JC.exit ?_ | refine JC.region ?_ | refine JC.cond rfl ?_ | refine fSt_in ?_ | refine fAcc_in ?_ | (refine JL.p0 rfl rfl rfl rfl rfl (Fit.refl _) (fun _ => rfl) (by first | exact find a 0) (fun _ => rfl) ?_; refine ev_run ?_) | fail))
  · rename_i h
    have h : xs.length < 2 := by have h := of_decide_eq_true h; rw [rws_len] at h; omega
    have hd : ddp xs = xs := by
      match xs, h with
      | [], _ => rfl
      | [_], _ => rfl
    rw [hd]
    exact JC.ret ⟨_, Le.drop (s' := ⟨[(2, Go.Fw.one (.base 0))], [(0, .row 80 2 (rws ePair xs))], 1⟩) (by repeat (first | exact trivial | refine SlLe.same rfl ?_ | refine SlLe.int rfl (by first | exact wrap_succ (by assumption) (by assumption) | exact wrap_succ2 (by first | omega | (simp only []; omega))) ?_)) (by repeat (first | exact trivial | refine ⟨rfl, ?_⟩ | refine ⟨row_kill rfl, ?_⟩ | refine ⟨row_snoc rfl, ?_⟩ | refine ⟨row_froz rfl, ?_⟩)) (by simp only [hLt, O.lt, rws_lt]; rfl), And.intro (by repeat' (first | exact trivial | exact rfl | apply And.intro)) ⟨rfl, rfl, rfl⟩⟩
  · rename_i h
    have h : 2 ≤ xs.length := by have h := of_decide_eq_false h; rw [rws_len] at h; omega
    have hbig : xs.length ≤ big := by unfold big; omega
    have hd1 : ddp (xs.take 1) = xs.take 1 := by
      match xs, h with
      | x :: r, _ => rfl
    refine JC.loop (ι := { k : Nat // 1 ≤ k ∧ k ≤ xs.length ∧ ddp (xs.take k) = xs.take k }) (fun k => ⟨[(0, Go.Fw.one (.base 0)), (3, s1 (tI k.1))], [(0, .row 80 2 (rws ePair xs))], 1⟩) (fun k => xs.length - k.1) ⟨1, Nat.le_refl _, by omega, hd1⟩ (Le.drop (by repeat (first | exact trivial | refine SlLe.same rfl ?_ | refine SlLe.int rfl (by first | exact wrap_succ (by assumption) (by assumption) | exact wrap_succ2 (by first | omega | (simp only []; omega))) ?_)) (by repeat (first | exact trivial | refine ⟨rfl, ?_⟩ | refine ⟨row_kill rfl, ?_⟩ | refine ⟨row_snoc rfl, ?_⟩ | refine ⟨row_froz rfl, ?_⟩)) (by simp only [hLt, O.lt, rws_lt]; rfl)) ?_
    rintro ⟨k, hk1, hk, hdk⟩
    refine JC.seq ?_
    (repeat (first | refine JC.seq ?_ | refine JC.block ?_ | refine JC.skip ?_ | refine JC.exit ?_ | (refine JC.region ?_; (repeat (first | refine And.intro (by first | exact trivial | exact rfl | exact ⟨trivial, rfl⟩ | exact ⟨trivial, trivial⟩ | exact ⟨rfl, rfl⟩ | exact ⟨rfl, Nat.le_of_ble_eq_true rfl⟩ | decide) ?_ | refine fSt_in ?_ | refine fAcc_in ?_)); refine JL.nil ?_)))
    refine JC.cond rfl (two.intro ?_ ?_)
    · intro hlt
      have hlt : k < xs.length := by have h := of_decide_eq_true hlt; rw [rws_len] at h; exact Int.ofNat_lt.1 h
      have hlt2 : k - 1 < xs.length := by omega
      have hltI : (k : Int) < ((rws ePair xs).length : Nat) := by rw [rws_len]; exact Int.ofNat_lt.2 hlt
      have hw : IntKind.i64.wrap ((k : Int) - 1) = ((k - 1 : Nat) : Int) := by rw [wrap64 (by omega) (by omega)]; omega
      have hdt := ddp_take hlt (by omega)
      (repeat' (first | refine And.intro (by first | exact trivial | exact rfl | exact ⟨trivial, rfl⟩ | exact ⟨trivial, trivial⟩ | exact ⟨rfl, rfl⟩ | exact ⟨rfl, Nat.le_of_ble_eq_true rfl⟩ | decide) ?_ | refine two_t ?_ | refine two_f ?_ | refine two.intro (fun _ => ?_) (fun _ => ?_) | refine JL.nil ?_ | refine JC.seq ?_ | refine JC.block ?_ | refine JC.skip ?_ | refine JC.exit ?_ | refine JC.region ?_ | refine JC.cond rfl ?_ | refine fSt_in ?_ | refine fAcc_in ?_ | (refine JL.p0 rfl rfl rfl rfl rfl (Fit.refl _) (fun _ => rfl) (by first | exact find a 0) (fun _ => rfl) ?_; refine ev_run ?_) | fail))
      refine JC.draw 10 rfl ?_
      (repeat (first | refine And.intro (by first | exact trivial | exact rfl | exact ⟨trivial, rfl⟩ | exact ⟨trivial, trivial⟩ | exact ⟨rfl, rfl⟩ | exact ⟨rfl, Nat.le_of_ble_eq_true rfl⟩ | decide) ?_ | refine fSt_in ?_ | refine fAcc_in ?_))
      refine And.intro ⟨Int.natCast_nonneg _, by rw [rws_len]; exact Int.ofNat_lt.2 hlt, rfl⟩ ?_
      (repeat (first | refine And.intro (by first | exact trivial | exact rfl | exact ⟨trivial, rfl⟩ | exact ⟨trivial, trivial⟩ | exact ⟨rfl, rfl⟩ | exact ⟨rfl, Nat.le_of_ble_eq_true rfl⟩ | decide) ?_ | refine fSt_in ?_ | refine fAcc_in ?_))
      refine And.intro ⟨⟨rfl, by rw [rws_len]; exact hlt, Nat.le_of_ble_eq_true rfl⟩, ?_⟩ ?_
      · simp only [Int.toNat_natCast, headD_of (rws_at ePair hlt)]; rfl
      simp only [Int.toNat_natCast, headD_of (rws_at ePair hlt)]
      (repeat (first | refine And.intro (by first | exact trivial | exact rfl | exact ⟨trivial, rfl⟩ | exact ⟨trivial, trivial⟩ | exact ⟨rfl, rfl⟩ | exact ⟨rfl, Nat.le_of_ble_eq_true rfl⟩ | decide) ?_ | refine fSt_in ?_ | refine fAcc_in ?_))
      simp only [hw]
      refine And.intro ⟨Int.natCast_nonneg _, by rw [rws_len]; exact Int.ofNat_lt.2 hlt2, rfl⟩ ?_
      (repeat (first | refine And.intro (by first | exact trivial | exact rfl | exact ⟨trivial, rfl⟩ | exact ⟨trivial, trivial⟩ | exact ⟨rfl, rfl⟩ | exact ⟨rfl, Nat.le_of_ble_eq_true rfl⟩ | decide) ?_ | refine fSt_in ?_ | refine fAcc_in ?_))
      refine And.intro ⟨⟨rfl, by rw [rws_len]; exact hlt2, Nat.le_of_ble_eq_true rfl⟩, ?_⟩ ?_
      · simp only [Int.toNat_natCast, headD_of (rws_at ePair hlt2)]; rfl
      simp only [Int.toNat_natCast, headD_of (rws_at ePair hlt2)]
      (repeat (first | refine And.intro (by first | exact trivial | exact rfl | exact ⟨trivial, rfl⟩ | exact ⟨trivial, trivial⟩ | exact ⟨rfl, rfl⟩ | exact ⟨rfl, Nat.le_of_ble_eq_true rfl⟩ | decide) ?_ | refine fSt_in ?_ | refine fAcc_in ?_))
      refine JL.nil ?_
      refine JC.cond rfl (two.intro (fun hq => ?_) (fun hq => ?_))
      · have hq : qPair (xs.getD k default) (xs.getD (k - 1) default) = true := hq
        have hqe : xs.getD (k - 1) default = xs.getD k default := by rw [qPair_eq] at hq; exact (of_decide_eq_true hq).symm
        rw [if_pos hqe, hdk] at hdt
        (repeat' (first | refine And.intro (by first | exact trivial | exact rfl | exact ⟨trivial, rfl⟩ | exact ⟨trivial, trivial⟩ | exact ⟨rfl, rfl⟩ | exact ⟨rfl, Nat.le_of_ble_eq_true rfl⟩ | decide) ?_ | refine two_t ?_ | refine two_f ?_ | refine two.intro (fun _ => ?_) (fun _ => ?_) | refine JL.nil ?_ | refine JC.seq ?_ | refine JC.block ?_ | refine JC.skip ?_ | refine JC.exit ?_ | refine JC.region ?_ | refine JC.cond rfl ?_ | refine And.intro (⟨Int.natCast_nonneg _, hltI, rfl⟩) ?_ | refine fSt_in ?_ | refine fAcc_in ?_ | fail))
        refine JC.loop (ι := { p : Nat × Nat × List IntP // 1 ≤ p.1 ∧ p.1 ≤ xs.length - k ∧ p.2.1 + 1 ≤ k + p.1 ∧ k ≤ p.2.1 ∧ p.2.2.length = xs.length ∧ p.2.2.take p.2.1 = ddp (xs.take (k + p.1)) ∧ ∀ j, k + p.1 ≤ j + 1 → j < xs.length → p.2.2.getD j default = xs.getD j default })
          (fun p => ⟨[(0, Go.Fw.one (.base 0)), (3, s1 (tI p.1.2.1)), (4, Go.Fw.one (.sub 0 2 k (xs.length - k))), (5, s1 (tI p.1.1))], [(0, .row 80 2 (rws ePair p.1.2.2))], 1⟩) (fun p => xs.length - p.1.1) ⟨(1, k, xs), Nat.le_refl _, by simp only; omega, by simp only; omega, Nat.le_refl _, rfl, hdt.symm, fun _ _ _ => rfl⟩ ?_ ?_
        · exact Le.drop (by repeat (first | exact trivial | refine SlLe.same rfl ?_ | refine ⟨⟨_, rfl, by rw [rws_len]; exact SVLe.refl _⟩, ?_⟩)) (by repeat (first | exact trivial | refine ⟨rfl, ?_⟩ | refine ⟨row_kill rfl, ?_⟩ | refine ⟨row_snoc rfl, ?_⟩ | refine ⟨row_froz rfl, ?_⟩)) (by simp only [hLt, O.lt, rws_lt]; rfl)
        rintro ⟨⟨k2, m, cur⟩, i1, i2, i3, i4, i5, i6, i7⟩
        simp only at i1 i2 i3 i4 i5 i6 i7
        refine JC.seq ?_
        (repeat (first | refine JC.seq ?_ | refine JC.block ?_ | refine JC.skip ?_ | refine JC.exit ?_ | (refine JC.region ?_; (repeat (first | refine And.intro (by first | exact trivial | exact rfl | exact ⟨trivial, rfl⟩ | exact ⟨trivial, trivial⟩ | exact ⟨rfl, rfl⟩ | exact ⟨rfl, Nat.le_of_ble_eq_true rfl⟩ | decide) ?_ | refine fSt_in ?_ | refine fAcc_in ?_)); refine JL.nil ?_)))
        refine JC.cond rfl (two.intro ?_ ?_)
        · intro hlt3
          have hlt3 : k2 < xs.length - k := by have h := of_decide_eq_true hlt3; exact Int.ofNat_lt.1 h
          have hr1 : k + k2 < cur.length := by omega
          have hr2 : k + (k2 - 1) < cur.length := by omega
          have hw3 : IntKind.i64.wrap ((k2 : Int) - 1) = ((k2 - 1 : Nat) : Int) := by rw [wrap64 (by omega) (by omega)]; omega
          have hlt4 : k2 - 1 < xs.length - k := by omega
          have hbig2 : xs.length - k ≤ big := by omega
          have hdt2 := ddp_take (xs := xs) (m := k + k2) (by omega) (by omega)
          rw [show k + k2 - 1 = k + (k2 - 1) by omega] at hdt2
          have hc1 := i7 (k + k2) (by omega) (by omega)
          have hc2 := i7 (k + (k2 - 1)) (by omega) (by omega)
          rw [← hc1, ← hc2] at hdt2
          (repeat' (first | refine And.intro (by first | exact trivial | exact rfl | exact ⟨trivial, rfl⟩ | exact ⟨trivial, trivial⟩ | exact ⟨rfl, rfl⟩ | exact ⟨rfl, Nat.le_of_ble_eq_true rfl⟩ | decide) ?_ | refine two_t ?_ | refine two_f ?_ | refine two.intro (fun _ => ?_) (fun _ => ?_) | refine JL.nil ?_ | refine JC.seq ?_ | refine JC.block ?_ | refine JC.skip ?_ | refine JC.exit ?_ | refine JC.region ?_ | refine JC.cond rfl ?_ | refine fSt_in ?_ | refine fAcc_in ?_ | (refine JL.p0 rfl rfl rfl rfl rfl (Fit.refl _) (fun _ => rfl) (by first | exact find a 0) (fun _ => rfl) ?_; refine ev_run ?_) | fail))
          refine JC.draw 10 rfl ?_
          (repeat (first | refine And.intro (by first | exact trivial | exact rfl | exact ⟨trivial, rfl⟩ | exact ⟨trivial, trivial⟩ | exact ⟨rfl, rfl⟩ | exact ⟨rfl, Nat.le_of_ble_eq_true rfl⟩ | decide) ?_ | refine fSt_in ?_ | refine fAcc_in ?_))
          refine And.intro ⟨Int.natCast_nonneg _, Int.ofNat_lt.2 hlt3, rfl⟩ ?_
          (repeat (first | refine And.intro (by first | exact trivial | exact rfl | exact ⟨trivial, rfl⟩ | exact ⟨trivial, trivial⟩ | exact ⟨rfl, rfl⟩ | exact ⟨rfl, Nat.le_of_ble_eq_true rfl⟩ | decide) ?_ | refine fSt_in ?_ | refine fAcc_in ?_))
          refine And.intro ⟨⟨rfl, by rw [rws_len]; exact hr1, Nat.le_of_ble_eq_true rfl⟩, ?_⟩ ?_
          · simp only [Int.toNat_natCast, headD_of (rws_at ePair hr1)]; rfl
          simp only [Int.toNat_natCast, headD_of (rws_at ePair hr1)]
          (repeat (first | refine And.intro (by first | exact trivial | exact rfl | exact ⟨trivial, rfl⟩ | exact ⟨trivial, trivial⟩ | exact ⟨rfl, rfl⟩ | exact ⟨rfl, Nat.le_of_ble_eq_true rfl⟩ | decide) ?_ | refine fSt_in ?_ | refine fAcc_in ?_))
          simp only [hw3]
          refine And.intro ⟨Int.natCast_nonneg _, Int.ofNat_lt.2 hlt4, rfl⟩ ?_
          (repeat (first | refine And.intro (by first | exact trivial | exact rfl | exact ⟨trivial, rfl⟩ | exact ⟨trivial, trivial⟩ | exact ⟨rfl, rfl⟩ | exact ⟨rfl, Nat.le_of_ble_eq_true rfl⟩ | decide) ?_ | refine fSt_in ?_ | refine fAcc_in ?_))
          refine And.intro ⟨⟨rfl, by rw [rws_len]; exact hr2, Nat.le_of_ble_eq_true rfl⟩, ?_⟩ ?_
          · simp only [Int.toNat_natCast, headD_of (rws_at ePair hr2)]; rfl
          simp only [Int.toNat_natCast, headD_of (rws_at ePair hr2)]
          (repeat (first | refine And.intro (by first | exact trivial | exact rfl | exact ⟨trivial, rfl⟩ | exact ⟨trivial, trivial⟩ | exact ⟨rfl, rfl⟩ | exact ⟨rfl, Nat.le_of_ble_eq_true rfl⟩ | decide) ?_ | refine fSt_in ?_ | refine fAcc_in ?_))
          refine JL.nil ?_
          refine JC.cond rfl (two.intro (fun hq2 => ?_) (fun hq2 => ?_))
          · have hq2 : qPair (cur.getD (k + k2) default) (cur.getD (k + (k2 - 1)) default) = false := not_t hq2
            have hne : ¬ cur.getD (k + (k2 - 1)) default = cur.getD (k + k2) default := by rw [qPair_eq] at hq2; exact fun h => of_decide_eq_false hq2 h.symm
            rw [if_neg hne, ← i6] at hdt2
            have hm : m < cur.length := by omega
            (repeat' (first | refine And.intro (by first | exact trivial | exact rfl | exact ⟨trivial, rfl⟩ | exact ⟨trivial, trivial⟩ | exact ⟨rfl, rfl⟩ | exact ⟨rfl, Nat.le_of_ble_eq_true rfl⟩ | decide) ?_ | refine two_t ?_ | refine two_f ?_ | refine two.intro (fun _ => ?_) (fun _ => ?_) | refine JL.nil ?_ | refine JC.seq ?_ | refine JC.block ?_ | refine JC.skip ?_ | refine JC.exit ?_ | refine JC.region ?_ | refine JC.cond rfl ?_ | refine fSt_in ?_ | refine fAcc_in ?_ | (refine JL.p0 rfl rfl rfl rfl rfl (Fit.refl _) (fun _ => rfl) (by first | exact find a 0) (fun _ => rfl) ?_; refine ev_run ?_) | fail))
            refine And.intro ⟨Int.natCast_nonneg _, Int.ofNat_lt.2 hlt3, rfl⟩ ?_
            (repeat (first | refine And.intro (by first | exact trivial | exact rfl | exact ⟨trivial, rfl⟩ | exact ⟨trivial, trivial⟩ | exact ⟨rfl, rfl⟩ | exact ⟨rfl, Nat.le_of_ble_eq_true rfl⟩ | decide) ?_ | refine fSt_in ?_ | refine fAcc_in ?_))
            refine And.intro ⟨⟨rfl, by rw [rws_len]; exact hr1, Nat.le_of_ble_eq_true rfl⟩, ?_⟩ ?_
            · simp only [Int.toNat_natCast, headD_of (rws_at ePair hr1)]; rfl
            simp only [Int.toNat_natCast, headD_of (rws_at ePair hr1)]
            (repeat (first | refine And.intro (by first | exact trivial | exact rfl | exact ⟨trivial, rfl⟩ | exact ⟨trivial, trivial⟩ | exact ⟨rfl, rfl⟩ | exact ⟨rfl, Nat.le_of_ble_eq_true rfl⟩ | decide) ?_ | refine fSt_in ?_ | refine fAcc_in ?_))
            refine And.intro ⟨Int.natCast_nonneg _, by rw [rws_len]; exact Int.ofNat_lt.2 hm, rfl⟩ ?_
            (repeat (first | refine And.intro (by first | exact trivial | exact rfl | exact ⟨trivial, rfl⟩ | exact ⟨trivial, trivial⟩ | exact ⟨rfl, rfl⟩ | exact ⟨rfl, Nat.le_of_ble_eq_true rfl⟩ | decide) ?_ | refine fSt_in ?_ | refine fAcc_in ?_))
            refine And.intro ⟨rfl, by rw [rws_len]; exact hm, rfl, Nat.le_of_ble_eq_true rfl⟩ ?_
            (repeat (first | refine And.intro (by first | exact trivial | exact rfl | exact ⟨trivial, rfl⟩ | exact ⟨trivial, trivial⟩ | exact ⟨rfl, rfl⟩ | exact ⟨rfl, Nat.le_of_ble_eq_true rfl⟩ | decide) ?_ | refine fSt_in ?_ | refine fAcc_in ?_))
            refine JL.nil ?_
            (repeat' (first | refine And.intro (by first | exact trivial | exact rfl | exact ⟨trivial, rfl⟩ | exact ⟨trivial, trivial⟩ | exact ⟨rfl, rfl⟩ | exact ⟨rfl, Nat.le_of_ble_eq_true rfl⟩ | decide) ?_ | refine two_t ?_ | refine two_f ?_ | refine two.intro (fun _ => ?_) (fun _ => ?_) | refine JL.nil ?_ | refine JC.seq ?_ | refine JC.block ?_ | refine JC.skip ?_ | refine JC.exit ?_ | refine JC.region ?_ | refine JC.cond rfl ?_ | refine fSt_in ?_ | refine fAcc_in ?_ | (refine JL.p0 rfl rfl rfl rfl rfl (Fit.refl _) (fun _ => rfl) (by first | exact find a 0) (fun _ => rfl) ?_; refine ev_run ?_) | fail))
            have hbig3 : m + 1 ≤ big := by omega
            refine ⟨⟨(k2 + 1, m + 1, cur.set m (cur.getD (k + k2) default)), by simp only; omega, by simp only; omega, by simp only; omega, by simp only; omega, by simp only [List.length_set]; exact i5, ?_, fun j h1 h2 => ?_⟩, by simp only; omega, ?_⟩
            · simp only
              rw [take_set' hm, ← Nat.add_assoc, hdt2]
            · simp only at h1 ⊢
              rw [getD_set_ne (by omega)]
              exact i7 j (by omega) h2
            · exact Le.drop (by repeat (first | exact trivial | refine SlLe.same rfl ?_ | refine SlLe.int rfl (wrap_succ2 hbig3) ?_ | refine SlLe.int rfl (wrap_succ hbig2 hlt3) ?_)) ⟨row_set hm rfl rfl, trivial⟩ (by simp only [hLt, O.lt, rws_lt]; rfl)
          · have hq2 : qPair (cur.getD (k + k2) default) (cur.getD (k + (k2 - 1)) default) = true := not_f hq2
            have heq : cur.getD (k + (k2 - 1)) default = cur.getD (k + k2) default := by rw [qPair_eq] at hq2; exact (of_decide_eq_true hq2).symm
            rw [if_pos heq, ← i6] at hdt2
            (repeat' (first | refine And.intro (by first | exact trivial | exact rfl | exact ⟨trivial, rfl⟩ | exact ⟨trivial, trivial⟩ | exact ⟨rfl, rfl⟩ | exact ⟨rfl, Nat.le_of_ble_eq_true rfl⟩ | decide) ?_ | refine two_t ?_ | refine two_f ?_ | refine two.intro (fun _ => ?_) (fun _ => ?_) | refine JL.nil ?_ | refine JC.seq ?_ | refine JC.block ?_ | refine JC.skip ?_ | refine JC.exit ?_ | refine JC.region ?_ | refine JC.cond rfl ?_ | refine fSt_in ?_ | refine fAcc_in ?_ | (refine JL.p0 rfl rfl rfl rfl rfl (Fit.refl _) (fun _ => rfl) (by first | exact find a 0) (fun _ => rfl) ?_; refine ev_run ?_) | fail))
            refine ⟨⟨(k2 + 1, m, cur), by simp only; omega, by simp only; omega, by simp only; omega, i4, i5, hdt2.symm, fun j h1 h2 => i7 j (by simp only at h1; omega) h2⟩, by simp only; omega, ?_⟩
            exact Le.drop (by repeat (first | exact trivial | refine SlLe.same rfl ?_ | refine SlLe.int rfl (wrap_succ hbig2 hlt3) ?_)) (by repeat (first | exact trivial | refine ⟨rfl, ?_⟩ | refine ⟨row_kill rfl, ?_⟩ | refine ⟨row_snoc rfl, ?_⟩ | refine ⟨row_froz rfl, ?_⟩)) (by simp only [hLt, O.lt, rws_lt]; rfl)
        · intro hge3
          have hge3 : ¬ k2 < xs.length - k := by have h := of_decide_eq_false hge3; exact fun h' => h (Int.ofNat_lt.2 h')
          obtain rfl : k2 = xs.length - k := by omega
          rw [show k + (xs.length - k) = xs.length by omega, List.take_length] at i6
          have hm : m < xs.length := by omega
          have hmI : (m : Int) < ((rws ePair cur).length : Nat) := by rw [rws_len, i5]; exact Int.ofNat_lt.2 hm
          (repeat' (first | refine And.intro (by first | exact trivial | exact rfl | exact ⟨trivial, rfl⟩ | exact ⟨trivial, trivial⟩ | exact ⟨rfl, rfl⟩ | exact ⟨rfl, Nat.le_of_ble_eq_true rfl⟩ | decide) ?_ | refine two_t ?_ | refine two_f ?_ | refine two.intro (fun _ => ?_) (fun _ => ?_) | refine JL.nil ?_ | refine JC.seq ?_ | refine JC.block ?_ | refine JC.skip ?_ | refine JC.exit ?_ | refine JC.region ?_ | refine JC.cond rfl ?_ | refine And.intro (⟨Int.natCast_nonneg _, hmI, rfl⟩) ?_ | refine fSt_in ?_ | refine fAcc_in ?_ | fail))
          refine ev_none rfl rfl ?_
          refine JL.clear rfl rfl rfl rfl rfl rfl rfl rfl rfl rfl rfl rfl (by show m + ((rws ePair cur).length - m) = _; rw [rws_len]; omega) (by show 0 < (rws ePair cur).length - m; rw [rws_len]; omega) ?_
          (refine ev_run ?_; (repeat (first | refine And.intro (by first | exact trivial | exact rfl | exact ⟨trivial, rfl⟩ | exact ⟨trivial, trivial⟩ | exact ⟨rfl, rfl⟩ | exact ⟨rfl, Nat.le_of_ble_eq_true rfl⟩ | decide) ?_ | refine fSt_in ?_ | refine fAcc_in ?_)); refine JL.nil ?_)
          (repeat' (first | refine And.intro (by first | exact trivial | exact rfl | exact ⟨trivial, rfl⟩ | exact ⟨trivial, trivial⟩ | exact ⟨rfl, rfl⟩ | exact ⟨rfl, Nat.le_of_ble_eq_true rfl⟩ | decide) ?_ | refine two_t ?_ | refine two_f ?_ | refine two.intro (fun _ => ?_) (fun _ => ?_) | refine JL.nil ?_ | refine JC.seq ?_ | refine JC.block ?_ | refine JC.skip ?_ | refine JC.exit ?_ | refine JC.region ?_ | refine JC.cond rfl ?_ | refine fSt_in ?_ | refine fAcc_in ?_ | (refine JL.p0 rfl rfl rfl rfl rfl (Fit.refl _) (fun _ => rfl) (by first | exact find a 0) (fun _ => rfl) ?_; refine ev_run ?_) | fail))
          refine ev_none rfl rfl ?_
          refine JL.shrink (k := m) rfl rfl rfl rfl rfl rfl rfl rfl rfl (by simp [rws_len]; omega) ?_
          (refine ev_run ?_; (repeat (first | refine And.intro (by first | exact trivial | exact rfl | exact ⟨trivial, rfl⟩ | exact ⟨trivial, trivial⟩ | exact ⟨rfl, rfl⟩ | exact ⟨rfl, Nat.le_of_ble_eq_true rfl⟩ | decide) ?_ | refine fSt_in ?_ | refine fAcc_in ?_)); refine JL.nil ?_)
          (repeat' (first | refine And.intro (by first | exact trivial | exact rfl | exact ⟨trivial, rfl⟩ | exact ⟨trivial, trivial⟩ | exact ⟨rfl, rfl⟩ | exact ⟨rfl, Nat.le_of_ble_eq_true rfl⟩ | decide) ?_ | refine two_t ?_ | refine two_f ?_ | refine two.intro (fun _ => ?_) (fun _ => ?_) | refine JL.nil ?_ | refine JC.seq ?_ | refine JC.block ?_ | refine JC.skip ?_ | refine JC.exit ?_ | refine JC.region ?_ | refine JC.cond rfl ?_ | refine fSt_in ?_ | refine fAcc_in ?_ | (refine JL.p0 rfl rfl rfl rfl rfl (Fit.refl _) (fun _ => rfl) (by first | exact find a 0) (fun _ => rfl) ?_; refine ev_run ?_) | fail))
          exact JC.ret ⟨_, Le.drop (s' := ⟨[(2, Go.Fw.one (.base 0))], [(0, .row 80 2 (rws ePair (ddp xs)))], 1⟩) (by repeat (first | exact trivial | refine SlLe.same rfl ?_ | refine SlLe.int rfl (by first | exact wrap_succ (by assumption) (by assumption) | exact wrap_succ2 (by first | omega | (simp only []; omega))) ?_)) ⟨row_cut (by omega) i6 rfl, trivial⟩ (by simp only [hLt, O.lt, rws_lt]; rfl), And.intro (by repeat' (first | exact trivial | exact rfl | apply And.intro)) ⟨rfl, rfl, rfl⟩⟩
      · have hq : qPair (xs.getD k default) (xs.getD (k - 1) default) = false := hq
        have hqe : ¬ xs.getD (k - 1) default = xs.getD k default := by rw [qPair_eq] at hq; exact fun h => of_decide_eq_false hq h.symm
        rw [if_neg hqe, hdk] at hdt
        (repeat' (first | refine And.intro (by first | exact trivial | exact rfl | exact ⟨trivial, rfl⟩ | exact ⟨trivial, trivial⟩ | exact ⟨rfl, rfl⟩ | exact ⟨rfl, Nat.le_of_ble_eq_true rfl⟩ | decide) ?_ | refine two_t ?_ | refine two_f ?_ | refine two.intro (fun _ => ?_) (fun _ => ?_) | refine JL.nil ?_ | refine JC.seq ?_ | refine JC.block ?_ | refine JC.skip ?_ | refine JC.exit ?_ | refine JC.region ?_ | refine JC.cond rfl ?_ | refine fSt_in ?_ | refine fAcc_in ?_ | (refine JL.p0 rfl rfl rfl rfl rfl (Fit.refl _) (fun _ => rfl) (by first | exact find a 0) (fun _ => rfl) ?_; refine ev_run ?_) | fail))
        refine ⟨⟨k + 1, by omega, hlt, by rw [hdt, take_succ' hlt]⟩, by simp only; omega, (Le.drop (by repeat (first | exact trivial | refine SlLe.same rfl ?_ | refine SlLe.int rfl (by first | exact wrap_succ (by assumption) (by assumption) | exact wrap_succ2 (by first | omega | (simp only []; omega))) ?_)) (by repeat (first | exact trivial | refine ⟨rfl, ?_⟩ | refine ⟨row_kill rfl, ?_⟩ | refine ⟨row_snoc rfl, ?_⟩ | refine ⟨row_froz rfl, ?_⟩)) (by simp only [hLt, O.lt, rws_lt]; rfl))⟩
    · intro hge
      have hge : ¬ k < xs.length := by have h := of_decide_eq_false hge; rw [rws_len] at h; exact fun h' => h (Int.ofNat_lt.2 h')
      obtain rfl : k = xs.length := by omega
      rw [List.take_length] at hdk
      rw [hdk]
      (repeat' (first | refine And.intro (by first | exact trivial | exact rfl | exact ⟨trivial, rfl⟩ | exact ⟨trivial, trivial⟩ | exact ⟨rfl, rfl⟩ | exact ⟨rfl, Nat.le_of_ble_eq_true rfl⟩ | decide) ?_ | refine two_t ?_ | refine two_f ?_ | refine two.intro (fun _ => ?_) (fun _ => ?_) | refine JL.nil ?_ | refine JC.seq ?_ | refine JC.block ?_ | refine JC.skip ?_ | refine JC.exit ?_ | refine JC.region ?_ | refine JC.cond rfl ?_ | refine fSt_in ?_ | refine fAcc_in ?_ | (refine JL.p0 rfl rfl rfl rfl rfl (Fit.refl _) (fun _ => rfl) (by first | exact find a 0) (fun _ => rfl) ?_; refine ev_run ?_) | fail))
      exact JC.ret ⟨_, Le.drop (s' := ⟨[(2, Go.Fw.one (.base 0))], [(0, .row 80 2 (rws ePair xs))], 1⟩) (by repeat (first | exact trivial | refine SlLe.same rfl ?_ | refine SlLe.int rfl (by first | exact wrap_succ (by assumption) (by assumption) | exact wrap_succ2 (by first | omega | (simp only []; omega))) ?_)) (by repeat (first | exact trivial | refine ⟨rfl, ?_⟩ | refine ⟨row_kill rfl, ?_⟩ | refine ⟨row_snoc rfl, ?_⟩ | refine ⟨row_froz rfl, ?_⟩)) (by simp only [hLt, O.lt, rws_lt]; rfl), And.intro (by repeat' (first | exact trivial | exact rfl | apply And.intro)) ⟨rfl, rfl, rfl⟩⟩
end Go.Proofs.Ytlhfajmcnbcabaa

/- Lists put together. -/
import Derived.Test.YtlhfajmcnbcabaaA13
import Derived.Test.YtlhfajmcnbcabaaFwF
set_option linter.unusedVariables false
set_option linter.unusedSimpArgs false
namespace Go.Proofs.Ytlhfajmcnbcabaa
open Go Go.Fw
set_option maxRecDepth 100000
set_option maxHeartbeats 1000000

def nilS : SV := litS (.slice none 0 0)
def eLst {α : Type} [Inhabited α] (sz : Nat) (E : α → List T) (l : List α) : List T := [rowsOf sz E l]
theorem rws_app {α : Type} (E : α → List T) (xs ys : List α) : rws E (xs ++ ys) = rws E xs ++ rws E ys := by simp [rws]
theorem row_app {α : Type} {E : α → List T} {xs ys : List α} {id el sz : Nat} {L : List (List D)} (hL : L = (rws E xs ++ rws E ys).map (fun r => r.map (D.kill id))) : some (O.row el sz L) = some (O.row el sz (rws E (xs ++ ys))) := by
  rw [hL, ← rws_app, rws_kill]
theorem row_appR {α : Type} [Inhabited α] {E : α → List T} {xs ys : List α} {id el sz : Nat} {L : List (List D)} (hL : L = (rws E xs ++ (List.range ys.length).map (fun i => (E (ys.getD i default)).map D.data)).map (fun r => r.map (D.kill id))) : some (O.row el sz L) = some (O.row el sz (rws E (xs ++ ys))) := by
  rw [hL, rws_range, ← rws_app, rws_kill]
theorem app1' {α : Type} {E : α → List T} {xs : List α} {news : List (List D)} {b n : Nat} (B : Nat) (h : xs.length + n ≤ 1000000) (hn : news.length = n) (hb : b = B) (hB : B ≤ 1000) : ((rws E xs).length + news.length) * b ≤ big := by
  subst hb
  rw [rws_len, hn]
  refine Nat.le_trans (Nat.mul_le_mul h hB) ?_
  unfold big; omega
theorem app2' {α : Type} {E : α → List T} {xs : List α} {news : List (List D)} {n : Nat} (h : xs.length + n ≤ 1000000) (hn : news.length = n) : (rws E xs).length + news.length ≤ big := by
  rw [rws_len, hn]; unfold big; omega
def sumL {α : Type} (l : List (List α)) : Nat := (l.map List.length).foldl (· + ·) 0
theorem take_succ' {α : Type} [Inhabited α] {l : List α} {i : Nat} (h : i < l.length) : l.take (i + 1) = l.take i ++ [l.getD i default] := by
  rw [List.take_succ_eq_append_getElem h, List.getD_eq_getElem?_getD, List.getElem?_eq_getElem h]; rfl
theorem flat_take_len {α : Type} (l : List (List α)) (i : Nat) : (l.take i).flatten.length ≤ l.flatten.length := by
  have := congrArg List.length (congrArg List.flatten (List.take_append_drop i l))
  rw [List.flatten_append, List.length_append] at this
  omega
theorem growInt (n : Nat) (hn : n ≤ 1000000) : NewT cx 161 [nilS, s1 (tI n)] (Go.Fw.one (.base 0)) [(0, .row 3 1 [])] 1 := by
  refine Triple.run Try.func161 rfl rfl 27 Try.ntmps161 [.tmp 4] rfl rfl ?_
  have hw : IntKind.i64.wrap ((n : Int) - IntKind.i64.wrap (((0 : Nat) : Int) - ((0 : Nat) : Int))) = n := by
    rw [show IntKind.i64.wrap (((0 : Nat) : Int) - ((0 : Nat) : Int)) = 0 from rfl, wrap64 (by omega) (by omega)]; omega
  (repeat' (first | refine And.intro (by first | exact trivial | exact rfl | exact ⟨trivial, rfl⟩ | exact ⟨trivial, trivial⟩ | exact ⟨rfl, rfl⟩ | exact ⟨rfl, Nat.le_of_ble_eq_true rfl⟩ | decide) ?_ | refine two_t ?_ | refine two_f ?_ | refine two.intro (fun _ => ?_) (fun _ => ?_) | refine JL.nil ?_ | refine JC.seq ?_ | refine JC.block ?_ | refine JC.skip ?_ | refine JC.exit ?_ | refine JC.region ?_ | refine JC.cond rfl ?_ | refine fSt_in ?_ | refine fAcc_in ?_ | (refine JL.p0 rfl rfl rfl rfl rfl (Fit.refl _) (fun _ => rfl) (by first | exact find a 0) (fun _ => rfl) ?_; refine ev_run ?_) | fail))
  · rename_i h2
    have h2 : IntKind.i64.wrap ((n : Int) - IntKind.i64.wrap (((0 : Nat) : Int) - ((0 : Nat) : Int))) > 0 := of_decide_eq_true h2
    have h0 : 0 < n := by rw [hw] at h2; omega
    refine ev_none rfl rfl ?_
    refine JL.zeros (n := n) rfl rfl rfl rfl rfl rfl rfl rfl rfl rfl rfl ?_ h0 (by show n * 8 ≤ big; unfold big; omega) (by unfold big; omega) ?_
    · exact congrArg (fun z => some (litS (.int .i64 z))) hw
    (refine ev_run ?_; (repeat (first | refine And.intro (by first | exact trivial | exact rfl | exact ⟨trivial, rfl⟩ | exact ⟨trivial, trivial⟩ | exact ⟨rfl, rfl⟩ | exact ⟨rfl, Nat.le_of_ble_eq_true rfl⟩ | decide) ?_ | refine fSt_in ?_ | refine fAcc_in ?_)))
    refine ev_none rfl rfl ?_
    refine JL.shrink (k := 0) rfl rfl rfl rfl rfl rfl rfl rfl rfl (Nat.zero_le _) ?_
    (refine ev_run ?_; (repeat (first | refine And.intro (by first | exact trivial | exact rfl | exact ⟨trivial, rfl⟩ | exact ⟨trivial, trivial⟩ | exact ⟨rfl, rfl⟩ | exact ⟨rfl, Nat.le_of_ble_eq_true rfl⟩ | decide) ?_ | refine fSt_in ?_ | refine fAcc_in ?_)); refine JL.nil ?_)
    (repeat' (first | refine And.intro (by first | exact trivial | exact rfl | exact ⟨trivial, rfl⟩ | exact ⟨trivial, trivial⟩ | exact ⟨rfl, rfl⟩ | exact ⟨rfl, Nat.le_of_ble_eq_true rfl⟩ | decide) ?_ | refine two_t ?_ | refine two_f ?_ | refine two.intro (fun _ => ?_) (fun _ => ?_) | refine JL.nil ?_ | refine JC.seq ?_ | refine JC.block ?_ | refine JC.skip ?_ | refine JC.exit ?_ | refine JC.region ?_ | refine JC.cond rfl ?_ | refine fSt_in ?_ | refine fAcc_in ?_ | (refine JL.p0 rfl rfl rfl rfl rfl (Fit.refl _) (fun _ => rfl) (by first | exact find a 0) (fun _ => rfl) ?_; refine ev_run ?_) | fail))
    refine JC.ret ⟨_, Le.drop (s' := ⟨[(4, Go.Fw.one (.base 0))], [(0, .row 3 1 [])], 1⟩) (by repeat (first | exact trivial | refine SlLe.same rfl ?_ | refine SlLe.int rfl (by first | exact wrap_succ (by assumption) (by assumption) | exact wrap_succ2 (by first | omega | (simp only []; omega))) ?_)) (by repeat (first | exact trivial | refine ⟨rfl, ?_⟩ | refine ⟨row_kill rfl, ?_⟩ | refine ⟨row_snoc rfl, ?_⟩ | refine ⟨row_froz rfl, ?_⟩)) rfl, And.intro (by repeat' (first | exact trivial | exact rfl | apply And.intro)) ⟨rfl, rfl, rfl⟩⟩
  · (repeat' (first | refine And.intro (by first | exact trivial | exact rfl | exact ⟨trivial, rfl⟩ | exact ⟨trivial, trivial⟩ | exact ⟨rfl, rfl⟩ | exact ⟨rfl, Nat.le_of_ble_eq_true rfl⟩ | decide) ?_ | refine two_t ?_ | refine two_f ?_ | refine two.intro (fun _ => ?_) (fun _ => ?_) | refine JL.nil ?_ | refine JC.seq ?_ | refine JC.block ?_ | refine JC.skip ?_ | refine JC.exit ?_ | refine JC.region ?_ | refine JC.cond rfl ?_ | refine fSt_in ?_ | refine fAcc_in ?_ | (refine JL.p0 rfl rfl rfl rfl rfl (Fit.refl _) (fun _ => rfl) (by first | exact find a 0) (fun _ => rfl) ?_; refine ev_run ?_) | fail))
    refine JC.ret ⟨_, Le.trans (Le.nilrow 4 3 1 rfl) (Le.drop (s' := ⟨[(4, Go.Fw.one (.base 0))], [(0, .row 3 1 [])], 1⟩) (by repeat (first | exact trivial | refine SlLe.same rfl ?_ | refine SlLe.int rfl (by first | exact wrap_succ (by assumption) (by assumption) | exact wrap_succ2 (by first | omega | (simp only []; omega))) ?_)) (by repeat (first | exact trivial | refine ⟨rfl, ?_⟩ | refine ⟨row_kill rfl, ?_⟩ | refine ⟨row_snoc rfl, ?_⟩ | refine ⟨row_froz rfl, ?_⟩)) rfl), And.intro (by repeat' (first | exact trivial | exact rfl | apply And.intro)) ⟨rfl, rfl, rfl⟩⟩
theorem concatInt (xss : List (List Int)) (hl : xss.flatten.length ≤ 1000000) (hn : xss.length ≤ 1000) : NewT cx 126 [s1 (rowsOf 1 (eLst 1 eInt) xss)] (Go.Fw.one (.base 0)) [(0, .row 3 1 (rws eInt xss.flatten))] 1 := by
  refine Triple.run Try.func126 rfl rfl 36 Try.ntmps126 [.tmp 2] rfl rfl ?_
  (repeat' (first | refine And.intro (by first | exact trivial | exact rfl | exact ⟨trivial, rfl⟩ | exact ⟨trivial, trivial⟩ | exact ⟨rfl, rfl⟩ | exact ⟨rfl, Nat.le_of_ble_eq_true rfl⟩ | decide) ?_ | refine two_t ?_ | refine two_f ?_ | refine two.intro (fun _ => ?_) (fun _ => ?_) | refine JL.nil ?_ | refine JC.seq ?_ | refine JC.block ?_ | refine JC.skip ?_ | refine JC.exit ?_ | refine JC.region ?_ | refine JC.cond rfl ?_ | refine fSt_in ?_ | refine fAcc_in ?_ | (refine JL.p0 rfl rfl rfl rfl rfl (Fit.refl _) (fun _ => rfl) (by first | exact find a 0) (fun _ => rfl) ?_; refine ev_run ?_) | fail))
  have hbig : xss.length ≤ big := by unfold big; omega
  refine JC.loop (ι := { i : Nat // i ≤ xss.length }) (fun i => ⟨[(0, s1 (rowsOf 1 (eLst 1 eInt) xss)), (3, s1 (tI ((xss.take i.1).flatten.length : Nat))), (9, s1 (rowsOf 1 (eLst 1 eInt) xss)), (10, s1 (tI xss.length)), (11, s1 (tI i.1))], [], 0⟩) (fun i => xss.length - i.1) ⟨0, Nat.zero_le _⟩ (Le.drop (by repeat (first | exact trivial | refine SlLe.same rfl ?_ | refine SlLe.int rfl (by first | exact wrap_succ (by assumption) (by assumption) | exact wrap_succ2 (by first | omega | (simp only []; omega))) ?_)) (by repeat (first | exact trivial | refine ⟨rfl, ?_⟩)) rfl) ?_
  rintro ⟨i, hi⟩
  refine JC.seq ?_
  (repeat (first | refine JC.seq ?_ | refine JC.block ?_ | refine JC.skip ?_ | refine JC.exit ?_ | (refine JC.region ?_; (repeat (first | refine And.intro (by first | exact trivial | exact rfl | exact ⟨trivial, rfl⟩ | exact ⟨trivial, trivial⟩ | exact ⟨rfl, rfl⟩ | exact ⟨rfl, Nat.le_of_ble_eq_true rfl⟩ | decide) ?_ | refine fSt_in ?_ | refine fAcc_in ?_)); refine JL.nil ?_)))
  refine JC.cond rfl (two.intro ?_ ?_)
  · intro hlt
    have hlt : i < xss.length := by simpa using hlt
    have hs : (xss.take (i + 1)).flatten.length = (xss.take i).flatten.length + (xss.getD i default).length := by
      rw [take_succ' hlt, List.flatten_append, List.length_append]; simp
    have hs2 := flat_take_len xss (i + 1)
    have hw : IntKind.i64.wrap (((xss.take i).flatten.length : Nat) + ((xss.getD i default).length : Int)) = ((xss.take (i + 1)).flatten.length : Nat) := by
      rw [wrap64 (by omega) (by omega)]; omega
    (repeat' (first | refine And.intro (by first | exact trivial | exact rfl | exact ⟨trivial, rfl⟩ | exact ⟨trivial, trivial⟩ | exact ⟨rfl, rfl⟩ | exact ⟨rfl, Nat.le_of_ble_eq_true rfl⟩ | decide) ?_ | refine two_t ?_ | refine two_f ?_ | refine two.intro (fun _ => ?_) (fun _ => ?_) | refine JL.nil ?_ | refine JC.seq ?_ | refine JC.block ?_ | refine JC.skip ?_ | refine JC.exit ?_ | refine JC.region ?_ | refine JC.cond rfl ?_ | refine And.intro (⟨Int.natCast_nonneg _, Int.ofNat_lt.2 hlt, rfl⟩) ?_ | refine fSt_in ?_ | refine fAcc_in ?_ | fail))
    · rename_i h
      exfalso
      have h : IntKind.i64.wrap (((xss.take i).flatten.length : Nat) + ((xss.getD i default).length : Int)) < 0 := of_decide_eq_true h
      omega
    · refine ⟨⟨i + 1, hlt⟩, by simp only; omega, ?_⟩
      exact Le.drop (by repeat (first | exact trivial | refine SlLe.same rfl ?_ | refine SlLe.int rfl hw ?_ | refine SlLe.int rfl (wrap_succ hbig hlt) ?_)) trivial rfl
  · intro hge
    have hge : ¬ i < xss.length := by simpa using hge
    obtain rfl : i = xss.length := by omega
    have htl : (xss.take xss.length).flatten.length = xss.flatten.length := by rw [List.take_length]
    (repeat' (first | refine And.intro (by first | exact trivial | exact rfl | exact ⟨trivial, rfl⟩ | exact ⟨trivial, trivial⟩ | exact ⟨rfl, rfl⟩ | exact ⟨rfl, Nat.le_of_ble_eq_true rfl⟩ | decide) ?_ | refine two_t ?_ | refine two_f ?_ | refine two.intro (fun _ => ?_) (fun _ => ?_) | refine JL.nil ?_ | refine JC.seq ?_ | refine JC.block ?_ | refine JC.skip ?_ | refine JC.exit ?_ | refine JC.region ?_ | refine JC.cond rfl ?_ | refine fSt_in ?_ | refine fAcc_in ?_ | (refine JL.nw2 (h1' := [(0, .row 3 1 [])]) rfl rfl rfl rfl rfl (Fit.refl _) (fun _ => rfl) (growInt _ (by rw [htl]; exact hl)) rfl rfl ?_; refine ev_run ?_) | fail))
    refine JC.loop (ι := { i : Nat // i ≤ xss.length }) (fun i => ⟨[(6, Go.Fw.one (.base 0)), (25, s1 (rowsOf 1 (eLst 1 eInt) xss)), (26, s1 (tI xss.length)), (27, s1 (tI i.1))], [(0, .row 3 1 (rws eInt (xss.take i.1).flatten))], 1⟩) (fun i => xss.length - i.1) ⟨0, Nat.zero_le _⟩ (Le.drop (by repeat (first | exact trivial | refine SlLe.same rfl ?_ | refine SlLe.int rfl (by first | exact wrap_succ (by assumption) (by assumption) | exact wrap_succ2 (by first | omega | (simp only []; omega))) ?_)) (by repeat (first | exact trivial | refine ⟨rfl, ?_⟩ | refine ⟨row_kill rfl, ?_⟩ | refine ⟨row_snoc rfl, ?_⟩ | refine ⟨row_froz rfl, ?_⟩)) (by simp only [hLt, O.lt, rws_lt]; rfl)) ?_
    rintro ⟨i, hi⟩
    refine JC.seq ?_
    (repeat (first | refine JC.seq ?_ | refine JC.block ?_ | refine JC.skip ?_ | refine JC.exit ?_ | (refine JC.region ?_; (repeat (first | refine And.intro (by first | exact trivial | exact rfl | exact ⟨trivial, rfl⟩ | exact ⟨trivial, trivial⟩ | exact ⟨rfl, rfl⟩ | exact ⟨rfl, Nat.le_of_ble_eq_true rfl⟩ | decide) ?_ | refine fSt_in ?_ | refine fAcc_in ?_)); refine JL.nil ?_)))
    refine JC.cond rfl (two.intro ?_ ?_)
    · intro hlt
      have hlt : i < xss.length := by simpa using hlt
      have hs := take_succ' hlt
      have hs2 := flat_take_len xss (i + 1)
      rw [hs, List.flatten_append, List.length_append] at hs2
      have hs3 : (xss.take i).flatten.length + (xss.getD i default).length ≤ 1000000 := by rw [List.flatten_cons, List.flatten_nil, List.append_nil] at hs2; omega
      (repeat' (first | refine And.intro (by first | exact trivial | exact rfl | exact ⟨trivial, rfl⟩ | exact ⟨trivial, trivial⟩ | exact ⟨rfl, rfl⟩ | exact ⟨rfl, Nat.le_of_ble_eq_true rfl⟩ | decide) ?_ | refine two_t ?_ | refine two_f ?_ | refine two.intro (fun _ => ?_) (fun _ => ?_) | refine JL.nil ?_ | refine JC.seq ?_ | refine JC.block ?_ | refine JC.skip ?_ | refine JC.exit ?_ | refine JC.region ?_ | refine JC.cond rfl ?_ | refine And.intro (⟨Int.natCast_nonneg _, Int.ofNat_lt.2 hlt, rfl⟩) ?_ | refine And.intro (⟨⟨rfl, fun i _ => rfl⟩, rfl, rfl, rfl, app1' 8 hs3 (by simp) rfl (by decide), app2' hs3 (by simp)⟩) ?_ | refine fSt_in ?_ | refine fAcc_in ?_ | fail))
      refine ⟨⟨i + 1, hlt⟩, by simp only; omega, ?_⟩
      rw [hs, List.flatten_append, show [xss.getD i default].flatten = xss.getD i default from by simp]
      exact Le.drop (by repeat (first | exact trivial | refine SlLe.same rfl ?_ | refine SlLe.int rfl (by first | exact wrap_succ (by assumption) (by assumption) | exact wrap_succ2 (by first | omega | (simp only []; omega))) ?_)) ⟨row_appR rfl, trivial⟩ (by simp only [hLt, O.lt, rws_lt]; rfl)
    · intro hge
      have hge : ¬ i < xss.length := by simpa using hge
      obtain rfl : i = xss.length := by omega
      (repeat' (first | refine And.intro (by first | exact trivial | exact rfl | exact ⟨trivial, rfl⟩ | exact ⟨trivial, trivial⟩ | exact ⟨rfl, rfl⟩ | exact ⟨rfl, Nat.le_of_ble_eq_true rfl⟩ | decide) ?_ | refine two_t ?_ | refine two_f ?_ | refine two.intro (fun _ => ?_) (fun _ => ?_) | refine JL.nil ?_ | refine JC.seq ?_ | refine JC.block ?_ | refine JC.skip ?_ | refine JC.exit ?_ | refine JC.region ?_ | refine JC.cond rfl ?_ | refine fSt_in ?_ | refine fAcc_in ?_ | (refine JL.p0 rfl rfl rfl rfl rfl (Fit.refl _) (fun _ => rfl) (by first | exact find a 0) (fun _ => rfl) ?_; refine ev_run ?_) | fail))
      refine JC.ret ⟨_, Le.drop (s' := ⟨[(2, Go.Fw.one (.base 0))], [(0, .row 3 1 (rws eInt (xss.take xss.length).flatten))], 1⟩) (by repeat (first | exact trivial | refine SlLe.same rfl ?_ | refine SlLe.int rfl (by first | exact wrap_succ (by assumption) (by assumption) | exact wrap_succ2 (by first | omega | (simp only []; omega))) ?_)) (by repeat (first | exact trivial | refine ⟨rfl, ?_⟩ | refine ⟨row_kill rfl, ?_⟩ | refine ⟨row_snoc rfl, ?_⟩ | refine ⟨row_froz rfl, ?_⟩)) (by simp only [hLt, O.lt, rws_lt]; rfl), And.intro (by repeat' (first | exact trivial | exact rfl | apply And.intro)) ⟨rfl, ?_, rfl⟩⟩
      show [(0, O.row 3 1 (rws eInt (xss.take xss.length).flatten))] = _
      rw [List.take_length]
theorem growIntP (n : Nat) (hn : n ≤ 1000000) : NewT cx 163 [nilS, s1 (tI n)] (Go.Fw.one (.base 0)) [(0, .row 80 2 [])] 1 := by
  refine Triple.run Try.func163 rfl rfl 27 Try.ntmps163 [.tmp 4] rfl rfl ?_
  have hw : IntKind.i64.wrap ((n : Int) - IntKind.i64.wrap (((0 : Nat) : Int) - ((0 : Nat) : Int))) = n := by
    rw [show IntKind.i64.wrap (((0 : Nat) : Int) - ((0 : Nat) : Int)) = 0 from rfl, wrap64 (by omega) (by omega)]; omega
  (repeat' (first | refine And.intro (by first | exact trivial | exact rfl | exact ⟨trivial, rfl⟩ | exact ⟨trivial, trivial⟩ | exact ⟨rfl, rfl⟩ | exact ⟨rfl, Nat.le_of_ble_eq_true rfl⟩ | decide) ?_ | refine two_t ?_ | refine two_f ?_ | refine two.intro (fun _ => ?_) (fun _ => ?_) | refine JL.nil ?_ | refine JC.seq ?_ | refine JC.block ?_ | refine JC.skip ?_ | refine JC.exit ?_ | refine JC.region ?_ | refine JC.cond rfl ?_ | refine fSt_in ?_ | refine fAcc_in ?_ | (refine JL.p0 rfl rfl rfl rfl rfl (Fit.refl _) (fun _ => rfl) (by first | exact find a 0) (fun _ => rfl) ?_; refine ev_run ?_) | fail))
  · rename_i h2
    have h2 : IntKind.i64.wrap ((n : Int) - IntKind.i64.wrap (((0 : Nat) : Int) - ((0 : Nat) : Int))) > 0 := of_decide_eq_true h2
    have h0 : 0 < n := by rw [hw] at h2; omega
    refine ev_none rfl rfl ?_
    refine JL.zeros (n := n) rfl rfl rfl rfl rfl rfl rfl rfl rfl rfl rfl ?_ h0 (by show n * 16 ≤ big; unfold big; omega) (by unfold big; omega) ?_
    · exact congrArg (fun z => some (litS (.int .i64 z))) hw
    (refine ev_run ?_; (repeat (first | refine And.intro (by first | exact trivial | exact rfl | exact ⟨trivial, rfl⟩ | exact ⟨trivial, trivial⟩ | exact ⟨rfl, rfl⟩ | exact ⟨rfl, Nat.le_of_ble_eq_true rfl⟩ | decide) ?_ | refine fSt_in ?_ | refine fAcc_in ?_)))
    refine ev_none rfl rfl ?_
    refine JL.shrink (k := 0) rfl rfl rfl rfl rfl rfl rfl rfl rfl (Nat.zero_le _) ?_
    (refine ev_run ?_; (repeat (first | refine And.intro (by first | exact trivial | exact rfl | exact ⟨trivial, rfl⟩ | exact ⟨trivial, trivial⟩ | exact ⟨rfl, rfl⟩ | exact ⟨rfl, Nat.le_of_ble_eq_true rfl⟩ | decide) ?_ | refine fSt_in ?_ | refine fAcc_in ?_)); refine JL.nil ?_)
    (repeat' (first | refine And.intro (by first | exact trivial | exact rfl | exact ⟨trivial, rfl⟩ | exact ⟨trivial, trivial⟩ | exact ⟨rfl, rfl⟩ | exact ⟨rfl, Nat.le_of_ble_eq_true rfl⟩ | decide) ?_ | refine two_t ?_ | refine two_f ?_ | refine two.intro (fun _ => ?_) (fun _ => ?_) | refine JL.nil ?_ | refine JC.seq ?_ | refine JC.block ?_ | refine JC.skip ?_ | refine JC.exit ?_ | refine JC.region ?_ | refine JC.cond rfl ?_ | refine fSt_in ?_ | refine fAcc_in ?_ | (refine JL.p0 rfl rfl rfl rfl rfl (Fit.refl _) (fun _ => rfl) (by first | exact find a 0) (fun _ => rfl) ?_; refine ev_run ?_) | fail))
    refine JC.ret ⟨_, Le.drop (s' := ⟨[(4, Go.Fw.one (.base 0))], [(0, .row 80 2 [])], 1⟩) (by repeat (first | exact trivial | refine SlLe.same rfl ?_ | refine SlLe.int rfl (by first | exact wrap_succ (by assumption) (by assumption) | exact wrap_succ2 (by first | omega | (simp only []; omega))) ?_)) (by repeat (first | exact trivial | refine ⟨rfl, ?_⟩ | refine ⟨row_kill rfl, ?_⟩ | refine ⟨row_snoc rfl, ?_⟩ | refine ⟨row_froz rfl, ?_⟩)) rfl, And.intro (by repeat' (first | exact trivial | exact rfl | apply And.intro)) ⟨rfl, rfl, rfl⟩⟩
  · (repeat' (first | refine And.intro (by first | exact trivial | exact rfl | exact ⟨trivial, rfl⟩ | exact ⟨trivial, trivial⟩ | exact ⟨rfl, rfl⟩ | exact ⟨rfl, Nat.le_of_ble_eq_true rfl⟩ | decide) ?_ | refine two_t ?_ | refine two_f ?_ | refine two.intro (fun _ => ?_) (fun _ => ?_) | refine JL.nil ?_ | refine JC.seq ?_ | refine JC.block ?_ | refine JC.skip ?_ | refine JC.exit ?_ | refine JC.region ?_ | refine JC.cond rfl ?_ | refine fSt_in ?_ | refine fAcc_in ?_ | (refine JL.p0 rfl rfl rfl rfl rfl (Fit.refl _) (fun _ => rfl) (by first | exact find a 0) (fun _ => rfl) ?_; refine ev_run ?_) | fail))
    refine JC.ret ⟨_, Le.trans (Le.nilrow 4 80 2 rfl) (Le.drop (s' := ⟨[(4, Go.Fw.one (.base 0))], [(0, .row 80 2 [])], 1⟩) (by repeat (first | exact trivial | refine SlLe.same rfl ?_ | refine SlLe.int rfl (by first | exact wrap_succ (by assumption) (by assumption) | exact wrap_succ2 (by first | omega | (simp only []; omega))) ?_)) (by repeat (first | exact trivial | refine ⟨rfl, ?_⟩ | refine ⟨row_kill rfl, ?_⟩ | refine ⟨row_snoc rfl, ?_⟩ | refine ⟨row_froz rfl, ?_⟩)) rfl), And.intro (by repeat' (first | exact trivial | exact rfl | apply And.intro)) ⟨rfl, rfl, rfl⟩⟩
theorem concatIntP (xss : List (List IntP)) (hl : xss.flatten.length ≤ 1000000) (hn : xss.length ≤ 1000) : NewT cx 130 [s1 (rowsOf 1 (eLst 2 ePair) xss)] (Go.Fw.one (.base 0)) [(0, .row 80 2 (rws ePair xss.flatten))] 1 := by
  refine Triple.run Try.func130 rfl rfl 36 Try.ntmps130 [.tmp 2] rfl rfl ?_
  (repeat' (first | refine And.intro (by first | exact trivial | exact rfl | exact ⟨trivial, rfl⟩ | exact ⟨trivial, trivial⟩ | exact ⟨rfl, rfl⟩ | exact ⟨rfl, Nat.le_of_ble_eq_true rfl⟩ | decide) ?_ | refine two_t ?_ | refine two_f ?_ | refine two.intro (fun _ => ?_) (fun _ => ?_) | refine JL.nil ?_ | refine JC.seq ?_ | refine JC.block ?_ | refine JC.skip ?_ | refine JC.exit ?_ | refine JC.region ?_ | refine JC.cond rfl ?_ | refine fSt_in ?_ | refine fAcc_in ?_ | (refine JL.p0 rfl rfl rfl rfl rfl (Fit.refl _) (fun _ => rfl) (by first | exact find a 0) (fun _ => rfl) ?_; refine ev_run ?_) | fail))
  have hbig : xss.length ≤ big := by unfold big; omega
  refine JC.loop (ι := { i : Nat // i ≤ xss.length }) (fun i => ⟨[(0, s1 (rowsOf 1 (eLst 2 ePair) xss)), (3, s1 (tI ((xss.take i.1).flatten.length : Nat))), (9, s1 (rowsOf 1 (eLst 2 ePair) xss)), (10, s1 (tI xss.length)), (11, s1 (tI i.1))], [], 0⟩) (fun i => xss.length - i.1) ⟨0, Nat.zero_le _⟩ (Le.drop (by repeat (first | exact trivial | refine SlLe.same rfl ?_ | refine SlLe.int rfl (by first | exact wrap_succ (by assumption) (by assumption) | exact wrap_succ2 (by first | omega | (simp only []; omega))) ?_)) (by repeat (first | exact trivial | refine ⟨rfl, ?_⟩)) rfl) ?_
  rintro ⟨i, hi⟩
  refine JC.seq ?_
  (repeat (first | refine JC.seq ?_ | refine JC.block ?_ | refine JC.skip ?_ | refine JC.exit ?_ | (refine JC.region ?_; (repeat (first | refine And.intro (by first | exact trivial | exact rfl | exact ⟨trivial, rfl⟩ | exact ⟨trivial, trivial⟩ | exact ⟨rfl, rfl⟩ | exact ⟨rfl, Nat.le_of_ble_eq_true rfl⟩ | decide) ?_ | refine fSt_in ?_ | refine fAcc_in ?_)); refine JL.nil ?_)))
  refine JC.cond rfl (two.intro ?_ ?_)
  · intro hlt
    have hlt : i < xss.length := by simpa using hlt
    have hs : (xss.take (i + 1)).flatten.length = (xss.take i).flatten.length + (xss.getD i default).length := by
      rw [take_succ' hlt, List.flatten_append, List.length_append]; simp
    have hs2 := flat_take_len xss (i + 1)
    have hw : IntKind.i64.wrap (((xss.take i).flatten.length : Nat) + ((xss.getD i default).length : Int)) = ((xss.take (i + 1)).flatten.length : Nat) := by
      rw [wrap64 (by omega) (by omega)]; omega
    (repeat' (first | refine And.intro (by first | exact trivial | exact rfl | exact ⟨trivial, rfl⟩ | exact ⟨trivial, trivial⟩ | exact ⟨rfl, rfl⟩ | exact ⟨rfl, Nat.le_of_ble_eq_true rfl⟩ | decide) ?_ | refine two_t ?_ | refine two_f ?_ | refine two.intro (fun _ => ?_) (fun _ => ?_) | refine JL.nil ?_ | refine JC.seq ?_ | refine JC.block ?_ | refine JC.skip ?_ | refine JC.exit ?_ | refine JC.region ?_ | refine JC.cond rfl ?_ | refine And.intro (⟨Int.natCast_nonneg _, Int.ofNat_lt.2 hlt, rfl⟩) ?_ | refine fSt_in ?_ | refine fAcc_in ?_ | fail))
    · rename_i h
      exfalso
      have h : IntKind.i64.wrap (((xss.take i).flatten.length : Nat) + ((xss.getD i default).length : Int)) < 0 := of_decide_eq_true h
      omega
    · refine ⟨⟨i + 1, hlt⟩, by simp only; omega, ?_⟩
      exact Le.drop (by repeat (first | exact trivial | refine SlLe.same rfl ?_ | refine SlLe.int rfl hw ?_ | refine SlLe.int rfl (wrap_succ hbig hlt) ?_)) trivial rfl
  · intro hge
    have hge : ¬ i < xss.length := by simpa using hge
    obtain rfl : i = xss.length := by omega
    have htl : (xss.take xss.length).flatten.length = xss.flatten.length := by rw [List.take_length]
    (repeat' (first | refine And.intro (by first | exact trivial | exact rfl | exact ⟨trivial, rfl⟩ | exact ⟨trivial, trivial⟩ | exact ⟨rfl, rfl⟩ | exact ⟨rfl, Nat.le_of_ble_eq_true rfl⟩ | decide) ?_ | refine two_t ?_ | refine two_f ?_ | refine two.intro (fun _ => ?_) (fun _ => ?_) | refine JL.nil ?_ | refine JC.seq ?_ | refine JC.block ?_ | refine JC.skip ?_ | refine JC.exit ?_ | refine JC.region ?_ | refine JC.cond rfl ?_ | refine fSt_in ?_ | refine fAcc_in ?_ | (refine JL.nw2 (h1' := [(0, .row 80 2 [])]) rfl rfl rfl rfl rfl (Fit.refl _) (fun _ => rfl) (growIntP _ (by rw [htl]; exact hl)) rfl rfl ?_; refine ev_run ?_) | fail))
    refine JC.loop (ι := { i : Nat // i ≤ xss.length }) (fun i => ⟨[(6, Go.Fw.one (.base 0)), (25, s1 (rowsOf 1 (eLst 2 ePair) xss)), (26, s1 (tI xss.length)), (27, s1 (tI i.1))], [(0, .row 80 2 (rws ePair (xss.take i.1).flatten))], 1⟩) (fun i => xss.length - i.1) ⟨0, Nat.zero_le _⟩ (Le.drop (by repeat (first | exact trivial | refine SlLe.same rfl ?_ | refine SlLe.int rfl (by first | exact wrap_succ (by assumption) (by assumption) | exact wrap_succ2 (by first | omega | (simp only []; omega))) ?_)) (by repeat (first | exact trivial | refine ⟨rfl, ?_⟩ | refine ⟨row_kill rfl, ?_⟩ | refine ⟨row_snoc rfl, ?_⟩ | refine ⟨row_froz rfl, ?_⟩)) (by simp only [hLt, O.lt, rws_lt]; rfl)) ?_
    rintro ⟨i, hi⟩
    refine JC.seq ?_
    (repeat (first | refine JC.seq ?_ | refine JC.block ?_ | refine JC.skip ?_ | refine JC.exit ?_ | (refine JC.region ?_; (repeat (first | refine And.intro (by first | exact trivial | exact rfl | exact ⟨trivial, rfl⟩ | exact ⟨trivial, trivial⟩ | exact ⟨rfl, rfl⟩ | exact ⟨rfl, Nat.le_of_ble_eq_true rfl⟩ | decide) ?_ | refine fSt_in ?_ | refine fAcc_in ?_)); refine JL.nil ?_)))
    refine JC.cond rfl (two.intro ?_ ?_)
    · intro hlt
      have hlt : i < xss.length := by simpa using hlt
      have hs := take_succ' hlt
      have hs2 := flat_take_len xss (i + 1)
      rw [hs, List.flatten_append, List.length_append] at hs2
      have hs3 : (xss.take i).flatten.length + (xss.getD i default).length ≤ 1000000 := by rw [List.flatten_cons, List.flatten_nil, List.append_nil] at hs2; omega
      (repeat' (first | refine And.intro (by first | exact trivial | exact rfl | exact ⟨trivial, rfl⟩ | exact ⟨trivial, trivial⟩ | exact ⟨rfl, rfl⟩ | exact ⟨rfl, Nat.le_of_ble_eq_true rfl⟩ | decide) ?_ | refine two_t ?_ | refine two_f ?_ | refine two.intro (fun _ => ?_) (fun _ => ?_) | refine JL.nil ?_ | refine JC.seq ?_ | refine JC.block ?_ | refine JC.skip ?_ | refine JC.exit ?_ | refine JC.region ?_ | refine JC.cond rfl ?_ | refine And.intro (⟨Int.natCast_nonneg _, Int.ofNat_lt.2 hlt, rfl⟩) ?_ | refine And.intro (⟨⟨rfl, fun i _ => rfl⟩, rfl, rfl, rfl, app1' 16 hs3 (by simp) rfl (by decide), app2' hs3 (by simp)⟩) ?_ | refine fSt_in ?_ | refine fAcc_in ?_ | fail))
      refine ⟨⟨i + 1, hlt⟩, by simp only; omega, ?_⟩
      rw [hs, List.flatten_append, show [xss.getD i default].flatten = xss.getD i default from by simp]
      exact Le.drop (by repeat (first | exact trivial | refine SlLe.same rfl ?_ | refine SlLe.int rfl (by first | exact wrap_succ (by assumption) (by assumption) | exact wrap_succ2 (by first | omega | (simp only []; omega))) ?_)) ⟨row_appR rfl, trivial⟩ (by simp only [hLt, O.lt, rws_lt]; rfl)
    · intro hge
      have hge : ¬ i < xss.length := by simpa using hge
      obtain rfl : i = xss.length := by omega
      (repeat' (first | refine And.intro (by first | exact trivial | exact rfl | exact ⟨trivial, rfl⟩ | exact ⟨trivial, trivial⟩ | exact ⟨rfl, rfl⟩ | exact ⟨rfl, Nat.le_of_ble_eq_true rfl⟩ | decide) ?_ | refine two_t ?_ | refine two_f ?_ | refine two.intro (fun _ => ?_) (fun _ => ?_) | refine JL.nil ?_ | refine JC.seq ?_ | refine JC.block ?_ | refine JC.skip ?_ | refine JC.exit ?_ | refine JC.region ?_ | refine JC.cond rfl ?_ | refine fSt_in ?_ | refine fAcc_in ?_ | (refine JL.p0 rfl rfl rfl rfl rfl (Fit.refl _) (fun _ => rfl) (by first | exact find a 0) (fun _ => rfl) ?_; refine ev_run ?_) | fail))
      refine JC.ret ⟨_, Le.drop (s' := ⟨[(2, Go.Fw.one (.base 0))], [(0, .row 80 2 (rws ePair (xss.take xss.length).flatten))], 1⟩) (by repeat (first | exact trivial | refine SlLe.same rfl ?_ | refine SlLe.int rfl (by first | exact wrap_succ (by assumption) (by assumption) | exact wrap_succ2 (by first | omega | (simp only []; omega))) ?_)) (by repeat (first | exact trivial | refine ⟨rfl, ?_⟩ | refine ⟨row_kill rfl, ?_⟩ | refine ⟨row_snoc rfl, ?_⟩ | refine ⟨row_froz rfl, ?_⟩)) (by simp only [hLt, O.lt, rws_lt]; rfl), And.intro (by repeat' (first | exact trivial | exact rfl | apply And.intro)) ⟨rfl, ?_, rfl⟩⟩
      show [(0, O.row 80 2 (rws ePair (xss.take xss.length).flatten))] = _
      rw [List.take_length]
end Go.Proofs.Ytlhfajmcnbcabaa

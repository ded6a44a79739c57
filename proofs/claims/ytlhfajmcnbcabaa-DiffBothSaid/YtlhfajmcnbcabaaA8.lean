/- Copies. -/
import Derived.Test.YtlhfajmcnbcabaaA7
import Derived.Test.YtlhfajmcnbcabaaFwE
set_option linter.unusedVariables false
set_option linter.unusedSimpArgs false
namespace Go.Proofs.Ytlhfajmcnbcabaa
open Go Go.Fw
set_option maxRecDepth 100000

/-- A list's elements as rows of one's own. -/
def rws {α : Type} (E : α → List T) (xs : List α) : List (List D) := xs.map fun x => (E x).map .data
theorem dat_map : ∀ l : List T, dat l = l.map .data
  | [] => rfl
  | _ :: r => by rw [dat, dat_map r]; rfl
theorem rws_len {α : Type} (E : α → List T) (xs : List α) : (rws E xs).length = xs.length := by simp [rws]
theorem rws_at {α : Type} [Inhabited α] (E : α → List T) {xs : List α} {i : Nat} (h : i < xs.length) : (rws E xs)[i]? = some ((E (xs.getD i default)).map .data) := by
  simp [rws, List.getD_eq_getElem?_getD, List.getElem?_eq_getElem h]
theorem rws_range {α : Type} [Inhabited α] (E : α → List T) (xs : List α) : (List.range xs.length).map (fun i => (E (xs.getD i default)).map D.data) = rws E xs := by
  refine List.ext_getElem? fun i => ?_
  rw [List.getElem?_map, rws, List.getElem?_map]
  by_cases h : i < xs.length
  · simp [List.getElem?_range h, List.getD_eq_getElem?_getD, List.getElem?_eq_getElem h]
  · rw [List.getElem?_eq_none (by simp; omega), List.getElem?_eq_none (by omega)]; rfl
theorem rws_kill {α : Type} (E : α → List T) (xs : List α) (id : Nat) : (rws E xs).map (fun r => r.map (D.kill id)) = rws E xs := by
  simp only [rws, List.map_map, Function.comp_def]
  rfl
theorem rws_ren {α : Type} (E : α → List T) (xs : List α) (ρ : Nat → Nat) : (rws E xs).map (fun r => r.map (D.ren ρ)) = rws E xs := by
  simp only [rws, List.map_map, Function.comp_def]
  rfl
theorem dsLt_data (n : Nat) : ∀ l : List T, dsLt n (l.map .data) = true
  | [] => rfl
  | _ :: r => by rw [List.map_cons, dsLt, dsLt_data n r]; rfl
theorem rws_lt {α : Type} (E : α → List T) (xs : List α) (n : Nat) : (rws E xs).all (dsLt n) = true := by
  rw [List.all_eq_true]
  intro r hr
  obtain ⟨x, _, rfl⟩ := List.mem_map.1 hr
  exact dsLt_data n _
/-- Few enough to be copied. -/
def small {α : Type} (xs : List α) : Prop := xs.length ≤ 1000000
theorem cloneInt (xs : List Int) (hs : small xs) : NewT cx 42 [s1 (rowsOf 1 eInt xs)] (Go.Fw.one (.base 0)) [(0, .row 3 1 (rws eInt xs))] 1 := by
  unfold small at hs
  refine Triple.run Try.func42 rfl rfl 8 Try.ntmps42 [.tmp 2] rfl rfl ?_
  (repeat (first | refine JC.seq ?_ | refine JC.block ?_ | refine JC.skip ?_ | refine JC.exit ?_ | (refine JC.region ?_; (repeat (first | refine And.intro (by first | exact trivial | exact rfl | exact ⟨trivial, rfl⟩ | exact ⟨trivial, trivial⟩ | exact ⟨rfl, rfl⟩ | exact ⟨rfl, Nat.le_of_ble_eq_true rfl⟩ | decide) ?_ | refine fSt_in ?_ | refine fAcc_in ?_)); refine JL.nil ?_)))
  (refine JC.region ?_; (repeat (first | refine And.intro (by first | exact trivial | exact rfl | exact ⟨trivial, rfl⟩ | exact ⟨trivial, trivial⟩ | exact ⟨rfl, rfl⟩ | exact ⟨rfl, Nat.le_of_ble_eq_true rfl⟩ | decide) ?_ | refine fSt_in ?_ | refine fAcc_in ?_)))
  refine JL.eqNil rfl rfl rfl rfl rfl rfl rfl (fun b hb => JL.nil ?_)
  refine JC.cond rfl (two.intro ?_ ?_)
  · intro ht
    have h0 := hb ht
    obtain rfl : xs = [] := List.eq_nil_of_length_eq_zero h0
    (repeat (first | refine JC.seq ?_ | refine JC.block ?_ | refine JC.skip ?_ | refine JC.exit ?_ | (refine JC.region ?_; (repeat (first | refine And.intro (by first | exact trivial | exact rfl | exact ⟨trivial, rfl⟩ | exact ⟨trivial, trivial⟩ | exact ⟨rfl, rfl⟩ | exact ⟨rfl, Nat.le_of_ble_eq_true rfl⟩ | decide) ?_ | refine fSt_in ?_ | refine fAcc_in ?_)); refine JL.nil ?_)))
    refine JC.ret ⟨_, Le.trans (Le.nilrow 2 3 1 rfl) (Le.drop (s' := ⟨[(2, Go.Fw.one (.base 0))], [(0, .row 3 1 [])], 1⟩) (by repeat (first | exact trivial | refine SlLe.same rfl ?_)) (by exact ⟨rfl, trivial⟩) rfl), And.intro (by repeat' (first | exact trivial | exact rfl | apply And.intro)) ?_⟩
    exact ⟨rfl, rfl, rfl⟩
  · intro _
    (repeat (first | refine JC.seq ?_ | refine JC.block ?_ | refine JC.skip ?_ | refine JC.exit ?_ | (refine JC.region ?_; (repeat (first | refine And.intro (by first | exact trivial | exact rfl | exact ⟨trivial, rfl⟩ | exact ⟨trivial, trivial⟩ | exact ⟨rfl, rfl⟩ | exact ⟨rfl, Nat.le_of_ble_eq_true rfl⟩ | decide) ?_ | refine fSt_in ?_ | refine fAcc_in ?_)); refine JL.nil ?_)))
    (refine JC.region ?_; (repeat (first | refine And.intro (by first | exact trivial | exact rfl | exact ⟨trivial, rfl⟩ | exact ⟨trivial, trivial⟩ | exact ⟨rfl, rfl⟩ | exact ⟨rfl, Nat.le_of_ble_eq_true rfl⟩ | decide) ?_ | refine fSt_in ?_ | refine fAcc_in ?_)))
    refine And.intro ⟨⟨rfl, fun i _ => rfl⟩, rfl, rfl, rfl, by simp [big]; omega, by simp [big]; omega⟩ ?_
    (repeat (first | refine And.intro (by first | exact trivial | exact rfl | exact ⟨trivial, rfl⟩ | exact ⟨trivial, trivial⟩ | exact ⟨rfl, rfl⟩ | exact ⟨rfl, Nat.le_of_ble_eq_true rfl⟩ | decide) ?_ | refine fSt_in ?_ | refine fAcc_in ?_))
    refine JL.nil ?_
    refine JC.ret ⟨⟨[(2, Go.Fw.one (.base 0))], [(0, .row 3 1 (rws eInt xs))], 1⟩, Le.drop (by repeat (first | exact trivial | refine SlLe.same rfl ?_)) ⟨?_, trivial⟩ (by simp only [hLt, O.lt, rws_lt]; rfl), And.intro (by repeat' (first | exact trivial | exact rfl | apply And.intro)) ⟨rfl, rfl, rfl⟩⟩
    show some (O.row 3 1 ((([] : List (List D)) ++ (List.range xs.length).map (fun i => (eInt (xs.getD i default)).map D.data)).map (fun r => r.map (D.kill 0)))) = _
    rw [List.nil_append, rws_range, rws_kill]
theorem copyInt (xs : List Int) (hs : small xs) : PureT cx 42 [s1 (rowsOf 1 eInt xs)] [] 0 (s1 (rowsOf 1 eInt xs)) := by
  unfold small at hs
  refine PureT.run0 Try.func42 rfl rfl 8 Try.ntmps42 [.tmp 2] rfl rfl (fun _ => rfl) ?_
  (repeat (first | refine JC.seq ?_ | refine JC.block ?_ | refine JC.skip ?_ | refine JC.exit ?_ | (refine JC.region ?_; (repeat (first | refine And.intro (by first | exact trivial | exact rfl | exact ⟨trivial, rfl⟩ | exact ⟨trivial, trivial⟩ | exact ⟨rfl, rfl⟩ | exact ⟨rfl, Nat.le_of_ble_eq_true rfl⟩ | decide) ?_ | refine fSt_in ?_ | refine fAcc_in ?_)); refine JL.nil ?_)))
  (refine JC.region ?_; (repeat (first | refine And.intro (by first | exact trivial | exact rfl | exact ⟨trivial, rfl⟩ | exact ⟨trivial, trivial⟩ | exact ⟨rfl, rfl⟩ | exact ⟨rfl, Nat.le_of_ble_eq_true rfl⟩ | decide) ?_ | refine fSt_in ?_ | refine fAcc_in ?_)))
  refine JL.eqNil rfl rfl rfl rfl rfl rfl rfl (fun b hb => JL.nil ?_)
  refine JC.cond rfl (two.intro ?_ ?_)
  · intro ht
    have h0 := hb ht
    obtain rfl : xs = [] := List.eq_nil_of_length_eq_zero h0
    (repeat (first | refine JC.seq ?_ | refine JC.block ?_ | refine JC.skip ?_ | refine JC.exit ?_ | (refine JC.region ?_; (repeat (first | refine And.intro (by first | exact trivial | exact rfl | exact ⟨trivial, rfl⟩ | exact ⟨trivial, trivial⟩ | exact ⟨rfl, rfl⟩ | exact ⟨rfl, Nat.le_of_ble_eq_true rfl⟩ | decide) ?_ | refine fSt_in ?_ | refine fAcc_in ?_)); refine JL.nil ?_)))
    refine JC.ret ⟨⟨[(2, s1 (rowsOf 1 eInt []))], [], 0⟩, Le.drop ⟨⟨_, rfl, SVLe.one (DLe.nil _ _)⟩, trivial⟩ trivial rfl, And.intro (by repeat' (first | exact trivial | exact rfl | apply And.intro)) rfl⟩
  · intro _
    (repeat (first | refine JC.seq ?_ | refine JC.block ?_ | refine JC.skip ?_ | refine JC.exit ?_ | (refine JC.region ?_; (repeat (first | refine And.intro (by first | exact trivial | exact rfl | exact ⟨trivial, rfl⟩ | exact ⟨trivial, trivial⟩ | exact ⟨rfl, rfl⟩ | exact ⟨rfl, Nat.le_of_ble_eq_true rfl⟩ | decide) ?_ | refine fSt_in ?_ | refine fAcc_in ?_)); refine JL.nil ?_)))
    (refine JC.region ?_; (repeat (first | refine And.intro (by first | exact trivial | exact rfl | exact ⟨trivial, rfl⟩ | exact ⟨trivial, trivial⟩ | exact ⟨rfl, rfl⟩ | exact ⟨rfl, Nat.le_of_ble_eq_true rfl⟩ | decide) ?_ | refine fSt_in ?_ | refine fAcc_in ?_)))
    refine And.intro ⟨⟨rfl, fun i _ => rfl⟩, rfl, rfl, rfl, by simp [big]; omega, by simp [big]; omega⟩ ?_
    (repeat (first | refine And.intro (by first | exact trivial | exact rfl | exact ⟨trivial, rfl⟩ | exact ⟨trivial, trivial⟩ | exact ⟨rfl, rfl⟩ | exact ⟨rfl, Nat.le_of_ble_eq_true rfl⟩ | decide) ?_ | refine fSt_in ?_ | refine fAcc_in ?_))
    refine JL.nil ?_
    refine JC.ret ⟨⟨[(2, s1 (rowsOf 1 eInt xs))], [], 1⟩, Le.trans (Le.drop (s' := ⟨[(2, Go.Fw.one (.base 0))], [(0, .row 3 1 (rws eInt xs))], 1⟩) (by repeat (first | exact trivial | refine SlLe.same rfl ?_)) ⟨?_, trivial⟩ (by simp only [hLt, O.lt, rws_lt]; rfl)) (Le.froz 0 xs.length (fun i => eInt (xs.getD i default)) rfl rfl (rws_len _ _) (fun i hi => rws_at _ hi)), And.intro (by repeat' (first | exact trivial | exact rfl | apply And.intro)) rfl⟩
    show some (O.row 3 1 ((([] : List (List D)) ++ (List.range xs.length).map (fun i => (eInt (xs.getD i default)).map D.data)).map (fun r => r.map (D.kill 0)))) = _
    rw [List.nil_append, rws_range, rws_kill]
theorem cloneVal (xs : List Val) (hs : small xs) : NewT cx 55 [s1 (rowsOf 3 eVal xs)] (Go.Fw.one (.base 0)) [(0, .row 48 3 (rws eVal xs))] 1 := by
  unfold small at hs
  refine Triple.run Try.func55 rfl rfl 8 Try.ntmps55 [.tmp 2] rfl rfl ?_
  (repeat (first | refine JC.seq ?_ | refine JC.block ?_ | refine JC.skip ?_ | refine JC.exit ?_ | (refine JC.region ?_; (repeat (first | refine And.intro (by first | exact trivial | exact rfl | exact ⟨trivial, rfl⟩ | exact ⟨trivial, trivial⟩ | exact ⟨rfl, rfl⟩ | exact ⟨rfl, Nat.le_of_ble_eq_true rfl⟩ | decide) ?_ | refine fSt_in ?_ | refine fAcc_in ?_)); refine JL.nil ?_)))
  (refine JC.region ?_; (repeat (first | refine And.intro (by first | exact trivial | exact rfl | exact ⟨trivial, rfl⟩ | exact ⟨trivial, trivial⟩ | exact ⟨rfl, rfl⟩ | exact ⟨rfl, Nat.le_of_ble_eq_true rfl⟩ | decide) ?_ | refine fSt_in ?_ | refine fAcc_in ?_)))
  refine JL.eqNil rfl rfl rfl rfl rfl rfl rfl (fun b hb => JL.nil ?_)
  refine JC.cond rfl (two.intro ?_ ?_)
  · intro ht
    have h0 := hb ht
    obtain rfl : xs = [] := List.eq_nil_of_length_eq_zero h0
    (repeat (first | refine JC.seq ?_ | refine JC.block ?_ | refine JC.skip ?_ | refine JC.exit ?_ | (refine JC.region ?_; (repeat (first | refine And.intro (by first | exact trivial | exact rfl | exact ⟨trivial, rfl⟩ | exact ⟨trivial, trivial⟩ | exact ⟨rfl, rfl⟩ | exact ⟨rfl, Nat.le_of_ble_eq_true rfl⟩ | decide) ?_ | refine fSt_in ?_ | refine fAcc_in ?_)); refine JL.nil ?_)))
    refine JC.ret ⟨_, Le.trans (Le.nilrow 2 48 3 rfl) (Le.drop (s' := ⟨[(2, Go.Fw.one (.base 0))], [(0, .row 48 3 [])], 1⟩) (by repeat (first | exact trivial | refine SlLe.same rfl ?_)) (by exact ⟨rfl, trivial⟩) rfl), And.intro (by repeat' (first | exact trivial | exact rfl | apply And.intro)) ?_⟩
    exact ⟨rfl, rfl, rfl⟩
  · intro _
    (repeat (first | refine JC.seq ?_ | refine JC.block ?_ | refine JC.skip ?_ | refine JC.exit ?_ | (refine JC.region ?_; (repeat (first | refine And.intro (by first | exact trivial | exact rfl | exact ⟨trivial, rfl⟩ | exact ⟨trivial, trivial⟩ | exact ⟨rfl, rfl⟩ | exact ⟨rfl, Nat.le_of_ble_eq_true rfl⟩ | decide) ?_ | refine fSt_in ?_ | refine fAcc_in ?_)); refine JL.nil ?_)))
    (refine JC.region ?_; (repeat (first | refine And.intro (by first | exact trivial | exact rfl | exact ⟨trivial, rfl⟩ | exact ⟨trivial, trivial⟩ | exact ⟨rfl, rfl⟩ | exact ⟨rfl, Nat.le_of_ble_eq_true rfl⟩ | decide) ?_ | refine fSt_in ?_ | refine fAcc_in ?_)))
    refine And.intro ⟨⟨rfl, fun i _ => rfl⟩, rfl, rfl, rfl, by simp [big]; omega, by simp [big]; omega⟩ ?_
    (repeat (first | refine And.intro (by first | exact trivial | exact rfl | exact ⟨trivial, rfl⟩ | exact ⟨trivial, trivial⟩ | exact ⟨rfl, rfl⟩ | exact ⟨rfl, Nat.le_of_ble_eq_true rfl⟩ | decide) ?_ | refine fSt_in ?_ | refine fAcc_in ?_))
    refine JL.nil ?_
    refine JC.ret ⟨⟨[(2, Go.Fw.one (.base 0))], [(0, .row 48 3 (rws eVal xs))], 1⟩, Le.drop (by repeat (first | exact trivial | refine SlLe.same rfl ?_)) ⟨?_, trivial⟩ (by simp only [hLt, O.lt, rws_lt]; rfl), And.intro (by repeat' (first | exact trivial | exact rfl | apply And.intro)) ⟨rfl, rfl, rfl⟩⟩
    show some (O.row 48 3 ((([] : List (List D)) ++ (List.range xs.length).map (fun i => (eVal (xs.getD i default)).map D.data)).map (fun r => r.map (D.kill 0)))) = _
    rw [List.nil_append, rws_range, rws_kill]
theorem copyVal (xs : List Val) (hs : small xs) : PureT cx 55 [s1 (rowsOf 3 eVal xs)] [] 0 (s1 (rowsOf 3 eVal xs)) := by
  unfold small at hs
  refine PureT.run0 Try.func55 rfl rfl 8 Try.ntmps55 [.tmp 2] rfl rfl (fun _ => rfl) ?_
  (repeat (first | refine JC.seq ?_ | refine JC.block ?_ | refine JC.skip ?_ | refine JC.exit ?_ | (refine JC.region ?_; (repeat (first | refine And.intro (by first | exact trivial | exact rfl | exact ⟨trivial, rfl⟩ | exact ⟨trivial, trivial⟩ | exact ⟨rfl, rfl⟩ | exact ⟨rfl, Nat.le_of_ble_eq_true rfl⟩ | decide) ?_ | refine fSt_in ?_ | refine fAcc_in ?_)); refine JL.nil ?_)))
  (refine JC.region ?_; (repeat (first | refine And.intro (by first | exact trivial | exact rfl | exact ⟨trivial, rfl⟩ | exact ⟨trivial, trivial⟩ | exact ⟨rfl, rfl⟩ | exact ⟨rfl, Nat.le_of_ble_eq_true rfl⟩ | decide) ?_ | refine fSt_in ?_ | refine fAcc_in ?_)))
  refine JL.eqNil rfl rfl rfl rfl rfl rfl rfl (fun b hb => JL.nil ?_)
  refine JC.cond rfl (two.intro ?_ ?_)
  · intro ht
    have h0 := hb ht
    obtain rfl : xs = [] := List.eq_nil_of_length_eq_zero h0
    (repeat (first | refine JC.seq ?_ | refine JC.block ?_ | refine JC.skip ?_ | refine JC.exit ?_ | (refine JC.region ?_; (repeat (first | refine And.intro (by first | exact trivial | exact rfl | exact ⟨trivial, rfl⟩ | exact ⟨trivial, trivial⟩ | exact ⟨rfl, rfl⟩ | exact ⟨rfl, Nat.le_of_ble_eq_true rfl⟩ | decide) ?_ | refine fSt_in ?_ | refine fAcc_in ?_)); refine JL.nil ?_)))
    refine JC.ret ⟨⟨[(2, s1 (rowsOf 3 eVal []))], [], 0⟩, Le.drop ⟨⟨_, rfl, SVLe.one (DLe.nil _ _)⟩, trivial⟩ trivial rfl, And.intro (by repeat' (first | exact trivial | exact rfl | apply And.intro)) rfl⟩
  · intro _
    (repeat (first | refine JC.seq ?_ | refine JC.block ?_ | refine JC.skip ?_ | refine JC.exit ?_ | (refine JC.region ?_; (repeat (first | refine And.intro (by first | exact trivial | exact rfl | exact ⟨trivial, rfl⟩ | exact ⟨trivial, trivial⟩ | exact ⟨rfl, rfl⟩ | exact ⟨rfl, Nat.le_of_ble_eq_true rfl⟩ | decide) ?_ | refine fSt_in ?_ | refine fAcc_in ?_)); refine JL.nil ?_)))
    (refine JC.region ?_; (repeat (first | refine And.intro (by first | exact trivial | exact rfl | exact ⟨trivial, rfl⟩ | exact ⟨trivial, trivial⟩ | exact ⟨rfl, rfl⟩ | exact ⟨rfl, Nat.le_of_ble_eq_true rfl⟩ | decide) ?_ | refine fSt_in ?_ | refine fAcc_in ?_)))
    refine And.intro ⟨⟨rfl, fun i _ => rfl⟩, rfl, rfl, rfl, by simp [big]; omega, by simp [big]; omega⟩ ?_
    (repeat (first | refine And.intro (by first | exact trivial | exact rfl | exact ⟨trivial, rfl⟩ | exact ⟨trivial, trivial⟩ | exact ⟨rfl, rfl⟩ | exact ⟨rfl, Nat.le_of_ble_eq_true rfl⟩ | decide) ?_ | refine fSt_in ?_ | refine fAcc_in ?_))
    refine JL.nil ?_
    refine JC.ret ⟨⟨[(2, s1 (rowsOf 3 eVal xs))], [], 1⟩, Le.trans (Le.drop (s' := ⟨[(2, Go.Fw.one (.base 0))], [(0, .row 48 3 (rws eVal xs))], 1⟩) (by repeat (first | exact trivial | refine SlLe.same rfl ?_)) ⟨?_, trivial⟩ (by simp only [hLt, O.lt, rws_lt]; rfl)) (Le.froz 0 xs.length (fun i => eVal (xs.getD i default)) rfl rfl (rws_len _ _) (fun i hi => rws_at _ hi)), And.intro (by repeat' (first | exact trivial | exact rfl | apply And.intro)) rfl⟩
    show some (O.row 48 3 ((([] : List (List D)) ++ (List.range xs.length).map (fun i => (eVal (xs.getD i default)).map D.data)).map (fun r => r.map (D.kill 0)))) = _
    rw [List.nil_append, rws_range, rws_kill]
theorem cloneTyp (xs : List Typ) (hs : small xs) : NewT cx 108 [s1 (rowsOf 2 eTyp xs)] (Go.Fw.one (.base 0)) [(0, .row 58 2 (rws eTyp xs))] 1 := by
  unfold small at hs
  refine Triple.run Try.func108 rfl rfl 8 Try.ntmps108 [.tmp 2] rfl rfl ?_
  (repeat (first | refine JC.seq ?_ | refine JC.block ?_ | refine JC.skip ?_ | refine JC.exit ?_ | (refine JC.region ?_; (repeat (first | refine And.intro (by first | exact trivial | exact rfl | exact ⟨trivial, rfl⟩ | exact ⟨trivial, trivial⟩ | exact ⟨rfl, rfl⟩ | exact ⟨rfl, Nat.le_of_ble_eq_true rfl⟩ | decide) ?_ | refine fSt_in ?_ | refine fAcc_in ?_)); refine JL.nil ?_)))
  (refine JC.region ?_; (repeat (first | refine And.intro (by first | exact trivial | exact rfl | exact ⟨trivial, rfl⟩ | exact ⟨trivial, trivial⟩ | exact ⟨rfl, rfl⟩ | exact ⟨rfl, Nat.le_of_ble_eq_true rfl⟩ | decide) ?_ | refine fSt_in ?_ | refine fAcc_in ?_)))
  refine JL.eqNil rfl rfl rfl rfl rfl rfl rfl (fun b hb => JL.nil ?_)
  refine JC.cond rfl (two.intro ?_ ?_)
  · intro ht
    have h0 := hb ht
    obtain rfl : xs = [] := List.eq_nil_of_length_eq_zero h0
    (repeat (first | refine JC.seq ?_ | refine JC.block ?_ | refine JC.skip ?_ | refine JC.exit ?_ | (refine JC.region ?_; (repeat (first | refine And.intro (by first | exact trivial | exact rfl | exact ⟨trivial, rfl⟩ | exact ⟨trivial, trivial⟩ | exact ⟨rfl, rfl⟩ | exact ⟨rfl, Nat.le_of_ble_eq_true rfl⟩ | decide) ?_ | refine fSt_in ?_ | refine fAcc_in ?_)); refine JL.nil ?_)))
    refine JC.ret ⟨_, Le.trans (Le.nilrow 2 58 2 rfl) (Le.drop (s' := ⟨[(2, Go.Fw.one (.base 0))], [(0, .row 58 2 [])], 1⟩) (by repeat (first | exact trivial | refine SlLe.same rfl ?_)) (by exact ⟨rfl, trivial⟩) rfl), And.intro (by repeat' (first | exact trivial | exact rfl | apply And.intro)) ?_⟩
    exact ⟨rfl, rfl, rfl⟩
  · intro _
    (repeat (first | refine JC.seq ?_ | refine JC.block ?_ | refine JC.skip ?_ | refine JC.exit ?_ | (refine JC.region ?_; (repeat (first | refine And.intro (by first | exact trivial | exact rfl | exact ⟨trivial, rfl⟩ | exact ⟨trivial, trivial⟩ | exact ⟨rfl, rfl⟩ | exact ⟨rfl, Nat.le_of_ble_eq_true rfl⟩ | decide) ?_ | refine fSt_in ?_ | refine fAcc_in ?_)); refine JL.nil ?_)))
    (refine JC.region ?_; (repeat (first | refine And.intro (by first | exact trivial | exact rfl | exact ⟨trivial, rfl⟩ | exact ⟨trivial, trivial⟩ | exact ⟨rfl, rfl⟩ | exact ⟨rfl, Nat.le_of_ble_eq_true rfl⟩ | decide) ?_ | refine fSt_in ?_ | refine fAcc_in ?_)))
    refine And.intro ⟨⟨rfl, fun i _ => rfl⟩, rfl, rfl, rfl, by simp [big]; omega, by simp [big]; omega⟩ ?_
    (repeat (first | refine And.intro (by first | exact trivial | exact rfl | exact ⟨trivial, rfl⟩ | exact ⟨trivial, trivial⟩ | exact ⟨rfl, rfl⟩ | exact ⟨rfl, Nat.le_of_ble_eq_true rfl⟩ | decide) ?_ | refine fSt_in ?_ | refine fAcc_in ?_))
    refine JL.nil ?_
    refine JC.ret ⟨⟨[(2, Go.Fw.one (.base 0))], [(0, .row 58 2 (rws eTyp xs))], 1⟩, Le.drop (by repeat (first | exact trivial | refine SlLe.same rfl ?_)) ⟨?_, trivial⟩ (by simp only [hLt, O.lt, rws_lt]; rfl), And.intro (by repeat' (first | exact trivial | exact rfl | apply And.intro)) ⟨rfl, rfl, rfl⟩⟩
    show some (O.row 58 2 ((([] : List (List D)) ++ (List.range xs.length).map (fun i => (eTyp (xs.getD i default)).map D.data)).map (fun r => r.map (D.kill 0)))) = _
    rw [List.nil_append, rws_range, rws_kill]
theorem copyTyp (xs : List Typ) (hs : small xs) : PureT cx 108 [s1 (rowsOf 2 eTyp xs)] [] 0 (s1 (rowsOf 2 eTyp xs)) := by
  unfold small at hs
  refine PureT.run0 Try.func108 rfl rfl 8 Try.ntmps108 [.tmp 2] rfl rfl (fun _ => rfl) ?_
  (repeat (first | refine JC.seq ?_ | refine JC.block ?_ | refine JC.skip ?_ | refine JC.exit ?_ | (refine JC.region ?_; (repeat (first | refine And.intro (by first | exact trivial | exact rfl | exact ⟨trivial, rfl⟩ | exact ⟨trivial, trivial⟩ | exact ⟨rfl, rfl⟩ | exact ⟨rfl, Nat.le_of_ble_eq_true rfl⟩ | decide) ?_ | refine fSt_in ?_ | refine fAcc_in ?_)); refine JL.nil ?_)))
  (refine JC.region ?_; (repeat (first | refine And.intro (by first | exact trivial | exact rfl | exact ⟨trivial, rfl⟩ | exact ⟨trivial, trivial⟩ | exact ⟨rfl, rfl⟩ | exact ⟨rfl, Nat.le_of_ble_eq_true rfl⟩ | decide) ?_ | refine fSt_in ?_ | refine fAcc_in ?_)))
  refine JL.eqNil rfl rfl rfl rfl rfl rfl rfl (fun b hb => JL.nil ?_)
  refine JC.cond rfl (two.intro ?_ ?_)
  · intro ht
    have h0 := hb ht
    obtain rfl : xs = [] := List.eq_nil_of_length_eq_zero h0
    (repeat (first | refine JC.seq ?_ | refine JC.block ?_ | refine JC.skip ?_ | refine JC.exit ?_ | (refine JC.region ?_; (repeat (first | refine And.intro (by first | exact trivial | exact rfl | exact ⟨trivial, rfl⟩ | exact ⟨trivial, trivial⟩ | exact ⟨rfl, rfl⟩ | exact ⟨rfl, Nat.le_of_ble_eq_true rfl⟩ | decide) ?_ | refine fSt_in ?_ | refine fAcc_in ?_)); refine JL.nil ?_)))
    refine JC.ret ⟨⟨[(2, s1 (rowsOf 2 eTyp []))], [], 0⟩, Le.drop ⟨⟨_, rfl, SVLe.one (DLe.nil _ _)⟩, trivial⟩ trivial rfl, And.intro (by repeat' (first | exact trivial | exact rfl | apply And.intro)) rfl⟩
  · intro _
    (repeat (first | refine JC.seq ?_ | refine JC.block ?_ | refine JC.skip ?_ | refine JC.exit ?_ | (refine JC.region ?_; (repeat (first | refine And.intro (by first | exact trivial | exact rfl | exact ⟨trivial, rfl⟩ | exact ⟨trivial, trivial⟩ | exact ⟨rfl, rfl⟩ | exact ⟨rfl, Nat.le_of_ble_eq_true rfl⟩ | decide) ?_ | refine fSt_in ?_ | refine fAcc_in ?_)); refine JL.nil ?_)))
    (refine JC.region ?_; (repeat (first | refine And.intro (by first | exact trivial | exact rfl | exact ⟨trivial, rfl⟩ | exact ⟨trivial, trivial⟩ | exact ⟨rfl, rfl⟩ | exact ⟨rfl, Nat.le_of_ble_eq_true rfl⟩ | decide) ?_ | refine fSt_in ?_ | refine fAcc_in ?_)))
    refine And.intro ⟨⟨rfl, fun i _ => rfl⟩, rfl, rfl, rfl, by simp [big]; omega, by simp [big]; omega⟩ ?_
    (repeat (first | refine And.intro (by first | exact trivial | exact rfl | exact ⟨trivial, rfl⟩ | exact ⟨trivial, trivial⟩ | exact ⟨rfl, rfl⟩ | exact ⟨rfl, Nat.le_of_ble_eq_true rfl⟩ | decide) ?_ | refine fSt_in ?_ | refine fAcc_in ?_))
    refine JL.nil ?_
    refine JC.ret ⟨⟨[(2, s1 (rowsOf 2 eTyp xs))], [], 1⟩, Le.trans (Le.drop (s' := ⟨[(2, Go.Fw.one (.base 0))], [(0, .row 58 2 (rws eTyp xs))], 1⟩) (by repeat (first | exact trivial | refine SlLe.same rfl ?_)) ⟨?_, trivial⟩ (by simp only [hLt, O.lt, rws_lt]; rfl)) (Le.froz 0 xs.length (fun i => eTyp (xs.getD i default)) rfl rfl (rws_len _ _) (fun i hi => rws_at _ hi)), And.intro (by repeat' (first | exact trivial | exact rfl | apply And.intro)) rfl⟩
    show some (O.row 58 2 ((([] : List (List D)) ++ (List.range xs.length).map (fun i => (eTyp (xs.getD i default)).map D.data)).map (fun r => r.map (D.kill 0)))) = _
    rw [List.nil_append, rws_range, rws_kill]
theorem cloneFld (xs : List Fld) (hs : small xs) : NewT cx 109 [s1 (rowsOf 3 eFld xs)] (Go.Fw.one (.base 0)) [(0, .row 55 3 (rws eFld xs))] 1 := by
  unfold small at hs
  refine Triple.run Try.func109 rfl rfl 8 Try.ntmps109 [.tmp 2] rfl rfl ?_
  (repeat (first | refine JC.seq ?_ | refine JC.block ?_ | refine JC.skip ?_ | refine JC.exit ?_ | (refine JC.region ?_; (repeat (first | refine And.intro (by first | exact trivial | exact rfl | exact ⟨trivial, rfl⟩ | exact ⟨trivial, trivial⟩ | exact ⟨rfl, rfl⟩ | exact ⟨rfl, Nat.le_of_ble_eq_true rfl⟩ | decide) ?_ | refine fSt_in ?_ | refine fAcc_in ?_)); refine JL.nil ?_)))
  (refine JC.region ?_; (repeat (first | refine And.intro (by first | exact trivial | exact rfl | exact ⟨trivial, rfl⟩ | exact ⟨trivial, trivial⟩ | exact ⟨rfl, rfl⟩ | exact ⟨rfl, Nat.le_of_ble_eq_true rfl⟩ | decide) ?_ | refine fSt_in ?_ | refine fAcc_in ?_)))
  refine JL.eqNil rfl rfl rfl rfl rfl rfl rfl (fun b hb => JL.nil ?_)
  refine JC.cond rfl (two.intro ?_ ?_)
  · intro ht
    have h0 := hb ht
    obtain rfl : xs = [] := List.eq_nil_of_length_eq_zero h0
    (repeat (first | refine JC.seq ?_ | refine JC.block ?_ | refine JC.skip ?_ | refine JC.exit ?_ | (refine JC.region ?_; (repeat (first | refine And.intro (by first | exact trivial | exact rfl | exact ⟨trivial, rfl⟩ | exact ⟨trivial, trivial⟩ | exact ⟨rfl, rfl⟩ | exact ⟨rfl, Nat.le_of_ble_eq_true rfl⟩ | decide) ?_ | refine fSt_in ?_ | refine fAcc_in ?_)); refine JL.nil ?_)))
    refine JC.ret ⟨_, Le.trans (Le.nilrow 2 55 3 rfl) (Le.drop (s' := ⟨[(2, Go.Fw.one (.base 0))], [(0, .row 55 3 [])], 1⟩) (by repeat (first | exact trivial | refine SlLe.same rfl ?_)) (by exact ⟨rfl, trivial⟩) rfl), And.intro (by repeat' (first | exact trivial | exact rfl | apply And.intro)) ?_⟩
    exact ⟨rfl, rfl, rfl⟩
  · intro _
    (repeat (first | refine JC.seq ?_ | refine JC.block ?_ | refine JC.skip ?_ | refine JC.exit ?_ | (refine JC.region ?_; (repeat (first | refine And.intro (by first | exact trivial | exact rfl | exact ⟨trivial, rfl⟩ | exact ⟨trivial, trivial⟩ | exact ⟨rfl, rfl⟩ | exact ⟨rfl, Nat.le_of_ble_eq_true rfl⟩ | decide) ?_ | refine fSt_in ?_ | refine fAcc_in ?_)); refine JL.nil ?_)))
    (refine JC.region ?_; (repeat (first | refine And.intro (by first | exact trivial | exact rfl | exact ⟨trivial, rfl⟩ | exact ⟨trivial, trivial⟩ | exact ⟨rfl, rfl⟩ | exact ⟨rfl, Nat.le_of_ble_eq_true rfl⟩ | decide) ?_ | refine fSt_in ?_ | refine fAcc_in ?_)))
    refine And.intro ⟨⟨rfl, fun i _ => rfl⟩, rfl, rfl, rfl, by simp [big]; omega, by simp [big]; omega⟩ ?_
    (repeat (first | refine And.intro (by first | exact trivial | exact rfl | exact ⟨trivial, rfl⟩ | exact ⟨trivial, trivial⟩ | exact ⟨rfl, rfl⟩ | exact ⟨rfl, Nat.le_of_ble_eq_true rfl⟩ | decide) ?_ | refine fSt_in ?_ | refine fAcc_in ?_))
    refine JL.nil ?_
    refine JC.ret ⟨⟨[(2, Go.Fw.one (.base 0))], [(0, .row 55 3 (rws eFld xs))], 1⟩, Le.drop (by repeat (first | exact trivial | refine SlLe.same rfl ?_)) ⟨?_, trivial⟩ (by simp only [hLt, O.lt, rws_lt]; rfl), And.intro (by repeat' (first | exact trivial | exact rfl | apply And.intro)) ⟨rfl, rfl, rfl⟩⟩
    show some (O.row 55 3 ((([] : List (List D)) ++ (List.range xs.length).map (fun i => (eFld (xs.getD i default)).map D.data)).map (fun r => r.map (D.kill 0)))) = _
    rw [List.nil_append, rws_range, rws_kill]
theorem copyFld (xs : List Fld) (hs : small xs) : PureT cx 109 [s1 (rowsOf 3 eFld xs)] [] 0 (s1 (rowsOf 3 eFld xs)) := by
  unfold small at hs
  refine PureT.run0 Try.func109 rfl rfl 8 Try.ntmps109 [.tmp 2] rfl rfl (fun _ => rfl) ?_
  (repeat (first | refine JC.seq ?_ | refine JC.block ?_ | refine JC.skip ?_ | refine JC.exit ?_ | (refine JC.region ?_; (repeat (first | refine And.intro (by first | exact trivial | exact rfl | exact ⟨trivial, rfl⟩ | exact ⟨trivial, trivial⟩ | exact ⟨rfl, rfl⟩ | exact ⟨rfl, Nat.le_of_ble_eq_true rfl⟩ | decide) ?_ | refine fSt_in ?_ | refine fAcc_in ?_)); refine JL.nil ?_)))
  (refine JC.region ?_; (repeat (first | refine And.intro (by first | exact trivial | exact rfl | exact ⟨trivial, rfl⟩ | exact ⟨trivial, trivial⟩ | exact ⟨rfl, rfl⟩ | exact ⟨rfl, Nat.le_of_ble_eq_true rfl⟩ | decide) ?_ | refine fSt_in ?_ | refine fAcc_in ?_)))
  refine JL.eqNil rfl rfl rfl rfl rfl rfl rfl (fun b hb => JL.nil ?_)
  refine JC.cond rfl (two.intro ?_ ?_)
  · intro ht
    have h0 := hb ht
    obtain rfl : xs = [] := List.eq_nil_of_length_eq_zero h0
    (repeat (first | refine JC.seq ?_ | refine JC.block ?_ | refine JC.skip ?_ | refine JC.exit ?_ | (refine JC.region ?_; (repeat (first | refine And.intro (by first | exact trivial | exact rfl | exact ⟨trivial, rfl⟩ | exact ⟨trivial, trivial⟩ | exact ⟨rfl, rfl⟩ | exact ⟨rfl, Nat.le_of_ble_eq_true rfl⟩ | decide) ?_ | refine fSt_in ?_ | refine fAcc_in ?_)); refine JL.nil ?_)))
    refine JC.ret ⟨⟨[(2, s1 (rowsOf 3 eFld []))], [], 0⟩, Le.drop ⟨⟨_, rfl, SVLe.one (DLe.nil _ _)⟩, trivial⟩ trivial rfl, And.intro (by repeat' (first | exact trivial | exact rfl | apply And.intro)) rfl⟩
  · intro _
    (repeat (first | refine JC.seq ?_ | refine JC.block ?_ | refine JC.skip ?_ | refine JC.exit ?_ | (refine JC.region ?_; (repeat (first | refine And.intro (by first | exact trivial | exact rfl | exact ⟨trivial, rfl⟩ | exact ⟨trivial, trivial⟩ | exact ⟨rfl, rfl⟩ | exact ⟨rfl, Nat.le_of_ble_eq_true rfl⟩ | decide) ?_ | refine fSt_in ?_ | refine fAcc_in ?_)); refine JL.nil ?_)))
    (refine JC.region ?_; (repeat (first | refine And.intro (by first | exact trivial | exact rfl | exact ⟨trivial, rfl⟩ | exact ⟨trivial, trivial⟩ | exact ⟨rfl, rfl⟩ | exact ⟨rfl, Nat.le_of_ble_eq_true rfl⟩ | decide) ?_ | refine fSt_in ?_ | refine fAcc_in ?_)))
    refine And.intro ⟨⟨rfl, fun i _ => rfl⟩, rfl, rfl, rfl, by simp [big]; omega, by simp [big]; omega⟩ ?_
    (repeat (first | refine And.intro (by first | exact trivial | exact rfl | exact ⟨trivial, rfl⟩ | exact ⟨trivial, trivial⟩ | exact ⟨rfl, rfl⟩ | exact ⟨rfl, Nat.le_of_ble_eq_true rfl⟩ | decide) ?_ | refine fSt_in ?_ | refine fAcc_in ?_))
    refine JL.nil ?_
    refine JC.ret ⟨⟨[(2, s1 (rowsOf 3 eFld xs))], [], 1⟩, Le.trans (Le.drop (s' := ⟨[(2, Go.Fw.one (.base 0))], [(0, .row 55 3 (rws eFld xs))], 1⟩) (by repeat (first | exact trivial | refine SlLe.same rfl ?_)) ⟨?_, trivial⟩ (by simp only [hLt, O.lt, rws_lt]; rfl)) (Le.froz 0 xs.length (fun i => eFld (xs.getD i default)) rfl rfl (rws_len _ _) (fun i hi => rws_at _ hi)), And.intro (by repeat' (first | exact trivial | exact rfl | apply And.intro)) rfl⟩
    show some (O.row 55 3 ((([] : List (List D)) ++ (List.range xs.length).map (fun i => (eFld (xs.getD i default)).map D.data)).map (fun r => r.map (D.kill 0)))) = _
    rw [List.nil_append, rws_range, rws_kill]
theorem cloneObj (xs : List Obj) (hs : small xs) : NewT cx 112 [s1 (rowsOf 3 eObj xs)] (Go.Fw.one (.base 0)) [(0, .row 53 3 (rws eObj xs))] 1 := by
  unfold small at hs
  refine Triple.run Try.func112 rfl rfl 8 Try.ntmps112 [.tmp 2] rfl rfl ?_
  (repeat (first | refine JC.seq ?_ | refine JC.block ?_ | refine JC.skip ?_ | refine JC.exit ?_ | (refine JC.region ?_; (repeat (first | refine And.intro (by first | exact trivial | exact rfl | exact ⟨trivial, rfl⟩ | exact ⟨trivial, trivial⟩ | exact ⟨rfl, rfl⟩ | exact ⟨rfl, Nat.le_of_ble_eq_true rfl⟩ | decide) ?_ | refine fSt_in ?_ | refine fAcc_in ?_)); refine JL.nil ?_)))
  (refine JC.region ?_; (repeat (first | refine And.intro (by first | exact trivial | exact rfl | exact ⟨trivial, rfl⟩ | exact ⟨trivial, trivial⟩ | exact ⟨rfl, rfl⟩ | exact ⟨rfl, Nat.le_of_ble_eq_true rfl⟩ | decide) ?_ | refine fSt_in ?_ | refine fAcc_in ?_)))
  refine JL.eqNil rfl rfl rfl rfl rfl rfl rfl (fun b hb => JL.nil ?_)
  refine JC.cond rfl (two.intro ?_ ?_)
  · intro ht
    have h0 := hb ht
    obtain rfl : xs = [] := List.eq_nil_of_length_eq_zero h0
    (repeat (first | refine JC.seq ?_ | refine JC.block ?_ | refine JC.skip ?_ | refine JC.exit ?_ | (refine JC.region ?_; (repeat (first | refine And.intro (by first | exact trivial | exact rfl | exact ⟨trivial, rfl⟩ | exact ⟨trivial, trivial⟩ | exact ⟨rfl, rfl⟩ | exact ⟨rfl, Nat.le_of_ble_eq_true rfl⟩ | decide) ?_ | refine fSt_in ?_ | refine fAcc_in ?_)); refine JL.nil ?_)))
    refine JC.ret ⟨_, Le.trans (Le.nilrow 2 53 3 rfl) (Le.drop (s' := ⟨[(2, Go.Fw.one (.base 0))], [(0, .row 53 3 [])], 1⟩) (by repeat (first | exact trivial | refine SlLe.same rfl ?_)) (by exact ⟨rfl, trivial⟩) rfl), And.intro (by repeat' (first | exact trivial | exact rfl | apply And.intro)) ?_⟩
    exact ⟨rfl, rfl, rfl⟩
  · intro _
    (repeat (first | refine JC.seq ?_ | refine JC.block ?_ | refine JC.skip ?_ | refine JC.exit ?_ | (refine JC.region ?_; (repeat (first | refine And.intro (by first | exact trivial | exact rfl | exact ⟨trivial, rfl⟩ | exact ⟨trivial, trivial⟩ | exact ⟨rfl, rfl⟩ | exact ⟨rfl, Nat.le_of_ble_eq_true rfl⟩ | decide) ?_ | refine fSt_in ?_ | refine fAcc_in ?_)); refine JL.nil ?_)))
    (refine JC.region ?_; (repeat (first | refine And.intro (by first | exact trivial | exact rfl | exact ⟨trivial, rfl⟩ | exact ⟨trivial, trivial⟩ | exact ⟨rfl, rfl⟩ | exact ⟨rfl, Nat.le_of_ble_eq_true rfl⟩ | decide) ?_ | refine fSt_in ?_ | refine fAcc_in ?_)))
    refine And.intro ⟨⟨rfl, fun i _ => rfl⟩, rfl, rfl, rfl, by simp [big]; omega, by simp [big]; omega⟩ ?_
    (repeat (first | refine And.intro (by first | exact trivial | exact rfl | exact ⟨trivial, rfl⟩ | exact ⟨trivial, trivial⟩ | exact ⟨rfl, rfl⟩ | exact ⟨rfl, Nat.le_of_ble_eq_true rfl⟩ | decide) ?_ | refine fSt_in ?_ | refine fAcc_in ?_))
    refine JL.nil ?_
    refine JC.ret ⟨⟨[(2, Go.Fw.one (.base 0))], [(0, .row 53 3 (rws eObj xs))], 1⟩, Le.drop (by repeat (first | exact trivial | refine SlLe.same rfl ?_)) ⟨?_, trivial⟩ (by simp only [hLt, O.lt, rws_lt]; rfl), And.intro (by repeat' (first | exact trivial | exact rfl | apply And.intro)) ⟨rfl, rfl, rfl⟩⟩
    show some (O.row 53 3 ((([] : List (List D)) ++ (List.range xs.length).map (fun i => (eObj (xs.getD i default)).map D.data)).map (fun r => r.map (D.kill 0)))) = _
    rw [List.nil_append, rws_range, rws_kill]
theorem copyObj (xs : List Obj) (hs : small xs) : PureT cx 112 [s1 (rowsOf 3 eObj xs)] [] 0 (s1 (rowsOf 3 eObj xs)) := by
  unfold small at hs
  refine PureT.run0 Try.func112 rfl rfl 8 Try.ntmps112 [.tmp 2] rfl rfl (fun _ => rfl) ?_
  (repeat (first | refine JC.seq ?_ | refine JC.block ?_ | refine JC.skip ?_ | refine JC.exit ?_ | (refine JC.region ?_; (repeat (first | refine And.intro (by first | exact trivial | exact rfl | exact ⟨trivial, rfl⟩ | exact ⟨trivial, trivial⟩ | exact ⟨rfl, rfl⟩ | exact ⟨rfl, Nat.le_of_ble_eq_true rfl⟩ | decide) ?_ | refine fSt_in ?_ | refine fAcc_in ?_)); refine JL.nil ?_)))
  (refine JC.region ?_; (repeat (first | refine And.intro (by first | exact trivial | exact rfl | exact ⟨trivial, rfl⟩ | exact ⟨trivial, trivial⟩ | exact ⟨rfl, rfl⟩ | exact ⟨rfl, Nat.le_of_ble_eq_true rfl⟩ | decide) ?_ | refine fSt_in ?_ | refine fAcc_in ?_)))
  refine JL.eqNil rfl rfl rfl rfl rfl rfl rfl (fun b hb => JL.nil ?_)
  refine JC.cond rfl (two.intro ?_ ?_)
  · intro ht
    have h0 := hb ht
    obtain rfl : xs = [] := List.eq_nil_of_length_eq_zero h0
    (repeat (first | refine JC.seq ?_ | refine JC.block ?_ | refine JC.skip ?_ | refine JC.exit ?_ | (refine JC.region ?_; (repeat (first | refine And.intro (by first | exact trivial | exact rfl | exact ⟨trivial, rfl⟩ | exact ⟨trivial, trivial⟩ | exact ⟨rfl, rfl⟩ | exact ⟨rfl, Nat.le_of_ble_eq_true rfl⟩ | decide) ?_ | refine fSt_in ?_ | refine fAcc_in ?_)); refine JL.nil ?_)))
    refine JC.ret ⟨⟨[(2, s1 (rowsOf 3 eObj []))], [], 0⟩, Le.drop ⟨⟨_, rfl, SVLe.one (DLe.nil _ _)⟩, trivial⟩ trivial rfl, And.intro (by repeat' (first | exact trivial | exact rfl | apply And.intro)) rfl⟩
  · intro _
    (repeat (first | refine JC.seq ?_ | refine JC.block ?_ | refine JC.skip ?_ | refine JC.exit ?_ | (refine JC.region ?_; (repeat (first | refine And.intro (by first | exact trivial | exact rfl | exact ⟨trivial, rfl⟩ | exact ⟨trivial, trivial⟩ | exact ⟨rfl, rfl⟩ | exact ⟨rfl, Nat.le_of_ble_eq_true rfl⟩ | decide) ?_ | refine fSt_in ?_ | refine fAcc_in ?_)); refine JL.nil ?_)))
    (refine JC.region ?_; (repeat (first | refine And.intro (by first | exact trivial | exact rfl | exact ⟨trivial, rfl⟩ | exact ⟨trivial, trivial⟩ | exact ⟨rfl, rfl⟩ | exact ⟨rfl, Nat.le_of_ble_eq_true rfl⟩ | decide) ?_ | refine fSt_in ?_ | refine fAcc_in ?_)))
    refine And.intro ⟨⟨rfl, fun i _ => rfl⟩, rfl, rfl, rfl, by simp [big]; omega, by simp [big]; omega⟩ ?_
    (repeat (first | refine And.intro (by first | exact trivial | exact rfl | exact ⟨trivial, rfl⟩ | exact ⟨trivial, trivial⟩ | exact ⟨rfl, rfl⟩ | exact ⟨rfl, Nat.le_of_ble_eq_true rfl⟩ | decide) ?_ | refine fSt_in ?_ | refine fAcc_in ?_))
    refine JL.nil ?_
    refine JC.ret ⟨⟨[(2, s1 (rowsOf 3 eObj xs))], [], 1⟩, Le.trans (Le.drop (s' := ⟨[(2, Go.Fw.one (.base 0))], [(0, .row 53 3 (rws eObj xs))], 1⟩) (by repeat (first | exact trivial | refine SlLe.same rfl ?_)) ⟨?_, trivial⟩ (by simp only [hLt, O.lt, rws_lt]; rfl)) (Le.froz 0 xs.length (fun i => eObj (xs.getD i default)) rfl rfl (rws_len _ _) (fun i hi => rws_at _ hi)), And.intro (by repeat' (first | exact trivial | exact rfl | apply And.intro)) rfl⟩
    show some (O.row 53 3 ((([] : List (List D)) ++ (List.range xs.length).map (fun i => (eObj (xs.getD i default)).map D.data)).map (fun r => r.map (D.kill 0)))) = _
    rw [List.nil_append, rws_range, rws_kill]
end Go.Proofs.Ytlhfajmcnbcabaa

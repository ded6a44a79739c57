/- What changed between two graphs. -/
import Derived.Test.YtlhfajmcnbcabaaA12
set_option linter.unusedVariables false
set_option linter.unusedSimpArgs false
namespace Go.Proofs.Ytlhfajmcnbcabaa
open Go Go.Fw
set_option maxRecDepth 100000
set_option maxHeartbeats 4000000

theorem rws_snoc {α : Type} (E : α → List T) (xs : List α) (x : α) : rws E (xs ++ [x]) = rws E xs ++ [(E x).map D.data] := by simp [rws]
theorem rws_snoc_kill {α : Type} (E : α → List T) (xs : List α) (x : α) (id : Nat) : (rws E xs ++ [(E x).map D.data]).map (fun r => r.map (D.kill id)) = rws E (xs ++ [x]) := by rw [← rws_snoc, rws_kill]
theorem row_kill {α : Type} {E : α → List T} {xs : List α} {id el sz : Nat} {L : List (List D)} (hL : L = (rws E xs).map (fun r => r.map (D.kill id))) : some (O.row el sz L) = some (O.row el sz (rws E xs)) := by
  rw [hL, rws_kill]
theorem row_snoc {α : Type} {E : α → List T} {xs : List α} {x : α} {id el sz : Nat} {L : List (List D)} (hL : L = (rws E xs ++ [(E x).map D.data]).map (fun r => r.map (D.kill id))) : some (O.row el sz L) = some (O.row el sz (rws E (xs ++ [x]))) := by
  rw [hL, rws_snoc_kill]
theorem foldl_lenM {α β : Type} (f : List β → α → List β) (c : Nat) : ∀ (l : List α) (z : List β), (∀ acc x, x ∈ l → (f acc x).length ≤ acc.length + c) → (l.foldl f z).length ≤ z.length + l.length * c
  | [], z, _ => by simp
  | x :: r, z, h => by
    have h1 := foldl_lenM f c r (f z x) (fun acc y hy => h acc y (List.mem_cons_of_mem _ hy))
    have h2 := h z x (by simp)
    have h3 : (x :: r).length * c = r.length * c + c := by rw [List.length_cons, Nat.add_mul, Nat.one_mul]
    rw [List.foldl_cons]; omega
theorem foldl_len {α β : Type} (f : List β → α → List β) (c : Nat) (h : ∀ acc x, (f acc x).length ≤ acc.length + c) (l : List α) (z : List β) : (l.foldl f z).length ≤ z.length + l.length * c :=
  foldl_lenM f c l z fun acc x _ => h acc x
theorem mem_getD {α : Type} [Inhabited α] {l : List α} {x : α} (h : x ∈ l) : ∃ i, i < l.length ∧ l.getD i default = x := by
  obtain ⟨i, hi, he⟩ := List.getElem_of_mem h
  exact ⟨i, hi, by rw [List.getD_eq_getElem?_getD, List.getElem?_eq_getElem hi]; exact he⟩
theorem eqL_at {α : Type} [Inhabited α] (q : α → α → Bool) : ∀ (xs ys : List α), eqL q xs ys = true → xs.length = ys.length ∧ ∀ i, i < xs.length → q (xs.getD i default) (ys.getD i default) = true
  | [], [], _ => ⟨rfl, fun i h => by simp at h⟩
  | [], _ :: _, h => by cases h
  | _ :: _, [], h => by cases h
  | x :: xs, y :: ys, h => by
    simp only [eqL, Bool.and_eq_true] at h
    have ih := eqL_at q xs ys h.2
    refine ⟨by simp [ih.1], fun i hi => ?_⟩
    cases i with
    | zero => simpa using h.1
    | succ i => simpa using ih.2 i (by simpa using hi)
theorem app1 {α : Type} {E : α → List T} {xs : List α} {news : List (List D)} {b : Nat} (B : Nat) (h : xs.length ≤ 100000) (hn : news.length = 1) (hb : b = B) (hB : B ≤ 1000) : ((rws E xs).length + news.length) * b ≤ big := by
  subst hb
  rw [rws_len, hn]
  refine Nat.le_trans (Nat.mul_le_mul_left _ hB) ?_
  unfold big; omega
theorem app2 {α : Type} {E : α → List T} {xs : List α} {news : List (List D)} (h : xs.length ≤ 100000) (hn : news.length = 1) : (rws E xs).length + news.length ≤ big := by
  rw [rws_len, hn]; unfold big; omega
structure MayG (g : Gr) : Prop where
  s : schMay g.s = true
  o : g.o.length ≤ 8
  r : g.roots.length ≤ 3
  ob : objsOK g.s (typesE g.o) (-1) g.o = true
  rt : ∀ i, i < g.roots.length → oddR (typesE g.o) (g.roots.getD i default) = false
theorem idx_neg {α : Type} [Inhabited α] (p : α → Bool) : ∀ xs : List α, ¬ (0 ≤ idx p xs) → ∀ i, i < xs.length → p (xs.getD i default) = false
  | [], _, i, h => by simp at h
  | x :: r, h, i, hi => by
    simp only [idx] at h
    by_cases hx : p x = true
    · rw [if_pos hx] at h; exact absurd (Int.le_refl 0) h
    · rw [if_neg hx] at h
      cases i with
      | zero => simpa using hx
      | succ i =>
        have := idx_neg p r (by intro h0; rw [if_neg (by omega)] at h; omega) i (by simpa using hi)
        simpa using this
theorem grMay_parts {g : Gr} (h : grMay g = true) : MayG g := by
  simp only [grMay, Bool.and_eq_true, Bool.not_eq_true', decide_eq_false_iff_not] at h
  obtain ⟨⟨⟨⟨h1, h2⟩, h3⟩, h4⟩, h5⟩ := h
  exact ⟨h1, by omega, by omega, h4, idx_neg _ _ h5⟩
theorem schMay_parts {s : List Typ} (h : schMay s = true) : 0 < s.length ∧ s.length ≤ 4 ∧ ∀ i, i < s.length → typOK s i (s.getD i default) = true := by
  simp only [schMay, Bool.and_eq_true, Bool.not_eq_true', decide_eq_true_eq, beq_eq_false_iff_ne, ne_eq] at h
  obtain ⟨⟨h1, h2⟩, h3⟩ := h
  exact ⟨by omega, by omega, fun i hi => List.all_eq_true.1 h3 i (List.mem_range.2 hi)⟩
theorem typOK_parts {s : List Typ} {i : Nat} {t : Typ} (h : typOK s i t = true) : t.f.length ≤ 5 ∧ nameMay t.name = true ∧ findS s t.name = i ∧ ∀ k, k < t.f.length → fldOK s t k (t.f.getD k default) = true := by
  simp only [typOK, Bool.and_eq_true, decide_eq_true_eq, beq_iff_eq] at h
  obtain ⟨⟨⟨h1, h2⟩, h3⟩, h4⟩ := h
  exact ⟨by omega, h1, h2, fun i hi => List.all_eq_true.1 h4 i (List.mem_range.2 hi)⟩
theorem MayG.obj {g : Gr} (h : MayG g) {i : Nat} (hi : i < g.o.length) : 0 ≤ (g.o.getD i default).t ∧ (g.o.getD i default).t < g.s.length ∧ (g.o.getD i default).f.length = (fldsOf g.s (g.o.getD i default)).length ∧ (g.o.getD i default).f.length ≤ 5 := by
  obtain ⟨last, h1⟩ := objsOK_at h.ob hi
  have h2 := objOK_parts h1
  have h3 := (schMay_parts h.s).2.2 (g.o.getD i default).t.toNat (by omega)
  have h4 := (typOK_parts h3).1
  exact ⟨h2.2.2.1, h2.2.2.2.1, h2.2.2.2.2.1, by rw [h2.2.2.2.2.1]; exact h4⟩
theorem schSame_len {s t : List Typ} (h : schSame s t = true) {k : Nat} (hk : k < s.length) : (s.getD k default).f.length = (t.getD k default).f.length := by
  have h1 := (eqL_at _ _ _ h).2 k hk
  simp only [qTyp, Bool.and_eq_true] at h1
  exact (eqL_at _ _ _ h1.2).1

def newF (o : Gr) (acc : List Int) (x : Obj) : List Int := if findI o x.id == -1 then acc ++ [x.id] else acc
def obIn (a : Gr) (x : Obj) : Obj := a.o.getD (findI a x.id).toNat default
def badO (a : Gr) (x : Obj) : Bool := !(findI a x.id == -1) && !(x.t == (obIn a x).t)
def setF (x y : Obj) (acc : List (Int × Int)) (k : Nat) : List (Int × Int) := if qVal (x.f.getD k default) (y.f.getD k default) then acc else acc ++ [(x.id, (k : Int))]
def goneF (a : Gr) (acc : List Int) (x : Obj) : List Int := if findI a x.id == -1 then acc ++ [x.id] else acc
def setsF (a : Gr) (acc : List (Int × Int)) (x : Obj) : List (Int × Int) := if findI a x.id == -1 then acc else (List.range x.f.length).foldl (setF x (obIn a x)) acc
def rootF (o a : Gr) (acc : List Int) (i : Nat) : List Int := if rootAt o i == rootAt a i then acc else acc ++ [(i : Int)]
def noChg : Chg := ⟨[], [], [], []⟩
def ofG (o a : Gr) : Chg × Int :=
  if !grMay o || !grMay a then (noChg, 1) else if !schSame o.s a.s then (noChg, 6) else if o.o.any (badO a) then (noChg, 6)
  else (⟨a.o.foldl (newF o) [], o.o.foldl (goneF a) [], o.o.foldl (setsF a) [], (List.range (max o.roots.length a.roots.length)).foldl (rootF o a) []⟩, 0)
def rCE (x : Chg × Int) : SV := .tup [.agg (dat (eChg x.1)), .one (.data (tI x.2))]
def nil4 : List D := [.data (.lit (.slice none 0 0)), .data (.lit (.slice none 0 0)), .data (.lit (.slice none 0 0)), .data (.lit (.slice none 0 0))]
theorem nil4_le : DsLe nil4 (dat (eChg noChg)) := ⟨DLe.nil _ _, DLe.nil _ _, DLe.nil _ _, DLe.nil _ _, trivial⟩
theorem row_froz {α : Type} {E : α → List T} {xs : List α} {id el sz : Nat} {t : T} {L : List (List D)} (hL : L = (rws E xs).map (fun r => r.map (D.froz id t))) : some (O.row el sz L) = some (O.row el sz (rws E xs)) := by
  rw [hL, rws_froz]
/-- A row of one's own is plain data from now on. -/
theorem Le.frz {α : Type} [Inhabited α] {s s' : St} (id : Nat) {el sz : Nat} {E : α → List T} {xs : List α} (hl : lk s.h id = some (.row el sz (rws E xs)))
    (hs : SlLe (frozL s.sl id (rowsOf sz E xs)) s'.sl) (hh : HLe (frozH s.h id (rowsOf sz E xs)) s'.h) (hc : (nodupH s'.h && Nat.ble s'.nx s.nx && slLt s'.nx s'.sl && hLt s'.nx s'.h) = true) : Le 0 s s' :=
  Le.trans (Le.froz id xs.length (fun k => E (xs.getD k default)) hl (by cases id <;> rfl) (rws_len _ _) (fun k hk => rws_at _ hk)) (Le.drop hs hh (by
    simp only [Bool.and_eq_true] at hc ⊢
    refine ⟨⟨⟨⟨hc.1.1.1, hc.1.1.2⟩, ?_⟩, hc.1.2⟩, hc.2⟩
    cases s'.nx <;> rfl))
/-- A change of one's own, as plain data. -/
theorem Le.frozC (new gone : List Int) (sets : List (Int × Int)) (roots : List Int) :
    Le 0 ⟨[(4, Go.Fw.one (.ref 2 0)), (5, s1 (tI 0))], [(7, .row 3 1 (rws eInt roots)), (6, .row 80 2 (rws ePair sets)), (5, .row 3 1 (rws eInt gone)), (4, .row 3 1 (rws eInt new)), (2, .box 74 [.base 4, .base 5, .base 6, .base 7])], 8⟩
      ⟨[(4, Go.Fw.one (.ref 2 0)), (5, s1 (tI 0))], [(2, .box 74 (dat (eChg ⟨new, gone, sets, roots⟩)))], 8⟩ := by
  refine Le.trans (Le.frz 7 (s' := ⟨[(4, Go.Fw.one (.ref 2 0)), (5, s1 (tI 0))], [(6, .row 80 2 (rws ePair sets)), (5, .row 3 1 (rws eInt gone)), (4, .row 3 1 (rws eInt new)), (2, .box 74 [.base 4, .base 5, .base 6, .data (rowsOf 1 eInt roots)])], 8⟩) rfl (by repeat (first | exact trivial | refine SlLe.same rfl ?_ | refine SlLe.int rfl (by first | exact wrap_succ (by assumption) (by assumption) | exact wrap_succ2 (by first | omega | (simp only []; omega))) ?_)) (by repeat (first | exact trivial | refine ⟨rfl, ?_⟩ | refine ⟨row_kill rfl, ?_⟩ | refine ⟨row_snoc rfl, ?_⟩ | refine ⟨row_froz rfl, ?_⟩)) (by simp only [hLt, O.lt, rws_lt]; rfl)) ?_
  refine Le.trans (Le.frz 6 (s' := ⟨[(4, Go.Fw.one (.ref 2 0)), (5, s1 (tI 0))], [(5, .row 3 1 (rws eInt gone)), (4, .row 3 1 (rws eInt new)), (2, .box 74 [.base 4, .base 5, .data (rowsOf 2 ePair sets), .data (rowsOf 1 eInt roots)])], 8⟩) rfl (by repeat (first | exact trivial | refine SlLe.same rfl ?_ | refine SlLe.int rfl (by first | exact wrap_succ (by assumption) (by assumption) | exact wrap_succ2 (by first | omega | (simp only []; omega))) ?_)) (by repeat (first | exact trivial | refine ⟨rfl, ?_⟩ | refine ⟨row_kill rfl, ?_⟩ | refine ⟨row_snoc rfl, ?_⟩ | refine ⟨row_froz rfl, ?_⟩)) (by simp only [hLt, O.lt, rws_lt]; rfl)) ?_
  refine Le.trans (Le.frz 5 (s' := ⟨[(4, Go.Fw.one (.ref 2 0)), (5, s1 (tI 0))], [(4, .row 3 1 (rws eInt new)), (2, .box 74 [.base 4, .data (rowsOf 1 eInt gone), .data (rowsOf 2 ePair sets), .data (rowsOf 1 eInt roots)])], 8⟩) rfl (by repeat (first | exact trivial | refine SlLe.same rfl ?_ | refine SlLe.int rfl (by first | exact wrap_succ (by assumption) (by assumption) | exact wrap_succ2 (by first | omega | (simp only []; omega))) ?_)) (by repeat (first | exact trivial | refine ⟨rfl, ?_⟩ | refine ⟨row_kill rfl, ?_⟩ | refine ⟨row_snoc rfl, ?_⟩ | refine ⟨row_froz rfl, ?_⟩)) (by simp only [hLt, O.lt, rws_lt]; rfl)) ?_
  exact Le.frz 4 rfl (by repeat (first | exact trivial | refine SlLe.same rfl ?_ | refine SlLe.int rfl (by first | exact wrap_succ (by assumption) (by assumption) | exact wrap_succ2 (by first | omega | (simp only []; omega))) ?_)) (by repeat (first | exact trivial | refine ⟨rfl, ?_⟩ | refine ⟨row_kill rfl, ?_⟩ | refine ⟨row_snoc rfl, ?_⟩ | refine ⟨row_froz rfl, ?_⟩)) (by simp only [hLt, O.lt, rws_lt]; rfl)
theorem diffOfT (o a : Gr) : PureT cx 35 [sA (eGr o), sA (eGr a)] [] 0 (rCE (ofG o a)) := by
  refine PureT.run0 Try.func35 rfl rfl 141 Try.ntmps35 [.cell 4 74, .tmp 5] rfl rfl (fun _ => rfl) ?_
  (repeat' (first | refine And.intro (by first | exact trivial | exact rfl | exact ⟨trivial, rfl⟩ | exact ⟨trivial, trivial⟩ | exact ⟨rfl, rfl⟩ | exact ⟨rfl, Nat.le_of_ble_eq_true rfl⟩ | decide) ?_ | refine two_t ?_ | refine two_f ?_ | refine two.intro (fun _ => ?_) (fun _ => ?_) | refine JL.nil ?_ | refine JC.seq ?_ | refine JC.block ?_ | refine JC.skip ?_ | refine JC.exit ?_ | refine JC.region ?_ | refine JC.cond rfl ?_ | refine fSt_in ?_ | refine fAcc_in ?_ | (refine JL.p0 rfl rfl rfl rfl rfl (Fit.refl _) (fun _ => rfl) (by first | exact grMayT _ | exact schSameT _ _) (fun _ => rfl) ?_; refine ev_run ?_) | fail))
  · rename_i h1
    refine JC.ret ⟨_, Le.trans (Le.drop (s' := ⟨[(4, Go.Fw.one (.ref 2 0)), (5, s1 (tI 1))], [(2, .box 74 nil4)], 3⟩) (by repeat (first | exact trivial | refine SlLe.same rfl ?_ | refine SlLe.int rfl (by first | exact wrap_succ (by assumption) (by assumption) | exact wrap_succ2 (by first | omega | (simp only []; omega))) ?_)) (by exact ⟨rfl, trivial⟩) rfl) (Le.box 2 rfl nil4_le), And.intro (by repeat' (first | exact trivial | exact rfl | apply And.intro)) ?_⟩
    refine congrArg Res.ret (show rCE (noChg, 1) = _ from congrArg rCE ?_)
    simp [ofG, not_t h1]
  · rename_i h1 h2
    refine JC.ret ⟨_, Le.trans (Le.drop (s' := ⟨[(4, Go.Fw.one (.ref 2 0)), (5, s1 (tI 1))], [(2, .box 74 nil4)], 3⟩) (by repeat (first | exact trivial | refine SlLe.same rfl ?_ | refine SlLe.int rfl (by first | exact wrap_succ (by assumption) (by assumption) | exact wrap_succ2 (by first | omega | (simp only []; omega))) ?_)) (by exact ⟨rfl, trivial⟩) rfl) (Le.box 2 rfl nil4_le), And.intro (by repeat' (first | exact trivial | exact rfl | apply And.intro)) ?_⟩
    refine congrArg Res.ret (show rCE (noChg, 1) = _ from congrArg rCE ?_)
    simp [ofG, not_t h2]
  · rename_i h1 h2 h3
    refine JC.ret ⟨_, Le.trans (Le.drop (s' := ⟨[(4, Go.Fw.one (.ref 2 0)), (5, s1 (tI 6))], [(2, .box 74 nil4)], 3⟩) (by repeat (first | exact trivial | refine SlLe.same rfl ?_ | refine SlLe.int rfl (by first | exact wrap_succ (by assumption) (by assumption) | exact wrap_succ2 (by first | omega | (simp only []; omega))) ?_)) (by exact ⟨rfl, trivial⟩) rfl) (Le.box 2 rfl nil4_le), And.intro (by repeat' (first | exact trivial | exact rfl | apply And.intro)) ?_⟩
    refine congrArg Res.ret (show rCE (noChg, 6) = _ from congrArg rCE ?_)
    simp [ofG, not_f h1, not_f h2, not_t h3]
  · rename_i h1 h2 h3
    have h1 := not_f h1
    have h2 := not_f h2
    have h3 := not_f h3
    have mo := grMay_parts h1
    have ma := grMay_parts h2
    refine JC.conv (Le.trans (Le.drop (s' := ⟨[(2, Go.Fw.one (.ref 0 0)), (3, Go.Fw.one (.ref 1 0)), (4, Go.Fw.one (.ref 2 0)), (6, Go.Fw.one (.ref 3 0)), (34, s1 (rowsOf 3 eObj a.o)), (35, s1 (tI a.o.length)), (36, s1 (tI 0))],
      [(3, .box 74 nil4), (2, .box 74 nil4), (1, .box 28 (dat (eGr a))), (0, .box 28 (dat (eGr o)))], 4⟩) (by repeat (first | exact trivial | refine SlLe.same rfl ?_ | refine SlLe.int rfl (by first | exact wrap_succ (by assumption) (by assumption) | exact wrap_succ2 (by first | omega | (simp only []; omega))) ?_)) (by exact ⟨rfl, rfl, rfl, rfl, trivial⟩) rfl)
      (Le.trans (Le.nilcell 3 0 3 1 rfl rfl) (Le.trans (Le.nilcell 3 1 3 1 rfl rfl) (Le.trans (Le.nilcell 3 2 80 2 rfl rfl) (Le.nilcell 3 3 3 1 rfl rfl))))) ?_
    refine JC.loop (ι := { i : Nat // i ≤ a.o.length }) (fun i => ⟨[(2, Go.Fw.one (.ref 0 0)), (3, Go.Fw.one (.ref 1 0)), (4, Go.Fw.one (.ref 2 0)), (6, Go.Fw.one (.ref 3 0)), (34, s1 (rowsOf 3 eObj a.o)), (35, s1 (tI a.o.length)), (36, s1 (tI i.1))],
      [(7, .row 3 1 []), (6, .row 80 2 []), (5, .row 3 1 []), (4, .row 3 1 (rws eInt ((a.o.take i.1).foldl (newF o) []))), (3, .box 74 [.base 4, .base 5, .base 6, .base 7]), (2, .box 74 nil4), (1, .box 28 (dat (eGr a))), (0, .box 28 (dat (eGr o)))], 8⟩) (fun i => a.o.length - i.1) ⟨0, Nat.zero_le _⟩ (Le.drop (by repeat (first | exact trivial | refine SlLe.same rfl ?_ | refine SlLe.int rfl (by first | exact wrap_succ (by assumption) (by assumption) | exact wrap_succ2 (by first | omega | (simp only []; omega))) ?_)) (by exact ⟨rfl, rfl, rfl, rfl, rfl, rfl, rfl, rfl, trivial⟩) rfl) ?_
    rintro ⟨i, hi⟩
    have hbig : a.o.length ≤ big := by have := ma.o; unfold big; omega
    refine JC.seq ?_
    (repeat (first | refine JC.seq ?_ | refine JC.block ?_ | refine JC.skip ?_ | refine JC.exit ?_ | (refine JC.region ?_; (repeat (first | refine And.intro (by first | exact trivial | exact rfl | exact ⟨trivial, rfl⟩ | exact ⟨trivial, trivial⟩ | exact ⟨rfl, rfl⟩ | exact ⟨rfl, Nat.le_of_ble_eq_true rfl⟩ | decide) ?_ | refine fSt_in ?_ | refine fAcc_in ?_)); refine JL.nil ?_)))
    refine JC.cond rfl (two.intro ?_ ?_)
    · intro hlt
      have hlt : i < a.o.length := by simpa using hlt
      have hlen := foldl_len (newF o) 1 (fun acc x => by unfold newF; split <;> simp) (a.o.take i) []
      have hlen : ((a.o.take i).foldl (newF o) []).length ≤ 8 := by
        have := ma.o
        simp only [List.length_take, List.length_nil] at hlen; omega
      have hst := foldl_take (newF o) [] a.o i hlt
      cases hf : findI o (a.o.getD i default).id == -1
      · (repeat' (first | refine And.intro (by first | exact trivial | exact rfl | exact ⟨trivial, rfl⟩ | exact ⟨trivial, trivial⟩ | exact ⟨rfl, rfl⟩ | exact ⟨rfl, Nat.le_of_ble_eq_true rfl⟩ | decide) ?_ | refine two_t ?_ | refine two_f ?_ | refine two.intro (fun _ => ?_) (fun _ => ?_) | refine JL.nil ?_ | refine JC.seq ?_ | refine JC.block ?_ | refine JC.skip ?_ | refine JC.exit ?_ | refine JC.region ?_ | refine JC.cond rfl ?_ | refine And.intro (⟨Int.natCast_nonneg _, Int.ofNat_lt.2 hlt, rfl⟩) ?_ | refine fSt_in ?_ | refine fAcc_in ?_ | (refine JL.p0 rfl rfl rfl rfl rfl (Fit.refl _) (fun _ => rfl) (by first | exact other_yes _ _ hf) (fun _ => rfl) ?_; refine ev_run ?_) | fail))
        refine ⟨⟨i + 1, hlt⟩, by simp only; omega, ?_⟩
        rw [hst, newF, if_neg (by rw [hf]; decide)]
        exact Le.drop (by repeat (first | exact trivial | refine SlLe.same rfl ?_ | refine SlLe.int rfl (by first | exact wrap_succ (by assumption) (by assumption) | exact wrap_succ2 (by first | omega | (simp only []; omega))) ?_)) (by exact ⟨rfl, rfl, rfl, rfl, rfl, rfl, rfl, rfl, trivial⟩) (by simp only [hLt, O.lt, rws_lt]; rfl)
      · have hl5 : ((a.o.take i).foldl (newF o) []).length ≤ 100000 := by omega
        (repeat' (first | refine And.intro (by first | exact trivial | exact rfl | exact ⟨trivial, rfl⟩ | exact ⟨trivial, trivial⟩ | exact ⟨rfl, rfl⟩ | exact ⟨rfl, Nat.le_of_ble_eq_true rfl⟩ | decide) ?_ | refine two_t ?_ | refine two_f ?_ | refine two.intro (fun _ => ?_) (fun _ => ?_) | refine JL.nil ?_ | refine JC.seq ?_ | refine JC.block ?_ | refine JC.skip ?_ | refine JC.exit ?_ | refine JC.region ?_ | refine JC.cond rfl ?_ | refine And.intro (⟨Int.natCast_nonneg _, Int.ofNat_lt.2 hlt, rfl⟩) ?_ | refine And.intro (⟨⟨rfl, rfl⟩, rfl, rfl, rfl, app1 8 hl5 rfl rfl (by decide), app2 hl5 rfl⟩) ?_ | refine fSt_in ?_ | refine fAcc_in ?_ | (refine JL.p0 rfl rfl rfl rfl rfl (Fit.refl _) (fun _ => rfl) (by first | exact other_no _ _ hf) (fun _ => rfl) ?_; refine ev_run ?_) | fail))
        refine ⟨⟨i + 1, hlt⟩, by simp only; omega, ?_⟩
        rw [hst, newF, if_pos hf]
        refine Le.drop (by repeat (first | exact trivial | refine SlLe.same rfl ?_ | refine SlLe.int rfl (by first | exact wrap_succ (by assumption) (by assumption) | exact wrap_succ2 (by first | omega | (simp only []; omega))) ?_)) (by refine ⟨rfl, rfl, rfl, ?_, rfl, rfl, rfl, rfl, trivial⟩; exact congrArg (fun r => some (O.row 3 1 r)) (rws_snoc_kill eInt _ _ _)) (by simp only [hLt, O.lt, rws_lt]; rfl)
    · intro hge
      have hge : ¬ i < a.o.length := by simpa using hge
      obtain rfl : i = a.o.length := by omega
      (repeat' (first | refine And.intro (by first | exact trivial | exact rfl | exact ⟨trivial, rfl⟩ | exact ⟨trivial, trivial⟩ | exact ⟨rfl, rfl⟩ | exact ⟨rfl, Nat.le_of_ble_eq_true rfl⟩ | decide) ?_ | refine two_t ?_ | refine two_f ?_ | refine two.intro (fun _ => ?_) (fun _ => ?_) | refine JL.nil ?_ | refine JC.seq ?_ | refine JC.block ?_ | refine JC.skip ?_ | refine JC.exit ?_ | refine JC.region ?_ | refine JC.cond rfl ?_ | refine fSt_in ?_ | refine fAcc_in ?_ | (refine JL.p0 rfl rfl rfl rfl rfl (Fit.refl _) (fun _ => rfl) (by first | exact find a 0) (fun _ => rfl) ?_; refine ev_run ?_) | fail))
      generalize hnew : (a.o.take a.o.length).foldl (newF o) [] = new
      refine JC.conv (Le.drop (s' := ⟨[(2, Go.Fw.one (.ref 0 0)), (3, Go.Fw.one (.ref 1 0)), (4, Go.Fw.one (.ref 2 0)), (6, Go.Fw.one (.ref 3 0)), (58, s1 (rowsOf 3 eObj o.o)), (59, s1 (tI o.o.length)), (60, s1 (tI 0))],
        [(7, .row 3 1 []), (6, .row 80 2 []), (5, .row 3 1 []), (4, .row 3 1 (rws eInt new)), (3, .box 74 [.base 4, .base 5, .base 6, .base 7]), (2, .box 74 nil4), (1, .box 28 (dat (eGr a))), (0, .box 28 (dat (eGr o)))], 8⟩) (by repeat (first | exact trivial | refine SlLe.same rfl ?_ | refine SlLe.int rfl (by first | exact wrap_succ (by assumption) (by assumption) | exact wrap_succ2 (by first | omega | (simp only []; omega))) ?_)) (by subst hnew; exact ⟨rfl, rfl, rfl, rfl, rfl, rfl, rfl, rfl, trivial⟩) (by simp only [hLt, O.lt, rws_lt]; rfl)) ?_
      have hnew2 : new = a.o.foldl (newF o) [] := by rw [← hnew, List.take_length]
      clear hnew hge
      refine JC.loop (ι := { i : Nat // i ≤ o.o.length ∧ ∀ j, j < i → badO a (o.o.getD j default) = false }) (fun i => ⟨[(2, Go.Fw.one (.ref 0 0)), (3, Go.Fw.one (.ref 1 0)), (4, Go.Fw.one (.ref 2 0)), (6, Go.Fw.one (.ref 3 0)), (58, s1 (rowsOf 3 eObj o.o)), (59, s1 (tI o.o.length)), (60, s1 (tI i.1))],
        [(7, .row 3 1 []), (6, .row 80 2 (rws ePair ((o.o.take i.1).foldl (setsF a) []))), (5, .row 3 1 (rws eInt ((o.o.take i.1).foldl (goneF a) []))), (4, .row 3 1 (rws eInt new)), (3, .box 74 [.base 4, .base 5, .base 6, .base 7]), (2, .box 74 nil4), (1, .box 28 (dat (eGr a))), (0, .box 28 (dat (eGr o)))], 8⟩) (fun i => o.o.length - i.1) ⟨0, Nat.zero_le _, fun j h => absurd h (Nat.not_lt_zero j)⟩ (Le.drop (by repeat (first | exact trivial | refine SlLe.same rfl ?_ | refine SlLe.int rfl (by first | exact wrap_succ (by assumption) (by assumption) | exact wrap_succ2 (by first | omega | (simp only []; omega))) ?_)) (by exact ⟨rfl, rfl, rfl, rfl, rfl, rfl, rfl, rfl, trivial⟩) (by simp only [hLt, O.lt, rws_lt]; rfl)) ?_
      rintro ⟨i, hi, hno⟩
      have hbig : o.o.length ≤ big := by have := mo.o; unfold big; omega
      refine JC.seq ?_
      (repeat (first | refine JC.seq ?_ | refine JC.block ?_ | refine JC.skip ?_ | refine JC.exit ?_ | (refine JC.region ?_; (repeat (first | refine And.intro (by first | exact trivial | exact rfl | exact ⟨trivial, rfl⟩ | exact ⟨trivial, trivial⟩ | exact ⟨rfl, rfl⟩ | exact ⟨rfl, Nat.le_of_ble_eq_true rfl⟩ | decide) ?_ | refine fSt_in ?_ | refine fAcc_in ?_)); refine JL.nil ?_)))
      refine JC.cond rfl (two.intro ?_ ?_)
      · intro hlt
        have hlt : i < o.o.length := by simpa using hlt
        have hlen := foldl_len (goneF a) 1 (fun acc x => by unfold goneF; split <;> simp) (o.o.take i) []
        have hlen : ((o.o.take i).foldl (goneF a) []).length ≤ 100000 := by
          have := mo.o
          simp only [List.length_take, List.length_nil] at hlen; omega
        have hsl : ((o.o.take i).foldl (setsF a) []).length ≤ 1000 := by
          have h := foldl_lenM (setsF a) 5 (o.o.take i) [] (fun acc x hx => by
            unfold setsF
            split
            · omega
            · have h1 := foldl_len (setF x (obIn a x)) 1 (fun acc k => by unfold setF; split <;> simp) (List.range x.f.length) acc
              obtain ⟨j, hj, he⟩ := mem_getD (List.mem_of_mem_take hx)
              have h2 := (mo.obj hj).2.2.2
              rw [he] at h2
              rw [List.length_range] at h1
              omega)
          have := mo.o
          simp only [List.length_take, List.length_nil] at h; omega
        have hst := foldl_take (goneF a) [] o.o i hlt
        have hst2 := foldl_take (setsF a) [] o.o i hlt
        generalize (o.o.take i).foldl (goneF a) [] = gone at hst hlen
        generalize hsets : (o.o.take i).foldl (setsF a) [] = sets at hst2 hsl
        cases hf : findI a (o.o.getD i default).id == -1
        · have hob := mo.obj hlt
          obtain ⟨hf1, hf2⟩ := find_lt a _ hf
          have hob2 := ma.obj (i := (findI a (o.o.getD i default).id).toNat) (by omega)
          (repeat' (first | refine And.intro (by first | exact trivial | exact rfl | exact ⟨trivial, rfl⟩ | exact ⟨trivial, trivial⟩ | exact ⟨rfl, rfl⟩ | exact ⟨rfl, Nat.le_of_ble_eq_true rfl⟩ | decide) ?_ | refine two_t ?_ | refine two_f ?_ | refine two.intro (fun _ => ?_) (fun _ => ?_) | refine JL.nil ?_ | refine JC.seq ?_ | refine JC.block ?_ | refine JC.skip ?_ | refine JC.exit ?_ | refine JC.region ?_ | refine JC.cond rfl ?_ | refine And.intro (⟨Int.natCast_nonneg _, Int.ofNat_lt.2 hlt, rfl⟩) ?_ | refine fSt_in ?_ | refine fAcc_in ?_ | (refine JL.p0 rfl rfl rfl rfl rfl (Fit.refl _) (fun _ => rfl) (by first | exact other_yes a _ hf) (fun _ => rfl) ?_; refine ev_run ?_) | fail))
          · rename_i hb
            refine JC.ret ⟨_, Le.trans (Le.drop (s' := ⟨[(4, Go.Fw.one (.ref 2 0)), (5, s1 (tI 6))], [(2, .box 74 nil4)], 3⟩) (by repeat (first | exact trivial | refine SlLe.same rfl ?_ | refine SlLe.int rfl (by first | exact wrap_succ (by assumption) (by assumption) | exact wrap_succ2 (by first | omega | (simp only []; omega))) ?_)) (by exact ⟨rfl, trivial⟩) rfl) (Le.box 2 rfl nil4_le), And.intro (by repeat' (first | exact trivial | exact rfl | apply And.intro)) ?_⟩
            refine congrArg Res.ret (show rCE (noChg, 6) = _ from congrArg rCE ?_)
            have hb : badO a (o.o.getD i default) = true := by simp only [badO, hf, Bool.not_false, Bool.true_and]; exact hb
            have : o.o.any (badO a) = true := List.any_eq_true.2 ⟨_, getD_mem hlt, hb⟩
            simp [ofG, h1, h2, h3, this]
          · rename_i hb
            have hb : ((o.o.getD i default).t == (obIn a (o.o.getD i default)).t) = true := not_f hb
            have hb' : (o.o.getD i default).t = (obIn a (o.o.getD i default)).t := by simpa using hb
            have hno' : badO a (o.o.getD i default) = false := by simp only [badO, hb, Bool.not_true, Bool.and_false]
            have hfl : (o.o.getD i default).f.length = (obIn a (o.o.getD i default)).f.length := by
              rw [hob.2.2.1]
              refine Eq.trans ?_ hob2.2.2.1.symm
              unfold fldsOf
              rw [show (a.o.getD (findI a (o.o.getD i default).id).toNat default).t = (o.o.getD i default).t from hb'.symm]
              exact schSame_len h3 (by omega)
            generalize hy : obIn a (o.o.getD i default) = y at hfl hst2
            refine JC.conv (Le.drop (s' := ⟨[(2, Go.Fw.one (.ref 0 0)), (3, Go.Fw.one (.ref 1 0)), (4, Go.Fw.one (.ref 2 0)), (6, Go.Fw.one (.ref 3 0)), (58, s1 (rowsOf 3 eObj o.o)), (59, s1 (tI o.o.length)), (60, s1 (tI i)), (12, Go.Fw.one (.ref 8 0)), (13, Go.Fw.one (.ref 9 0)), (90, s1 (tI (o.o.getD i default).f.length)), (91, s1 (tI 0))],
              [(9, .box 53 (dat (eObj y))), (8, .box 53 (dat (eObj (o.o.getD i default)))), (7, .row 3 1 []), (6, .row 80 2 (rws ePair sets)), (5, .row 3 1 (rws eInt gone)), (4, .row 3 1 (rws eInt new)), (3, .box 74 [.base 4, .base 5, .base 6, .base 7]), (2, .box 74 nil4), (1, .box 28 (dat (eGr a))), (0, .box 28 (dat (eGr o)))], 10⟩) (by repeat (first | exact trivial | refine SlLe.same rfl ?_ | refine SlLe.int rfl (by first | exact wrap_succ (by assumption) (by assumption) | exact wrap_succ2 (by first | omega | (simp only []; omega))) ?_)) (by subst hy; exact (by repeat (first | exact trivial | refine ⟨rfl, ?_⟩ | refine ⟨row_kill rfl, ?_⟩ | refine ⟨row_snoc rfl, ?_⟩ | refine ⟨row_froz rfl, ?_⟩))) (by simp only [hLt, O.lt, rws_lt]; rfl)) ?_
            generalize hx : o.o.getD i default = x at *
            refine JC.loop (ι := { k : Nat // k ≤ x.f.length }) (fun k => ⟨[(2, Go.Fw.one (.ref 0 0)), (3, Go.Fw.one (.ref 1 0)), (4, Go.Fw.one (.ref 2 0)), (6, Go.Fw.one (.ref 3 0)), (58, s1 (rowsOf 3 eObj o.o)), (59, s1 (tI o.o.length)), (60, s1 (tI i)), (12, Go.Fw.one (.ref 8 0)), (13, Go.Fw.one (.ref 9 0)), (90, s1 (tI x.f.length)), (91, s1 (tI k.1))],
              [(9, .box 53 (dat (eObj y))), (8, .box 53 (dat (eObj x))), (7, .row 3 1 []), (6, .row 80 2 (rws ePair ((List.range k.1).foldl (setF x y) sets))), (5, .row 3 1 (rws eInt gone)), (4, .row 3 1 (rws eInt new)), (3, .box 74 [.base 4, .base 5, .base 6, .base 7]), (2, .box 74 nil4), (1, .box 28 (dat (eGr a))), (0, .box 28 (dat (eGr o)))], 10⟩) (fun k => x.f.length - k.1) ⟨0, Nat.zero_le _⟩ (Le.drop (by repeat (first | exact trivial | refine SlLe.same rfl ?_ | refine SlLe.int rfl (by first | exact wrap_succ (by assumption) (by assumption) | exact wrap_succ2 (by first | omega | (simp only []; omega))) ?_)) (by repeat (first | exact trivial | refine ⟨rfl, ?_⟩ | refine ⟨row_kill rfl, ?_⟩ | refine ⟨row_snoc rfl, ?_⟩ | refine ⟨row_froz rfl, ?_⟩)) (by simp only [hLt, O.lt, rws_lt]; rfl)) ?_
            rintro ⟨k, hk⟩
            have hbig2 : x.f.length ≤ big := by have := hob.2.2.2; unfold big; omega
            refine JC.seq ?_
            (repeat (first | refine JC.seq ?_ | refine JC.block ?_ | refine JC.skip ?_ | refine JC.exit ?_ | (refine JC.region ?_; (repeat (first | refine And.intro (by first | exact trivial | exact rfl | exact ⟨trivial, rfl⟩ | exact ⟨trivial, trivial⟩ | exact ⟨rfl, rfl⟩ | exact ⟨rfl, Nat.le_of_ble_eq_true rfl⟩ | decide) ?_ | refine fSt_in ?_ | refine fAcc_in ?_)); refine JL.nil ?_)))
            refine JC.cond rfl (two.intro ?_ ?_)
            · intro hltk
              have hltk : k < x.f.length := by simpa using hltk
              have hltk2 : k < y.f.length := by omega
              have hl6 := foldl_len (setF x y) 1 (fun acc k => by unfold setF; split <;> simp) (List.range k) sets
              have hl6 : ((List.range k).foldl (setF x y) sets).length ≤ 100000 := by
                have := hob.2.2.2
                rw [List.length_range] at hl6; omega
              have hst3 : (List.range (k + 1)).foldl (setF x y) sets = setF x y ((List.range k).foldl (setF x y) sets) k := by
                rw [List.range_succ, List.foldl_append]; rfl
              (repeat' (first | refine And.intro (by first | exact trivial | exact rfl | exact ⟨trivial, rfl⟩ | exact ⟨trivial, trivial⟩ | exact ⟨rfl, rfl⟩ | exact ⟨rfl, Nat.le_of_ble_eq_true rfl⟩ | decide) ?_ | refine two_t ?_ | refine two_f ?_ | refine two.intro (fun _ => ?_) (fun _ => ?_) | refine JL.nil ?_ | refine JC.seq ?_ | refine JC.block ?_ | refine JC.skip ?_ | refine JC.exit ?_ | refine JC.region ?_ | refine JC.cond rfl ?_ | refine fSt_in ?_ | refine fAcc_in ?_ | (refine JL.p0 rfl rfl rfl rfl rfl (Fit.refl _) (fun _ => rfl) (by first | exact find a 0) (fun _ => rfl) ?_; refine ev_run ?_) | fail))
              refine JC.draw 11 rfl ?_
              (repeat (first | refine And.intro (by first | exact trivial | exact rfl | exact ⟨trivial, rfl⟩ | exact ⟨trivial, trivial⟩ | exact ⟨rfl, rfl⟩ | exact ⟨rfl, Nat.le_of_ble_eq_true rfl⟩ | decide) ?_ | refine fSt_in ?_ | refine fAcc_in ?_))
              refine And.intro ⟨Int.natCast_nonneg _, Int.ofNat_lt.2 hltk, rfl⟩ ?_
              (repeat (first | refine And.intro (by first | exact trivial | exact rfl | exact ⟨trivial, rfl⟩ | exact ⟨trivial, trivial⟩ | exact ⟨rfl, rfl⟩ | exact ⟨rfl, Nat.le_of_ble_eq_true rfl⟩ | decide) ?_ | refine fSt_in ?_ | refine fAcc_in ?_))
              refine And.intro ⟨Int.natCast_nonneg _, Int.ofNat_lt.2 hltk2, rfl⟩ ?_
              (repeat (first | refine And.intro (by first | exact trivial | exact rfl | exact ⟨trivial, rfl⟩ | exact ⟨trivial, trivial⟩ | exact ⟨rfl, rfl⟩ | exact ⟨rfl, Nat.le_of_ble_eq_true rfl⟩ | decide) ?_ | refine fSt_in ?_ | refine fAcc_in ?_))
              refine JL.nil ?_
              refine JC.cond rfl (two.intro (fun hq => ?_) (fun hq => ?_))
              · have hq : qVal (x.f.getD k default) (y.f.getD k default) = false := not_t hq
                (repeat' (first | refine And.intro (by first | exact trivial | exact rfl | exact ⟨trivial, rfl⟩ | exact ⟨trivial, trivial⟩ | exact ⟨rfl, rfl⟩ | exact ⟨rfl, Nat.le_of_ble_eq_true rfl⟩ | decide) ?_ | refine two_t ?_ | refine two_f ?_ | refine two.intro (fun _ => ?_) (fun _ => ?_) | refine JL.nil ?_ | refine JC.seq ?_ | refine JC.block ?_ | refine JC.skip ?_ | refine JC.exit ?_ | refine JC.region ?_ | refine JC.cond rfl ?_ | refine And.intro (⟨⟨rfl, rfl⟩, rfl, rfl, rfl, app1 16 hl6 rfl rfl (by decide), app2 hl6 rfl⟩) ?_ | refine fSt_in ?_ | refine fAcc_in ?_ | fail))
                refine ⟨⟨k + 1, hltk⟩, by simp only; omega, ?_⟩
                rw [hst3, setF, if_neg (by rw [hq]; decide)]
                exact (Le.drop (by repeat (first | exact trivial | refine SlLe.same rfl ?_ | refine SlLe.int rfl (by first | exact wrap_succ (by assumption) (by assumption) | exact wrap_succ2 (by first | omega | (simp only []; omega))) ?_)) (by repeat (first | exact trivial | refine ⟨rfl, ?_⟩ | refine ⟨row_kill rfl, ?_⟩ | refine ⟨row_snoc rfl, ?_⟩ | refine ⟨row_froz rfl, ?_⟩)) (by simp only [hLt, O.lt, rws_lt]; rfl))
              · have hq : qVal (x.f.getD k default) (y.f.getD k default) = true := not_f hq
                (repeat' (first | refine And.intro (by first | exact trivial | exact rfl | exact ⟨trivial, rfl⟩ | exact ⟨trivial, trivial⟩ | exact ⟨rfl, rfl⟩ | exact ⟨rfl, Nat.le_of_ble_eq_true rfl⟩ | decide) ?_ | refine two_t ?_ | refine two_f ?_ | refine two.intro (fun _ => ?_) (fun _ => ?_) | refine JL.nil ?_ | refine JC.seq ?_ | refine JC.block ?_ | refine JC.skip ?_ | refine JC.exit ?_ | refine JC.region ?_ | refine JC.cond rfl ?_ | refine fSt_in ?_ | refine fAcc_in ?_ | (refine JL.p0 rfl rfl rfl rfl rfl (Fit.refl _) (fun _ => rfl) (by first | exact find a 0) (fun _ => rfl) ?_; refine ev_run ?_) | fail))
                refine ⟨⟨k + 1, hltk⟩, by simp only; omega, ?_⟩
                rw [hst3, setF, if_pos hq]
                exact (Le.drop (by repeat (first | exact trivial | refine SlLe.same rfl ?_ | refine SlLe.int rfl (by first | exact wrap_succ (by assumption) (by assumption) | exact wrap_succ2 (by first | omega | (simp only []; omega))) ?_)) (by repeat (first | exact trivial | refine ⟨rfl, ?_⟩ | refine ⟨row_kill rfl, ?_⟩ | refine ⟨row_snoc rfl, ?_⟩ | refine ⟨row_froz rfl, ?_⟩)) (by simp only [hLt, O.lt, rws_lt]; rfl))
            · intro hgek
              have hgek : ¬ k < x.f.length := by simpa using hgek
              obtain rfl : k = x.f.length := by omega
              (repeat' (first | refine And.intro (by first | exact trivial | exact rfl | exact ⟨trivial, rfl⟩ | exact ⟨trivial, trivial⟩ | exact ⟨rfl, rfl⟩ | exact ⟨rfl, Nat.le_of_ble_eq_true rfl⟩ | decide) ?_ | refine two_t ?_ | refine two_f ?_ | refine two.intro (fun _ => ?_) (fun _ => ?_) | refine JL.nil ?_ | refine JC.seq ?_ | refine JC.block ?_ | refine JC.skip ?_ | refine JC.exit ?_ | refine JC.region ?_ | refine JC.cond rfl ?_ | refine fSt_in ?_ | refine fAcc_in ?_ | (refine JL.p0 rfl rfl rfl rfl rfl (Fit.refl _) (fun _ => rfl) (by first | exact find a 0) (fun _ => rfl) ?_; refine ev_run ?_) | fail))
              refine ⟨⟨i + 1, hlt, upto_succ hno (hx ▸ hno')⟩, by simp only; omega, ?_⟩
              rw [hst, hst2, goneF, if_neg (by rw [hf]; decide), setsF, if_neg (by rw [hf]; decide)]
              rw [show obIn a x = y from hy]
              exact (Le.drop (by repeat (first | exact trivial | refine SlLe.same rfl ?_ | refine SlLe.int rfl (by first | exact wrap_succ (by assumption) (by assumption) | exact wrap_succ2 (by first | omega | (simp only []; omega))) ?_)) (by repeat (first | exact trivial | refine ⟨rfl, ?_⟩ | refine ⟨row_kill rfl, ?_⟩ | refine ⟨row_snoc rfl, ?_⟩ | refine ⟨row_froz rfl, ?_⟩)) (by simp only [hLt, O.lt, rws_lt]; rfl))
        · (repeat' (first | refine And.intro (by first | exact trivial | exact rfl | exact ⟨trivial, rfl⟩ | exact ⟨trivial, trivial⟩ | exact ⟨rfl, rfl⟩ | exact ⟨rfl, Nat.le_of_ble_eq_true rfl⟩ | decide) ?_ | refine two_t ?_ | refine two_f ?_ | refine two.intro (fun _ => ?_) (fun _ => ?_) | refine JL.nil ?_ | refine JC.seq ?_ | refine JC.block ?_ | refine JC.skip ?_ | refine JC.exit ?_ | refine JC.region ?_ | refine JC.cond rfl ?_ | refine And.intro (⟨Int.natCast_nonneg _, Int.ofNat_lt.2 hlt, rfl⟩) ?_ | refine And.intro (⟨⟨rfl, rfl⟩, rfl, rfl, rfl, app1 8 hlen rfl rfl (by decide), app2 hlen rfl⟩) ?_ | refine fSt_in ?_ | refine fAcc_in ?_ | (refine JL.p0 rfl rfl rfl rfl rfl (Fit.refl _) (fun _ => rfl) (by first | exact other_no a _ hf) (fun _ => rfl) ?_; refine ev_run ?_) | fail))
          refine ⟨⟨i + 1, hlt, upto_succ hno (by simp only [badO, hf, Bool.not_true, Bool.false_and])⟩, by simp only; omega, ?_⟩
          rw [hst, hst2, goneF, if_pos hf, setsF, if_pos hf]
          exact (Le.drop (by repeat (first | exact trivial | refine SlLe.same rfl ?_ | refine SlLe.int rfl (by first | exact wrap_succ (by assumption) (by assumption) | exact wrap_succ2 (by first | omega | (simp only []; omega))) ?_)) (by repeat (first | exact trivial | refine ⟨rfl, ?_⟩ | refine ⟨row_kill rfl, ?_⟩ | refine ⟨row_snoc rfl, ?_⟩ | refine ⟨row_froz rfl, ?_⟩)) (by simp only [hLt, O.lt, rws_lt]; rfl))
      · intro hge
        have hge : ¬ i < o.o.length := by simpa using hge
        obtain rfl : i = o.o.length := by omega
        have hany : o.o.any (badO a) = false := by
          rw [List.any_eq_false]
          intro x hx
          obtain ⟨j, hj, he⟩ := mem_getD hx
          rw [← he, hno j hj]; decide
        (repeat' (first | refine And.intro (by first | exact trivial | exact rfl | exact ⟨trivial, rfl⟩ | exact ⟨trivial, trivial⟩ | exact ⟨rfl, rfl⟩ | exact ⟨rfl, Nat.le_of_ble_eq_true rfl⟩ | decide) ?_ | refine two_t ?_ | refine two_f ?_ | refine two.intro (fun _ => ?_) (fun _ => ?_) | refine JL.nil ?_ | refine JC.seq ?_ | refine JC.block ?_ | refine JC.skip ?_ | refine JC.exit ?_ | refine JC.region ?_ | refine JC.cond rfl ?_ | refine fSt_in ?_ | refine fAcc_in ?_ | (refine JL.p0 rfl rfl rfl rfl rfl (Fit.refl _) (fun _ => rfl) (by first | exact find a 0) (fun _ => rfl) ?_; refine ev_run ?_) | fail))
        generalize hgone : (o.o.take o.o.length).foldl (goneF a) [] = gone
        generalize hsets : (o.o.take o.o.length).foldl (setsF a) [] = sets
        have hgone2 : gone = o.o.foldl (goneF a) [] := by rw [← hgone, List.take_length]
        have hsets2 : sets = o.o.foldl (setsF a) [] := by rw [← hsets, List.take_length]
        have hmax : (if (a.roots.length : Int) > o.roots.length then (a.roots.length : Int) else o.roots.length) = ((max o.roots.length a.roots.length : Nat) : Int) := by
          rw [Nat.max_def]; split <;> split <;> omega
        generalize hm : max o.roots.length a.roots.length = m at hmax
        have hm3 : m ≤ 3 := by have := mo.r; have := ma.r; omega
        refine JC.conv (Le.drop (s' := ⟨[(2, Go.Fw.one (.ref 0 0)), (3, Go.Fw.one (.ref 1 0)), (4, Go.Fw.one (.ref 2 0)), (6, Go.Fw.one (.ref 3 0)), (122, s1 (tI m)), (123, s1 (tI 0))],
          [(7, .row 3 1 []), (6, .row 80 2 (rws ePair sets)), (5, .row 3 1 (rws eInt gone)), (4, .row 3 1 (rws eInt new)), (3, .box 74 [.base 4, .base 5, .base 6, .base 7]), (2, .box 74 nil4), (1, .box 28 (dat (eGr a))), (0, .box 28 (dat (eGr o)))], 8⟩) (by repeat (first | exact trivial | refine SlLe.same rfl ?_ | refine SlLe.int rfl hmax ?_)) (by subst hgone hsets; exact (by repeat (first | exact trivial | refine ⟨rfl, ?_⟩ | refine ⟨row_kill rfl, ?_⟩ | refine ⟨row_snoc rfl, ?_⟩ | refine ⟨row_froz rfl, ?_⟩))) (by simp only [hLt, O.lt, rws_lt]; rfl)) ?_
        refine JC.loop (ι := { k : Nat // k ≤ m }) (fun k => ⟨[(2, Go.Fw.one (.ref 0 0)), (3, Go.Fw.one (.ref 1 0)), (4, Go.Fw.one (.ref 2 0)), (6, Go.Fw.one (.ref 3 0)), (122, s1 (tI m)), (123, s1 (tI k.1))],
          [(7, .row 3 1 (rws eInt ((List.range k.1).foldl (rootF o a) []))), (6, .row 80 2 (rws ePair sets)), (5, .row 3 1 (rws eInt gone)), (4, .row 3 1 (rws eInt new)), (3, .box 74 [.base 4, .base 5, .base 6, .base 7]), (2, .box 74 nil4), (1, .box 28 (dat (eGr a))), (0, .box 28 (dat (eGr o)))], 8⟩) (fun k => m - k.1) ⟨0, Nat.zero_le _⟩ (Le.drop (by repeat (first | exact trivial | refine SlLe.same rfl ?_ | refine SlLe.int rfl (by first | exact wrap_succ (by assumption) (by assumption) | exact wrap_succ2 (by first | omega | (simp only []; omega))) ?_)) (by repeat (first | exact trivial | refine ⟨rfl, ?_⟩ | refine ⟨row_kill rfl, ?_⟩ | refine ⟨row_snoc rfl, ?_⟩ | refine ⟨row_froz rfl, ?_⟩)) (by simp only [hLt, O.lt, rws_lt]; rfl)) ?_
        rintro ⟨k, hk⟩
        have hbig3 : m ≤ big := by unfold big; omega
        refine JC.seq ?_
        (repeat (first | refine JC.seq ?_ | refine JC.block ?_ | refine JC.skip ?_ | refine JC.exit ?_ | (refine JC.region ?_; (repeat (first | refine And.intro (by first | exact trivial | exact rfl | exact ⟨trivial, rfl⟩ | exact ⟨trivial, trivial⟩ | exact ⟨rfl, rfl⟩ | exact ⟨rfl, Nat.le_of_ble_eq_true rfl⟩ | decide) ?_ | refine fSt_in ?_ | refine fAcc_in ?_)); refine JL.nil ?_)))
        refine JC.cond rfl (two.intro ?_ ?_)
        · intro hltk
          have hltk : k < m := by simpa using hltk
          have hl7 := foldl_len (rootF o a) 1 (fun acc k => by unfold rootF; split <;> simp) (List.range k) []
          have hl7 : ((List.range k).foldl (rootF o a) []).length ≤ 100000 := by
            rw [List.length_range, List.length_nil] at hl7; omega
          have hst3 : (List.range (k + 1)).foldl (rootF o a) [] = rootF o a ((List.range k).foldl (rootF o a) []) k := by
            rw [List.range_succ, List.foldl_append]; rfl
          (repeat' (first | refine And.intro (by first | exact trivial | exact rfl | exact ⟨trivial, rfl⟩ | exact ⟨trivial, trivial⟩ | exact ⟨rfl, rfl⟩ | exact ⟨rfl, Nat.le_of_ble_eq_true rfl⟩ | decide) ?_ | refine two_t ?_ | refine two_f ?_ | refine two.intro (fun _ => ?_) (fun _ => ?_) | refine JL.nil ?_ | refine JC.seq ?_ | refine JC.block ?_ | refine JC.skip ?_ | refine JC.exit ?_ | refine JC.region ?_ | refine JC.cond rfl ?_ | refine fSt_in ?_ | refine fAcc_in ?_ | (refine JL.p0 rfl rfl rfl rfl rfl (Fit.refl _) (fun _ => rfl) (by first | exact find a 0) (fun _ => rfl) ?_; refine ev_run ?_) | fail))
          refine JC.draw 7 rfl ?_
          (repeat (first | refine And.intro (by first | exact trivial | exact rfl | exact ⟨trivial, rfl⟩ | exact ⟨trivial, trivial⟩ | exact ⟨rfl, rfl⟩ | exact ⟨rfl, Nat.le_of_ble_eq_true rfl⟩ | decide) ?_ | refine fSt_in ?_ | refine fAcc_in ?_))
          refine ⟨_, CallOK.p0 rfl rfl rfl rfl rfl (Fit.refl _) (fun _ => rfl) (rootDT o (k : Int) (Int.natCast_nonneg _)) (fun _ => rfl), ?_⟩
          (repeat (first | refine And.intro (by first | exact trivial | exact rfl | exact ⟨trivial, rfl⟩ | exact ⟨trivial, trivial⟩ | exact ⟨rfl, rfl⟩ | exact ⟨rfl, Nat.le_of_ble_eq_true rfl⟩ | decide) ?_ | refine fSt_in ?_ | refine fAcc_in ?_))
          refine ⟨_, CallOK.p0 rfl rfl rfl rfl rfl (Fit.refl _) (fun _ => rfl) (rootDT a (k : Int) (Int.natCast_nonneg _)) (fun _ => rfl), ?_⟩
          (repeat (first | refine And.intro (by first | exact trivial | exact rfl | exact ⟨trivial, rfl⟩ | exact ⟨trivial, trivial⟩ | exact ⟨rfl, rfl⟩ | exact ⟨rfl, Nat.le_of_ble_eq_true rfl⟩ | decide) ?_ | refine fSt_in ?_ | refine fAcc_in ?_))
          refine JL.nil ?_
          refine JC.cond rfl (two.intro (fun hq => ?_) (fun hq => ?_))
          · have hq : (rootAt o k == rootAt a k) = false := not_t hq
            (repeat' (first | refine And.intro (by first | exact trivial | exact rfl | exact ⟨trivial, rfl⟩ | exact ⟨trivial, trivial⟩ | exact ⟨rfl, rfl⟩ | exact ⟨rfl, Nat.le_of_ble_eq_true rfl⟩ | decide) ?_ | refine two_t ?_ | refine two_f ?_ | refine two.intro (fun _ => ?_) (fun _ => ?_) | refine JL.nil ?_ | refine JC.seq ?_ | refine JC.block ?_ | refine JC.skip ?_ | refine JC.exit ?_ | refine JC.region ?_ | refine JC.cond rfl ?_ | refine And.intro (⟨⟨rfl, rfl⟩, rfl, rfl, rfl, app1 8 hl7 rfl rfl (by decide), app2 hl7 rfl⟩) ?_ | refine fSt_in ?_ | refine fAcc_in ?_ | fail))
            refine ⟨⟨k + 1, hltk⟩, by simp only; omega, ?_⟩
            rw [hst3, rootF, if_neg (by rw [hq]; decide)]
            exact (Le.drop (by repeat (first | exact trivial | refine SlLe.same rfl ?_ | refine SlLe.int rfl (by first | exact wrap_succ (by assumption) (by assumption) | exact wrap_succ2 (by first | omega | (simp only []; omega))) ?_)) (by repeat (first | exact trivial | refine ⟨rfl, ?_⟩ | refine ⟨row_kill rfl, ?_⟩ | refine ⟨row_snoc rfl, ?_⟩ | refine ⟨row_froz rfl, ?_⟩)) (by simp only [hLt, O.lt, rws_lt]; rfl))
          · have hq : (rootAt o k == rootAt a k) = true := not_f hq
            (repeat' (first | refine And.intro (by first | exact trivial | exact rfl | exact ⟨trivial, rfl⟩ | exact ⟨trivial, trivial⟩ | exact ⟨rfl, rfl⟩ | exact ⟨rfl, Nat.le_of_ble_eq_true rfl⟩ | decide) ?_ | refine two_t ?_ | refine two_f ?_ | refine two.intro (fun _ => ?_) (fun _ => ?_) | refine JL.nil ?_ | refine JC.seq ?_ | refine JC.block ?_ | refine JC.skip ?_ | refine JC.exit ?_ | refine JC.region ?_ | refine JC.cond rfl ?_ | refine fSt_in ?_ | refine fAcc_in ?_ | (refine JL.p0 rfl rfl rfl rfl rfl (Fit.refl _) (fun _ => rfl) (by first | exact find a 0) (fun _ => rfl) ?_; refine ev_run ?_) | fail))
            refine ⟨⟨k + 1, hltk⟩, by simp only; omega, ?_⟩
            rw [hst3, rootF, if_pos hq]
            exact (Le.drop (by repeat (first | exact trivial | refine SlLe.same rfl ?_ | refine SlLe.int rfl (by first | exact wrap_succ (by assumption) (by assumption) | exact wrap_succ2 (by first | omega | (simp only []; omega))) ?_)) (by repeat (first | exact trivial | refine ⟨rfl, ?_⟩ | refine ⟨row_kill rfl, ?_⟩ | refine ⟨row_snoc rfl, ?_⟩ | refine ⟨row_froz rfl, ?_⟩)) (by simp only [hLt, O.lt, rws_lt]; rfl))
        · intro hgek
          have hgek : ¬ k < m := by simpa using hgek
          obtain rfl : k = m := by omega
          (repeat' (first | refine And.intro (by first | exact trivial | exact rfl | exact ⟨trivial, rfl⟩ | exact ⟨trivial, trivial⟩ | exact ⟨rfl, rfl⟩ | exact ⟨rfl, Nat.le_of_ble_eq_true rfl⟩ | decide) ?_ | refine two_t ?_ | refine two_f ?_ | refine two.intro (fun _ => ?_) (fun _ => ?_) | refine JL.nil ?_ | refine JC.seq ?_ | refine JC.block ?_ | refine JC.skip ?_ | refine JC.exit ?_ | refine JC.region ?_ | refine JC.cond rfl ?_ | refine fSt_in ?_ | refine fAcc_in ?_ | (refine JL.p0 rfl rfl rfl rfl rfl (Fit.refl _) (fun _ => rfl) (by first | exact find a 0) (fun _ => rfl) ?_; refine ev_run ?_) | fail))
          generalize hroots : (List.range k).foldl (rootF o a) [] = roots
          refine JC.ret ⟨_, Le.trans (Le.drop (s' := ⟨[(4, Go.Fw.one (.ref 2 0)), (5, s1 (tI 0))],
            [(7, .row 3 1 (rws eInt roots)), (6, .row 80 2 (rws ePair sets)), (5, .row 3 1 (rws eInt gone)), (4, .row 3 1 (rws eInt new)), (2, .box 74 [.base 4, .base 5, .base 6, .base 7])], 8⟩) (by repeat (first | exact trivial | refine SlLe.same rfl ?_ | refine SlLe.int rfl (by first | exact wrap_succ (by assumption) (by assumption) | exact wrap_succ2 (by first | omega | (simp only []; omega))) ?_)) (by subst hroots; exact (by repeat (first | exact trivial | refine ⟨rfl, ?_⟩ | refine ⟨row_kill rfl, ?_⟩ | refine ⟨row_snoc rfl, ?_⟩ | refine ⟨row_froz rfl, ?_⟩))) (by simp only [hLt, O.lt, rws_lt]; rfl)) (Le.frozC new gone sets roots), And.intro (by repeat' (first | exact trivial | exact rfl | apply And.intro)) ?_⟩
          refine congrArg Res.ret ?_
          have he : ofG o a = (⟨new, gone, sets, roots⟩, 0) := by
            simp [ofG, h1, h2, h3, hany, hnew2, hgone2, hsets2, ← hroots, hm]
          rw [he]; rfl
end Go.Proofs.Ytlhfajmcnbcabaa

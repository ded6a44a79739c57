/- A field is set. -/
import Derived.Test.YtlhfajmcnbcabaaA10
set_option linter.unusedVariables false
set_option linter.unusedSimpArgs false
namespace Go.Proofs.Ytlhfajmcnbcabaa
open Go Go.Fw
set_option maxRecDepth 100000

def findI (g : Gr) (id : Int) : Int := idx (fun o => o.id == id) g.o
/-- A graph, a field of which has another value. -/
def putV (g : Gr) (i k : Nat) (v : Val) : Gr := { g with o := g.o.set i { g.o.getD i default with f := (g.o.getD i default).f.set k v } }
def setG (g : Gr) (id k : Int) (v : Val) : Gr × Int :=
  if !grMay g then (g, 1)
  else if findI g id == -1 then (g, 11)
  else if k < 0 then (g, 11)
  else if k ≥ ((g.o.getD (findI g id).toNat default).f.length : Int) then (g, 11)
  else if !leadsOK g.s (typesE g.o) ((fldsOf g.s (g.o.getD (findI g id).toNat default)).getD k.toNat default) v then (g, 6)
  else (putV g (findI g id).toNat k.toNat v, 0)
def rGE (x : Gr × Int) : SV := .tup [.agg (dat (eGr x.1)), .one (.data (tI x.2))]
theorem idx_in {α : Type} [Inhabited α] (p : α → Bool) : ∀ xs : List α, idx p xs ≠ -1 → ∃ i : Nat, idx p xs = (i : Int) ∧ i < xs.length ∧ p (xs.getD i default) = true
  | [], h => absurd rfl h
  | x :: r, h => by
    simp only [idx] at h ⊢
    by_cases hx : p x = true
    · rw [if_pos hx]; exact ⟨0, rfl, by simp, by simpa using hx⟩
    · rw [if_neg hx] at h ⊢
      have h1 := idx_ge p r
      by_cases h2 : idx p r < 0
      · rw [if_pos h2] at h; exact absurd rfl h
      · obtain ⟨i, h3, h4, h5⟩ := idx_in p r (by omega)
        rw [if_neg h2, h3]
        exact ⟨i + 1, by omega, by simpa using h4, by simpa using h5⟩
/-- The objects' rows; those of one object's values are its own, by the id b. -/
def rowsB (g : Gr) (i0 b : Nat) : List (List D) := (rws eObj g.o).set i0 [.data (tI (g.o.getD i0 default).id), .data (tI (g.o.getD i0 default).t), .base b]
theorem rowsB_ren (g : Gr) (i0 : Nat) (ρ : Nat → Nat) : (rowsG g i0).map (fun r => r.map (D.ren ρ)) = rowsB g i0 (ρ 5) := by
  rw [rowsG, List.map_set, rws_ren]; rfl
theorem rowsB_lt (g : Gr) (i0 b n : Nat) (hn : b < n) : (rowsB g i0 b).all (dsLt n) = true := by
  rw [List.all_eq_true]
  intro r hr
  rcases List.mem_or_eq_of_mem_set hr with h | rfl
  · exact List.all_eq_true.1 (rws_lt eObj g.o n) r h
  · simp only [dsLt, D.lt, Bool.true_and, Bool.and_true]
    exact Nat.ble_eq_true_of_le hn
theorem rowsB_len (g : Gr) (i0 b : Nat) : (rowsB g i0 b).length = g.o.length := by simp [rowsB, rws_len]
theorem rowsB_at (g : Gr) {i0 : Nat} (b : Nat) (h : i0 < g.o.length) : (rowsB g i0 b)[i0]? = some [.data (tI (g.o.getD i0 default).id), .data (tI (g.o.getD i0 default).t), .base b] := by
  rw [rowsB, List.getElem?_set_self (by rw [rws_len]; exact h)]
theorem rowsB_froz (g : Gr) {i0 b : Nat} (h : i0 < g.o.length) : (rowsB g i0 b).map (fun r => r.map (D.froz b (rowsOf 3 eVal (g.o.getD i0 default).f))) = rws eObj g.o := by
  rw [rowsB, List.map_set, rws_froz]
  have : (List.map (D.froz b (rowsOf 3 eVal (g.o.getD i0 default).f)) [.data (tI (g.o.getD i0 default).id), .data (tI (g.o.getD i0 default).t), .base b]) = (eObj (g.o.getD i0 default)).map .data := by
    simp only [List.map_cons, List.map_nil, D.froz, eObj]
    rw [show Nat.beq b b = true from by simp]
    rfl
  rw [this]
  exact rws_same eObj h
/-- A graph whose one object's values are one's own, as plain data. -/
theorem Le.frozG {n0 nx : Nat} {sl : List (Nat × SV)} {h : Heap} (g : Gr) {i : Nat} (hlt : i < g.o.length) (hn : n0 = 0) : Le n0 ⟨sl, (8, .row 48 3 (rws eVal (g.o.getD i default).f)) :: (6, .row 53 3 (rowsB g i 8)) :: h, nx⟩
    (St.froz ⟨frozL sl 8 (rowsOf 3 eVal (g.o.getD i default).f), (6, .row 53 3 (rws eObj g.o)) :: frozH h 8 (rowsOf 3 eVal (g.o.getD i default).f), nx⟩ 6 (rowsOf 3 eObj g.o)) := by
  subst hn
  refine Le.trans (Le.froz 8 (g.o.getD i default).f.length (fun k => eVal ((g.o.getD i default).f.getD k default)) rfl rfl (rws_len _ _) (fun k hk => rws_at _ hk)) ?_
  have he : St.froz ⟨sl, (8, .row 48 3 (rws eVal (g.o.getD i default).f)) :: (6, .row 53 3 (rowsB g i 8)) :: h, nx⟩ 8 (rowsOf 3 eVal (g.o.getD i default).f) = ⟨frozL sl 8 (rowsOf 3 eVal (g.o.getD i default).f), (6, .row 53 3 (rws eObj g.o)) :: frozH h 8 (rowsOf 3 eVal (g.o.getD i default).f), nx⟩ := by
    show St.mk _ ((6, .row 53 3 ((rowsB g i 8).map (fun r => r.map (D.froz 8 (rowsOf 3 eVal (g.o.getD i default).f))))) :: _) _ = _
    rw [rowsB_froz g hlt]
  show Le 0 (St.froz _ 8 (rowsOf 3 eVal (g.o.getD i default).f)) _
  rw [he]
  exact Le.froz 6 g.o.length (fun k => eObj (g.o.getD k default)) rfl rfl (rws_len _ _) (fun k hk => rws_at _ hk)
theorem rws_set {α : Type} (E : α → List T) (xs : List α) (k : Nat) (v : α) : (rws E xs).set k ((E v).map .data) = rws E (xs.set k v) := by
  simp [rws, List.map_set]
theorem rowsB_frozV (g : Gr) {i0 b : Nat} (fs : List Val) : (rowsB g i0 b).map (fun r => r.map (D.froz b (rowsOf 3 eVal fs))) = rws eObj (g.o.set i0 { g.o.getD i0 default with f := fs }) := by
  rw [rowsB, List.map_set, rws_froz]
  have : (List.map (D.froz b (rowsOf 3 eVal fs)) [.data (tI (g.o.getD i0 default).id), .data (tI (g.o.getD i0 default).t), .base b]) = (eObj { g.o.getD i0 default with f := fs }).map .data := by
    simp only [List.map_cons, List.map_nil, D.froz, eObj]
    rw [show Nat.beq b b = true from by simp]
    rfl
  rw [this]
  exact rws_set eObj _ _ _
theorem Le.frozV {n0 nx : Nat} {sl : List (Nat × SV)} {h : Heap} (g : Gr) {i : Nat} (hlt : i < g.o.length) (fs : List Val) (hn : n0 = 0) : Le n0 ⟨sl, (8, .row 48 3 (rws eVal fs)) :: (6, .row 53 3 (rowsB g i 8)) :: h, nx⟩
    (St.froz ⟨frozL sl 8 (rowsOf 3 eVal fs), (6, .row 53 3 (rws eObj (g.o.set i { g.o.getD i default with f := fs }))) :: frozH h 8 (rowsOf 3 eVal fs), nx⟩ 6 (rowsOf 3 eObj (g.o.set i { g.o.getD i default with f := fs }))) := by
  subst hn
  refine Le.trans (Le.froz 8 fs.length (fun k => eVal (fs.getD k default)) rfl rfl (rws_len _ _) (fun k hk => rws_at _ hk)) ?_
  have he : St.froz ⟨sl, (8, .row 48 3 (rws eVal fs)) :: (6, .row 53 3 (rowsB g i 8)) :: h, nx⟩ 8 (rowsOf 3 eVal fs) = ⟨frozL sl 8 (rowsOf 3 eVal fs), (6, .row 53 3 (rws eObj (g.o.set i { g.o.getD i default with f := fs }))) :: frozH h 8 (rowsOf 3 eVal fs), nx⟩ := by
    show St.mk _ ((6, .row 53 3 ((rowsB g i 8).map (fun r => r.map (D.froz 8 (rowsOf 3 eVal fs))))) :: _) _ = _
    rw [rowsB_frozV g fs]
  show Le 0 (St.froz _ 8 (rowsOf 3 eVal fs)) _
  rw [he]
  exact Le.froz 6 (g.o.set i { g.o.getD i default with f := fs }).length (fun k => eObj ((g.o.set i { g.o.getD i default with f := fs }).getD k default)) rfl rfl (rws_len _ _) (fun k hk => rws_at _ hk)
theorem objsOK_at {s : List Typ} {es : List (Int × Int)} : ∀ {os : List Obj} {last : Int} {i : Nat}, objsOK s es last os = true → i < os.length → ∃ last', objOK s es last' (os.getD i default) = true
  | [], _, _, _, h => by simp at h
  | o :: r, last, 0, h, _ => by
    simp only [objsOK, Bool.and_eq_true] at h
    exact ⟨last, by simpa using h.1⟩
  | o :: r, last, i + 1, h, hl => by
    simp only [objsOK, Bool.and_eq_true] at h
    obtain ⟨l', h'⟩ := objsOK_at (i := i) h.2 (by simpa using hl)
    exact ⟨l', by simpa using h'⟩
theorem grMay_objs {g : Gr} (h : grMay g = true) : objsOK g.s (typesE g.o) (-1) g.o = true := by
  simp only [grMay, Bool.and_eq_true] at h
  exact h.1.2
theorem objOK_parts {s : List Typ} {es : List (Int × Int)} {last : Int} {o : Obj} (h : objOK s es last o = true) : last < o.id ∧ o.id ≤ 1073741824 ∧ 0 ≤ o.t ∧ o.t < (s.length : Int) ∧ o.f.length = (fldsOf s o).length ∧
    ∀ k, k < o.f.length → leadsOK s es ((fldsOf s o).getD k default) (o.f.getD k default) = true := by
  simp only [objOK, Bool.and_eq_true, Bool.not_eq_true', decide_eq_false_iff_not, beq_iff_eq] at h
  obtain ⟨⟨⟨⟨⟨h1, h2⟩, h3⟩, h4⟩, h5⟩, h6⟩ := h
  refine ⟨by omega, by omega, by omega, by omega, by omega, fun k hk => ?_⟩
  unfold allI at h6
  exact List.all_eq_true.1 h6 k (List.mem_range.2 hk)
set_option maxHeartbeats 1000000 in
theorem setT (g : Gr) (hg : Small g) (id k : Int) (v : Val) : PureT cx 19 [sA (eGr g), s1 (tI id), s1 (tI k), sA (eVal v)] [] 0 (rGE (setG g id k v)) := by
  refine PureT.run0 Try.func19 rfl rfl 69 Try.ntmps19 [.cell 8 28, .tmp 9] rfl rfl (fun _ => rfl) ?_
  by_cases hf : findI g id = -1
  · have hf' : (idx (fun o => o.id == id) g.o == -1) = true := by simpa [findI] using hf
    (repeat' (first | refine And.intro (by first | exact trivial | exact rfl | exact ⟨trivial, rfl⟩ | exact ⟨trivial, trivial⟩ | exact ⟨rfl, rfl⟩ | exact ⟨rfl, Nat.le_of_ble_eq_true rfl⟩ | decide) ?_ | refine two_t ?_ | refine two_f ?_ | refine two.intro (fun _ => ?_) (fun _ => ?_) | refine JL.nil ?_ | refine JC.seq ?_ | refine JC.block ?_ | refine JC.skip ?_ | refine JC.exit ?_ | refine JC.region ?_ | refine JC.cond rfl ?_ | refine JC.ret ⟨_, Le.refl, And.intro (by repeat' (first | exact trivial | exact rfl | apply And.intro)) ?_⟩ | refine fSt_in ?_ | refine fAcc_in ?_ | (refine JL.p0 rfl rfl rfl rfl rfl (Fit.refl _) (fun _ => rfl) (by first | exact ownF g hg | exact grMayT g | exact find g id) (fun _ => rfl) ?_; refine ev_run ?_) | fail))
    · rename_i h1
      refine congrArg Res.ret ?_
      simp [setG, not_t h1]; rfl
    · rename_i h1 h2 h3
      refine congrArg Res.ret ?_
      simp [setG, not_f h1, hf]; rfl
    · rename_i h1 h2 h3
      rw [hf'] at h3; cases h3
    · rename_i h1 h2 h3 h4
      rw [hf'] at h2; cases h2
    · rename_i h1 h2 h3 h4
      rw [hf'] at h2; cases h2
    · rename_i h1 h2 h3
      rw [hf'] at h2; cases h2
  · obtain ⟨i, hi, hlt, _⟩ := idx_in _ _ hf
    have hf' : (idx (fun o => o.id == id) g.o == -1) = false := by simpa [findI] using hf
    have hi' : findI g id = (i : Int) := hi
    have hnat : (findI g id).toNat = i := by rw [hi']; rfl
    (repeat' (first | refine And.intro (by first | exact trivial | exact rfl | exact ⟨trivial, rfl⟩ | exact ⟨trivial, trivial⟩ | exact ⟨rfl, rfl⟩ | exact ⟨rfl, Nat.le_of_ble_eq_true rfl⟩ | decide) ?_ | refine two_t ?_ | refine two_f ?_ | refine two.intro (fun _ => ?_) (fun _ => ?_) | refine JL.nil ?_ | refine JC.seq ?_ | refine JC.block ?_ | refine JC.skip ?_ | refine JC.exit ?_ | refine JC.region ?_ | refine JC.cond rfl ?_ | refine fSt_in ?_ | refine fAcc_in ?_ | (refine JL.nw2 (h1' := [(8, .row 48 3 (rws eVal (g.o.getD i default).f)), (6, .row 53 3 (rowsB g i 8)), (4, .box 28 [.data (rowsOf 2 eTyp g.s), .base 6, .data (rowsOf 1 eInt g.roots)])]) rfl rfl rfl rfl rfl (Fit.refl _) (fun _ => rfl) (ownG g hg i hlt) (by simp only [renH, O.ren, rws_ren, rowsB_ren]; rfl) rfl ?_; refine ev_run ?_) | (refine JL.p0 rfl rfl rfl rfl rfl (Fit.refl _) (fun _ => rfl) (by first | exact grMayT g | exact find g id) (fun _ => rfl) ?_; refine ev_run ?_) | fail))
    · rename_i h1
      refine JC.ret ⟨_, Le.trans (Le.drop (s' := ⟨[(8, Go.Fw.one (.ref 2 0)), (9, s1 (tI 1))], [(8, .row 48 3 (rws eVal (g.o.getD i default).f)), (6, .row 53 3 (rowsB g i 8)), (2, .box 28 [.data (rowsOf 2 eTyp g.s), .base 6, .data (rowsOf 1 eInt g.roots)])], 10⟩) (by repeat (first | exact trivial | refine SlLe.same rfl ?_)) (by exact ⟨rfl, rfl, rfl, trivial⟩) (by simp only [hLt, O.lt, rws_lt, rowsB_lt _ _ _ _ (by decide : 8 < 10)]; rfl)) (Le.frozG g hlt rfl), And.intro (by repeat' (first | exact trivial | exact rfl | apply And.intro)) ?_⟩
      refine congrArg Res.ret ?_
      simp [setG, not_t h1]; rfl
    · exfalso; simp_all
    · exfalso; simp_all
    · rename_i h1 h2 h3 h4
      refine JC.ret ⟨_, Le.trans (Le.drop (s' := ⟨[(8, Go.Fw.one (.ref 2 0)), (9, s1 (tI 11))], [(8, .row 48 3 (rws eVal (g.o.getD i default).f)), (6, .row 53 3 (rowsB g i 8)), (2, .box 28 [.data (rowsOf 2 eTyp g.s), .base 6, .data (rowsOf 1 eInt g.roots)])], 10⟩) (by repeat (first | exact trivial | refine SlLe.same rfl ?_)) (by exact ⟨rfl, rfl, rfl, trivial⟩) (by simp only [hLt, O.lt, rws_lt, rowsB_lt _ _ _ _ (by decide : 8 < 10)]; rfl)) (Le.frozG g hlt rfl), And.intro (by repeat' (first | exact trivial | exact rfl | apply And.intro)) ?_⟩
      refine congrArg Res.ret ?_
      have : k < 0 := of_decide_eq_true h3
      simp [setG, not_f h1, hf, this]; rfl
    · exfalso; simp_all
    · rename_i h1 h2 h3
      have hk0 : ¬ k < 0 := of_decide_eq_false h3
      have hp0 : 0 ≤ idx (fun o => o.id == id) g.o := by omega
      have hp1 : idx (fun o => o.id == id) g.o < g.o.length := by omega
      (repeat' (first | refine And.intro (by first | exact trivial | exact rfl | exact ⟨trivial, rfl⟩ | exact ⟨trivial, trivial⟩ | exact ⟨rfl, rfl⟩ | exact ⟨rfl, Nat.le_of_ble_eq_true rfl⟩ | decide) ?_ | refine two_t ?_ | refine two_f ?_ | refine two.intro (fun _ => ?_) (fun _ => ?_) | refine JL.nil ?_ | refine JC.seq ?_ | refine JC.block ?_ | refine JC.skip ?_ | refine JC.exit ?_ | refine JC.region ?_ | refine JC.cond rfl ?_ | refine And.intro (⟨hp0, hp1, rfl⟩) ?_ | refine fSt_in ?_ | refine fAcc_in ?_ | (refine JL.p0 rfl rfl rfl rfl rfl (Fit.refl _) (fun _ => rfl) (by first | exact find g id) (fun _ => rfl) ?_; refine ev_run ?_) | fail))
      · rename_i h4
        refine JC.ret ⟨_, Le.trans (Le.drop (s' := ⟨[(8, Go.Fw.one (.ref 2 0)), (9, s1 (tI 11))], [(8, .row 48 3 (rws eVal (g.o.getD i default).f)), (6, .row 53 3 (rowsB g i 8)), (2, .box 28 [.data (rowsOf 2 eTyp g.s), .base 6, .data (rowsOf 1 eInt g.roots)])], 10⟩) (by repeat (first | exact trivial | refine SlLe.same rfl ?_)) (by exact ⟨rfl, rfl, rfl, trivial⟩) (by simp only [hLt, O.lt, rws_lt, rowsB_lt _ _ _ _ (by decide : 8 < 10)]; rfl)) (Le.frozG g hlt rfl), And.intro (by repeat' (first | exact trivial | exact rfl | apply And.intro)) ?_⟩
        refine congrArg Res.ret ?_
        have h4' : k ≥ ((g.o.getD (findI g id).toNat default).f.length : Int) := of_decide_eq_true h4
        simp only [setG, not_f h1, hf, hk0, h4', Bool.not_true, Bool.false_eq_true, if_false, if_true, beq_iff_eq]; rfl
      · rename_i h4
        have h4' : ¬ k ≥ ((g.o.getD (findI g id).toNat default).f.length : Int) := of_decide_eq_false h4
        have hmay := not_f h1
        obtain ⟨last, hob⟩ := objsOK_at (grMay_objs hmay) hlt
        have hob' := objOK_parts hob
        rw [hnat] at h4'
        have hb8 := rowsB_lt g i 8 10 (by decide)
        refine JC.conv (Le.drop (s' := ⟨[(2, s1 (tI k)), (4, Go.Fw.one (.ref 0 0)), (7, Go.Fw.one (.ref 1 0)), (8, Go.Fw.one (.ref 2 0)), (10, Go.Fw.one (.ref 9 0)), (11, s1 (tI i))],
          [(9, .box 28 [.data (rowsOf 2 eTyp g.s), .base 6, .data (rowsOf 1 eInt g.roots)]), (8, .row 48 3 (rws eVal (g.o.getD i default).f)), (6, .row 53 3 (rowsB g i 8)), (2, .box 28 [.data (.lit (.slice none 0 0)), .data (.lit (.slice none 0 0)), .data (.lit (.slice none 0 0))]),
           (1, .box 48 (dat (eVal v))), (0, .box 28 (dat (eGr g)))], 10⟩) (by repeat (first | exact trivial | refine SlLe.same rfl ?_ | refine SlLe.int rfl hi ?_)) (by exact ⟨rfl, rfl, rfl, rfl, rfl, rfl, trivial⟩) (by simp only [hLt, O.lt, rws_lt, hb8]; rfl)) ?_
        refine JC.drawM 22 (some ⟨2, [(11, mI (typesE g.o))], 2⟩) rfl ?_
        (repeat (first | refine And.intro (by first | exact trivial | exact rfl | exact ⟨trivial, rfl⟩ | exact ⟨trivial, trivial⟩ | exact ⟨rfl, rfl⟩ | exact ⟨rfl, Nat.le_of_ble_eq_true rfl⟩ | decide) ?_ | refine fSt_in ?_ | refine fAcc_in ?_))
        refine Or.inr ⟨_, _, _, rfl, MakeM.nw rfl rfl rfl rfl rfl (Fit.refl _) (fun _ => rfl) (typesT g) rfl rfl, ?_⟩
        (repeat (first | refine And.intro (by first | exact trivial | exact rfl | exact ⟨trivial, rfl⟩ | exact ⟨trivial, trivial⟩ | exact ⟨rfl, rfl⟩ | exact ⟨rfl, Nat.le_of_ble_eq_true rfl⟩ | decide) ?_ | refine fSt_in ?_ | refine fAcc_in ?_))
        have hik : (i : Int) < g.o.length := by omega
        refine And.intro ⟨Int.natCast_nonneg _, hik, rfl⟩ ?_
        (repeat (first | refine And.intro (by first | exact trivial | exact rfl | exact ⟨trivial, rfl⟩ | exact ⟨trivial, trivial⟩ | exact ⟨rfl, rfl⟩ | exact ⟨rfl, Nat.le_of_ble_eq_true rfl⟩ | decide) ?_ | refine fSt_in ?_ | refine fAcc_in ?_))
        refine And.intro ⟨hob'.2.2.1, hob'.2.2.2.1, rfl⟩ ?_
        (repeat (first | refine And.intro (by first | exact trivial | exact rfl | exact ⟨trivial, rfl⟩ | exact ⟨trivial, trivial⟩ | exact ⟨rfl, rfl⟩ | exact ⟨rfl, Nat.le_of_ble_eq_true rfl⟩ | decide) ?_ | refine fSt_in ?_ | refine fAcc_in ?_))
        have hkf : k < ((fldsOf g.s (g.o.getD i default)).length : Int) := by rw [← hob'.2.2.2.2.1]; omega
        refine And.intro ⟨by omega, hkf, rfl⟩ ?_
        (repeat (first | refine And.intro (by first | exact trivial | exact rfl | exact ⟨trivial, rfl⟩ | exact ⟨trivial, trivial⟩ | exact ⟨rfl, rfl⟩ | exact ⟨rfl, Nat.le_of_ble_eq_true rfl⟩ | decide) ?_ | refine fSt_in ?_ | refine fAcc_in ?_))
        refine Or.inl ⟨s1 (tB (leadsOK g.s (typesE g.o) ((fldsOf g.s (g.o.getD i default)).getD k.toNat default) v)), CallM.pl [11] rfl rfl rfl rfl rfl rfl rfl (fun _ => Fit.refl _) (fun _ => by exact ⟨rfl, trivial⟩) rfl rfl (leadsT g (typesE g.o) ((fldsOf g.s (g.o.getD i default)).getD k.toNat default) v) (fun _ => rfl), rfl, ?_⟩
        (repeat (first | refine And.intro (by first | exact trivial | exact rfl | exact ⟨trivial, rfl⟩ | exact ⟨trivial, trivial⟩ | exact ⟨rfl, rfl⟩ | exact ⟨rfl, Nat.le_of_ble_eq_true rfl⟩ | decide) ?_ | refine fSt_in ?_ | refine fAcc_in ?_))
        refine JL.nil ?_
        refine JC.cond rfl (two.intro (fun h5 => ?_) (fun h5 => ?_))
        · (repeat' (first | refine And.intro (by first | exact trivial | exact rfl | exact ⟨trivial, rfl⟩ | exact ⟨trivial, trivial⟩ | exact ⟨rfl, rfl⟩ | exact ⟨rfl, Nat.le_of_ble_eq_true rfl⟩ | decide) ?_ | refine two_t ?_ | refine two_f ?_ | refine two.intro (fun _ => ?_) (fun _ => ?_) | refine JL.nil ?_ | refine JC.seq ?_ | refine JC.block ?_ | refine JC.skip ?_ | refine JC.exit ?_ | refine JC.region ?_ | refine JC.cond rfl ?_ | refine fSt_in ?_ | refine fAcc_in ?_ | (refine JL.p0 rfl rfl rfl rfl rfl (Fit.refl _) (fun _ => rfl) (by first | exact find g id) (fun _ => rfl) ?_; refine ev_run ?_) | fail))
          refine JC.ret ⟨_, Le.trans (Le.drop (s' := ⟨[(8, Go.Fw.one (.ref 2 0)), (9, s1 (tI 6))], [(8, .row 48 3 (rws eVal (g.o.getD i default).f)), (6, .row 53 3 (rowsB g i 8)), (2, .box 28 [.data (rowsOf 2 eTyp g.s), .base 6, .data (rowsOf 1 eInt g.roots)])], 10⟩) (by repeat (first | exact trivial | refine SlLe.same rfl ?_)) (by exact ⟨rfl, rfl, rfl, trivial⟩) (by simp only [hLt, O.lt, rws_lt, rowsB_lt _ _ _ _ (by decide : 8 < 10)]; rfl)) (Le.frozG g hlt rfl), And.intro (by repeat' (first | exact trivial | exact rfl | apply And.intro)) ?_⟩
          refine congrArg Res.ret ?_
          have h5 : leadsOK g.s (typesE g.o) ((fldsOf g.s (g.o.getD (findI g id).toNat default)).getD k.toNat default) v = false := by rw [hnat]; exact not_t h5
          have h4 : ¬ k ≥ ((g.o.getD (findI g id).toNat default).f.length : Int) := by rw [hnat]; exact h4'
          simp only [setG, hmay, hf, hk0, h4, h5, Bool.not_true, Bool.not_false, Bool.false_eq_true, if_false, if_true, beq_iff_eq]; rfl
        · (repeat' (first | refine And.intro (by first | exact trivial | exact rfl | exact ⟨trivial, rfl⟩ | exact ⟨trivial, trivial⟩ | exact ⟨rfl, rfl⟩ | exact ⟨rfl, Nat.le_of_ble_eq_true rfl⟩ | decide) ?_ | refine two_t ?_ | refine two_f ?_ | refine two.intro (fun _ => ?_) (fun _ => ?_) | refine JL.nil ?_ | refine JC.seq ?_ | refine JC.block ?_ | refine JC.skip ?_ | refine JC.exit ?_ | refine JC.region ?_ | refine JC.cond rfl ?_ | refine fSt_in ?_ | refine fAcc_in ?_ | (refine JL.p0 rfl rfl rfl rfl rfl (Fit.refl _) (fun _ => rfl) (by first | exact find g id) (fun _ => rfl) ?_; refine ev_run ?_) | fail))
          refine JC.draw 9 rfl ?_
          (repeat (first | refine And.intro (by first | exact trivial | exact rfl | exact ⟨trivial, rfl⟩ | exact ⟨trivial, trivial⟩ | exact ⟨rfl, rfl⟩ | exact ⟨rfl, Nat.le_of_ble_eq_true rfl⟩ | decide) ?_ | refine fSt_in ?_ | refine fAcc_in ?_))
          refine And.intro ⟨Int.natCast_nonneg _, by rw [rowsB_len]; exact hik, rfl⟩ ?_
          (repeat (first | refine And.intro (by first | exact trivial | exact rfl | exact ⟨trivial, rfl⟩ | exact ⟨trivial, trivial⟩ | exact ⟨rfl, rfl⟩ | exact ⟨rfl, Nat.le_of_ble_eq_true rfl⟩ | decide) ?_ | refine fSt_in ?_ | refine fAcc_in ?_))
          refine And.intro ⟨⟨rfl, by rw [rowsB_len]; exact hlt, Nat.le_of_ble_eq_true rfl⟩, ?_⟩ ?_
          · simp only [Int.toNat_natCast, headD_of (rowsB_at g 8 hlt)]; rfl
          simp only [Int.toNat_natCast, headD_of (rowsB_at g 8 hlt)]
          (repeat (first | refine And.intro (by first | exact trivial | exact rfl | exact ⟨trivial, rfl⟩ | exact ⟨trivial, trivial⟩ | exact ⟨rfl, rfl⟩ | exact ⟨rfl, Nat.le_of_ble_eq_true rfl⟩ | decide) ?_ | refine fSt_in ?_ | refine fAcc_in ?_))
          have hkn : k.toNat < (g.o.getD i default).f.length := by omega
          refine And.intro ⟨by omega, by rw [rws_len]; omega, rfl⟩ ?_
          (repeat (first | refine And.intro (by first | exact trivial | exact rfl | exact ⟨trivial, rfl⟩ | exact ⟨trivial, trivial⟩ | exact ⟨rfl, rfl⟩ | exact ⟨rfl, Nat.le_of_ble_eq_true rfl⟩ | decide) ?_ | refine fSt_in ?_ | refine fAcc_in ?_))
          refine JL.storeE (r := (eVal ((g.o.getD i default).f.getD k.toNat default)).map .data) rfl rfl rfl rfl rfl rfl rfl rfl (rws_at eVal hkn) rfl (Nat.le_of_ble_eq_true rfl) (JL.nil ?_)
          refine JC.conv (Le.drop (s' := ⟨[(8, Go.Fw.one (.ref 2 0)), (10, Go.Fw.one (.ref 9 0))],
            [(9, .box 28 [.data (rowsOf 2 eTyp g.s), .base 6, .data (rowsOf 1 eInt g.roots)]), (8, .row 48 3 (rws eVal ((g.o.getD i default).f.set k.toNat v))), (6, .row 53 3 (rowsB g i 8)), (2, .box 28 [.data (.lit (.slice none 0 0)), .data (.lit (.slice none 0 0)), .data (.lit (.slice none 0 0))])], 10⟩) (by repeat (first | exact trivial | refine SlLe.same rfl ?_)) (by refine ⟨rfl, ?_, rfl, rfl, trivial⟩; exact congrArg (fun r => some (O.row 48 3 r)) (rws_set eVal (g.o.getD i default).f k.toNat v)) (by simp only [hLt, O.lt, rws_lt, hb8]; rfl)) ?_
          (repeat' (first | refine And.intro (by first | exact trivial | exact rfl | exact ⟨trivial, rfl⟩ | exact ⟨trivial, trivial⟩ | exact ⟨rfl, rfl⟩ | exact ⟨rfl, Nat.le_of_ble_eq_true rfl⟩ | decide) ?_ | refine two_t ?_ | refine two_f ?_ | refine two.intro (fun _ => ?_) (fun _ => ?_) | refine JL.nil ?_ | refine JC.seq ?_ | refine JC.block ?_ | refine JC.skip ?_ | refine JC.exit ?_ | refine JC.region ?_ | refine JC.cond rfl ?_ | refine fSt_in ?_ | refine fAcc_in ?_ | (refine JL.p0 rfl rfl rfl rfl rfl (Fit.refl _) (fun _ => rfl) (by first | exact find g id) (fun _ => rfl) ?_; refine ev_run ?_) | fail))
          refine JC.ret ⟨_, Le.trans (Le.drop (s' := ⟨[(8, Go.Fw.one (.ref 2 0)), (9, s1 (tI 0))], [(8, .row 48 3 (rws eVal ((g.o.getD i default).f.set k.toNat v))), (6, .row 53 3 (rowsB g i 8)), (2, .box 28 [.data (rowsOf 2 eTyp g.s), .base 6, .data (rowsOf 1 eInt g.roots)])], 10⟩) (by repeat (first | exact trivial | refine SlLe.same rfl ?_)) (by exact ⟨rfl, rfl, rfl, trivial⟩) (by simp only [hLt, O.lt, rws_lt, hb8]; rfl)) (Le.frozV g hlt _ rfl), And.intro (by repeat' (first | exact trivial | exact rfl | apply And.intro)) ?_⟩
          refine congrArg Res.ret ?_
          have h5 : leadsOK g.s (typesE g.o) ((fldsOf g.s (g.o.getD i default)).getD k.toNat default) v = true := not_f h5
          simp only [setG, hmay, hf, hk0, h4', h5, Bool.not_true, Bool.not_false, Bool.false_eq_true, if_false, if_true, beq_iff_eq, putV, hnat]; rfl
end Go.Proofs.Ytlhfajmcnbcabaa

/- The framework, part 12: one step; what holds behind code; calls. -/
import Derived.Test.YtlhfajmcnbcabaaFwB
set_option linter.unusedVariables false
set_option linter.unusedSimpArgs false
namespace Go.Fw
open Go

def St.putO (s : St) : Option Nat → SV → St
  | some d, v => s.put d v
  | none, _ => s
def dstOK (N : Nat) : Option Nat → Bool
  | some d => Nat.blt d N
  | none => true
def stepOp (T : Tab) (q : EqT) (N : Nat) (s : St) (o : Oper) : Option (Prop × St) :=
  bif dstOK N o.dst then
    match vopA T q s o with
    | some (p, v) => some (p, s.putO o.dst v)
    | none => match o.op with
      | .build t parts => match builtD T s t parts.toList with
        | some ds => some (True, s.putO o.dst (.c (.agg ds)))
        | none => none
      | _ => match newOp T s o with
        | some (ob, d) => some (True, (s.new ob).putO o.dst (one d))
        | none => match effOp T s o with
          | some (p, s', rv) => some (p, match rv with
            | some v => s'.putO o.dst v
            | none => s'.putO o.dst (one .any))
          | none => none
  else none

structure Cx where
  P : Program
  T : Tab
  q : EqT
  hT : T.OK P
  hq : q.OK P

def Post (Q : Exit → St → Prop) (e : Env) : Exit → Act → World → Prop := fun x a w => ∃ s γ S, Q x s ∧ Rep e γ S s a w
/-- What holds behind operations, from a state on. -/
def JL (C : Cx) (N n0 : Nat) (ops : Array Oper) (l : List Oper) (s : St) (Q : Exit → St → Prop) : Prop :=
  ∀ e γ S a w, e.N = N → e.n0 = n0 → Rep e γ S s a w → wpList C.P ops (Post Q e) l a w
/-- What holds behind code. -/
def JC (C : Cx) (N n0 : Nat) (c : Code) (s : St) (Q : Exit → St → Prop) : Prop :=
  ∀ e γ S a w, e.N = N → e.n0 = n0 → Rep e γ S s a w → c.wp C.P (Post Q e) a w

section
variable {C : Cx} {N n0 : Nat} {ops : Array Oper} {l : List Oper} {s : St} {Q : Exit → St → Prop} {o : Oper}

theorem Rep.putO {e : Env} {γ : Nat → Option Value} {S : Nat → Prop} {a : Act} {w : World} (hR : Rep e γ S s a w) {d : Option Nat} {v : SV} {u : Value} (hv : RV γ S w v u) (hd : dstOK e.N d = true) :
    Rep e γ S (s.putO d v) (a.put d u) w := by
  cases d with
  | none => exact hR
  | some i => exact hR.put hv (Nat.le_of_ble_eq_true hd)

theorem stepOp_run {P : Program} {T : Tab} (hT : T.OK P) {q : EqT} (hq : q.OK P) {e : Env} {γ : Nat → Option Value} {S : Nat → Prop} {a : Act} {w : World} (hR : Rep e γ S s a w) {p : Prop} {s' : St}
    (h : stepOp T q e.N s o = some (p, s')) (hp : p) : ∃ r w' γ', runs P a w o r w' ∧ Rep e γ' S s' (a.put o.dst (r.getD undef)) w' := by
  unfold stepOp at h
  cases hd : dstOK e.N o.dst with
  | false => rw [hd] at h; cases h
  | true =>
    rw [hd] at h
    simp only [cond_true] at h
    split at h
    · rename_i p' v hv
      simp only [Option.some.injEq, Prod.mk.injEq] at h; obtain ⟨rfl, rfl⟩ := h
      obtain ⟨u, h1, h2⟩ := vopA_run hT hq hR hv hp
      exact ⟨some u, w, γ, h1, hR.putO h2 hd⟩
    · split at h
      · rename_i t parts ho
        split at h
        · rename_i ds hds
          simp only [Option.some.injEq, Prod.mk.injEq] at h; obtain ⟨rfl, rfl⟩ := h
          obtain ⟨out, h1, h2⟩ := build_run hT hR hds
          refine ⟨some (.agg out.toArray), w, γ, ?_, hR.putO (v := .c (.agg ds)) ⟨out, rfl, h2⟩ hd⟩
          simp only [runs, execOp, ho, Sem.run_bind, h1, Result.andThen_ok, Sem.run_pure]
        · cases h
      · split at h
        · rename_i ob d hn
          simp only [Option.some.injEq, Prod.mk.injEq] at h; obtain ⟨rfl, rfl⟩ := h
          obtain ⟨x, val, h1, h2, h3, h4⟩ := newOp_run hT hR hn
          exact ⟨some val, _, _, h1, (hR.made x h2 h3).putO (v := one d) h4 hd⟩
        · split at h
          · rename_i p' s1 rv he
            simp only [Option.some.injEq, Prod.mk.injEq] at h; obtain ⟨rfl, rfl⟩ := h
            obtain ⟨r, w', γ', h1, h2, h3⟩ := effOp_run hT hR he hp
            refine ⟨r, w', γ', h1, ?_⟩
            cases rv with
            | some v =>
              cases r with
              | some u => exact h2.putO h3 hd
              | none => exact h3.elim
            | none =>
              cases r with
              | some u => exact h3.elim
              | none => exact h2.putO (v := one .any) (.any _) hd
          · cases h

theorem upon_runs {P : Program} {a : Act} {w w' : World} {r : Option Value} {next : Act → World → Prop} {Q : Exit → Act → World → Prop} (h : runs P a w o r w') (hn : next (a.put o.dst (r.getD undef)) w') : o.wp P a w next Q := by
  unfold Oper.wp
  cases r with
  | some v => simp only [runs] at h; rw [h]; exact hn
  | none => simp only [runs] at h; rw [h]; exact hn

theorem JL.nil (h : Q .normal s) : JL C N n0 ops [] s Q := fun e γ S a w hN h0 hR => ⟨s, γ, S, h, hR⟩
theorem JL.step {p : Prop} {s' : St} (hg : o.guard = none) (h : stepOp C.T C.q N s o = some (p, s')) (hp : p) (k : JL C N n0 ops l s' Q) : JL C N n0 ops (o :: l) s Q := by
  intro e γ S a w hN h0 hR
  subst hN
  obtain ⟨r, w', γ', h1, h2⟩ := stepOp_run C.hT C.hq hR h hp
  exact wpList_plain hg fun K hK => upon_runs h1 (hK _ _ (k e γ' S _ w' rfl h0 h2))

/-! ### Guards -/
def gdst (ops : Array Oper) (j : Nat) : Option Nat := (ops.toList[j]?).bind (·.dst)
theorem Rep.yielded {e : Env} {γ : Nat → Option Value} {S : Nat → Prop} {a : Act} {w : World} (hR : Rep e γ S s a w) {j d : Nat} {b : Bool} (hd : gdst ops j = some d) (hs : lk s.sl d = some (litS (.bool b))) (hN : d < e.N) :
    Go.yielded ops a.tmps j = some b := by
  have h1 := litS_run rfl (hR.slots d _ hs)
  unfold Go.yielded
  have h2 : (ops[j]?).bind (·.dst) = some d := by unfold gdst at hd; simpa using hd
  have h3 : a.tmps[d]? = some (.bool b) := by
    have hlt : d < a.tmps.size := by rw [hR.size]; exact hN
    rw [Array.getElem?_eq_getElem hlt]
    rw [Array.getD_eq_getD_getElem?, Array.getElem?_eq_getElem hlt] at h1
    simpa using h1
  simp [h2, h3]
def unguard (o : Oper) : Oper := { o with guard := none }
theorem JL.guard_yes {j d : Nat} {want : Bool} (hg : o.guard = some (j, want)) (hd : gdst ops j = some d) (hs : lk s.sl d = some (litS (.bool want))) (hN : Nat.blt d N = true)
    (k : JL C N n0 ops (unguard o :: l) s Q) : JL C N n0 ops (o :: l) s Q := by
  intro e γ S a w hN' h0 hR
  have hy := hR.yielded hd hs (by rw [hN']; exact Nat.le_of_ble_eq_true hN)
  have hk := k e γ S a w hN' h0 hR
  unfold wpList at hk ⊢
  have hw : Region.wanted o (Go.yielded ops a.tmps) = true := by simp [Region.wanted, hg, hy]
  have hw' : Region.wanted (unguard o) (Go.yielded ops a.tmps) = true := by simp [Region.wanted, unguard]
  rw [if_pos hw'] at hk
  rw [if_pos hw]
  exact hk
theorem JL.guard_no {j d : Nat} {want : Bool} (hg : o.guard = some (j, want)) (hd : gdst ops j = some d) (hs : lk s.sl d = some (litS (.bool (!want)))) (hN : Nat.blt d N = true) (hdst : dstOK N o.dst = true)
    (k : JL C N n0 ops l (s.putO o.dst (.tup [])) Q) : JL C N n0 ops (o :: l) s Q := by
  intro e γ S a w hN' h0 hR
  have hy := hR.yielded hd hs (by rw [hN']; exact Nat.le_of_ble_eq_true hN)
  have hw : Region.wanted o (Go.yielded ops a.tmps) = false := by simp [Region.wanted, hg, hy]
  unfold wpList
  rw [if_neg (by rw [hw]; simp)]
  exact k e γ S _ w hN' h0 (hR.putO (v := .tup []) ⟨[], rfl, trivial⟩ (by rw [hN']; exact hdst))

theorem Rep.yielded_no {e : Env} {γ : Nat → Option Value} {S : Nat → Prop} {a : Act} {w : World} (hR : Rep e γ S s a w) {j d : Nat} (hd : gdst ops j = some d) (hs : lk s.sl d = some (.tup [])) (hN : d < e.N) :
    Go.yielded ops a.tmps j = none := by
  obtain ⟨vs, h1, hvs⟩ := hR.slots d _ hs
  obtain rfl : vs = [] := by cases vs with | nil => rfl | cons => exact hvs.elim
  unfold Go.yielded
  have h2 : (ops[j]?).bind (·.dst) = some d := by unfold gdst at hd; simpa using hd
  have h3 : a.tmps[d]? = some (.tuple #[]) := by
    have hlt : d < a.tmps.size := by rw [hR.size]; exact hN
    rw [Array.getElem?_eq_getElem hlt]
    rw [Array.getD_eq_getD_getElem?, Array.getElem?_eq_getElem hlt] at h1
    simpa using h1
  simp [h2, h3]
theorem JL.guard_undef {j d : Nat} {want : Bool} (hg : o.guard = some (j, want)) (hd : gdst ops j = some d) (hs : lk s.sl d = some (.tup [])) (hN : Nat.blt d N = true) (hdst : dstOK N o.dst = true)
    (k : JL C N n0 ops l (s.putO o.dst (.tup [])) Q) : JL C N n0 ops (o :: l) s Q := by
  intro e γ S a w hN' h0 hR
  have hy := hR.yielded_no hd hs (by rw [hN']; exact Nat.le_of_ble_eq_true hN)
  have hw : Region.wanted o (Go.yielded ops a.tmps) = false := by simp [Region.wanted, hg, hy]
  unfold wpList
  rw [if_neg (by rw [hw]; simp)]
  exact k e γ S _ w hN' h0 (hR.putO (v := .tup []) ⟨[], rfl, trivial⟩ (by rw [hN']; exact hdst))
/-- The two ways of a test. -/
structure two (b : Bool) (F : Bool → Prop) : Prop where
  intro ::
  yes : b = true → F true
  no : b = false → F false
theorem two.out {b : Bool} {F : Bool → Prop} (h : two b F) : F b := by
  cases b
  · exact h.no rfl
  · exact h.yes rfl

/-! ### Written out: what is known of a value is looked at before it is handed on -/
def fN : Nat → (Nat → Prop) → Prop
  | 0, K => K 0
  | n + 1, K => fN n fun m => K (m + 1)
theorem fN_eq : ∀ (n : Nat) (K : Nat → Prop), fN n K = K n
  | 0, _ => rfl
  | n + 1, K => fN_eq n fun m => K (m + 1)
def fD (d : D) (K : D → Prop) : Prop := match d with
  | .data t => K (.data t)
  | .ref i o => fN i fun i' => K (.ref i' o)
  | .eptr i sz k j => fN i fun i' => K (.eptr i' sz k j)
  | .sub i sz k j => fN i fun i' => K (.sub i' sz k j)
  | .base i => fN i fun i' => K (.base i')
  | .clo f ids => K (.clo f ids)
  | .ifc t ag cs => K (.ifc t ag cs)
  | .rptr cs => K (.rptr cs)
  | .any => K .any
theorem fD_eq (d : D) (K : D → Prop) : fD d K = K d := by cases d <;> simp only [fD, fN_eq]
def fDs : List D → (List D → Prop) → Prop
  | [], K => K []
  | d :: r, K => fD d fun d' => fDs r fun r' => K (d' :: r')
theorem fDs_eq : ∀ (l : List D) (K : List D → Prop), fDs l K = K l
  | [], _ => rfl
  | d :: r, K => by simp only [fDs, fD_eq, fDs_eq r]
def fC (x : Cv) (K : Cv → Prop) : Prop := match x with
  | .one d => fD d fun d' => K (.one d')
  | .agg ds => fDs ds fun ds' => K (.agg ds')
theorem fC_eq (x : Cv) (K : Cv → Prop) : fC x K = K x := by cases x <;> simp only [fC, fD_eq, fDs_eq]
def fCs : List Cv → (List Cv → Prop) → Prop
  | [], K => K []
  | d :: r, K => fC d fun d' => fCs r fun r' => K (d' :: r')
theorem fCs_eq : ∀ (l : List Cv) (K : List Cv → Prop), fCs l K = K l
  | [], _ => rfl
  | d :: r, K => by simp only [fCs, fC_eq, fCs_eq r]
def fSV (x : SV) (K : SV → Prop) : Prop := match x with
  | .c x => fC x fun x' => K (.c x')
  | .tup l => fCs l fun l' => K (.tup l')
theorem fSV_eq (x : SV) (K : SV → Prop) : fSV x K = K x := by cases x <;> simp only [fSV, fC_eq, fCs_eq]
def fO (o : O) (K : O → Prop) : Prop := match o with
  | .box t cs => fDs cs fun cs' => K (.box t cs')
  | .row e sz rs => K (.row e sz rs)
  | .mp es => K (.mp es)
  | .mi k es => K (.mi k es)
  | .mb es => K (.mb es)
  | .it z p => K (.it z p)
theorem fO_eq (o : O) (K : O → Prop) : fO o K = K o := by cases o <;> simp only [fO, fDs_eq]
def fH : Heap → (Heap → Prop) → Prop
  | [], K => K []
  | (i, o) :: r, K => fN i fun i' => fO o fun o' => fH r fun r' => K ((i', o') :: r')
theorem fH_eq : ∀ (l : Heap) (K : Heap → Prop), fH l K = K l
  | [], _ => rfl
  | (i, o) :: r, K => by simp only [fH, fN_eq, fO_eq, fH_eq r]
def fSl : List (Nat × SV) → (List (Nat × SV) → Prop) → Prop
  | [], K => K []
  | (i, o) :: r, K => fSV o fun o' => fSl r fun r' => K ((i, o') :: r')
theorem fSl_eq : ∀ (l : List (Nat × SV)) (K : List (Nat × SV) → Prop), fSl l K = K l
  | [], _ => rfl
  | (i, o) :: r, K => by simp only [fSl, fSV_eq, fSl_eq r]
def fL1 (l : List (Nat × SV)) (K : List (Nat × SV) → Prop) : Prop := match l with
  | [] => K []
  | x :: r => K (x :: r)
theorem fL1_eq (l : List (Nat × SV)) (K : List (Nat × SV) → Prop) : fL1 l K = K l := by cases l <;> rfl
def fSl1 (l : List (Nat × SV)) (K : List (Nat × SV) → Prop) : Prop := match l with
  | [] => K []
  | (i, o) :: r => fSV o fun o' => fL1 r fun r' => K ((i, o') :: r')
theorem fSl1_eq (l : List (Nat × SV)) (K : List (Nat × SV) → Prop) : fSl1 l K = K l := by
  match l with
  | [] => rfl
  | (i, o) :: r => simp only [fSl1, fSV_eq, fL1_eq]
def fH1 (l : Heap) (K : Heap → Prop) : Prop := match l with
  | [] => K []
  | x :: r => K (x :: r)
theorem fH1_eq (l : Heap) (K : Heap → Prop) : fH1 l K = K l := by cases l <;> rfl
def fH2 (l : Heap) (K : Heap → Prop) : Prop := match l with
  | [] => K []
  | (i, o) :: r => fN i fun i' => fO o fun o' => fH1 r fun r' => K ((i', o') :: r')
theorem fH2_eq (l : Heap) (K : Heap → Prop) : fH2 l K = K l := by
  match l with
  | [] => rfl
  | (i, o) :: r => simp only [fH2, fN_eq, fO_eq, fH1_eq]
def fStH (s : St) (K : St → Prop) : Prop := match s with
  | ⟨sl, h, nx⟩ => fSl1 sl fun sl' => fH2 h fun h' => fN nx fun nx' => K ⟨sl', h', nx'⟩
def fStA (s : St) (K : St → Prop) : Prop := match s with
  | ⟨sl, h, nx⟩ => fSl sl fun sl' => fH h fun h' => fN nx fun nx' => K ⟨sl', h', nx'⟩
def fSt (o : Oper) (s : St) (K : St → Prop) : Prop := match o.op with
  | .store _ _ _ => fStA s K
  | .mapUpdate _ _ _ _ => fStA s K
  | .call _ => fStA s K
  | _ => fStH s K
theorem fSt_eq (o : Oper) (s : St) (K : St → Prop) : fSt o s K = K s := by
  cases s
  unfold fSt
  split <;> simp only [fStA, fStH, fSl_eq, fH_eq, fN_eq, fSl1_eq, fH2_eq]
theorem fSt_out {o : Oper} {s : St} {K : St → Prop} (h : fSt o s K) : K s := by rw [fSt_eq] at h; exact h
theorem fSt_in {o : Oper} {s : St} {K : St → Prop} (h : K s) : fSt o s K := by rw [fSt_eq]; exact h
/-- The evaluator: operations one by one, till one that is none of its own. -/
def ev (T : Tab) (q : EqT) (N : Nat) (ops : Array Oper) : List Oper → St → (List Oper → St → Prop) → Prop
  | [], s, K => K [] s
  | o :: r, s, K => match o.guard with
    | none => match stepOp T q N s o with
      | some (p, s') => p ∧ fSt o s' fun s' => ev T q N ops r s' K
      | none => K (o :: r) s
    | some (j, want) => match gdst ops j with
      | some d => match lk s.sl d with
        | some (.c (.one (.data (.lit (.bool b))))) => bif Nat.blt d N && dstOK N o.dst then two b fun b' => two (bif want then b' else !b') fun y => match y with
            | true => match stepOp T q N (s.put d (litS (.bool b'))) (unguard o) with
              | some (p, s') => p ∧ fSt o s' fun s' => ev T q N ops r s' K
              | none => K (unguard o :: r) (s.put d (litS (.bool b')))
            | false => ev T q N ops r ((s.put d (litS (.bool b'))).putO o.dst (.tup [])) K
          else K (o :: r) s
        | some (.tup []) => bif Nat.blt d N && dstOK N o.dst then ev T q N ops r (s.putO o.dst (.tup [])) K else K (o :: r) s
        | _ => K (o :: r) s
      | none => K (o :: r) s
theorem ev_run : ∀ {l : List Oper} {s : St}, ev C.T C.q N ops l s (fun r s' => JL C N n0 ops r s' Q) → JL C N n0 ops l s Q
  | [], s, h => h
  | o :: r, s, h => by
    unfold ev at h
    split at h
    · rename_i hg
      split at h
      · rename_i p s' hst
        exact JL.step hg hst h.1 (ev_run (fSt_out h.2))
      · exact h
    · rename_i j want hg
      split at h
      · rename_i d hd
        split at h
        · rename_i b hb
          cases hN : (Nat.blt d N && dstOK N o.dst) with
          | false => rw [hN] at h; exact h
          | true =>
            rw [hN] at h
            simp only [cond_true] at h
            simp only [Bool.and_eq_true] at hN
            have h := (two.out h)
            have hput : ∀ {e γ S a w}, Rep e γ S s a w → Rep e γ S (s.put d (litS (.bool b))) a w := by
              intro e γ S a w hR
              refine { hR with slots := fun d' v' h' => ?_ }
              simp only [St.put, lk_cons] at h'
              split at h'
              · rename_i he; subst he; simp only [Option.some.injEq] at h'; subst h'; exact hR.slots _ _ hb
              · exact hR.slots _ _ h'
            have hs : lk (s.put d (litS (.bool b))).sl d = some (litS (.bool b)) := by simp only [St.put, lk_cons, if_true]
            have key : JL C N n0 ops (o :: r) (s.put d (litS (.bool b))) Q := by
              have h2 := two.out h
              split at h2
              · rename_i hy
                have hbw : b = want := by cases want <;> cases b <;> first | rfl | cases hy
                refine JL.guard_yes hg hd (by rw [← hbw]; exact hs) hN.1 ?_
                split at h2
                · rename_i p s' hst
                  exact JL.step rfl hst h2.1 (ev_run (fSt_out h2.2))
                · exact h2
              · rename_i hy
                have hbw : b = !want := by cases want <;> cases b <;> first | rfl | cases hy
                exact JL.guard_no hg hd (by rw [← hbw]; exact hs) hN.1 hN.2 (ev_run h2)
            exact fun e γ S a w h1 h0 hR => key e γ S a w h1 h0 (hput hR)
        · rename_i hu
          cases hN : (Nat.blt d N && dstOK N o.dst) with
          | false => rw [hN] at h; exact h
          | true =>
            rw [hN] at h
            simp only [cond_true] at h
            simp only [Bool.and_eq_true] at hN
            exact JL.guard_undef hg hd hu hN.1 hN.2 (ev_run h)
        · exact h
      · exact h
end
end Go.Fw
/- The framework, part 13: code; calls. -/
set_option linter.unusedVariables false
set_option linter.unusedSimpArgs false
namespace Go.Fw
open Go

section
variable {C : Cx} {N n0 : Nat} {ops : Array Oper} {l : List Oper} {s s' : St} {Q Q' : Exit → St → Prop} {o : Oper} {c c1 c2 : Code}

theorem Post.mono {e : Env} (h : ∀ x s, Q x s → Q' x s) {x : Exit} {a : Act} {w : World} (hp : Post Q e x a w) : Post Q' e x a w :=
  let ⟨s, γ, S, h1, h2⟩ := hp; ⟨s, γ, S, h x s h1, h2⟩
theorem JC.mono (h : JC C N n0 c s Q) (hq : ∀ x s, Q x s → Q' x s) : JC C N n0 c s Q' :=
  fun e γ S a w h1 h2 h3 => wp_mono (h e γ S a w h1 h2 h3) fun x a w hp => hp.mono hq

/-- One state says no more than another. -/
def Le (n0 : Nat) (s s' : St) : Prop := ∀ e γ S a w, e.n0 = n0 → Rep e γ S s a w → ∃ γ' S', Rep e γ' S' s' a w
theorem JC.conv (h : Le n0 s s') (k : JC C N n0 c s' Q) : JC C N n0 c s Q := fun e γ S a w h1 h2 h3 =>
  let ⟨γ', S', h4⟩ := h e γ S a w h2 h3; k e γ' S' a w h1 h2 h4
theorem JL.conv (h : Le n0 s s') (k : JL C N n0 ops l s' Q) : JL C N n0 ops l s Q := fun e γ S a w h1 h2 h3 =>
  let ⟨γ', S', h4⟩ := h e γ S a w h2 h3; k e γ' S' a w h1 h2 h4
theorem Le.refl : Le n0 s s := fun e γ S a w _ h => ⟨γ, S, h⟩
theorem Le.trans {s'' : St} (h : Le n0 s s') (k : Le n0 s' s'') : Le n0 s s'' := fun e γ S a w h0 h1 =>
  let ⟨γ', S', h2⟩ := h e γ S a w h0 h1; k e γ' S' a w h0 h2

theorem JC.region {id : Nat} (h : ev C.T C.q N ops ops.toList s (fun r s' => JL C N n0 ops r s' Q)) : JC C N n0 (.region id ops false) s Q :=
  fun e γ S a w h1 h2 h3 => wp_region_list (ev_run h e γ S a w h1 h2 h3)
theorem JC.skip (h : Q .normal s) : JC C N n0 .skip s Q := fun e γ S a w _ _ h3 => wp_skip ⟨s, γ, S, h, h3⟩
theorem JC.ret (h : Q .ret s) : JC C N n0 .ret s Q := fun e γ S a w _ _ h3 => wp_ret ⟨s, γ, S, h, h3⟩
theorem JC.exit {id : Nat} (h : Q (.exit id) s) : JC C N n0 (.exit id) s Q := fun e γ S a w _ _ h3 => wp_exit ⟨s, γ, S, h, h3⟩
theorem JC.label {l : Nat} (h : Q .normal s) : JC C N n0 (.label l) s Q := fun e γ S a w _ _ h3 => wp_label ⟨s, γ, S, h, h3⟩
/-- What follows in a sequence. -/
def seqQ (K : St → Prop) (Q : Exit → St → Prop) : Exit → St → Prop
  | .normal, s => K s
  | x, s => Q x s
theorem JC.seq (h : JC C N n0 c1 s (seqQ (fun s' => JC C N n0 c2 s' Q) Q)) : JC C N n0 (.seq c1 c2) s Q := by
  intro e γ S a w h1 h2 h3
  refine wp_seq (wp_mono (h e γ S a w h1 h2 h3) ?_)
  rintro x a' w' ⟨s', γ', S', hq, hr⟩
  cases x with
  | normal => exact hq e γ' S' a' w' h1 h2 hr
  | _ => exact ⟨s', γ', S', hq, hr⟩
def blockQ (id : Nat) (Q : Exit → St → Prop) : Exit → St → Prop
  | .exit i, s => match Nat.beq i id with
    | true => Q .normal s
    | false => Q (.exit i) s
  | x, s => Q x s
theorem JC.block {id : Nat} (h : JC C N n0 c s (blockQ id Q)) : JC C N n0 (.block id c) s Q := by
  intro e γ S a w h1 h2 h3
  refine wp_block (wp_mono (h e γ S a w h1 h2 h3) ?_)
  rintro x a' w' ⟨s', γ', S', hq, hr⟩
  cases x with
  | exit i =>
    simp only [Exit.inBlock, blockQ] at hq ⊢
    split at hq
    · rename_i hb; rw [if_pos (Nat.eq_of_beq_eq_true hb)]; exact ⟨s', γ', S', hq, hr⟩
    · rename_i hb; rw [if_neg (fun he => by rw [he] at hb; simp at hb)]; exact ⟨s', γ', S', hq, hr⟩
  | _ => exact ⟨s', γ', S', hq, hr⟩
theorem JC.cond {x : Operand} {b : Bool} (hx : s.op x = some (litS (.bool b))) (h : two b fun b' => JC C N n0 (match b' with | true => c1 | false => c2) s Q) : JC C N n0 (.cond x c1 c2) s Q := by
  intro e γ S a w h1 h2 h3
  refine wp_cond (litS_run rfl (h3.op hx)) ?_
  have h := two.out h
  cases b <;> exact h e γ S a w h1 h2 h3
/-- A loop: an invariant that bears a number, which every round lowers. -/
theorem JC.loop {ι : Type} (I : ι → St) (m : ι → Nat) (i0 : ι) (h0 : Le n0 s (I i0)) (round : ∀ i, JC C N n0 c (I i) (seqQ (fun s' => ∃ j, m j < m i ∧ Le n0 s' (I j)) Q)) : JC C N n0 (.loop c) s Q := by
  intro e γ S a w h1 h2 h3
  refine wp_loop_ghost (fun n a w => ∃ i γ S, m i = n ∧ Rep e γ S (I i) a w) (m i0) ?_ ?_
  · obtain ⟨γ', S', h4⟩ := h0 e γ S a w h2 h3
    exact ⟨i0, γ', S', rfl, h4⟩
  · rintro n a w ⟨i, γ, S, rfl, hr⟩
    refine wp_mono (round i e γ S a w h1 h2 hr) ?_
    rintro x a' w' ⟨s', γ', S', hq, hr'⟩
    cases x with
    | normal =>
      obtain ⟨j, hj, hle⟩ := hq
      obtain ⟨γ2, S2, h4⟩ := hle e γ' S' a' w' h2 hr'
      exact ⟨m j, hj, j, γ2, S2, rfl, h4⟩
    | _ => exact ⟨s', γ', S', hq, hr'⟩

/-! ### What a function does -/
inductive Res where
  | ret (v : SV)
  | pan (v : Value)
def RRes (γ : Nat → Option Value) (S : Nat → Prop) (w : World) : Res → Ending → Prop
  | .ret x, .returned v => RV γ S w x v
  | .pan x, .panicked chain => chain = [{ v := x, recovered := false }]
  | _, _ => False
def hids (h : Heap) : List Nat := h.map (·.1)
def rowIds : Heap → List Nat
  | [] => []
  | (id, o) :: r => bif o.isRow then id :: rowIds r else rowIds r
def ownB (γ : Nat → Option Value) (h : Heap) (b : Nat) : Prop := ∃ id, id ∈ hids h ∧ blk γ id = some b
/-- What a call leaves. -/
structure After (γ : Nat → Option Value) (S : Nat → Prop) (w : World) (h : Heap) (nx : Nat) (γ' : Nat → Option Value) (S' : Nat → Prop) (w' : World) (h' : Heap) (nx' : Nat) : Prop where
  heap : HeapOK γ' S' w' h'
  fresh : ∀ id o, (id, o) ∈ h' → id < nx'
  le : nx ≤ nx'
  new : ∀ id, nx' ≤ id → γ' id = none
  kept : Kept w (ownB γ h) w'
  s0 : ∀ k, S k → S' k
  sin : ∀ k, S' k → S k ∨ w.heap.size ≤ k
  sw : ∀ k, S' k → k < w'.heap.size
  own : ∀ id o b, (id, o) ∈ h' → blk γ' id = some b → (id ∈ hids h ∧ blk γ id = some b) ∨ w.heap.size ≤ b
  gam : ∀ id, id < nx → id ∉ rowIds h → γ' id = γ id
  ids : ∀ id o, (id, o) ∈ h' → id ∈ hids h ∨ nx ≤ id
  rows : ∀ id o, (id, o) ∈ h' → id ∈ hids h → o.isRow = true → id ∈ rowIds h
def Enters (P : Program) (f : FuncId) : Prop := ∀ vs w, (callFunc f vs).run P w = .ok (.enter f vs) w
def Triple (C : Cx) (f : FuncId) (args : List SV) (h : Heap) (nx : Nat) (Q : Res → Heap → Nat → Prop) : Prop :=
  Enters C.P f ∧ ∀ γ S w (vs : List Value), RVs γ S w args vs → HeapOK γ S w h → (∀ id o, (id, o) ∈ h → id < nx) → (∀ id, nx ≤ id → γ id = none) → (∀ k, S k → k < w.heap.size) →
    Calls C.P f vs.toArray w fun en w' => ∃ r h' nx' γ' S', Q r h' nx' ∧ RRes γ' S' w' r en ∧ After γ S w h nx γ' S' w' h' nx'
theorem Triple.mono {f : FuncId} {args : List SV} {h : Heap} {nx : Nat} {Q Q' : Res → Heap → Nat → Prop} (ht : Triple C f args h nx Q) (hq : ∀ r h nx, Q r h nx → Q' r h nx) : Triple C f args h nx Q' :=
  ⟨ht.1, fun γ S w vs h1 h2 h3 h4 h5 => (ht.2 γ S w vs h1 h2 h3 h4 h5).mono fun en w' ⟨r, h', nx', γ', S', h6, h7⟩ => ⟨r, h', nx', γ', S', hq _ _ _ h6, h7⟩⟩

theorem enters_of {P : Program} {f : FuncId} {fn : Func} (hf : P.funcs[f]? = some fn) (hb : fn.body.isNone = false) (hn : (fn.name == "runtime.NumGoroutine") = false) : Enters P f := by
  intro vs w
  have hn' : fn.name ≠ "runtime.NumGoroutine" := by simpa using hn
  have hb' : fn.body ≠ none := by intro h; rw [h] at hb; cases hb
  simp [callFunc, program, Sem.run, hf, hb', hn']

def zipSlots : Nat → List SV → List (Nat × SV)
  | _, [] => []
  | n, v :: r => (n, v) :: zipSlots (n + 1) r
theorem zipSlots_get : ∀ {args : List SV} {n d : Nat} {v : SV}, lk (zipSlots n args) d = some v → n ≤ d ∧ args[d - n]? = some v
  | [], n, d, v, h => by simp [zipSlots, lk] at h
  | x :: r, n, d, v, h => by
    simp only [zipSlots, lk_cons] at h
    split at h
    · rename_i he; subst he; simp only [Option.some.injEq] at h; subst h; exact ⟨Nat.le_refl _, by simp⟩
    · obtain ⟨h1, h2⟩ := zipSlots_get h
      refine ⟨by omega, ?_⟩
      rw [show d - n = (d - (n + 1)) + 1 from by omega]; simpa using h2
theorem RVs.get {γ : Nat → Option Value} {S : Nat → Prop} {w : World} : ∀ {xs : List SV} {vs : List Value}, RVs γ S w xs vs → ∀ {j : Nat} {x : SV}, xs[j]? = some x → ∃ v, vs[j]? = some v ∧ RV γ S w x v
  | [], [], _, j, x, h => by simp at h
  | _ :: _, v :: _, ⟨h, r⟩, 0, x, hx => by simp at hx; subst hx; exact ⟨v, rfl, h⟩
  | _ :: _, _ :: _, ⟨h, r⟩, j + 1, x, hx => by simpa using RVs.get r (j := j) (by simpa using hx)
theorem RVs.length {γ : Nat → Option Value} {S : Nat → Prop} {w : World} : ∀ {xs : List SV} {vs : List Value}, RVs γ S w xs vs → xs.length = vs.length
  | [], [], _ => rfl
  | _ :: _, _ :: _, ⟨_, r⟩ => by simp [RVs.length r]
theorem rowIds_mem : ∀ {h : Heap} {id : Nat} {o : O}, (id, o) ∈ h → o.isRow = true → id ∈ rowIds h
  | (k, x) :: r, id, o, hm, hr => by
    simp only [rowIds]
    rcases List.mem_cons.1 hm with he | hm
    · cases he; rw [hr]; exact List.mem_cons_self
    · cases x.isRow with
      | true => exact List.mem_cons_of_mem _ (rowIds_mem hm hr)
      | false => exact rowIds_mem hm hr

/-- What a function hands back, out of a state. -/
inductive RetOK (rs : List ResultVar) (s : St) : SV → Prop
  | none (h : rs = []) : RetOK rs s (.tup [])
  | one {t : Nat} {v : SV} (h : rs = [.tmp t]) (hv : lk s.sl t = some v) : RetOK rs s v
  | two {t u : Nat} {v x : Cv} (h : rs = [.tmp t, .tmp u]) (hv : lk s.sl t = some (.c v)) (hx : lk s.sl u = some (.c x)) : RetOK rs s (.tup [v, x])
  | three {t u n : Nat} {v x y : Cv} (h : rs = [.tmp t, .tmp u, .tmp n]) (hv : lk s.sl t = some (.c v)) (hx : lk s.sl u = some (.c x)) (hy : lk s.sl n = some (.c y)) : RetOK rs s (.tup [v, x, y])
theorem results_tmp3' {fn : Func} {t u n : Tmp} (h : fn.results = #[.tmp t, .tmp u, .tmp n]) (tmps : Array Value) (P : Program) (w : World) :
    (results fn tmps).run P w = .ok (.tuple #[tmps.getD t undef, tmps.getD u undef, tmps.getD n undef]) w := by
  simp [results, h]

/-- A function's body gives what is said of it. -/
theorem Triple.of {f : FuncId} {fn : Func} {args : List SV} {h : Heap} {nx : Nat} {QR : Res → Heap → Nat → Prop} (hf : C.P.funcs[f]? = some fn) (hb : fn.body = some c) (hn : (fn.name == "runtime.NumGoroutine") = false)
    (hlen : Nat.ble args.length fn.ntmps = true)
    (k : JC C fn.ntmps nx c ⟨zipSlots 0 args, h, nx⟩ fun x s' => match x with
      | .normal => ∃ v, RetOK fn.results.toList s' v ∧ QR (.ret v) s'.h s'.nx
      | .ret => ∃ v, RetOK fn.results.toList s' v ∧ QR (.ret v) s'.h s'.nx
      | .panic [p] => p = { v := p.v, recovered := false } ∧ QR (.pan p.v) s'.h s'.nx
      | _ => False) : Triple C f args h nx QR := by
  refine ⟨enters_of hf (by rw [hb]; rfl) hn, fun γ S w vs hv hh hfr hnew hsw => ?_⟩
  refine calls_of_wp hf hb ?_
  have hvl := hv.length
  have hle := Nat.le_of_ble_eq_true hlen
  let e : Env := { N := fn.ntmps, w0 := w, S0 := S, γ0 := γ, n0 := nx, H0 := hids h, R0 := rowIds h }
  have hR : Rep e γ S ⟨zipSlots 0 args, h, nx⟩ { tmps := vs.toArray ++ Array.replicate (fn.ntmps - vs.toArray.size) undef, defers := [] } w := by
    refine { size := by simp [e]; omega, defers := rfl, slots := ?_, heap := hh, fresh := hfr, kept := ⟨rfl, rfl, rfl, Nat.le_refl _, Nat.le_refl _, fun _ _ _ => rfl⟩, sw := hsw, s0 := fun _ h => h, sin := fun _ h => .inl h, own := fun id o b h1 h2 => .inl ⟨List.mem_map.2 ⟨(id, o), h1, rfl⟩, h2⟩, gam := fun _ _ _ => rfl,
             ids := fun id o h1 => .inl (List.mem_map.2 ⟨(id, o), h1, rfl⟩), nx := Nat.le_refl _, h0 := ?_, rows := fun id o h1 _ h2 => rowIds_mem h1 h2, new := hnew }
    · intro d v hd
      obtain ⟨_, h1⟩ := zipSlots_get hd
      obtain ⟨u, h2, h3⟩ := hv.get h1
      have : (vs.toArray ++ Array.replicate (fn.ntmps - vs.toArray.size) undef).getD d undef = u := by
        rw [Array.getD_eq_getD_getElem?, Array.getElem?_append_left (by have := (List.getElem?_eq_some_iff.1 h2).1; simpa using this)]
        simp at h2 ⊢; simp [h2]
      rw [this]; exact h3
    · intro id hid
      obtain ⟨⟨id', o⟩, h1, rfl⟩ := List.mem_map.1 hid
      exact hfr _ _ h1
  refine wp_mono (k e γ S _ w rfl rfl hR) ?_
  rintro x a' w' ⟨s', γ', S', hq, hr⟩
  have haft : After γ S w h nx γ' S' w' s'.h s'.nx :=
    { heap := hr.heap, fresh := hr.fresh, le := hr.nx, new := hr.new, kept := hr.kept, s0 := hr.s0, sin := hr.sin, sw := hr.sw, own := hr.own, gam := hr.gam, ids := hr.ids, rows := hr.rows }
  have hret : ∀ v, RetOK fn.results.toList s' v → ∃ u, (results fn a'.tmps).run C.P w' = .ok u w' ∧ RV γ' S' w' v u := by
    intro v hv'
    cases hv' with
    | none h => exact ⟨_, results_none (by cases hr : fn.results; rw [hr] at h; simp at h; rw [h]) _ _ _, ⟨[], rfl, trivial⟩⟩
    | one h hl => exact ⟨_, results_tmp (by cases hr : fn.results; rw [hr] at h; simp at h; rw [h]) _ _ _, hr.slots _ _ hl⟩
    | two h h1 h2 => exact ⟨_, results_tmp2 (by cases hr : fn.results; rw [hr] at h; simp at h; rw [h]) _ _ _, ⟨[_, _], rfl, hr.slots _ _ h1, hr.slots _ _ h2, trivial⟩⟩
    | three h h1 h2 h3 => exact ⟨_, results_tmp3' (by cases hr : fn.results; rw [hr] at h; simp at h; rw [h]) _ _ _, ⟨[_, _, _], rfl, hr.slots _ _ h1, hr.slots _ _ h2, hr.slots _ _ h3, trivial⟩⟩
  cases x with
  | normal =>
    obtain ⟨v, h1, h2⟩ := hq
    obtain ⟨u, h3, h4⟩ := hret v h1
    exact ⟨hr.defers, u, h3, .ret v, s'.h, s'.nx, γ', S', h2, h4, haft⟩
  | ret =>
    obtain ⟨v, h1, h2⟩ := hq
    obtain ⟨u, h3, h4⟩ := hret v h1
    exact ⟨hr.defers, u, h3, .ret v, s'.h, s'.nx, γ', S', h2, h4, haft⟩
  | panic chain =>
    split at hq <;> try contradiction
    rename_i p heq
    cases heq
    obtain ⟨h1, h2⟩ := hq
    refine ⟨hr.defers, .pan p.v, s'.h, s'.nx, γ', S', h2, ?_, haft⟩
    show [p] = [_]
    rw [← h1]
  | exit id => exact hq.elim
  | goto l => exact hq.elim
  | outgrown => exact hq.elim
end
end Go.Fw
/- The framework, part 14: a call. -/
set_option linter.unusedVariables false
set_option linter.unusedSimpArgs false
namespace Go.Fw
open Go

def killS (s : St) : List Nat → St
  | [] => s
  | i :: r => killS (s.kill i) r
theorem killS_nx : ∀ (L : List Nat) (s : St), (killS s L).nx = s.nx
  | [], _ => rfl
  | i :: r, s => killS_nx r (s.kill i)
theorem Rep.killS {e : Env} {γ : Nat → Option Value} {S : Nat → Prop} {a : Act} {w : World} : ∀ (L : List Nat) {s : St}, Rep e γ S s a w → Rep e γ S (Fw.killS s L) a w
  | [], _, h => h
  | i :: r, _, h => Rep.killS r (h.kill i)
theorem D.kill_has' {d : D} {id i : Nat} (h : (d.kill i).has id = true) : d.has id = true := by
  unfold D.kill at h
  cases hd : d.has i with
  | true => rw [hd] at h; simp [D.has] at h
  | false => rw [hd] at h; exact h
theorem Cv.kill_has' {x : Cv} {id i : Nat} (h : (x.kill i).has id = true) : x.has id = true := by
  cases x with
  | one d => exact D.kill_has' h
  | agg ds =>
    simp only [Cv.kill, Cv.has, List.any_map, List.any_eq_true] at h ⊢
    obtain ⟨d, h1, h2⟩ := h
    exact ⟨d, h1, D.kill_has' h2⟩
theorem SV.kill_has' {x : SV} {id i : Nat} (h : (x.kill i).has id = true) : x.has id = true := by
  cases x with
  | c x => exact Cv.kill_has' h
  | tup l =>
    simp only [SV.kill, SV.has, List.any_map, List.any_eq_true] at h ⊢
    obtain ⟨d, h1, h2⟩ := h
    exact ⟨d, h1, Cv.kill_has' h2⟩
theorem O.kill_has' {x : O} {id i : Nat} (h : (x.kill i).has id = true) : x.has id = true := by
  cases x with
  | box t cs =>
    simp only [O.kill, O.has, List.any_map, List.any_eq_true] at h ⊢
    obtain ⟨d, h1, h2⟩ := h
    exact ⟨d, h1, D.kill_has' h2⟩
  | row e sz rs =>
    simp only [O.kill, O.has, List.any_map, List.any_eq_true] at h ⊢
    obtain ⟨r, h1, h2⟩ := h
    refine ⟨r, h1, ?_⟩
    simp only [Function.comp, List.any_map, List.any_eq_true] at h2
    obtain ⟨d, h3, h4⟩ := h2
    exact ⟨d, h3, D.kill_has' h4⟩
  | mp es =>
    simp only [O.kill, O.has, List.any_map, List.any_eq_true] at h ⊢
    obtain ⟨d, h1, h2⟩ := h
    exact ⟨d, h1, Cv.kill_has' h2⟩
  | mi => cases h
  | mb => cases h
  | it => cases h
/-- Behind killing, nothing tells of what was killed. -/
theorem killS_sl : ∀ (L : List Nat) (s : St) {d : Nat} {v : SV}, lk (killS s L).sl d = some v → (∀ id, id ∈ L → v.has id = false) ∧ ∃ u, lk s.sl d = some u ∧ ∀ id, v.has id = true → u.has id = true
  | [], s, d, v, h => ⟨by simp, v, h, fun _ h => h⟩
  | i :: r, s, d, v, h => by
    obtain ⟨h1, u, h2, h3⟩ := killS_sl r (s.kill i) h
    simp only [St.kill, lk_killL] at h2
    cases hl : lk s.sl d with
    | none => rw [hl] at h2; cases h2
    | some x =>
      rw [hl] at h2; simp at h2; subst h2
      refine ⟨fun id hid => ?_, x, rfl, fun id h => SV.kill_has' (h3 id h)⟩
      rcases List.mem_cons.1 hid with rfl | hid
      · cases hv : v.has id with
        | false => rfl
        | true => have := h3 id hv; rw [SV.kill_has] at this; cases this
      · exact h1 id hid
theorem killS_h : ∀ (L : List Nat) (s : St) {i : Nat} {o : O}, (i, o) ∈ (killS s L).h → (∀ id, id ∈ L → o.has id = false) ∧ ∃ y, (i, y) ∈ s.h ∧ (∀ id, o.has id = true → y.has id = true) ∧ o.isRow = y.isRow
  | [], s, i, o, h => ⟨by simp, o, h, fun _ h => h, rfl⟩
  | j :: r, s, i, o, h => by
    obtain ⟨h1, u, h2, h3, h5⟩ := killS_h r (s.kill j) h
    obtain ⟨y, h4, rfl⟩ := mem_killH h2
    refine ⟨fun id hid => ?_, y, h4, fun id h => O.kill_has' (h3 id h), ?_⟩
    · rcases List.mem_cons.1 hid with rfl | hid
      · cases hv : o.has id with
        | false => rfl
        | true => have := h3 id hv; rw [O.kill_has] at this; cases this
      · exact h1 id hid
    · rw [h5]; cases y <;> rfl
theorem killS_keys : ∀ (L : List Nat) (s : St), hids (killS s L).h = hids s.h
  | [], _ => rfl
  | i :: r, s => by simp only [killS]; rw [killS_keys r]; exact killH_keys s.h i
theorem rowIds_of {h : Heap} {id : Nat} (hm : id ∈ rowIds h) : ∃ o, (id, o) ∈ h ∧ o.isRow = true := by
  induction h with
  | nil => simp [rowIds] at hm
  | cons x r ih =>
    obtain ⟨k, o⟩ := x
    simp only [rowIds] at hm
    cases ho : o.isRow with
    | true =>
      rw [ho] at hm
      rcases List.mem_cons.1 hm with rfl | hm
      · exact ⟨o, List.mem_cons_self, ho⟩
      · obtain ⟨y, h1, h2⟩ := ih hm; exact ⟨y, List.mem_cons_of_mem _ h1, h2⟩
    | false =>
      rw [ho] at hm
      obtain ⟨y, h1, h2⟩ := ih hm; exact ⟨y, List.mem_cons_of_mem _ h1, h2⟩
theorem mem_hids {h : Heap} {id : Nat} {o : O} (hm : (id, o) ∈ h) : id ∈ hids h := List.mem_map.2 ⟨(id, o), hm, rfl⟩
theorem hids_mem {h : Heap} {id : Nat} (hm : id ∈ hids h) : ∃ o, (id, o) ∈ h := by
  obtain ⟨⟨i, o⟩, h1, rfl⟩ := List.mem_map.1 hm; exact ⟨o, h1⟩

/-- What is known behind a call. -/
theorem Rep.afterL {e : Env} {γ γ' : Nat → Option Value} {S S' : Nat → Prop} {s : St} {a : Act} {w w' : World} {h fr h' : Heap} {nx' : Nat} (L : List Nat) (hR : Rep e γ S s a w) (hsub : ∀ id o, (id, o) ∈ h → (id, o) ∈ s.h)
    (hfr : ∀ id o, (id, o) ∈ fr → (id, o) ∈ (Fw.killS s L).h ∧ id ∉ hids h) (hfk : (hids fr).Nodup) (hA : After γ S w h s.nx γ' S' w' h' nx') (hL : ∀ id, id < s.nx → id ∉ L → γ' id = γ id) (hLr : ∀ id, id ∈ L → id ∈ rowIds h) :
    Rep e γ' S' { sl := (Fw.killS s L).sl, h := h' ++ fr, nx := nx' } a w' := by
  have hK := hR.killS L
  have hsame : Same S w w' := by
    intro k hk
    refine hA.kept.block k (hR.sw k hk) ?_
    rintro ⟨id, h1, h2⟩
    obtain ⟨o, h1⟩ := hids_mem h1
    exact ((hR.heap.obj _ _ (hsub _ _ h1)).blk_lt h2).2 hk
  have hsome : ∀ id v, γ id = some v → id < s.nx := by
    intro id v hv
    rcases Nat.lt_or_ge id s.nx with h | h
    · exact h
    · rw [hR.new id h] at hv; cases hv
  have frs : ∀ id o, (id, o) ∈ fr → ∃ y, (id, y) ∈ s.h := fun id o h => let ⟨_, y, h2, _⟩ := killS_h _ _ (hfr id o h).1; ⟨y, h2⟩
  have frblk : ∀ id o, (id, o) ∈ fr → γ' id = γ id := by
    intro id o h1
    obtain ⟨y, hy⟩ := frs id o h1
    refine hL id (hR.fresh _ _ hy) (fun h2 => ?_)
    obtain ⟨z, hz, _⟩ := rowIds_of (hLr _ h2)
    exact (hfr id o h1).2 (mem_hids hz)
  have frnot : ∀ id o b, (id, o) ∈ fr → blk γ id = some b → ¬ ownB γ h b := by
    rintro id o b h1 h2 ⟨id', h3, h4⟩
    obtain ⟨o', h3⟩ := hids_mem h3
    obtain ⟨y, hy⟩ := frs id o h1
    refine hR.heap.apart _ _ _ _ hy (hsub _ _ h3) (fun he => ?_) b h2 h4
    subst he
    exact (hfr _ _ h1).2 (mem_hids h3)
  have frlt : ∀ id o b, (id, o) ∈ fr → blk γ id = some b → b < w.heap.size ∧ ¬ S b := by
    intro id o b h1 h2
    obtain ⟨y, hy⟩ := frs id o h1
    exact (hR.heap.obj _ _ hy).blk_lt h2
  have frblk' : ∀ id o, (id, o) ∈ fr → blk γ' id = blk γ id := fun id o h => by unfold blk; rw [frblk id o h]
  refine { size := hR.size, defers := hR.defers, slots := ?_, heap := ?_, fresh := ?_, kept := ?_, sw := hA.sw, s0 := fun k h => hA.s0 k (hR.s0 k h), sin := ?_, own := ?_, gam := ?_, ids := ?_, nx := Nat.le_trans hR.nx hA.le, h0 := hR.h0, rows := ?_, new := hA.new }
  · intro d v hd
    obtain ⟨h1, _⟩ := killS_sl _ _ hd
    refine (hK.slots d v hd).move hsame hA.s0 (fun id hid u hu => hL id (hsome id u hu) (fun h2 => ?_))
    rw [h1 id h2] at hid; cases hid
  · refine { obj := ?_, apart := ?_, keys := ?_ }
    · intro id o hm
      rcases List.mem_append.1 hm with hm | hm
      · exact hA.heap.obj id o hm
      · obtain ⟨h1, y, hy, h2, h3⟩ := killS_h _ _ (hfr id o hm).1
        refine (hK.heap.obj id o (hfr id o hm).1).move hsame hA.s0 (fun i hi u hu => hL i (hsome i u hu) (fun h4 => ?_)) (frblk id o hm) (fun b hb => ⟨hA.kept.block b (frlt id o b hm hb).1 (frnot id o b hm hb), fun hS hS' => ?_⟩)
        · rw [h1 i h4] at hi; cases hi
        · rcases hA.sin b hS' with h | h
          · exact hS h
          · have := (frlt id o b hm hb).1; omega
    · intro id o id' o' h1 h2 hne b hb hb'
      rcases List.mem_append.1 h1 with h1 | h1 <;> rcases List.mem_append.1 h2 with h2 | h2
      · exact hA.heap.apart _ _ _ _ h1 h2 hne b hb hb'
      · rw [frblk' _ _ h2] at hb'
        rcases hA.own _ _ _ h1 hb with h | h
        · exact frnot _ _ _ h2 hb' ⟨_, h⟩
        · have := (frlt _ _ _ h2 hb').1; omega
      · rw [frblk' _ _ h1] at hb
        rcases hA.own _ _ _ h2 hb' with h | h
        · exact frnot _ _ _ h1 hb ⟨_, h⟩
        · have := (frlt _ _ _ h1 hb).1; omega
      · rw [frblk' _ _ h1] at hb; rw [frblk' _ _ h2] at hb'
        obtain ⟨y, hy⟩ := frs _ _ h1
        obtain ⟨y', hy'⟩ := frs _ _ h2
        exact hR.heap.apart _ _ _ _ hy hy' hne b hb hb'
    · rw [List.map_append, List.nodup_append]
      refine ⟨hA.heap.keys, hfk, ?_⟩
      intro i hi j hj hij
      subst hij
      obtain ⟨o, ho⟩ := hids_mem hj
      obtain ⟨o', ho'⟩ := hids_mem hi
      obtain ⟨y, hy⟩ := frs _ _ ho
      rcases hA.ids _ _ ho' with h | h
      · exact (hfr _ _ ho).2 h
      · have := hR.fresh _ _ hy; omega
  · intro id o hm
    rcases List.mem_append.1 hm with hm | hm
    · exact hA.fresh id o hm
    · obtain ⟨y, hy⟩ := frs _ _ hm
      exact Nat.lt_of_lt_of_le (hR.fresh _ _ hy) hA.le
  · refine hR.kept.trans hA.kept.os ⟨hA.kept.tape, hA.kept.dr⟩ hA.kept.output hA.kept.size (fun k hk hE => hA.kept.block k (Nat.lt_of_lt_of_le hk hR.kept.size) ?_)
    rintro ⟨id, h1, h2⟩
    obtain ⟨o, h1⟩ := hids_mem h1
    rcases hR.own _ _ _ (hsub _ _ h1) h2 with h | h
    · exact hE ⟨_, h⟩
    · omega
  · intro k hk
    have := hR.kept.size
    rcases hA.sin k hk with h | h
    · exact hR.sin k h
    · right; omega
  · intro id o b hm hb
    have := hR.kept.size
    rcases List.mem_append.1 hm with hm | hm
    · rcases hA.own _ _ _ hm hb with ⟨h1, h2⟩ | h
      · obtain ⟨o', h1⟩ := hids_mem h1
        exact hR.own _ _ _ (hsub _ _ h1) h2
      · right; omega
    · rw [frblk' _ _ hm] at hb
      obtain ⟨y, hy⟩ := frs _ _ hm
      exact hR.own _ _ _ hy hb
  · intro id h1 h2
    rw [hL id (Nat.lt_of_lt_of_le h1 hR.nx) (fun h3 => ?_)]
    · exact hR.gam id h1 h2
    · obtain ⟨o, h4, h5⟩ := rowIds_of (hLr _ h3)
      rcases hR.ids _ _ (hsub _ _ h4) with h | h
      · exact h2 (hR.rows _ _ (hsub _ _ h4) h h5)
      · omega
  · intro id o hm
    rcases List.mem_append.1 hm with hm | hm
    · rcases hA.ids _ _ hm with h | h
      · obtain ⟨o', ho'⟩ := hids_mem h
        exact hR.ids _ _ (hsub _ _ ho')
      · right; exact Nat.le_trans hR.nx h
    · obtain ⟨y, hy⟩ := frs _ _ hm
      exact hR.ids _ _ hy
  · intro id o hm h1 h2
    rcases List.mem_append.1 hm with hm | hm
    · rcases hA.ids _ _ hm with h | h
      · obtain ⟨o', h4, h5⟩ := rowIds_of (hA.rows _ _ hm h h2)
        exact hR.rows _ _ (hsub _ _ h4) h1 h5
      · have := hR.h0 _ h1; have := hR.nx; omega
    · obtain ⟨_, y, hy, _, h5⟩ := killS_h _ _ (hfr id o hm).1
      exact hR.rows _ _ hy h1 (by rw [← h5]; exact h2)

theorem Rep.after {e : Env} {γ γ' : Nat → Option Value} {S S' : Nat → Prop} {s : St} {a : Act} {w w' : World} {h fr h' : Heap} {nx' : Nat} (hR : Rep e γ S s a w) (hsub : ∀ id o, (id, o) ∈ h → (id, o) ∈ s.h)
    (hfr : ∀ id o, (id, o) ∈ fr → (id, o) ∈ (Fw.killS s (rowIds h)).h ∧ id ∉ hids h) (hfk : (hids fr).Nodup) (hA : After γ S w h s.nx γ' S' w' h' nx') :
    Rep e γ' S' { sl := (Fw.killS s (rowIds h)).sl, h := h' ++ fr, nx := nx' } a w' := hR.afterL (rowIds h) hsub hfr hfk hA hA.gam (fun _ h => h)
/-- A call that leaves each row where it is. -/
def TripleS (C : Cx) (f : FuncId) (args : List SV) (h : Heap) (nx : Nat) (Q : Res → Heap → Nat → Prop) : Prop :=
  Enters C.P f ∧ ∀ γ S w (vs : List Value), RVs γ S w args vs → HeapOK γ S w h → (∀ id o, (id, o) ∈ h → id < nx) → (∀ id, nx ≤ id → γ id = none) → (∀ k, S k → k < w.heap.size) →
    Calls C.P f vs.toArray w fun en w' => ∃ r h' nx' γ' S', Q r h' nx' ∧ RRes γ' S' w' r en ∧ After γ S w h nx γ' S' w' h' nx' ∧ ∀ id, id < nx → γ' id = γ id
def capSV (s : St) : List Nat → Option (List SV)
  | [] => some []
  | i :: r => match lk s.h i, capSV s r with
    | some (.box _ _), some l => some (.c (.one (.ref i 0)) :: l)
    | _, _ => none
def Fit (xs ys : List SV) : Prop := ∀ γ S w vs, RVs γ S w xs vs → RVs γ S w ys vs
theorem Fit.refl (xs : List SV) : Fit xs xs := fun _ _ _ _ h => h
def argSV (s : St) : List Operand → Option (List SV)
  | [] => some []
  | x :: r => match s.op x, argSV s r with
    | some v, some l => some (v :: l)
    | _, _ => none
theorem RVs.append {γ : Nat → Option Value} {S : Nat → Prop} {w : World} : ∀ {xs ys : List SV} {vs ws : List Value}, RVs γ S w xs vs → RVs γ S w ys ws → RVs γ S w (xs ++ ys) (vs ++ ws)
  | [], _, [], _, _, h => h
  | _ :: _, _, _ :: _, _, ⟨h, r⟩, h' => ⟨h, RVs.append r h'⟩
section
variable {C : Cx} {N n0 : Nat} {ops : Array Oper} {l : List Oper} {s s' : St} {Q Q' : Exit → St → Prop} {o : Oper} {c c1 c2 : Code}
theorem argSV_run {e : Env} {γ : Nat → Option Value} {S : Nat → Prop} {a : Act} {w : World} (hR : Rep e γ S s a w) : ∀ {xs : List Operand} {svs : List SV}, argSV s xs = some svs → RVs γ S w svs (xs.map a.eval)
  | [], svs, h => by simp [argSV] at h; subst h; trivial
  | x :: r, svs, h => by
    unfold argSV at h
    split at h
    · rename_i v l hx hl
      simp only [Option.some.injEq] at h; subst h
      exact ⟨hR.op hx, argSV_run hR hl⟩
    · cases h
theorem capSV_run {e : Env} {γ : Nat → Option Value} {S : Nat → Prop} {a : Act} {w : World} (hR : Rep e γ S s a w) : ∀ {ids : List Nat} {svs : List SV} {vs : List Value}, capSV s ids = some svs → vs.map some = ids.map γ → RVs γ S w svs vs
  | [], svs, vs, h, hv => by simp [capSV] at h; subst h; simp at hv; subst hv; trivial
  | i :: r, svs, vs, h, hv => by
    unfold capSV at h
    split at h
    · rename_i t cs l hl hr
      simp only [Option.some.injEq] at h; subst h
      cases vs with
      | nil => simp at hv
      | cons v vs =>
        simp only [List.map_cons, List.cons.injEq] at hv
        refine ⟨?_, capSV_run hR hr hv.2⟩
        have ho := hR.heap.obj _ _ (lk_mem hl)
        cases ho with
        | box hg =>
          have := hv.1.trans hg
          simp only [Option.some.injEq] at this; subst this
          exact .ref (by simp [blk, hg, vblk])
    · cases h

/-- A call: h is what is handed over, fr what stays behind. -/
theorem JL.call {f : Operand} {args : Array Operand} {tys : Array TypeId} {fid : FuncId} {ids : List Nat} {svs caps targs : List SV} {h fr : Heap} {QR : Res → Heap → Nat → Prop}
    (hg : o.guard = none) (ho : o.op = .call { callee := .value f, args := args, argTypes := tys }) (hd : dstOK N o.dst = true) (hf : s.op f = some (.c (.one (.clo fid ids)))) (ha : argSV s args.toList = some svs) (hcap : capSV s ids = some caps)
    (hsub : ∀ id o, (id, o) ∈ h → (id, o) ∈ s.h) (hk : (hids h).Nodup) (hfr : ∀ id o, (id, o) ∈ fr → (id, o) ∈ (killS s (rowIds h)).h ∧ id ∉ hids h) (hfk : (hids fr).Nodup)
    (hfit : Fit (svs ++ caps) targs) (ht : Triple C fid targs h s.nx QR)
    (hret : ∀ v h' nx', QR (.ret v) h' nx' → JL C N n0 ops l (St.putO { sl := (killS s (rowIds h)).sl, h := h' ++ fr, nx := nx' } o.dst v) Q)
    (hpan : ∀ v h' nx', QR (.pan v) h' nx' → Q (.panic [{ v, recovered := false }]) { sl := (killS s (rowIds h)).sl, h := h' ++ fr, nx := nx' }) : JL C N n0 ops (o :: l) s Q := by
  intro e γ S a w hN h0 hR
  have hfv : RD γ S w (.clo fid ids) (a.eval f) := hR.op hf
  have hav := argSV_run hR ha
  refine wpList_plain hg fun K hK => ?_
  generalize hfu : a.eval f = u at hfv
  cases hfv with
  | clo hvs =>
    rename_i vs
    have hcv := capSV_run hR hcap hvs
    have hvals := hfit γ S w _ (RVs.append hav hcv)
    have hheap : HeapOK γ S w h := ⟨fun id o hm => hR.heap.obj id o (hsub id o hm), fun id o id' o' h1 h2 => hR.heap.apart _ _ _ _ (hsub _ _ h1) (hsub _ _ h2), hk⟩
    have hcall := ht.2 γ S w _ hvals hheap (fun id o hm => hR.fresh id o (hsub id o hm)) hR.new hR.sw
    have hrun : (execOp a.eval o).run C.P w = .ok (.enter fid (args.toList.map a.eval ++ vs).toArray) w := by
      have harr : args.map a.eval ++ vs.toArray = (args.toList.map a.eval ++ vs).toArray := by apply Array.ext'; simp
      simp only [execOp, ho, resolve, Sem.run_bind, hfu, Deferred.ofValue, Sem.run_pure, Result.andThen_ok, invoke, Array.empty_append, harr]
      exact ht.1 _ _
    unfold Oper.wp
    rw [hrun]
    refine hcall.mono ?_
    rintro en w' ⟨r, h', nx', γ', S', hq, hres, hA⟩
    have hR' := hR.after hsub hfr hfk hA
    cases en with
    | returned v =>
      cases r with
      | ret x => exact hK _ _ (hret x h' nx' hq e γ' S' _ w' hN h0 (hR'.putO hres (by rw [hN]; exact hd)))
      | pan x => exact hres.elim
    | panicked chain =>
      cases r with
      | ret x => exact hres.elim
      | pan x =>
        obtain rfl : chain = [{ v := x, recovered := false }] := hres
        exact ⟨_, γ', S', hpan x h' nx' hq, hR'⟩
    | outgrown => cases r <;> exact hres.elim
/-- .. the same for a call that leaves each row where it is. -/
theorem JL.callS {f : Operand} {args : Array Operand} {tys : Array TypeId} {fid : FuncId} {ids : List Nat} {svs caps targs : List SV} {h fr : Heap} {QR : Res → Heap → Nat → Prop}
    (hg : o.guard = none) (ho : o.op = .call { callee := .value f, args := args, argTypes := tys }) (hd : dstOK N o.dst = true) (hf : s.op f = some (.c (.one (.clo fid ids)))) (ha : argSV s args.toList = some svs) (hcap : capSV s ids = some caps)
    (hsub : ∀ id o, (id, o) ∈ h → (id, o) ∈ s.h) (hk : (hids h).Nodup) (hfr : ∀ id o, (id, o) ∈ fr → (id, o) ∈ s.h ∧ id ∉ hids h) (hfk : (hids fr).Nodup)
    (hfit : Fit (svs ++ caps) targs) (ht : TripleS C fid targs h s.nx QR)
    (hret : ∀ v h' nx', QR (.ret v) h' nx' → JL C N n0 ops l (St.putO { sl := s.sl, h := h' ++ fr, nx := nx' } o.dst v) Q)
    (hpan : ∀ v h' nx', QR (.pan v) h' nx' → Q (.panic [{ v, recovered := false }]) { sl := s.sl, h := h' ++ fr, nx := nx' }) : JL C N n0 ops (o :: l) s Q := by
  intro e γ S a w hN h0 hR
  have hfv : RD γ S w (.clo fid ids) (a.eval f) := hR.op hf
  have hav := argSV_run hR ha
  refine wpList_plain hg fun K hK => ?_
  generalize hfu : a.eval f = u at hfv
  cases hfv with
  | clo hvs =>
    rename_i vs
    have hcv := capSV_run hR hcap hvs
    have hvals := hfit γ S w _ (RVs.append hav hcv)
    have hheap : HeapOK γ S w h := ⟨fun id o hm => hR.heap.obj id o (hsub id o hm), fun id o id' o' h1 h2 => hR.heap.apart _ _ _ _ (hsub _ _ h1) (hsub _ _ h2), hk⟩
    have hcall := ht.2 γ S w _ hvals hheap (fun id o hm => hR.fresh id o (hsub id o hm)) hR.new hR.sw
    have hrun : (execOp a.eval o).run C.P w = .ok (.enter fid (args.toList.map a.eval ++ vs).toArray) w := by
      have harr : args.map a.eval ++ vs.toArray = (args.toList.map a.eval ++ vs).toArray := by apply Array.ext'; simp
      simp only [execOp, ho, resolve, Sem.run_bind, hfu, Deferred.ofValue, Sem.run_pure, Result.andThen_ok, invoke, Array.empty_append, harr]
      exact ht.1 _ _
    unfold Oper.wp
    rw [hrun]
    refine hcall.mono ?_
    rintro en w' ⟨r, h', nx', γ', S', hq, hres, hA, hS⟩
    have hR' := hR.afterL [] hsub hfr hfk hA (fun id h _ => hS id h) (fun _ h => by cases h)
    cases en with
    | returned v =>
      cases r with
      | ret x => exact hK _ _ (hret x h' nx' hq e γ' S' _ w' hN h0 (hR'.putO hres (by rw [hN]; exact hd)))
      | pan x => exact hres.elim
    | panicked chain =>
      cases r with
      | ret x => exact hres.elim
      | pan x =>
        obtain rfl : chain = [{ v := x, recovered := false }] := hres
        exact ⟨_, γ', S', hpan x h' nx' hq, hR'⟩
    | outgrown => cases r <;> exact hres.elim
end
end Go.Fw
/- The framework, part 15: states that say no more than others. -/
set_option linter.unusedVariables false
set_option linter.unusedSimpArgs false
namespace Go.Fw
open Go

def DLe (d d' : D) : Prop := ∀ γ S w v, RD γ S w d v → RD γ S w d' v
def SVLe (d d' : SV) : Prop := ∀ γ S w v, RV γ S w d v → RV γ S w d' v
theorem SVLe.refl (d : SV) : SVLe d d := fun _ _ _ _ h => h
theorem SVLe.of_eq {d d' : SV} (h : d = d') : SVLe d d' := h ▸ SVLe.refl d
theorem SVLe.trans {a b c : SV} (h : SVLe a b) (k : SVLe b c) : SVLe a c := fun γ S w v x => k γ S w v (h γ S w v x)
theorem SVLe.any (x : SV) : SVLe x (one .any) := fun γ S w v _ => .any v
theorem SVLe.one {d d' : D} (h : DLe d d') : SVLe (one d) (one d') := fun γ S w v hr => h γ S w v hr
theorem SVLe.one' {d d' : D} (h : DLe d d') : SVLe (.c (.one d)) (.c (.one d')) := fun γ S w v hr => h γ S w v hr
def DsLe : List D → List D → Prop
  | [], [] => True
  | a :: as, b :: bs => DLe a b ∧ DsLe as bs
  | _, _ => False
theorem DsLe.run {γ : Nat → Option Value} {S : Nat → Prop} {w : World} : ∀ {as bs : List D} {vs : List Value}, DsLe as bs → RDs γ S w as vs → RDs γ S w bs vs
  | [], [], [], _, _ => trivial
  | _ :: _, _ :: _, _ :: _, ⟨h, r⟩, ⟨h', r'⟩ => ⟨h _ _ _ _ h', DsLe.run r r'⟩
theorem DsLe.refl : ∀ (as : List D), DsLe as as
  | [] => trivial
  | _ :: r => ⟨fun _ _ _ _ h => h, DsLe.refl r⟩
theorem SVLe.agg {as bs : List D} (h : DsLe as bs) : SVLe (.c (.agg as)) (.c (.agg bs)) := fun γ S w v ⟨vs, h1, h2⟩ => ⟨vs, h1, h.run h2⟩
/-- A nil slice reads as rows, of which there is none. -/
theorem DLe.nil (sz : Nat) (f : Nat → List T) : DLe (.data (.lit (.slice none 0 0))) (.data (.rows sz 0 f)) := by
  intro γ S w v h
  cases h with
  | data h => cases h with
    | lit => exact .data (.rows sz 0 f none 0 0 0 (fun _ _ => undef) (Nat.le_refl _) (Nat.zero_le _) (fun h => absurd h (Nat.lt_irrefl 0)) (fun i h => absurd h (Nat.not_lt_zero i)) (fun i j h => absurd h (Nat.not_lt_zero i)) (fun i j d h => absurd h (Nat.not_lt_zero i)))
theorem RT.rows_congr {S : Nat → Prop} {w : World} {sz n : Nat} {f g : Nat → List T} {v : Value} (h : ∀ i, i < n → f i = g i) (hr : RT S w (.rows sz n f) v) : RT S w (.rows sz n g) v := by
  cases hr with
  | rows _ _ _ A cap b o V hn hb hA hl hc hr =>
    exact .rows sz n g A cap b o V hn hb hA (fun i hi => by rw [← h i hi]; exact hl i hi) hc (fun i j d hi hd => hr i j d hi (by rw [h i hi]; exact hd))
theorem DLe.rows {sz n : Nat} {f g : Nat → List T} (h : ∀ i, i < n → f i = g i) : DLe (.data (.rows sz n f)) (.data (.rows sz n g)) := by
  intro γ S w v hr
  cases hr with
  | data hr => exact .data (hr.rows_congr h)
theorem DLe.refl (d : D) : DLe d d := fun _ _ _ _ h => h
theorem DLe.of_eq {d d' : D} (h : d = d') : DLe d d' := h ▸ DLe.refl d

def SlLe (l : List (Nat × SV)) : List (Nat × SV) → Prop
  | [] => True
  | (d, v) :: r => (∃ u, lk l d = some u ∧ SVLe u v) ∧ SlLe l r
theorem SlLe.get {l : List (Nat × SV)} : ∀ {r : List (Nat × SV)} {d : Nat} {v : SV}, SlLe l r → lk r d = some v → ∃ u, lk l d = some u ∧ SVLe u v
  | [], d, v, _, h => by simp [lk] at h
  | (k, x) :: r, d, v, ⟨h1, h2⟩, h => by
    simp only [lk_cons] at h
    split at h
    · rename_i he; subst he; simp only [Option.some.injEq] at h; subst h; exact h1
    · exact SlLe.get h2 h
theorem SlLe.same {l : List (Nat × SV)} {d : Nat} {v : SV} {r : List (Nat × SV)} (h : lk l d = some v) (k : SlLe l r) : SlLe l ((d, v) :: r) := ⟨⟨v, h, SVLe.refl v⟩, k⟩
/-- Slots that are forgotten, or told otherwise. -/
theorem Le.slots {n0 : Nat} {s s' : St} (hs : SlLe s.sl s'.sl) (hh : s'.h = s.h) (hn : s'.nx = s.nx) : Le n0 s s' := by
  intro e γ S a w _ hR
  refine ⟨γ, S, { hR with slots := fun d v h => ?_, heap := by rw [hh]; exact hR.heap, fresh := by rw [hh, hn]; exact hR.fresh, own := by rw [hh]; exact hR.own, ids := by rw [hh]; exact hR.ids, nx := by rw [hn]; exact hR.nx, rows := by rw [hh]; exact hR.rows, new := by rw [hn]; exact hR.new }⟩
  obtain ⟨u, h1, h2⟩ := hs.get h
  exact h2 γ S w _ (hR.slots d u h1)
/-- Objects that are forgotten. -/
def HLe (h : Heap) : Heap → Prop
  | [] => True
  | (i, o) :: r => lk h i = some o ∧ HLe h r
theorem HLe.mem {h : Heap} : ∀ {r : Heap} {i : Nat} {o : O}, HLe h r → (i, o) ∈ r → (i, o) ∈ h
  | (k, x) :: r, i, o, ⟨h1, h2⟩, hm => by
    rcases List.mem_cons.1 hm with he | hm
    · cases he; exact lk_mem h1
    · exact HLe.mem h2 hm
theorem Le.heap {n0 : Nat} {s : St} {h' : Heap} {nx' : Nat} (hs : HLe s.h h') (hk : (hids h').Nodup) (hn : s.nx ≤ nx') : Le n0 s { s with h := h', nx := nx' } := by
  intro e γ S a w _ hR
  exact ⟨γ, S, { hR with heap := ⟨fun id o hm => hR.heap.obj id o (hs.mem hm), fun id o id' o' h1 h2 => hR.heap.apart _ _ _ _ (hs.mem h1) (hs.mem h2), hk⟩, fresh := fun id o hm => Nat.lt_of_lt_of_le (hR.fresh id o (hs.mem hm)) hn, own := fun id o b hm => hR.own id o b (hs.mem hm), ids := fun id o hm => hR.ids id o (hs.mem hm), nx := Nat.le_trans hR.nx hn, rows := fun id o hm => hR.rows id o (hs.mem hm), new := fun id h => hR.new id (Nat.le_trans hn h) }⟩

/-- A slot that holds nil is a row of one's own, of no element. -/
theorem Le.nilrow {n0 : Nat} {s : St} (d el sz : Nat) (hd : lk s.sl d = some (litS (.slice none 0 0))) : Le n0 s { sl := (d, one (.base s.nx)) :: s.sl, h := (s.nx, .row el sz []) :: s.h, nx := s.nx + 1 } := by
  intro e γ S a w _ hR
  have hup : ∀ i, i ≠ s.nx → upd γ s.nx (.slice none 0 0) i = γ i := fun i h => by unfold upd; rw [if_neg h]
  have hext : ∀ id v, γ id = some v → upd γ s.nx (.slice none 0 0) id = γ id := by
    intro id v hv
    refine hup id ?_
    rintro rfl
    rw [hR.new _ (Nat.le_refl _)] at hv; cases hv
  have hids : ∀ id o, (id, o) ∈ s.h → id ≠ s.nx := fun id o h he => by have := hR.fresh id o h; omega
  have hsame : Same S w w := fun _ _ => rfl
  have hblkn : blk (upd γ s.nx (.slice none 0 0)) s.nx = none := by simp [blk, upd_self, vblk]
  have hblk : ∀ i, i ≠ s.nx → blk (upd γ s.nx (.slice none 0 0)) i = blk γ i := fun i h => by unfold blk; rw [hup i h]
  refine ⟨upd γ s.nx (.slice none 0 0), S, { size := hR.size, defers := hR.defers, slots := ?_, heap := ?_, fresh := ?_, kept := hR.kept, sw := hR.sw, s0 := hR.s0, sin := hR.sin, own := ?_, gam := ?_, ids := ?_, nx := ?_, h0 := hR.h0, rows := ?_, new := ?_ }⟩
  · intro i v h
    simp only [lk_cons] at h
    split at h
    · rename_i he; subst he; simp only [Option.some.injEq] at h; subst h
      have := litS_run rfl (hR.slots _ _ hd)
      rw [this]; exact .base (upd_self _ _ _)
    · exact (hR.slots i v h).move hsame (fun _ h => h) (fun id _ => hext id)
  · refine { obj := ?_, apart := ?_, keys := ?_ }
    · intro id o h
      rcases List.mem_cons.1 h with he | h
      · cases he; exact .nil (upd_self _ _ _)
      · exact (hR.heap.obj id o h).move hsame (fun _ h => h) (fun i _ => hext i) (hup id (hids id o h)) (fun b _ => ⟨rfl, fun h => h⟩)
    · intro id o id' o' h1 h2 hne b hb hb'
      rcases List.mem_cons.1 h1 with he1 | h1
      · cases he1; rw [hblkn] at hb; cases hb
      · rcases List.mem_cons.1 h2 with he2 | h2
        · cases he2; rw [hblkn] at hb'; cases hb'
        · rw [hblk _ (hids _ _ h1)] at hb; rw [hblk _ (hids _ _ h2)] at hb'
          exact hR.heap.apart _ _ _ _ h1 h2 hne b hb hb'
    · simp only [List.map_cons, List.nodup_cons]
      refine ⟨fun h => ?_, hR.heap.keys⟩
      obtain ⟨⟨id, o'⟩, h1, h2⟩ := List.mem_map.1 h
      exact hids id o' h1 h2
  · intro id o h
    rcases List.mem_cons.1 h with he | h
    · cases he; exact Nat.lt_succ_self _
    · exact Nat.lt_succ_of_lt (hR.fresh id o h)
  · intro id o b h hb
    rcases List.mem_cons.1 h with he | h
    · cases he; rw [hblkn] at hb; cases hb
    · rw [hblk _ (hids _ _ h)] at hb; exact hR.own _ _ _ h hb
  · intro id h1 h2
    rw [hup id (by have := hR.nx; omega)]; exact hR.gam id h1 h2
  · intro id o h
    rcases List.mem_cons.1 h with he | h
    · cases he; exact .inr hR.nx
    · exact hR.ids id o h
  · exact Nat.le_succ_of_le hR.nx
  · intro id o h h1 h2
    rcases List.mem_cons.1 h with he | h
    · cases he; have := hR.h0 _ h1; have := hR.nx; omega
    · exact hR.rows id o h h1 h2
  · intro id h
    have h : s.nx + 1 ≤ id := h
    rw [hup id (by omega)]; exact hR.new id (by omega)

/-! ### A row that nobody writes any more -/
def D.froz (id : Nat) (t : T) : D → D
  | .base i => bif Nat.beq i id then .data t else .base i
  | d => d
def Cv.froz (id : Nat) (t : T) : Cv → Cv
  | .one d => .one (d.froz id t)
  | .agg ds => .agg (ds.map (D.froz id t))
def SV.froz (id : Nat) (t : T) : SV → SV
  | .c x => .c (x.froz id t)
  | .tup l => .tup (l.map (Cv.froz id t))
def O.froz (id : Nat) (t : T) : O → O
  | .box bt cs => .box bt (cs.map (D.froz id t))
  | .row e sz rs => .row e sz (rs.map (fun r => r.map (D.froz id t)))
  | .mp es => .mp (es.map fun x => (x.1, x.2.froz id t))
  | .mi k es => .mi k es
  | .mb es => .mb es
  | .it z p => .it z p
def frozL : List (Nat × SV) → Nat → T → List (Nat × SV)
  | [], _, _ => []
  | (d, v) :: r, id, t => (d, v.froz id t) :: frozL r id t
def frozH : Heap → Nat → T → Heap
  | [], _, _ => []
  | (i, o) :: r, id, t => bif Nat.beq i id then frozH r id t else (i, o.froz id t) :: frozH r id t
def St.froz (s : St) (id : Nat) (t : T) : St := { s with sl := frozL s.sl id t, h := frozH s.h id t }

section
variable {γ : Nat → Option Value} {S S' : Nat → Prop} {w : World} {id : Nat} {t : T}
theorem RD.froz (hS : ∀ k, S k → S' k) (ht : ∀ v, γ id = some v → RT S' w t v) {d : D} {v : Value} (h : RD γ S w d v) : RD γ S' w (d.froz id t) v := by
  have h' : RD γ S' w d v := h.move (fun _ _ => rfl) hS (fun _ _ _ _ => rfl)
  cases d with
  | base i =>
    simp only [D.froz]
    cases hb : Nat.beq i id with
    | false => exact h'
    | true =>
      obtain rfl := Nat.eq_of_beq_eq_true hb
      cases h with
      | base hv => exact .data (ht v hv)
  | _ => exact h'
theorem RDs.froz (hS : ∀ k, S k → S' k) (ht : ∀ v, γ id = some v → RT S' w t v) : ∀ {ds : List D} {vs : List Value}, RDs γ S w ds vs → RDs γ S' w (ds.map (D.froz id t)) vs
  | [], [], _ => trivial
  | _ :: _, _ :: _, ⟨h, r⟩ => ⟨h.froz hS ht, RDs.froz hS ht r⟩
theorem RC.froz (hS : ∀ k, S k → S' k) (ht : ∀ v, γ id = some v → RT S' w t v) {d : Cv} {v : Value} (h : RC γ S w d v) : RC γ S' w (d.froz id t) v := by
  cases d with
  | one d => exact RD.froz hS ht h
  | agg ds => obtain ⟨vs, rfl, h⟩ := h; exact ⟨vs, rfl, h.froz hS ht⟩
theorem RCs.froz (hS : ∀ k, S k → S' k) (ht : ∀ v, γ id = some v → RT S' w t v) : ∀ {ds : List Cv} {vs : List Value}, RCs γ S w ds vs → RCs γ S' w (ds.map (Cv.froz id t)) vs
  | [], [], _ => trivial
  | _ :: _, _ :: _, ⟨h, r⟩ => ⟨h.froz hS ht, RCs.froz hS ht r⟩
theorem RV.froz (hS : ∀ k, S k → S' k) (ht : ∀ v, γ id = some v → RT S' w t v) {d : SV} {v : Value} (h : RV γ S w d v) : RV γ S' w (d.froz id t) v := by
  cases d with
  | c d => exact RC.froz hS ht h
  | tup ds => obtain ⟨vs, rfl, h⟩ := h; exact ⟨vs, rfl, h.froz hS ht⟩
theorem REs.froz (hS : ∀ k, S k → S' k) (ht : ∀ v, γ id = some v → RT S' w t v) : ∀ {ds : List (Int × Cv)} {vs : List MapEntry}, REs γ S w ds vs → REs γ S' w (ds.map fun x => (x.1, x.2.froz id t)) vs
  | [], [], _ => trivial
  | (_, _) :: _, _ :: _, ⟨k, h, r⟩ => ⟨k, h.froz hS ht, REs.froz hS ht r⟩
theorem froz_flatten (id : Nat) (t : T) (rs : List (List D)) : (rs.map (fun r => r.map (D.froz id t))).flatten = rs.flatten.map (D.froz id t) := by
  induction rs with
  | nil => rfl
  | cons r rs ih => rw [List.map_cons, List.flatten_cons, List.flatten_cons, List.map_append, ih]
theorem RO.froz (hS : ∀ k, S k → S' k) (ht : ∀ v, γ id = some v → RT S' w t v) {i : Nat} {o : O} (hn : ∀ b, blk γ i = some b → ¬ S b → ¬ S' b) (h : RO γ S w i o) : RO γ S' w i (o.froz id t) := by
  cases h with
  | box hg hh hr hS' => rename_i b _; exact .box hg hh (hr.froz hS ht) (hn b (by simp [blk, hg, vblk]) hS')
  | nil hg => exact .nil hg
  | row hg hcap h0 hbig hh hrest hsz hr hS' =>
    rename_i e sz rs b cap vs rest
    have hl : (rs.map (fun r => r.map (D.froz id t))).length = rs.length := List.length_map _
    refine .row (b := b) (vs := vs) (rest := rest) (by rw [hl]; exact hg) (by rw [hl]; exact hcap) h0 (by rw [hl]; exact hbig) hh (by rw [hl]; exact hrest) (fun r hr' => ?_) (by rw [froz_flatten]; exact hr.froz hS ht) (hn b (by simp only [blk, hg, vblk, Option.bind_some]; rw [if_neg (by omega)]) hS')
    obtain ⟨r0, h1, rfl⟩ := List.mem_map.1 hr'
    rw [List.length_map]; exact hsz r0 h1
  | mp hg hh hr hS' => rename_i r _ _; exact .mp hg hh (hr.froz hS ht) (hn r (by simp [blk, hg, vblk]) hS')
  | mi hg hh hr hS' => rename_i k es r _ _; exact .mi hg hh (hr.move (fun _ _ => rfl) hS (fun _ _ _ _ => rfl)) (hn r (by simp [blk, hg, vblk]) hS')
  | mb hg hh hr hS' => rename_i es r _ _; exact .mb hg hh (hr.move (fun _ _ => rfl) hS (fun _ _ _ _ => rfl)) (hn r (by simp [blk, hg, vblk]) hS')
  | it hg hh hS' => exact .it hg hh (hn _ (by simp [blk, hg, vblk]) hS')
end
theorem lk_frozL : ∀ (l : List (Nat × SV)) (id d : Nat) (t : T), lk (frozL l id t) d = (lk l d).map (SV.froz id t)
  | [], _, _, _ => rfl
  | (k, v) :: r, id, d, t => by simp only [frozL, lk_cons, lk_frozL r id d t]; split <;> rfl
theorem mem_frozH : ∀ {h : Heap} {id i : Nat} {t : T} {x : O}, (i, x) ∈ frozH h id t → i ≠ id ∧ ∃ y, (i, y) ∈ h ∧ x = y.froz id t
  | [], _, _, _, _, h => by simp [frozH] at h
  | (k, v) :: r, id, i, t, x, h => by
    simp only [frozH] at h
    cases hb : Nat.beq k id with
    | true =>
      rw [hb] at h
      obtain ⟨h0, y, h1, h2⟩ := mem_frozH h; exact ⟨h0, y, List.mem_cons_of_mem _ h1, h2⟩
    | false =>
      rw [hb] at h
      rcases List.mem_cons.1 h with he | h
      · cases he
        exact ⟨fun he => by rw [he] at hb; simp at hb, v, List.mem_cons_self, rfl⟩
      · obtain ⟨h0, y, h1, h2⟩ := mem_frozH h; exact ⟨h0, y, List.mem_cons_of_mem _ h1, h2⟩
theorem frozH_keys (t : T) : ∀ (h : Heap) (id : Nat), (h.map (·.1)).Nodup → ((frozH h id t).map (·.1)).Nodup
  | [], _, _ => by simp [frozH]
  | (k, v) :: r, id, hn => by
    simp only [List.map_cons, List.nodup_cons] at hn
    simp only [frozH]
    cases hb : Nat.beq k id with
    | true => exact frozH_keys t r id hn.2
    | false =>
      simp only [cond_false, List.map_cons, List.nodup_cons]
      refine ⟨fun h => ?_, frozH_keys t r id hn.2⟩
      obtain ⟨⟨i, x⟩, h1, h2⟩ := List.mem_map.1 h
      obtain ⟨_, y, h3, _⟩ := mem_frozH h1
      exact hn.1 (List.mem_map.2 ⟨(i, y), h3, h2⟩)
/-- A row of one's own becomes plain data. -/
theorem Le.froz {n0 : Nat} {s : St} (id : Nat) {el sz : Nat} {rs : List (List D)} (n : Nat) (f : Nat → List T) (hl : lk s.h id = some (.row el sz rs)) (hid : Nat.ble n0 id = true) (hn : rs.length = n) (hf : ∀ i, i < n → rs[i]? = some ((f i).map .data)) :
    Le n0 s (s.froz id (.rows sz n f)) := by
  intro e γ S a w h0 hR
  have hm := lk_mem hl
  have hob := hR.heap.obj _ _ hm
  have hid' : ¬ id ∈ e.H0 := fun h => by have := hR.h0 _ h; have := Nat.le_of_ble_eq_true hid; omega
  let S' : Nat → Prop := fun k => S k ∨ blk γ id = some k
  have hS : ∀ k, S k → S' k := fun k h => .inl h
  have ht : ∀ v, γ id = some v → RT S' w (.rows sz n f) v := by
    intro v hv
    cases hob with
    | nil hg =>
      obtain rfl := Option.some.inj (hv.symm.trans hg)
      simp at hn; subst hn
      exact .rows sz 0 f _ 0 0 0 (fun _ _ => undef) (Nat.le_refl _) (Nat.zero_le _) (fun h => absurd h (Nat.lt_irrefl 0)) (fun i h => absurd h (Nat.not_lt_zero i)) (fun i j h => absurd h (Nat.not_lt_zero i)) (fun i j d h => absurd h (Nat.not_lt_zero i))
    | row hg hcap hc0 hbig hh hrest hsz hr hSb =>
      obtain rfl := Option.some.inj (hv.symm.trans hg)
      rename_i b cap vs rest
      have hb : blk γ id = some b := by simp only [blk, hg, vblk, Option.bind_some]; rw [if_neg (by omega)]
      have hfl : ∀ i, i < n → (f i).length = sz := by
        intro i hi
        have := hsz _ (List.mem_of_getElem? (hf i hi))
        simpa using this
      have hvl : vs.length = n * sz := by rw [← hr.length, flatten_len sz _ hsz, hn]
      have hpos : ∀ i j, i < n → j < sz → i * sz + j < n * sz := by
        intro i j hi hj
        have : (i + 1) * sz ≤ n * sz := Nat.mul_le_mul_right _ hi
        rw [Nat.succ_mul] at this; omega
      rw [← hn]
      refine .rows sz rs.length f _ cap b 0 (fun i j => vs.getD (i * sz + j) undef) hcap hbig (fun _ => ⟨rfl, .inr hb⟩) (fun i hi => hfl i (by omega)) (fun i j hi hj => ?_) (fun i j d hi hd => ?_)
      · have hp := hpos i j (by omega) hj
        rw [Nat.zero_add, cell_of_block hh, List.getElem?_append_left (by omega), List.getD_eq_getElem?_getD, List.getElem?_eq_getElem (by omega)]
        rfl
      · have hj : j < sz := by rw [← hfl i (by omega)]; exact (List.getElem?_eq_some_iff.1 hd).1
        have hs0 : 0 < sz := by omega
        have hp := hpos i j (by omega) hj
        have h1 : rs.flatten[i * sz + j]? = some (.data d) := by
          rw [get_flatten hs0 _ _ hsz, Nat.mul_comm i sz, Nat.mul_add_div hs0, Nat.div_eq_of_lt hj, Nat.add_zero, hf i (by omega), Nat.mul_add_mod, Nat.mod_eq_of_lt hj]
          simp [hd]
        have h2 : vs[i * sz + j]? = some (vs.getD (i * sz + j) undef) := by
          rw [List.getD_eq_getElem?_getD, List.getElem?_eq_getElem (by omega)]; rfl
        have h3 := hr.get h1 h2
        cases h3 with
        | data h3 => exact h3.move (fun _ _ => rfl) hS
  have hblkS : ∀ i o, (i, o) ∈ s.h → i ≠ id → ∀ b, blk γ i = some b → ¬ S b → ¬ S' b := by
    intro i o hm' hne b hb hnS hS'
    rcases hS' with h | h
    · exact hnS h
    · exact hR.heap.apart _ _ _ _ hm' hm hne b hb h
  refine ⟨γ, S', { size := hR.size, defers := hR.defers, slots := ?_, heap := ?_, fresh := ?_, kept := hR.kept, sw := ?_, s0 := fun k h => .inl (hR.s0 k h), sin := ?_, own := ?_, gam := hR.gam, ids := ?_, nx := hR.nx, h0 := hR.h0, rows := ?_, new := hR.new }⟩
  · intro d v h
    simp only [St.froz, lk_frozL] at h
    cases hd : lk s.sl d with
    | none => rw [hd] at h; cases h
    | some u => rw [hd] at h; simp at h; subst h; exact (hR.slots d u hd).froz hS ht
  · refine { obj := ?_, apart := ?_, keys := frozH_keys _ _ _ hR.heap.keys }
    · intro i x hx
      obtain ⟨h1, y, h2, rfl⟩ := mem_frozH hx
      exact (hR.heap.obj i y h2).froz hS ht (hblkS i y h2 h1)
    · intro i x i' x' h1 h2 hne
      obtain ⟨_, y, h3, _⟩ := mem_frozH h1
      obtain ⟨_, y', h4, _⟩ := mem_frozH h2
      exact hR.heap.apart _ _ _ _ h3 h4 hne
  · intro i x hx; obtain ⟨_, y, h2, _⟩ := mem_frozH hx; exact hR.fresh i y h2
  · intro k hk
    rcases hk with h | h
    · exact hR.sw k h
    · exact (hob.blk_lt h).1
  · intro k hk
    rcases hk with h | h
    · exact hR.sin k h
    · rcases hR.own _ _ _ hm h with h | h
      · exact absurd h.1 hid'
      · exact .inr h
  · intro i x b hx; obtain ⟨_, y, h2, _⟩ := mem_frozH hx; exact hR.own i y b h2
  · intro i x hx; obtain ⟨_, y, h2, _⟩ := mem_frozH hx; exact hR.ids i y h2
  · intro i x hx h1 h2
    obtain ⟨_, y, h3, rfl⟩ := mem_frozH hx
    exact hR.rows i y h3 h1 (by cases y <;> first | exact h2 | cases h2)
end Go.Fw
/- The framework, part 16: objects under other ids; what a call leaves forgotten; results that lie in memory. -/
set_option linter.unusedVariables false
set_option linter.unusedSimpArgs false
namespace Go.Fw
open Go

def D.ren (ρ : Nat → Nat) : D → D
  | .ref i o => .ref (ρ i) o
  | .eptr i sz k j => .eptr (ρ i) sz k j
  | .sub i sz k j => .sub (ρ i) sz k j
  | .base i => .base (ρ i)
  | .clo f ids => .clo f (ids.map ρ)
  | d => d
def Cv.ren (ρ : Nat → Nat) : Cv → Cv
  | .one d => .one (d.ren ρ)
  | .agg ds => .agg (ds.map (D.ren ρ))
def SV.ren (ρ : Nat → Nat) : SV → SV
  | .c x => .c (x.ren ρ)
  | .tup l => .tup (l.map (Cv.ren ρ))
def O.ren (ρ : Nat → Nat) : O → O
  | .box bt cs => .box bt (cs.map (D.ren ρ))
  | .row e sz rs => .row e sz (rs.map (fun r => r.map (D.ren ρ)))
  | .mp es => .mp (es.map fun x => (x.1, x.2.ren ρ))
  | .mi k es => .mi k es
  | .mb es => .mb es
  | .it z p => .it z p
def renH (ρ : Nat → Nat) : Heap → Heap
  | [] => []
  | (i, o) :: r => (ρ i, o.ren ρ) :: renH ρ r
def renL (ρ : Nat → Nat) : List SV → List SV
  | [] => []
  | v :: r => v.ren ρ :: renL ρ r
def Res.ren (ρ : Nat → Nat) : Res → Res
  | .ret v => .ret (v.ren ρ)
  | .pan v => .pan v

section
variable {γ : Nat → Option Value} {S : Nat → Prop} {w : World} {ρ : Nat → Nat}
theorem RD.ren {d : D} {v : Value} : RD γ S w (d.ren ρ) v ↔ RD (fun i => γ (ρ i)) S w d v := by
  constructor
  · intro h
    cases d with
    | data t => cases h with | data h => exact .data h
    | any => exact .any v
    | base i => cases h with | base h => exact .base h
    | ref i o => cases h with | ref h => exact .ref h
    | eptr i sz k j => cases h with | eptr h => exact .eptr h
    | sub i sz k j => cases h with | sub h hn => exact .sub h hn
    | clo f ids =>
      simp only [D.ren] at h
      cases h with
      | clo h => exact .clo (by rw [h, List.map_map]; rfl)
    | ifc t ag cs => cases h with | ifc1 h => exact .ifc1 h | ifcA h => exact .ifcA h
    | rptr cs => cases h with | rptr h1 h2 h3 => exact .rptr h1 h2 h3
  · intro h
    cases h with
    | data h => exact .data h
    | any => exact .any v
    | base h => exact .base h
    | ref h => exact .ref h
    | eptr h => exact .eptr h
    | sub h hn => exact .sub h hn
    | clo h => exact .clo (by rw [h, List.map_map]; rfl)
    | ifc1 h => exact .ifc1 h
    | ifcA h => exact .ifcA h
    | rptr h1 h2 h3 => exact .rptr h1 h2 h3
theorem RDs.ren : ∀ {ds : List D} {vs : List Value}, RDs γ S w (ds.map (D.ren ρ)) vs ↔ RDs (fun i => γ (ρ i)) S w ds vs
  | [], [] => Iff.rfl
  | [], _ :: _ => Iff.rfl
  | _ :: _, [] => Iff.rfl
  | d :: ds, v :: vs => by
    simp only [List.map_cons, RDs]
    exact and_congr RD.ren RDs.ren
theorem RC.ren {d : Cv} {v : Value} : RC γ S w (d.ren ρ) v ↔ RC (fun i => γ (ρ i)) S w d v := by
  cases d with
  | one d => exact RD.ren
  | agg ds => simp only [Cv.ren, RC]; exact exists_congr fun vs => and_congr Iff.rfl RDs.ren
theorem RCs.ren : ∀ {ds : List Cv} {vs : List Value}, RCs γ S w (ds.map (Cv.ren ρ)) vs ↔ RCs (fun i => γ (ρ i)) S w ds vs
  | [], [] => Iff.rfl
  | [], _ :: _ => Iff.rfl
  | _ :: _, [] => Iff.rfl
  | d :: ds, v :: vs => by
    simp only [List.map_cons, RCs]
    exact and_congr RC.ren RCs.ren
theorem RV.ren {d : SV} {v : Value} : RV γ S w (d.ren ρ) v ↔ RV (fun i => γ (ρ i)) S w d v := by
  cases d with
  | c d => exact RC.ren
  | tup ds => simp only [SV.ren, RV]; exact exists_congr fun vs => and_congr Iff.rfl RCs.ren
theorem RVs.ren : ∀ {ds : List SV} {vs : List Value}, RVs γ S w (renL ρ ds) vs ↔ RVs (fun i => γ (ρ i)) S w ds vs
  | [], [] => Iff.rfl
  | [], _ :: _ => Iff.rfl
  | _ :: _, [] => Iff.rfl
  | d :: ds, v :: vs => by
    simp only [renL, RVs]
    exact and_congr RV.ren RVs.ren
theorem REs.ren : ∀ {ds : List (Int × Cv)} {vs : List MapEntry}, REs γ S w (ds.map fun x => (x.1, x.2.ren ρ)) vs ↔ REs (fun i => γ (ρ i)) S w ds vs
  | [], [] => Iff.rfl
  | [], _ :: _ => Iff.rfl
  | _ :: _, [] => Iff.rfl
  | (k, d) :: ds, v :: vs => by
    simp only [List.map_cons, REs]
    exact and_congr Iff.rfl (and_congr RC.ren REs.ren)
theorem ren_flatten (rs : List (List D)) : (rs.map (fun r => r.map (D.ren ρ))).flatten = rs.flatten.map (D.ren ρ) := by
  induction rs with
  | nil => rfl
  | cons r rs ih => rw [List.map_cons, List.flatten_cons, List.flatten_cons, List.map_append, ih]
theorem cvI_ren (k : IntKind) (es : List (Int × Int)) : (cvI k es).map (fun x => (x.1, x.2.ren ρ)) = cvI k es := by
  unfold cvI; rw [List.map_map]; rfl
theorem cvB_ren (es : List (Int × Bool)) : (cvB es).map (fun x => (x.1, x.2.ren ρ)) = cvB es := by
  unfold cvB; rw [List.map_map]; rfl
theorem RO.ren {i : Nat} {o : O} : RO γ S w (ρ i) (o.ren ρ) ↔ RO (fun i => γ (ρ i)) S w i o := by
  constructor
  · intro h
    generalize hx : o.ren ρ = x at h
    cases h with
    | box hg hh hr hS =>
      cases o <;> simp only [O.ren, O.box.injEq, reduceCtorEq] at hx
      obtain ⟨rfl, rfl⟩ := hx
      exact .box hg hh (RDs.ren.1 hr) hS
    | nil hg =>
      cases o <;> simp only [O.ren, O.row.injEq, List.map_eq_nil_iff, reduceCtorEq] at hx
      obtain ⟨rfl, rfl, rfl⟩ := hx
      exact .nil hg
    | row hg hcap h0 hbig hh hrest hsz hr hS =>
      cases o <;> simp only [O.ren, O.row.injEq, reduceCtorEq] at hx
      rename_i b cap vs rest _ _ rs
      obtain ⟨rfl, rfl, rfl⟩ := hx
      rw [List.length_map] at hg hcap hbig hrest
      refine .row (b := b) (cap := cap) (vs := vs) (rest := rest) hg hcap h0 hbig hh hrest (fun r hr' => ?_) (RDs.ren.1 (by rw [← ren_flatten]; exact hr)) hS
      have := hsz (r.map (D.ren ρ)) (List.mem_map.2 ⟨r, hr', rfl⟩)
      simpa using this
    | mp hg hh hr hS =>
      cases o <;> simp only [O.ren, O.mp.injEq, reduceCtorEq] at hx
      subst hx
      exact .mp hg hh (REs.ren.1 hr) hS
    | mi hg hh hr hS =>
      cases o <;> simp only [O.ren, O.mi.injEq, reduceCtorEq] at hx
      obtain ⟨rfl, rfl⟩ := hx
      refine .mi hg hh (REs.ren (ρ := ρ).1 ?_) hS
      rw [cvI_ren]; exact hr
    | mb hg hh hr hS =>
      cases o <;> simp only [O.ren, O.mb.injEq, reduceCtorEq] at hx
      subst hx
      refine .mb hg hh (REs.ren (ρ := ρ).1 ?_) hS
      rw [cvB_ren]; exact hr
    | it hg hh hS =>
      cases o <;> simp only [O.ren, O.it.injEq, reduceCtorEq] at hx
      obtain ⟨rfl, rfl⟩ := hx
      exact .it hg hh hS
  · intro h
    cases h with
    | box hg hh hr hS => exact .box hg hh (RDs.ren.2 hr) hS
    | nil hg => exact .nil hg
    | row hg hcap h0 hbig hh hrest hsz hr hS =>
      rename_i e sz rs b cap vs rest
      have hl : (rs.map (fun r => r.map (D.ren ρ))).length = rs.length := List.length_map _
      refine .row (b := b) (cap := cap) (vs := vs) (rest := rest) (by rw [hl]; exact hg) (by rw [hl]; exact hcap) h0 (by rw [hl]; exact hbig) hh (by rw [hl]; exact hrest) (fun r hr' => ?_) (by rw [ren_flatten]; exact RDs.ren.2 hr) hS
      obtain ⟨r0, h1, rfl⟩ := List.mem_map.1 hr'
      rw [List.length_map]; exact hsz r0 h1
    | mp hg hh hr hS => exact .mp hg hh (REs.ren.2 hr) hS
    | mi hg hh hr hS =>
      refine .mi hg hh ?_ hS
      have := REs.ren (ρ := ρ).2 hr
      rw [cvI_ren] at this; exact this
    | mb hg hh hr hS =>
      refine .mb hg hh ?_ hS
      have := REs.ren (ρ := ρ).2 hr
      rw [cvB_ren] at this; exact this
    | it hg hh hS => exact .it hg hh hS
end
theorem mem_renH {ρ : Nat → Nat} : ∀ {h : Heap} {j : Nat} {x : O}, (j, x) ∈ renH ρ h ↔ ∃ i o, (i, o) ∈ h ∧ j = ρ i ∧ x = o.ren ρ
  | [], j, x => by simp [renH]
  | (i, o) :: r, j, x => by
    simp only [renH, List.mem_cons, mem_renH (h := r), Prod.mk.injEq]
    constructor
    · rintro (⟨rfl, rfl⟩ | ⟨i', o', h, h1, h2⟩)
      · exact ⟨i, o, .inl ⟨rfl, rfl⟩, rfl, rfl⟩
      · exact ⟨i', o', .inr h, h1, h2⟩
    · rintro ⟨i', o', ⟨rfl, rfl⟩ | h, h1, h2⟩
      · exact .inl ⟨h1, h2⟩
      · exact .inr ⟨i', o', h, h1, h2⟩
theorem renH_keys (ρ : Nat → Nat) : ∀ h : Heap, hids (renH ρ h) = (hids h).map ρ
  | [] => rfl
  | (i, o) :: r => by
    have := renH_keys ρ r
    simp only [hids] at this
    simp only [renH, hids, List.map_cons, this]
theorem O.ren_isRow (ρ : Nat → Nat) (o : O) : (o.ren ρ).isRow = o.isRow := by cases o <;> rfl
theorem renH_rows (ρ : Nat → Nat) : ∀ h : Heap, rowIds (renH ρ h) = (rowIds h).map ρ
  | [] => rfl
  | (i, o) :: r => by
    simp only [renH, rowIds, O.ren_isRow, renH_rows ρ r]
    cases o.isRow <;> rfl

/-- Ids below nx0 stand elsewhere, each at a place of its own; new ones go on from nx1. -/
structure Moves (ρ : Nat → Nat) (nx0 nx1 : Nat) : Prop where
  inj : ∀ i j, i < nx0 → j < nx0 → ρ i = ρ j → i = j
  lt : ∀ i, i < nx0 → ρ i < nx1
  ge : ∀ i, nx0 ≤ i → ρ i = nx1 + (i - nx0)
theorem Moves.inj' {ρ : Nat → Nat} {nx0 nx1 : Nat} (h : Moves ρ nx0 nx1) {i j : Nat} (he : ρ i = ρ j) : i = j := by
  rcases Nat.lt_or_ge i nx0 with h1 | h1 <;> rcases Nat.lt_or_ge j nx0 with h2 | h2
  · exact h.inj i j h1 h2 he
  · have := h.lt i h1; have := h.ge j h2; omega
  · have := h.lt j h2; have := h.ge i h1; omega
  · have := h.ge i h1; have := h.ge j h2; omega

theorem Triple.ren {C : Cx} {f : FuncId} {args : List SV} {h : Heap} {nx0 nx1 : Nat} {Q : Res → Heap → Nat → Prop} (ρ : Nat → Nat) (hρ : Moves ρ nx0 nx1) (ht : Triple C f args h nx0 Q) :
    Triple C f (renL ρ args) (renH ρ h) nx1 (fun r h' nx' => ∃ r0 h0 n0, Q r0 h0 n0 ∧ r = r0.ren ρ ∧ h' = renH ρ h0 ∧ nx' = nx1 + (n0 - nx0)) := by
  refine ⟨ht.1, fun γ S w vs hv hh hfr hnew hsw => ?_⟩
  have hfr0 : ∀ id o, (id, o) ∈ h → id < nx0 := by
    intro id o hm
    have := hfr (ρ id) _ (mem_renH.2 ⟨id, o, hm, rfl, rfl⟩)
    rcases Nat.lt_or_ge id nx0 with h1 | h1
    · exact h1
    · have := hρ.ge id h1; omega
  have hobj : ∀ id o, (id, o) ∈ h → (ρ id, o.ren ρ) ∈ renH ρ h := fun id o hm => mem_renH.2 ⟨id, o, hm, rfl, rfl⟩
  have hnd : ∀ l : List Nat, l.Nodup ↔ (l.map ρ).Nodup := by
    intro l
    constructor
    · intro hl; exact (List.pairwise_map.2 (hl.imp fun hne he => hne (hρ.inj' he)))
    · intro hl; exact (List.pairwise_map.1 hl).imp fun hne he => hne (congrArg ρ he)
  refine (ht.2 (fun i => γ (ρ i)) S w vs (RVs.ren.1 hv) ⟨fun id o hm => RO.ren.1 (hh.obj _ _ (hobj id o hm)), fun id o id' o' h1 h2 hne b hb hb' => hh.apart _ _ _ _ (hobj _ _ h1) (hobj _ _ h2) (fun he => hne (hρ.inj' he)) b hb hb', ?_⟩ hfr0 (fun id hid => ?_) hsw).mono ?_
  · have hk := hh.keys
    rw [show (renH ρ h).map (·.1) = (h.map (·.1)).map ρ from renH_keys ρ h] at hk
    exact (hnd _).2 hk
  · rw [hρ.ge id hid]; exact hnew _ (by omega)
  · rintro en w' ⟨r0, h0, n0, γ0, S', hq, hres, hA⟩
    let γ' : Nat → Option Value := fun j => if nx1 ≤ j then γ0 (nx0 + (j - nx1)) else match (rowIds h).find? (fun id => ρ id == j) with | some id => γ0 id | none => γ j
    have hrow : ∀ id, id ∈ rowIds h → id < nx0 := by
      intro id hid
      obtain ⟨o, hm, _⟩ := rowIds_of hid
      exact hfr0 _ _ hm
    have key : ∀ id, γ' (ρ id) = γ0 id := by
      intro id
      rcases Nat.lt_or_ge id nx0 with h1 | h1
      · have h2 := hρ.lt id h1
        simp only [γ']
        rw [if_neg (by omega)]
        split
        · rename_i id' hf
          have h3 := List.find?_some hf
          have : id' = id := hρ.inj' (by simpa using h3)
          rw [this]
        · rename_i hf
          rw [List.find?_eq_none] at hf
          exact (hA.gam id h1 (fun hm => hf id hm (by simp))).symm
      · have h2 := hρ.ge id h1
        simp only [γ']
        rw [if_pos (by omega), h2]
        congr 1; omega
    have hγ : (fun i => γ' (ρ i)) = γ0 := funext key
    have hblk : ∀ id, blk γ' (ρ id) = blk γ0 id := fun id => by unfold blk; rw [key]
    refine ⟨r0.ren ρ, renH ρ h0, nx1 + (n0 - nx0), γ', S', ⟨r0, h0, n0, hq, rfl, rfl, rfl⟩, ?_, ?_⟩
    · cases r0 with
      | ret x =>
        cases en with
        | returned v => exact RV.ren.2 (by rw [hγ]; exact hres)
        | _ => exact hres
      | pan x => cases en <;> exact hres
    · refine { heap := ⟨?_, ?_, ?_⟩, fresh := ?_, le := by omega, new := ?_, kept := ?_, s0 := hA.s0, sin := hA.sin, sw := hA.sw, own := ?_, gam := ?_, ids := ?_, rows := ?_ }
      · intro j x hm
        obtain ⟨i, o, h1, rfl, rfl⟩ := mem_renH.1 hm
        exact RO.ren.2 (by rw [hγ]; exact hA.heap.obj i o h1)
      · intro j x j' x' hm hm' hne b hb hb'
        obtain ⟨i, o, h1, rfl, rfl⟩ := mem_renH.1 hm
        obtain ⟨i', o', h2, rfl, rfl⟩ := mem_renH.1 hm'
        rw [hblk] at hb hb'
        exact hA.heap.apart _ _ _ _ h1 h2 (fun he => hne (congrArg ρ he)) b hb hb'
      · rw [show (renH ρ h0).map (·.1) = (h0.map (·.1)).map ρ from renH_keys ρ h0]
        exact (hnd _).1 hA.heap.keys
      · intro j x hm
        obtain ⟨i, o, h1, rfl, rfl⟩ := mem_renH.1 hm
        have h2 := hA.fresh _ _ h1
        have := hA.le
        rcases Nat.lt_or_ge i nx0 with h3 | h3
        · have := hρ.lt i h3; omega
        · have := hρ.ge i h3; omega
      · intro id hid
        have := hA.le
        simp only [γ']
        rw [if_pos (by omega)]
        exact hA.new _ (by omega)
      · refine ⟨hA.kept.os, hA.kept.tape, hA.kept.output, hA.kept.dr, hA.kept.size, fun k hk hne => hA.kept.block k hk (fun ⟨id, h1, h2⟩ => hne ⟨ρ id, ?_, h2⟩)⟩
        rw [renH_keys]; exact List.mem_map.2 ⟨id, h1, rfl⟩
      · intro j x b hm hb
        obtain ⟨i, o, h1, rfl, rfl⟩ := mem_renH.1 hm
        rw [hblk] at hb
        rcases hA.own _ _ _ h1 hb with ⟨h2, h3⟩ | h2
        · exact .inl ⟨by rw [renH_keys]; exact List.mem_map.2 ⟨i, h2, rfl⟩, h3⟩
        · exact .inr h2
      · intro j hj hn
        simp only [γ']
        rw [if_neg (by omega)]
        split
        · rename_i id hf
          have h3 := List.find?_some hf
          have h4 := List.mem_of_find?_eq_some hf
          have h5 : ρ id = j := by simpa using h3
          exact absurd (by rw [renH_rows]; exact List.mem_map.2 ⟨id, h4, h5⟩) hn
        · rfl
      · intro j x hm
        obtain ⟨i, o, h1, rfl, rfl⟩ := mem_renH.1 hm
        rcases hA.ids _ _ h1 with h2 | h2
        · exact .inl (by rw [renH_keys]; exact List.mem_map.2 ⟨i, h2, rfl⟩)
        · exact .inr (by rw [hρ.ge i h2]; omega)
      · intro j x hm h2 h3
        obtain ⟨i, o, h1, rfl, rfl⟩ := mem_renH.1 hm
        rw [O.ren_isRow] at h3
        rw [renH_keys] at h2
        obtain ⟨i', h4, h5⟩ := List.mem_map.1 h2
        obtain rfl := hρ.inj' h5
        rw [renH_rows]
        exact List.mem_map.2 ⟨_, hA.rows _ _ h1 h4 h3, rfl⟩

/-! ### What a call leaves, forgotten -/
section
variable {γ : Nat → Option Value} {S : Nat → Prop} {w : World} {id : Nat}
theorem blk_some {i b : Nat} (h : blk γ i = some b) : ∃ u, γ i = some u := by
  unfold blk at h
  cases hv : γ i with
  | none => rw [hv] at h; cases h
  | some v => exact ⟨v, rfl⟩
theorem RD.has_some {d : D} {v : Value} (h : RD γ S w d v) (hi : d.has id = true) : ∃ u, γ id = some u := by
  cases h with
  | base h => simp [D.has] at hi; subst hi; exact ⟨_, h⟩
  | ref h => simp [D.has] at hi; subst hi; exact blk_some h
  | eptr h => simp [D.has] at hi; subst hi; exact blk_some h
  | sub h hn => simp [D.has] at hi; subst hi; exact blk_some h
  | clo h =>
    rename_i f ids vs
    simp only [D.has, List.any_eq_true] at hi
    obtain ⟨j, hj, he⟩ := hi
    obtain rfl := Nat.eq_of_beq_eq_true he
    have : γ j ∈ vs.map some := by rw [h]; exact List.mem_map.2 ⟨j, hj, rfl⟩
    obtain ⟨u, _, hu⟩ := List.mem_map.1 this
    exact ⟨u, hu.symm⟩
  | _ => cases hi
theorem RDs.has_some : ∀ {ds : List D} {vs : List Value}, RDs γ S w ds vs → ds.any (D.has id) = true → ∃ u, γ id = some u
  | [], _, _, hi => by cases hi
  | _ :: _, _ :: _, ⟨h, r⟩, hi => by
    simp only [List.any_cons, Bool.or_eq_true] at hi
    rcases hi with hi | hi
    · exact h.has_some hi
    · exact RDs.has_some r hi
theorem RC.has_some {d : Cv} {v : Value} (h : RC γ S w d v) (hi : d.has id = true) : ∃ u, γ id = some u := by
  cases d with
  | one d => exact RD.has_some h hi
  | agg ds => obtain ⟨vs, _, h⟩ := h; exact RDs.has_some h hi
theorem REs.has_some : ∀ {ds : List (Int × Cv)} {vs : List MapEntry}, REs γ S w ds vs → ds.any (fun x => x.2.has id) = true → ∃ u, γ id = some u
  | [], _, _, hi => by cases hi
  | (_, _) :: _, _ :: _, ⟨_, h, r⟩, hi => by
    simp only [List.any_cons, Bool.or_eq_true] at hi
    rcases hi with hi | hi
    · exact h.has_some hi
    · exact REs.has_some r hi
theorem RO.has_some {i : Nat} {o : O} (h : RO γ S w i o) (hi : o.has id = true) : ∃ u, γ id = some u := by
  cases h with
  | box hg hh hr hS => exact hr.has_some hi
  | nil hg => simp [O.has] at hi
  | row hg hcap h0 hbig hh hrest hsz hr hS => exact hr.has_some (by rw [any_flatten]; exact hi)
  | mp hg hh hr hS => exact hr.has_some hi
  | mi hg hh hr hS => cases hi
  | mb hg hh hr hS => cases hi
  | it hg hh hS => cases hi
theorem RO.self_some {i : Nat} {o : O} (h : RO γ S w i o) : ∃ u, γ i = some u := by
  cases h <;> exact ⟨_, ‹γ i = some _›⟩
end
def Res.has (id : Nat) : Res → Bool
  | .ret v => v.has id
  | .pan _ => false
/-- A call that leaves what it was handed, and hands back what leads to nothing new: its own objects are forgotten. -/
theorem Triple.pure {C : Cx} {f : FuncId} {args : List SV} {h : Heap} {nx : Nat} {Q : Res → Heap → Nat → Prop} {Q' : Res → Prop} (ht : Triple C f args h nx Q)
    (hq : ∀ r h' nx', Q r h' nx' → Q' r ∧ (∀ id o, (id, o) ∈ h → (id, o) ∈ h') ∧ ∀ id, nx ≤ id → r.has id = false) :
    Triple C f args h nx (fun r h' nx' => Q' r ∧ h' = h ∧ nx' = nx) := by
  refine ⟨ht.1, fun γ S w vs hv hh hfr hnew hsw => (ht.2 γ S w vs hv hh hfr hnew hsw).mono ?_⟩
  rintro en w' ⟨r, h', nx', γ', S', hQ, hres, hA⟩
  obtain ⟨h1, h2, h3⟩ := hq _ _ _ hQ
  let γ2 : Nat → Option Value := fun id => if id < nx then γ' id else none
  have hg : ∀ id, id < nx → γ2 id = γ' id := fun id hid => if_pos hid
  have hlt : ∀ {id : Nat} {u : Value}, γ id = some u → id < nx := by
    intro id u hu
    rcases Nat.lt_or_ge id nx with h | h
    · exact h
    · rw [hnew id h] at hu; cases hu
  have hblk : ∀ id, id < nx → blk γ2 id = blk γ' id := fun id hid => by unfold blk; rw [hg id hid]
  have hsame : Same S' w' w' := fun _ _ => rfl
  refine ⟨r, h, nx, γ2, S', ⟨h1, rfl, rfl⟩, ?_, ?_⟩
  · cases r with
    | ret x =>
      cases en with
      | returned v =>
        refine RV.move hsame (fun _ h => h) (fun id hid u hu => hg id ?_) hres
        rcases Nat.lt_or_ge id nx with h4 | h4
        · exact h4
        · have := h3 id h4; simp only [Res.has] at this; rw [this] at hid; cases hid
      | _ => exact hres
    | pan x => cases en <;> exact hres
  · refine { heap := ⟨?_, ?_, hh.keys⟩, fresh := hfr, le := Nat.le_refl _, new := fun id hid => if_neg (by omega), kept := hA.kept, s0 := hA.s0, sin := hA.sin, sw := hA.sw, own := ?_, gam := fun id h1 h2 => (hg id h1).trans (hA.gam id h1 h2), ids := fun id o hm => .inl (mem_hids hm), rows := fun id o hm _ hr => rowIds_mem hm hr }
    · intro id o hm
      refine RO.move hsame (fun _ h => h) (fun i hi u hu => hg i ?_) (hg id (hfr _ _ hm)) (fun b hb => ⟨rfl, fun h => h⟩) (hA.heap.obj id o (h2 _ _ hm))
      obtain ⟨v, hv⟩ := (hh.obj _ _ hm).has_some hi
      exact hlt hv
    · intro id o id' o' hm hm' hne b hb hb'
      rw [hblk _ (hfr _ _ hm)] at hb; rw [hblk _ (hfr _ _ hm')] at hb'
      exact hA.heap.apart _ _ _ _ (h2 _ _ hm) (h2 _ _ hm') hne b hb hb'
    · intro id o b hm hb
      rw [hblk _ (hfr _ _ hm)] at hb
      exact hA.own _ _ _ (h2 _ _ hm) hb

/-! ### Results -/
def resS (T : Tab) (s : St) : ResultVar → Option (Prop × Cv)
  | .tmp t => match lk s.sl t with
    | some (.c v) => some (True, v)
    | _ => none
  | .cell t ty => match T ty, lk s.sl t with
    | some i, some (.c (.one d)) => match s.cells d with
      | some cs => match (partS i cs 0).2 with
        | .c v => some (s.side d ∧ (partS i cs 0).1, v)
        | _ => none
      | none => none
    | _, _ => none
def ressS (T : Tab) (s : St) : List ResultVar → Option (Prop × List Cv)
  | [] => some (True, [])
  | r :: rs => match resS T s r, ressS T s rs with
    | some (p, v), some (q, vs) => some (p ∧ q, v :: vs)
    | _, _ => none
def retS (T : Tab) (s : St) (rs : List ResultVar) : Option (Prop × SV) :=
  match rs with
  | [r] => match resS T s r with
    | some (p, v) => some (p, .c v)
    | none => none
  | rs => match ressS T s rs with
    | some (p, vs) => some (p, .tup vs)
    | none => none
end Go.Fw

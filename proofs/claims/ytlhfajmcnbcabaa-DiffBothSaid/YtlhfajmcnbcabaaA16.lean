/- The library's sort, as contracts of ours. -/
import Derived.Test.YtlhfajmcnbcabaaA15
import Derived.Test.YtlhfajmcnbcabaaS1
import Derived.Test.YtlhfajmcnbcabaaFwF
set_option linter.unusedVariables false
set_option linter.unusedSimpArgs false
namespace Go.Proofs.Ytlhfajmcnbcabaa
open Go Go.Fw Go.Sort
set_option maxRecDepth 100000
set_option maxHeartbeats 1000000

theorem grow_of {W w' : World} (hos : w'.os = W.os) (ht : w'.tape = W.tape) (ho : w'.output = W.output) (hd : W.drawn ≤ w'.drawn) (hs : W.heap.size ≤ w'.heap.size) (hb : ∀ k, k < W.heap.size → w'.heap[k]? = W.heap[k]?) :
    ∃ q os', w' = grow (W.drewN q) os' := by
  refine ⟨w'.drawn - W.drawn, w'.heap.extract W.heap.size w'.heap.size, ?_⟩
  obtain ⟨heap, tape, drawn, os, output⟩ := w'
  simp only at hos ht ho hd hs hb
  subst hos ht ho
  simp only [grow, World.drewN, World.mk.injEq, true_and, and_true]
  refine ⟨?_, by omega⟩
  apply Array.ext_getElem?
  intro k
  by_cases hk : k < W.heap.size
  · rw [hb k hk, Array.getElem?_append_left hk]
  · rw [Array.getElem?_append_right (by omega)]
    simp only [Array.getElem?_extract]
    split
    · congr 1; omega
    · rw [Array.getElem?_eq_none (by omega)]
/-- A comparison that is plain gives what the sort asks for. -/
theorem cmp_of {fid : FuncId} {x y : List T} {vx vy : List Value} {c : Int} (hf : PureT cx fid [sA x, sA y] [] 0 (s1 (tI c))) (hx : ∀ w, RTs (fun _ => False) w x vx) (hy : ∀ w, RTs (fun _ => False) w y vy) (W : World) :
    Calls Try.prog fid (#[.agg vx.toArray, .agg vy.toArray] ++ #[]) W fun e w' => e = .returned (.int .i64 c) ∧ ∃ q os', w' = grow (W.drewN q) os' := by
  have hd : ∀ (l : List T) (vs : List Value), RTs (fun _ => False) W l vs → RV (fun _ => none) (fun _ => False) W (sA l) (.agg vs.toArray) := fun l vs h => ⟨vs, rfl, by rw [dat_map]; exact RDs.of_data h⟩
  have := hf.2 (fun _ => none) (fun _ => False) W [.agg vx.toArray, .agg vy.toArray] ⟨hd _ _ (hx W), hd _ _ (hy W), trivial⟩ ⟨fun _ _ h => (by cases h), fun _ _ _ _ h => (by cases h), List.nodup_nil⟩ (fun _ _ h => (by cases h)) (fun _ _ => rfl) (fun _ h => h.elim)
  refine this.mono fun en w' ⟨r, h', nx', γ', S', ⟨h1, h2, h3⟩, hr, hA⟩ => ?_
  subst h1
  refine ⟨?_, grow_of hA.kept.os hA.kept.tape hA.kept.output hA.kept.dr hA.kept.size fun k hk => hA.kept.block k hk fun ⟨id, hid, _⟩ => by simp [hids] at hid⟩
  cases en with
  | returned v =>
    have := litS_run rfl (show RV γ' S' w' (s1 (tI c)) v from hr)
    rw [this]
  | panicked ch => exact hr.elim
  | _ => exact hr.elim
theorem putCells_list {α : Type} [Inhabited α] (enc : α → Value) (d : Array α) (vs rest : List Value) (h : vs.length = d.size) : putCells enc 0 d (vs ++ rest).toArray = (d.toList.map enc ++ rest).toArray := by
  apply Array.ext_getElem?
  intro k
  simp only [putCells, Array.getElem?_mapIdx, List.getElem?_toArray]
  by_cases hk : k < d.size
  · rw [List.getElem?_append_left (by omega), List.getElem?_eq_getElem (by omega), Option.map_some, if_pos ⟨Nat.zero_le _, by omega⟩, List.getElem?_append_left (by simpa using hk)]
    simp [hk]
  · rw [List.getElem?_append_right (by omega), List.getElem?_append_right (by simp; omega)]
    simp only [List.length_map, Array.length_toList, h]
    cases rest[k - d.size]? with
    | none => rfl
    | some v => simp only [Option.map_some]; rw [if_neg (by omega)]
theorem putRow_heap {α : Type} [Inhabited α] (enc : α → Value) (w : World) (n b : Nat) (d : Array α) (os : Array Go.Obj) {vs rest : List Value} {el : TypeId} (hh : w.heap[b]? = some (.cells (vs ++ rest).toArray el (0, 0))) (h : vs.length = d.size) :
    (grow (putRow enc (Sort.ahead w n) b 0 d) os).heap[b]? = some (.cells (d.toList.map enc ++ rest).toArray el (0, 0)) ∧ (∀ k, k < w.heap.size → k ≠ b → (grow (putRow enc (Sort.ahead w n) b 0 d) os).heap[k]? = w.heap[k]?) ∧
      w.heap.size ≤ (grow (putRow enc (Sort.ahead w n) b 0 d) os).heap.size := by
  have hb : b < w.heap.size := (Array.getElem?_eq_some_iff.1 hh).1
  simp only [grow, putRow, mapBlock, Sort.ahead]
  refine ⟨?_, fun k hk hne => ?_, by simp⟩
  · rw [Array.getElem?_append_left (by simpa using hb), Array.getElem?_modify, if_pos rfl, hh]
    simp only [Option.map_some, onCells, putCells_list enc d vs rest h]
  · rw [Array.getElem?_append_left (by simpa using hk), Array.getElem?_modify, if_neg (fun h => hne h.symm)]
theorem holds_of {α : Type} [Inhabited α] (enc : α → Value) {w : World} {b : Nat} (d : Array α) {rest : List Value} {el : TypeId} (hh : w.heap[b]? = some (.cells (d.toList.map enc ++ rest).toArray el (0, 0))) : Holds enc w b 0 d := by
  intro j hj
  refine ⟨?_, ?_⟩
  · simp only [World.cell?, hh, Nat.zero_add]
    simp [List.getElem?_append_left, hj]
  · simp [World.frozen?, hh]
theorem flatK_list {α : Type} [Inhabited α] (enc : α → List Value) (k : Nat) (hk : ∀ x, (enc x).length = k) (h0 : 0 < k) (l : List α) : (flatK enc k l.toArray).toList = (l.map enc).flatten := by
  apply List.ext_getElem?
  intro t
  rw [get_flatten h0 _ _ (by intro r hr; obtain ⟨x, _, rfl⟩ := List.mem_map.1 hr; exact hk x)]
  simp only [flatK, Array.toList_map, Array.toList_range, List.size_toArray, List.getElem?_map]
  by_cases ht : t < l.length * k
  · have h1 : t / k < l.length := (Nat.div_lt_iff_lt_mul h0).2 ht
    have h2 : t % k < k := Nat.mod_lt _ h0
    rw [List.getElem?_range ht, List.getElem?_eq_getElem h1]
    simp only [Option.map_some, Option.bind_some, List.getElem!_toArray]
    rw [getElem!_pos l _ h1, getElem!_pos _ _ (by rw [hk]; exact h2), List.getElem?_eq_getElem (by rw [hk]; exact h2)]
  · have h1 : ¬ t / k < l.length := fun h1 => ht ((Nat.div_lt_iff_lt_mul h0).1 h1)
    rw [List.getElem?_eq_none (by simp; omega), List.getElem?_eq_none (by omega)]; rfl
theorem rd_split {γ : Nat → Option Value} {S : Nat → Prop} {w : World} : ∀ {ds bs : List D} {vs : List Value}, RDs γ S w (ds ++ bs) vs → ∃ us ws, vs = us ++ ws ∧ RDs γ S w ds us ∧ RDs γ S w bs ws
  | [], _, vs, h => ⟨[], vs, rfl, trivial, h⟩
  | a :: ds, bs, [], h => h.elim
  | a :: ds, bs, v :: vs, ⟨h, r⟩ => by
    obtain ⟨us, ws, h1, h2, h3⟩ := rd_split r
    exact ⟨v :: us, ws, by rw [h1]; rfl, ⟨h, h2⟩, h3⟩
theorem rws_vals {α : Type} {E : α → List T} {V : α → List Value} {γ : Nat → Option Value} {S : Nat → Prop} {w : World} (hE : ∀ x vs, RDs γ S w ((E x).map D.data) vs → vs = V x) : ∀ {xs : List α} {vs : List Value}, RDs γ S w (rws E xs).flatten vs → vs = (xs.map V).flatten
  | [], [], _ => rfl
  | [], _ :: _, h => h.elim
  | x :: xs, vs, h => by
    simp only [rws, List.map_cons, List.flatten_cons] at h
    obtain ⟨us, ws, h1, h2, h3⟩ := rd_split h
    rw [h1, hE x us h2, rws_vals hE (xs := xs) h3]; rfl
theorem rws_RDs {α : Type} {E : α → List T} {V : α → List Value} {γ : Nat → Option Value} {S : Nat → Prop} {w : World} (hE : ∀ x, RDs γ S w ((E x).map D.data) (V x)) : ∀ xs : List α, RDs γ S w (rws E xs).flatten (xs.map V).flatten
  | [] => trivial
  | x :: xs => by
    simp only [rws, List.map_cons, List.flatten_cons]
    exact RDs.append (hE x) (rws_RDs hE xs)
theorem rd_lit {γ : Nat → Option Value} {S : Nat → Prop} {w : World} {v u : Value} (h : RD γ S w (.data (.lit v)) u) : u = v := by
  cases h with
  | data h => cases h; rfl
theorem pair_vals {γ : Nat → Option Value} {S : Nat → Prop} {w : World} (x : Int × Int) (vs : List Value) (h : RDs γ S w ((ePair x).map D.data) vs) : vs = vPair x := by
  match vs, h with
  | [a, b], ⟨h1, h2, _⟩ => rw [rd_lit h1, rd_lit h2]; rfl
  | [], h => exact h.elim
  | [_], ⟨_, h⟩ => exact h.elim
  | _ :: _ :: _ :: _, ⟨_, _, h⟩ => exact h.elim
theorem int_vals {γ : Nat → Option Value} {S : Nat → Prop} {w : World} (x : Int) (vs : List Value) (h : RDs γ S w ((eInt x).map D.data) vs) : vs = [.int .i64 x] := by
  match vs, h with
  | [a], ⟨h1, _⟩ => rw [rd_lit h1]
  | [], h => exact h.elim
  | _ :: _ :: _, ⟨_, h⟩ => exact h.elim
/-- What a call that writes a row of one's own in place leaves. -/
theorem after_row {γ : Nat → Option Value} {S : Nat → Prop} {w w' : World} {id el sz nx : Nat} {rs rs' : List (List D)} {b cap : Nat} {vs' rest : List Value} (hh : HeapOK γ S w [(id, .row el sz rs)]) (hfr : ∀ i o, (i, o) ∈ [(id, O.row el sz rs)] → i < nx) (hnew : ∀ i, nx ≤ i → γ i = none) (hsw : ∀ k, S k → k < w.heap.size)
    (hg : γ id = some (.slice (some ⟨b, 0, none⟩) rs.length cap)) (hcap : rs.length ≤ cap) (h0 : 0 < cap) (hbig : rs.length ≤ big) (hrest : rs.length * sz + rest.length = cap * sz) (hS : ¬ S b) (hlen : rs'.length = rs.length) (hsz : ∀ r, r ∈ rs' → r.length = sz)
    (hos : w'.os = w.os) (ht : w'.tape = w.tape) (ho : w'.output = w.output) (hd : w.drawn ≤ w'.drawn) (hs : w.heap.size ≤ w'.heap.size) (hb : ∀ k, k < w.heap.size → k ≠ b → w'.heap[k]? = w.heap[k]?) (hh' : w'.heap[b]? = some (.cells (vs' ++ rest).toArray el (0, 0)))
    (hr : ∀ w'', RDs γ S w'' rs'.flatten vs') : After γ S w [(id, .row el sz rs)] nx γ S w' [(id, .row el sz rs')] nx := by
  have hblk : blk γ id = some b := by simp only [blk, hg, Option.bind_some, vblk]; rw [if_neg (by omega)]
  have fst : ∀ {i : Nat} {o o' : O}, (i, o) ∈ [(id, o')] → i = id := fun h => by simp only [List.mem_singleton, Prod.mk.injEq] at h; exact h.1
  refine After.mk ⟨?_, ?_, hh.keys⟩ (fun i o h => (by rw [fst h]; exact hfr id (.row el sz rs) (by simp))) (Nat.le_refl _) hnew
    ⟨hos, ht, ho, hd, hs, fun k hk hne => hb k hk (fun he => hne ⟨id, (by simp [hids]), (by rw [he]; exact hblk)⟩)⟩ (fun _ h => h) (fun _ h => .inl h) (fun k hk => Nat.lt_of_lt_of_le (hsw k hk) hs)
    (fun i o b' h hb' => .inl ⟨(by rw [fst h]; simp [hids]), hb'⟩) (fun _ _ _ => rfl) (fun i o h => .inl (by rw [fst h]; simp [hids])) (fun i o h _ _ => (by rw [fst h]; simp [rowIds, O.isRow]))
  · intro i o h
    simp only [List.mem_singleton, Prod.mk.injEq] at h
    obtain ⟨rfl, rfl⟩ := h
    exact .row (by rw [hlen]; exact hg) (by rw [hlen]; exact hcap) h0 (by rw [hlen]; exact hbig) hh' (by rw [hlen]; exact hrest) hsz (hr w') hS
  · intro i o i' o' h1 h2 hne
    simp only [List.mem_singleton, Prod.mk.injEq] at h1 h2
    exact absurd (h1.1.trans h2.1.symm) hne
theorem sortL_len {α : Type} (lt : α → α → Bool) (xs : List α) : (sortL lt xs).length = xs.length := by simp [sortL, List.length_mergeSort]
theorem agg80 (w : World) : (isAgg 80).run Try.prog w = .ok true w := Tab.isAgg cx.hT w (t := 80) rfl
theorem size80 (w : World) : (Go.sizeOf 80).run Try.prog w = .ok 2 w := Tab.sizeOf cx.hT w (t := 80) rfl
theorem sortPairT (cf : Int × Int → Int × Int → Int) (hO : SWO (Go.Proofs.ltOf cf)) (hT : ∀ x y, Go.Proofs.ltOf cf x y = false → Go.Proofs.ltOf cf y x = false → x = y) (fid : FuncId) (hf : ∀ x y, PureT cx fid [sA (ePair x), sA (ePair y)] [] 0 (s1 (tI (cf x y)))) (xs : List (Int × Int)) (hl : xs.length ≤ 1000000) (id0 nx0 : Nat) :
    TripleS cx 131 [Go.Fw.one (.base id0), .c (.one (.clo fid []))] [(id0, .row 80 2 (rws ePair xs))] nx0 (fun r h nx => r = .ret (.tup []) ∧ h = [(id0, .row 80 2 (rws ePair (sortL (Go.Proofs.ltOf cf) xs)))] ∧ nx = nx0) := by
  refine ⟨enters_of Try.func131 rfl rfl, fun γ S w vs hvs hh hfr hnew hsw => ?_⟩
  match vs, hvs with
  | [v0, v1], ⟨h0, h1, _⟩ =>
    have hg0 : γ id0 = some v0 := by cases (show RD γ S w (.base id0) v0 from h0) with | base h => exact h
    obtain rfl : v1 = .func (.func fid) #[] #[] := by
      cases (show RD γ S w (.clo fid []) v1 from h1) with
      | clo h =>
        rename_i vs
        simp at h; subst h; rfl
    have hob := hh.obj id0 (.row 80 2 (rws ePair xs)) (by simp)
    generalize hrs : rws ePair xs = rs at hob
    have hxl : rs.length = xs.length := by rw [← hrs, rws_len]
    cases hob with
    | nil hg =>
      rename_i A
      obtain rfl : xs = [] := List.eq_nil_of_length_eq_zero (by simpa using hxl.symm)
      obtain rfl := Option.some.inj (hg0.symm.trans hg)
      refine (AnyF.slices_SortFunc_none (P := Try.prog) Try.laysP A 0 (.func (.func fid) #[] #[]) w).mono fun en w' ⟨he, hw⟩ => ?_
      subst he; subst hw
      have e0 : sortL (Go.Proofs.ltOf cf) ([] : List (Int × Int)) = [] := List.eq_nil_of_length_eq_zero (by rw [sortL_len]; rfl)
      rw [e0]
      exact ⟨.ret (.tup []), _, nx0, γ, S, ⟨rfl, rfl, rfl⟩, ⟨[], rfl, trivial⟩, ⟨hh, hfr, Nat.le_refl _, hnew, ⟨rfl, rfl, rfl, Nat.le_refl _, Nat.le_refl _, fun _ _ _ => rfl⟩, fun _ h => h, fun _ h => .inl h, hsw, fun i o b h hb => .inl ⟨mem_hids h, hb⟩, fun _ _ _ => rfl, fun i o h => .inl (mem_hids h), fun i o h _ hr => rowIds_mem h hr⟩, fun _ _ => rfl⟩
    | row hg hcap hc0 hbig hhb hrest hszr hr hS =>
      rename_i b cap vs rest
      obtain rfl := Option.some.inj (hg0.symm.trans hg)
      subst hrs
      obtain rfl := rws_vals pair_vals hr
      have hfl := flatK_list vPair 2 (fun _ => rfl) (by decide) xs
      have hvl : (xs.map vPair).flatten.length = (flatK vPair 2 xs.toArray).size := by rw [← hfl, Array.length_toList]
      rw [← hfl] at hhb
      have hhb2 : w.heap[b]? = some (.cells ((flatK vPair 2 xs.toArray).toList.map id ++ rest).toArray 80 (0, 0)) := by rw [List.map_id]; exact hhb
      have hH : HoldsK vPair 2 w b 0 xs.toArray := holds_of id _ hhb2
      have hb : b < w.heap.size := (Array.getElem?_eq_some_iff.1 hhb).1
      have hcmp : Go.Proofs.CmpLays Try.prog fid #[] vPair 2 cf b 0 xs.toArray.size w := fun m os dk _ x y =>
        cmp_of (vx := vPair x) (vy := vPair y) (hf x y) (fun w => ⟨.lit _, .lit _, trivial⟩) (fun w => ⟨.lit _, .lit _, trivial⟩) _
      have key := AnyQ.slices_SortFunc_total (P := Try.prog) Try.laysP 2 agg80 size80 vPair (fun _ => rfl) (fun x v hv => by simp [vPair] at hv; rcases hv with rfl | rfl <;> rfl) cf hO fid #[] b 0 cap xs.toArray w ((hf (0, 0) (0, 0)).1 · ·) hcmp hH hb (by simp; omega) hT
      rw [List.size_toArray, ← rws_len ePair xs] at key
      refine key.mono fun en w' ⟨he, n, os, hw⟩ => ?_
      subst he
      have hw : w' = grow (putRow id (Sort.ahead w n) b 0 (flatK vPair 2 (sortL (Go.Proofs.ltOf cf) xs).toArray)) os := hw
      have hsl := sortL_len (Go.Proofs.ltOf cf) xs
      obtain ⟨p1, p2, p3⟩ := putRow_heap id w n b (flatK vPair 2 (sortL (Go.Proofs.ltOf cf) xs).toArray) os hhb (by rw [Array.length_toList]; simp [hsl])
      rw [← hw] at p1 p2 p3
      rw [List.map_id, flatK_list vPair 2 (fun _ => rfl) (by decide)] at p1
      refine ⟨.ret (.tup []), _, nx0, γ, S, ⟨rfl, rfl, rfl⟩, ⟨[], rfl, trivial⟩, after_row hh hfr hnew hsw hg hcap hc0 hbig hrest hS (by rw [rws_len, rws_len, hsl]) (fun r hr' => ?_) (by rw [hw]; rfl) (by rw [hw]; rfl) (by rw [hw]; rfl) (by rw [hw]; exact Nat.le_add_right _ _) p3 p2 p1 (fun w'' => rws_RDs (E := ePair) (V := vPair) (fun x => ⟨.data (.lit _), .data (.lit _), trivial⟩) _), fun _ _ => rfl⟩
      obtain ⟨x, _, rfl⟩ := List.mem_map.1 hr'
      rfl
theorem flat1 {α : Type} (f : α → Value) : ∀ l : List α, (l.map fun x => [f x]).flatten = l.map f
  | [] => rfl
  | x :: r => by simp [flat1 f r]
theorem cmp1_of {fid : FuncId} {x y : T} {vx vy : Value} {c : Int} (hf : PureT cx fid [s1 x, s1 y] [] 0 (s1 (tI c))) (hx : ∀ w, RT (fun _ => False) w x vx) (hy : ∀ w, RT (fun _ => False) w y vy) (W : World) :
    Calls Try.prog fid (#[vx, vy] ++ #[]) W fun e w' => e = .returned (.int .i64 c) ∧ ∃ q os', w' = grow (W.drewN q) os' := by
  have := hf.2 (fun _ => none) (fun _ => False) W [vx, vy] ⟨.data (hx W), .data (hy W), trivial⟩ ⟨fun _ _ h => (by cases h), fun _ _ _ _ h => (by cases h), List.nodup_nil⟩ (fun _ _ h => (by cases h)) (fun _ _ => rfl) (fun _ h => h.elim)
  refine this.mono fun en w' ⟨r, h', nx', γ', S', ⟨h1, h2, h3⟩, hr, hA⟩ => ?_
  subst h1
  refine ⟨?_, grow_of hA.kept.os hA.kept.tape hA.kept.output hA.kept.dr hA.kept.size fun k hk => hA.kept.block k hk fun ⟨id, hid, _⟩ => by simp [hids] at hid⟩
  cases en with
  | returned v =>
    have := litS_run rfl (show RV γ' S' w' (s1 (tI c)) v from hr)
    rw [this]
  | panicked ch => exact hr.elim
  | _ => exact hr.elim
theorem sortIntT (cf : Int → Int → Int) (hO : SWO (Go.Proofs.ltOf cf)) (hT : ∀ x y, Go.Proofs.ltOf cf x y = false → Go.Proofs.ltOf cf y x = false → x = y) (fid : FuncId) (hf : ∀ x y, PureT cx fid [s1 (tI x), s1 (tI y)] [] 0 (s1 (tI (cf x y)))) (xs : List Int) (hl : xs.length ≤ 1000000) (id0 nx0 : Nat) :
    TripleS cx 127 [Go.Fw.one (.base id0), .c (.one (.clo fid []))] [(id0, .row 3 1 (rws eInt xs))] nx0 (fun r h nx => r = .ret (.tup []) ∧ h = [(id0, .row 3 1 (rws eInt (sortL (Go.Proofs.ltOf cf) xs)))] ∧ nx = nx0) := by
  refine ⟨enters_of Try.func127 rfl rfl, fun γ S w vs hvs hh hfr hnew hsw => ?_⟩
  match vs, hvs with
  | [v0, v1], ⟨h0, h1, _⟩ =>
    have hg0 : γ id0 = some v0 := by cases (show RD γ S w (.base id0) v0 from h0) with | base h => exact h
    obtain rfl : v1 = .func (.func fid) #[] #[] := by
      cases (show RD γ S w (.clo fid []) v1 from h1) with
      | clo h =>
        rename_i vs
        simp at h; subst h; rfl
    have hob := hh.obj id0 (.row 3 1 (rws eInt xs)) (by simp)
    generalize hrs : rws eInt xs = rs at hob
    have hxl : rs.length = xs.length := by rw [← hrs, rws_len]
    cases hob with
    | nil hg =>
      rename_i A
      obtain rfl : xs = [] := List.eq_nil_of_length_eq_zero (by simpa using hxl.symm)
      obtain rfl := Option.some.inj (hg0.symm.trans hg)
      refine (AnyF.slices_SortFunc_none (P := Try.prog) { Try.laysI with } A 0 (.func (.func fid) #[] #[]) w).mono fun en w' ⟨he, hw⟩ => ?_
      subst he; subst hw
      have e0 : sortL (Go.Proofs.ltOf cf) ([] : List Int) = [] := List.eq_nil_of_length_eq_zero (by rw [sortL_len]; rfl)
      rw [e0]
      exact ⟨.ret (.tup []), _, nx0, γ, S, ⟨rfl, rfl, rfl⟩, ⟨[], rfl, trivial⟩, ⟨hh, hfr, Nat.le_refl _, hnew, ⟨rfl, rfl, rfl, Nat.le_refl _, Nat.le_refl _, fun _ _ _ => rfl⟩, fun _ h => h, fun _ h => .inl h, hsw, fun i o b h hb => .inl ⟨mem_hids h, hb⟩, fun _ _ _ => rfl, fun i o h => .inl (mem_hids h), fun i o h _ hr => rowIds_mem h hr⟩, fun _ _ => rfl⟩
    | row hg hcap hc0 hbig hhb hrest hszr hr hS =>
      rename_i b cap vs rest
      obtain rfl := Option.some.inj (hg0.symm.trans hg)
      subst hrs
      obtain rfl := rws_vals int_vals hr
      rw [flat1] at hhb
      have hhb2 : w.heap[b]? = some (.cells (xs.toArray.toList.map (fun x => Value.int .i64 x) ++ rest).toArray 3 (0, 0)) := hhb
      have hH : Holds (fun x => Value.int .i64 x) w b 0 xs.toArray := holds_of _ _ hhb2
      have hb : b < w.heap.size := (Array.getElem?_eq_some_iff.1 hhb).1
      have hcmp : Go.Proofs.CmpLays1 Try.prog fid #[] (fun x => Value.int .i64 x) cf b 0 xs.toArray.size w := fun m os dk _ x y =>
        cmp1_of (vx := .int .i64 x) (vy := .int .i64 y) (hf x y) (fun w => .lit _) (fun w => .lit _) _
      have key := Any.slices_SortFunc_total (P := Try.prog) Try.laysI (fun x => Value.int .i64 x) (fun _ => rfl) cf hO fid #[] b 0 cap xs.toArray w ((hf 0 0).1 · ·) hcmp hH hb (by simp; omega) hT
      rw [List.size_toArray, ← rws_len eInt xs] at key
      refine key.mono fun en w' ⟨he, n, os, hw⟩ => ?_
      subst he
      have hw : w' = grow (putRow (fun x => Value.int .i64 x) (Sort.ahead w n) b 0 (sortL (Go.Proofs.ltOf cf) xs).toArray) os := hw
      have hsl := sortL_len (Go.Proofs.ltOf cf) xs
      obtain ⟨p1, p2, p3⟩ := putRow_heap (fun x => Value.int .i64 x) w n b (sortL (Go.Proofs.ltOf cf) xs).toArray os hhb (by simp [hsl])
      rw [← hw] at p1 p2 p3
      refine ⟨.ret (.tup []), _, nx0, γ, S, ⟨rfl, rfl, rfl⟩, ⟨[], rfl, trivial⟩, after_row hh hfr hnew hsw hg hcap hc0 hbig hrest hS (by rw [rws_len, rws_len, hsl]) (fun r hr' => ?_) (by rw [hw]; rfl) (by rw [hw]; rfl) (by rw [hw]; rfl) (by rw [hw]; exact Nat.le_add_right _ _) p3 p2 p1
        (fun w'' => by have := rws_RDs (E := eInt) (V := fun x => [.int .i64 x]) (γ := γ) (S := S) (w := w'') (fun x => ⟨.data (.lit _), trivial⟩) (sortL (Go.Proofs.ltOf cf) xs); rwa [flat1] at this), fun _ _ => rfl⟩
      obtain ⟨x, _, rfl⟩ := List.mem_map.1 hr'
      rfl
end Go.Proofs.Ytlhfajmcnbcabaa

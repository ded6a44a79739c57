/- The arguments' readings, opened to plain data. -/
import Derived.Test.YtlhfajmcnbcabaaEnc
import Derived.SizedLaws
import Derived.Deep.Slices
import Derived.Deep.Fields
import Derived.OpenShut
set_option linter.unusedVariables false
set_option linter.unusedSimpArgs false
namespace Go.Proofs.Ytlhfajmcnbcabaa
open Go Go.Fw Go.Deep
/-- A reading of type t holds data of the form p, cell by cell. -/
def Opens (P : Program) (t : TypeId) (p : List T → Prop) : Prop :=
  ∀ (H : Type) (enc : TypeId × Value → H) (w : World) (base : Nat) (spare : Nat → Bool) (held : Bool) (fuel : Nat) (cs : List Value) (x : DataW H × List MemPlace),
    DataW.trod enc P w base spare held fuel t cs = some x → (∀ n ∈ x.1.weights P t, n ≤ reachBytes) → ∃ ts, p ts ∧ RTs (fun b => b < w.heap.size) w ts cs
theorem weightsAll_mem {H : Type} {P : Program} {e : TypeId} : ∀ {l : List (DataW H)} {d : DataW H}, d ∈ l → ∀ n ∈ d.weights P e, n ∈ DataW.weightsAll P e l
  | d0 :: l, d, hd, n, hn => by
    simp only [DataW.weightsAll, List.mem_append]
    rcases List.mem_cons.1 hd with rfl | h
    · exact Or.inl hn
    · exact Or.inr (weightsAll_mem h n hn)
variable {P : Program}
theorem cell_lt {w : World} {a : Addr} {v : Value} (h : w.cell? a = some v) : a.block < w.heap.size := by
  refine Nat.lt_of_not_le fun hle => ?_
  have : w.heap[a.block]? = none := by simpa using hle
  unfold World.cell? at h
  rw [this] at h
  cases h
theorem Opens.int {t : TypeId} (ht : P.underlying t = some (.int .i64)) : Opens P t (fun ts => ∃ n, ts = [tI n]) := by
  intro H enc w base spare held fuel cs x h _
  obtain ⟨n, rfl, _, _⟩ := DataW.trod_int ht h
  exact ⟨_, ⟨n, rfl⟩, .lit _, trivial⟩
theorem Opens.string {t : TypeId} (ht : P.underlying t = some .string) : Opens P t (fun ts => ∃ n, ts = [tS n]) := by
  intro H enc w base spare held fuel cs x h _
  obtain ⟨n, rfl, _, _⟩ := DataW.trod_string ht h
  exact ⟨_, ⟨n, rfl⟩, .lit _, trivial⟩
theorem Opens.slice {α : Type} [Inhabited α] {t e : TypeId} {sz : Nat} {E : α → List T} (ht : P.underlying t = some (.slice e)) (hc : P.cellsOf e = sz) (hz : 0 < sz) (hb : 1 ≤ P.bytesOf e) (hE : ∀ a, (E a).length = sz)
    (he : Opens P e (fun ts => ∃ a, ts = E a)) : Opens P t (fun ts => ∃ l : List α, ts = [rowsOf sz E l]) := by
  intro H enc w base spare held fuel cs x h hw
  rcases open_slice ht h with ⟨rfl, rfl⟩ | ⟨A, len, cap, m, n, D, Pl, rfl, hbase, hl, hm, hmm, rfl, hi⟩
  · refine ⟨_, ⟨[], rfl⟩, ?_, trivial⟩
    exact RT.rows sz 0 _ none 0 0 0 (fun _ _ => undef) (Nat.le_refl _) (Nat.zero_le _) (fun h => absurd h (Nat.lt_irrefl _)) (fun i h => absurd h (Nat.not_lt_zero _)) (fun i j h => absurd h (Nat.not_lt_zero _)) (fun i j d h => absurd h (Nat.not_lt_zero _))
  · have hlm : len ≤ m := by rw [hmm]; split <;> omega
    have hbig : len ≤ big := by
      have := hw ((((List.range len).map D).length + ((List.range (m - len)).map fun j => D (len + j)).length) * P.bytesOf e) (by simp only [DataW.weights, ht]; exact List.mem_cons_self ..)
      have h2 : len ≤ (((List.range len).map D).length + ((List.range (m - len)).map fun j => D (len + j)).length) * P.bytesOf e := by
        simp only [List.length_map, List.length_range]
        calc len ≤ (len + (m - len)) * 1 := by omega
          _ ≤ (len + (m - len)) * P.bytesOf e := Nat.mul_le_mul_left _ hb
      have h3 : reachBytes ≤ big := by decide
      omega
    rw [hc] at hi
    have key : ∀ i, i < len → ∃ z : α × List Value, (∀ j, j < sz → w.cell? (A.add (i * sz + j)) = z.2[j]?) ∧ z.2.length = sz ∧ RTs (fun b => b < w.heap.size) w (E z.1) z.2 := by
      intro i hil
      obtain ⟨cs', h1, h2⟩ := hi i (by omega)
      obtain ⟨ts, ⟨a, rfl⟩, h3⟩ := he _ _ _ _ _ _ _ _ _ h2 (fun n hn => hw n (by
        simp only [DataW.weights, ht]
        refine List.mem_cons_of_mem _ (List.mem_append_left _ (weightsAll_mem (d := D i) ?_ n hn))
        exact List.mem_map.2 ⟨i, List.mem_range.2 hil, rfl⟩))
      obtain ⟨_, h4, h5⟩ := World.cells?_some h1
      exact ⟨(a, cs'), fun j hj => by rw [← add_add]; exact h5 j hj, h4, h3⟩
    obtain ⟨V, hV⟩ := choose_lt (α := α × List Value) key
    refine ⟨_, ⟨(List.range len).map fun i => (V i).1, rfl⟩, ?_, trivial⟩
    have hg : ∀ i, i < len → ((List.range len).map fun i => (V i).1).getD i default = (V i).1 := fun i hi => by simp [List.getD, hi]
    have hA : 0 < len → A = ⟨A.block, A.off, none⟩ ∧ A.block < w.heap.size := fun h0 => by
      obtain ⟨h1, h2, _⟩ := hV 0 h0
      have h3 := h1 0 hz
      rw [List.getElem?_eq_getElem (by omega)] at h3
      simp only [Nat.zero_mul, Nat.add_zero, Addr.add, if_true] at h3
      refine ⟨?_, ?_⟩
      · have := World.cell?_spot h3
        obtain ⟨b, o, s⟩ := A
        simp only at this; subst this; rfl
      · have := cell_lt h3
        exact this
    unfold rowsOf
    rw [List.length_map, List.length_range]
    refine RT.rows sz len _ (some A) cap A.block A.off (fun i j => (V i).2.getD j undef) hl hbig (fun h0 => ⟨congrArg some (hA h0).1, (hA h0).2⟩) (fun i hi => hE _) (fun i j hi hj => ?_) (fun i j d hi hd => ?_)
    · obtain ⟨h1, h2, _⟩ := hV i hi
      have h3 := h1 j hj
      rw [(hA (by omega)).1, Go.WideShapes.add_plain, ← Nat.add_assoc] at h3
      rw [h3, List.getElem?_eq_getElem (by omega)]
      simp [List.getD, List.getElem?_eq_getElem (show j < (V i).2.length by omega)]
    · obtain ⟨h1, h2, h3⟩ := hV i hi
      rw [hg i hi] at hd
      have hj : j < sz := by rw [← hE (V i).1]; exact (List.getElem?_eq_some_iff.1 hd).1
      refine h3.get hd ?_
      simp [List.getD, List.getElem?_eq_getElem (show j < (V i).2.length by omega)]
theorem rts_map {S : Nat → Prop} {w : World} (f : Nat → T) (g : Nat → Value) : ∀ l : List Nat, (∀ i, i ∈ l → RT S w (f i) (g i)) → RTs S w (l.map f) (l.map g)
  | [], _ => trivial
  | i :: l, h => ⟨h i (List.mem_cons_self ..), rts_map f g l fun j hj => h j (List.mem_cons_of_mem _ hj)⟩
/-- A struct whose fields are one cell each. -/
theorem Opens.cells {t : TypeId} {fs : List Field} {ps : List (T → Prop)} (ht : P.underlying t = some (.struct fs.toArray)) (hC : P.cellsOf t = fs.length) (hone : Go.Deep.oneCellFields P fs.toArray = true) (hl : ps.length = fs.length)
    (hp : ∀ (i : Nat) f p, fs[i]? = some f → ps[i]? = some p → Opens P f.type (fun ts => ∃ c, ts = [c] ∧ p c)) : Opens P t (fun ts => ts.length = ps.length ∧ ∀ (i : Nat) p, ps[i]? = some p → ∃ c, ts[i]? = some c ∧ p c) := by
  intro H enc w base spare held fuel cs x h hw
  obtain ⟨xs, n, _, rfl, hcs, hxs, hf⟩ := DataW.trod_struct ht h
  have key : ∀ i, i < fs.length → ∃ z : T × Value, cs[i]? = some z.2 ∧ RT (fun b => b < w.heap.size) w z.1 z.2 ∧ ∀ p, ps[i]? = some p → p z.1 := by
    intro i hi
    have hfi : fs[i]? = some fs[i] := List.getElem?_eq_getElem hi
    have hpi : ps[i]? = some (ps[i]'(by omega)) := List.getElem?_eq_getElem (by omega)
    obtain ⟨ho, hk⟩ := Go.Deep.hone_of hone i fs[i] (by simp [hi])
    have h1 := hf i fs[i] (by simp [hi])
    have hic : i < cs.length := by omega
    rw [ho, hk, List.drop_eq_getElem_cons hic, show (cs[i] :: cs.drop (i + 1)).take 1 = [cs[i]] from rfl, List.getElem?_eq_getElem (by simp at hxs; omega)] at h1
    obtain ⟨ts, ⟨c, rfl, hpc⟩, h3, _⟩ := hp i fs[i] _ hfi hpi _ _ _ _ _ _ _ _ _ h1 (fun n hn => hw n (by
      simp only [DataW.weights, ht]
      refine DataW.weights_mem_each (j := i) (t := fs[i].type) (by simp [hfi]) ?_ n hn
      rw [List.getElem?_map, List.getElem?_eq_getElem (by simp at hxs; omega)]; rfl))
    exact ⟨(c, cs[i]), List.getElem?_eq_getElem hic, h3, fun p h => by rw [hpi] at h; cases h; exact hpc⟩
  obtain ⟨V, hV⟩ := choose_lt key
  have hcl : cs.length = fs.length := by omega
  refine ⟨(List.range fs.length).map fun i => (V i).1, ⟨by simp [hl], fun i p h => ?_⟩, ?_⟩
  · have hi : i < fs.length := by rw [← hl]; exact (List.getElem?_eq_some_iff.1 h).1
    exact ⟨(V i).1, by simp [hi], (hV i hi).2.2 p h⟩
  · have : cs = (List.range fs.length).map fun i => (V i).2 := by
      apply List.ext_getElem?
      intro i
      by_cases hi : i < fs.length
      · rw [(hV i hi).1]; simp [hi]
      · simp [hi, hcl]
    rw [this]
    refine rts_map _ _ _ fun i hi => (hV i (List.mem_range.1 hi)).2.1
theorem Opens.pair {t e : TypeId} (ht : P.underlying t = some (.array 2 e)) (hC : P.cellsOf t = 2) (hc : P.cellsOf e = 1) (he : P.underlying e = some (.int .i64)) : Opens P t (fun ts => ∃ p, ts = ePair p) := by
  intro H enc w base spare held fuel cs x h hw
  obtain ⟨xs, n, _, rfl, hcs, hxs, hf⟩ := DataW.trod_array ht h
  rw [hC] at hcs
  match cs, hcs with
  | [a, b], _ =>
    have h0 := hf 0 (by omega)
    have h1 := hf 1 (by omega)
    rw [hc] at h0 h1
    match xs, hxs with
    | [x, y], _ =>
      obtain ⟨m, h2, _, _⟩ := DataW.trod_int he h0
      obtain ⟨k, h3, _, _⟩ := DataW.trod_int he h1
      simp at h2 h3
      subst h2; subst h3
      exact ⟨_, ⟨(m, k), rfl⟩, .lit _, .lit _, trivial⟩
end Go.Proofs.Ytlhfajmcnbcabaa

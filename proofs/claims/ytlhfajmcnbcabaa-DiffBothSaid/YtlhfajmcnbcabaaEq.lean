/- The program's struct types that are compared by '==', cell by cell; and the seat's context. -/
import Derived.Test.YtlhfajmcnbcabaaTab
import Derived.Test.YtlhfajmcnbcabaaFwC
import Derived.ChangeKeysEq
namespace Go.Proofs.Ytlhfajmcnbcabaa
open Go Go.Fw
set_option maxRecDepth 100000

theorem fitL_int {k : IntKind} {r : List LK} {xs : List Value} (h : fitL (.int k :: r) xs = true) : ∃ n t, xs = .int k n :: t ∧ fitL r t = true := by
  cases xs with
  | nil => cases h
  | cons v t =>
    cases v <;> simp [fitL] at h
    obtain ⟨rfl, h⟩ := h
    exact ⟨_, t, rfl, h⟩
theorem fitL_str {r : List LK} {xs : List Value} (h : fitL (.str :: r) xs = true) : ∃ n t, xs = .string n :: t ∧ fitL r t = true := by
  cases xs with
  | nil => cases h
  | cons v t =>
    cases v <;> simp [fitL] at h
    exact ⟨_, t, rfl, h⟩
theorem fitL_nil {xs : List Value} (h : fitL [] xs = true) : xs = [] := by
  cases xs with
  | nil => rfl
  | cons v t => cases v <;> cases h

theorem eq48 (a0 b0 : Int) (a1 b1 : ByteArray) (a2 b2 : Int) (w : World) : (Op.equal 48 (.agg [.int .i64 a0, .string a1, .int .i64 a2].toArray) (.agg [.int .i64 b0, .string b1, .int .i64 b2].toArray)).run Try.prog w = .ok (eqCells [.int .i64 a0, .string a1, .int .i64 a2] [.int .i64 b0, .string b1, .int .i64 b2]) w := by
  have u3 := Try.underlying3
  have a3_ := Try.isAgg3
  have z3 := Try.sizeOf3
  have u9 := Try.underlying9
  have a9_ := Try.isAgg9
  have z9 := Try.sizeOf9
  rw [Op.equal, show Op.maxDepth = 9999 + 1 from rfl, run_equalIn_agg w 9999 48 _ _ (by kernel_rfl) Try.stoodInHeld48]
  simp only [Program.fieldsOf, Try.underlying48]
  go_simp
  simp only [eqCells]
  repeat (split <;> simp_all)
theorem eqt48 (xs ys : List Value) (hx : fitL [.int .i64, .str, .int .i64] xs = true) (hy : fitL [.int .i64, .str, .int .i64] ys = true) (w : World) (op : BinOp) (x y : Operand) : (eqGuard op 48 x y (.agg xs.toArray) (.agg ys.toArray)).run Try.prog w = .ok () w ∧ (Op.equal 48 (.agg xs.toArray) (.agg ys.toArray)).run Try.prog w = .ok (eqCells xs ys) w := by
  refine ⟨run_eqGuard_agg w op 48 x y _ _ Try.eqGuardType48, ?_⟩
  obtain ⟨x0, xr0, rfl, hxr0⟩ := fitL_int hx
  obtain ⟨x1, xr1, rfl, hxr1⟩ := fitL_str hxr0
  obtain ⟨x2, xr2, rfl, hxr2⟩ := fitL_int hxr1
  obtain rfl := fitL_nil hxr2
  obtain ⟨y0, yr0, rfl, hyr0⟩ := fitL_int hy
  obtain ⟨y1, yr1, rfl, hyr1⟩ := fitL_str hyr0
  obtain ⟨y2, yr2, rfl, hyr2⟩ := fitL_int hyr1
  obtain rfl := fitL_nil hyr2
  exact eq48 x0 y0 x1 y1 x2 y2 w
theorem eq55 (a0 b0 : ByteArray) (a1 b1 : Int) (a2 b2 : ByteArray) (w : World) : (Op.equal 55 (.agg [.string a0, .int .i64 a1, .string a2].toArray) (.agg [.string b0, .int .i64 b1, .string b2].toArray)).run Try.prog w = .ok (eqCells [.string a0, .int .i64 a1, .string a2] [.string b0, .int .i64 b1, .string b2]) w := by
  have u3 := Try.underlying3
  have a3_ := Try.isAgg3
  have z3 := Try.sizeOf3
  have u9 := Try.underlying9
  have a9_ := Try.isAgg9
  have z9 := Try.sizeOf9
  rw [Op.equal, show Op.maxDepth = 9999 + 1 from rfl, run_equalIn_agg w 9999 55 _ _ (by kernel_rfl) Try.stoodInHeld55]
  simp only [Program.fieldsOf, Try.underlying55]
  go_simp
  simp only [eqCells]
  repeat (split <;> simp_all)
theorem eqt55 (xs ys : List Value) (hx : fitL [.str, .int .i64, .str] xs = true) (hy : fitL [.str, .int .i64, .str] ys = true) (w : World) (op : BinOp) (x y : Operand) : (eqGuard op 55 x y (.agg xs.toArray) (.agg ys.toArray)).run Try.prog w = .ok () w ∧ (Op.equal 55 (.agg xs.toArray) (.agg ys.toArray)).run Try.prog w = .ok (eqCells xs ys) w := by
  refine ⟨run_eqGuard_agg w op 55 x y _ _ Try.eqGuardType55, ?_⟩
  obtain ⟨x0, xr0, rfl, hxr0⟩ := fitL_str hx
  obtain ⟨x1, xr1, rfl, hxr1⟩ := fitL_int hxr0
  obtain ⟨x2, xr2, rfl, hxr2⟩ := fitL_str hxr1
  obtain rfl := fitL_nil hxr2
  obtain ⟨y0, yr0, rfl, hyr0⟩ := fitL_str hy
  obtain ⟨y1, yr1, rfl, hyr1⟩ := fitL_int hyr0
  obtain ⟨y2, yr2, rfl, hyr2⟩ := fitL_str hyr1
  obtain rfl := fitL_nil hyr2
  exact eq55 x0 y0 x1 y1 x2 y2 w
theorem eq63 (a0 b0 : Int) (a1 b1 : Int) (a2 b2 : ByteArray) (a3 b3 : Int) (w : World) : (Op.equal 63 (.agg [.int .i64 a0, .int .i64 a1, .string a2, .int .i64 a3].toArray) (.agg [.int .i64 b0, .int .i64 b1, .string b2, .int .i64 b3].toArray)).run Try.prog w = .ok (eqCells [.int .i64 a0, .int .i64 a1, .string a2, .int .i64 a3] [.int .i64 b0, .int .i64 b1, .string b2, .int .i64 b3]) w := by
  have u3 := Try.underlying3
  have a3_ := Try.isAgg3
  have z3 := Try.sizeOf3
  have u9 := Try.underlying9
  have a9_ := Try.isAgg9
  have z9 := Try.sizeOf9
  have u48 := Try.underlying48
  have a48_ := Try.isAgg48
  have z48 := Try.sizeOf48
  have hg := Try.stoodInHeld48
  have hS : Try.prog.underlying 48 = some (.struct (Try.prog.fieldsOf 48)) := by kernel_rfl
  rw [Op.equal, show Op.maxDepth = 9999 + 1 from rfl, run_equalIn_agg w 9999 63 _ _ (by kernel_rfl) Try.stoodInHeld63]
  simp only [Program.fieldsOf, Try.underlying63]
  go_simp
  simp only [eqCells]
  repeat (split <;> simp_all)
theorem eqt63 (xs ys : List Value) (hx : fitL [.int .i64, .int .i64, .str, .int .i64] xs = true) (hy : fitL [.int .i64, .int .i64, .str, .int .i64] ys = true) (w : World) (op : BinOp) (x y : Operand) : (eqGuard op 63 x y (.agg xs.toArray) (.agg ys.toArray)).run Try.prog w = .ok () w ∧ (Op.equal 63 (.agg xs.toArray) (.agg ys.toArray)).run Try.prog w = .ok (eqCells xs ys) w := by
  refine ⟨run_eqGuard_agg w op 63 x y _ _ Try.eqGuardType63, ?_⟩
  obtain ⟨x0, xr0, rfl, hxr0⟩ := fitL_int hx
  obtain ⟨x1, xr1, rfl, hxr1⟩ := fitL_int hxr0
  obtain ⟨x2, xr2, rfl, hxr2⟩ := fitL_str hxr1
  obtain ⟨x3, xr3, rfl, hxr3⟩ := fitL_int hxr2
  obtain rfl := fitL_nil hxr3
  obtain ⟨y0, yr0, rfl, hyr0⟩ := fitL_int hy
  obtain ⟨y1, yr1, rfl, hyr1⟩ := fitL_int hyr0
  obtain ⟨y2, yr2, rfl, hyr2⟩ := fitL_str hyr1
  obtain ⟨y3, yr3, rfl, hyr3⟩ := fitL_int hyr2
  obtain rfl := fitL_nil hyr3
  exact eq63 x0 y0 x1 y1 x2 y2 x3 y3 w
theorem eq80 (a0 b0 : Int) (a1 b1 : Int) (w : World) : (Op.equal 80 (.agg [.int .i64 a0, .int .i64 a1].toArray) (.agg [.int .i64 b0, .int .i64 b1].toArray)).run Try.prog w = .ok (eqCells [.int .i64 a0, .int .i64 a1] [.int .i64 b0, .int .i64 b1]) w := by
  have u3 := Try.underlying3
  have a3_ := Try.isAgg3
  have z3 := Try.sizeOf3
  obtain ⟨inf, _, hi, _⟩ := tiOf_parts (tab_ok 3 _ rfl)
  have hc : Try.prog.cellsOf 3 = 1 := by kernel_rfl
  rw [Op.equal, show Op.maxDepth = 9999 + 1 from rfl, run_equalIn_array w 9999 _ _ Try.underlying80 hi, hc]
  simp only [Op.eqItems, List.range, List.range.loop]
  go_simp
  simp only [eqCells]
  repeat (split <;> simp_all)
theorem eqt80 (xs ys : List Value) (hx : fitL [.int .i64, .int .i64] xs = true) (hy : fitL [.int .i64, .int .i64] ys = true) (w : World) (op : BinOp) (x y : Operand) : (eqGuard op 80 x y (.agg xs.toArray) (.agg ys.toArray)).run Try.prog w = .ok () w ∧ (Op.equal 80 (.agg xs.toArray) (.agg ys.toArray)).run Try.prog w = .ok (eqCells xs ys) w := by
  refine ⟨run_eqGuard_agg w op 80 x y _ _ Try.eqGuardType80, ?_⟩
  obtain ⟨x0, xr0, rfl, hxr0⟩ := fitL_int hx
  obtain ⟨x1, xr1, rfl, hxr1⟩ := fitL_int hxr0
  obtain rfl := fitL_nil hxr1
  obtain ⟨y0, yr0, rfl, hyr0⟩ := fitL_int hy
  obtain ⟨y1, yr1, rfl, hyr1⟩ := fitL_int hyr0
  obtain rfl := fitL_nil hyr1
  exact eq80 x0 y0 x1 y1 w

def eqt : EqT := fun t => match t with
  | 48 => some [.int .i64, .str, .int .i64]
  | 55 => some [.str, .int .i64, .str]
  | 63 => some [.int .i64, .int .i64, .str, .int .i64]
  | 80 => some [.int .i64, .int .i64]
  | _ => none
theorem eqt_ok : eqt.OK Try.prog := by
  intro t ls h xs ys hx hy w op x y _
  unfold eqt at h
  split at h
  · cases h; exact eqt48 xs ys hx hy w op x y
  · cases h; exact eqt55 xs ys hx hy w op x y
  · cases h; exact eqt63 xs ys hx hy w op x y
  · cases h; exact eqt80 xs ys hx hy w op x y
  · cases h
/-- The seat's program, with its types and what is compared. -/
noncomputable def cx : Cx := ⟨Try.prog, tab, eqt, tab_ok, eqt_ok⟩
end Go.Proofs.Ytlhfajmcnbcabaa

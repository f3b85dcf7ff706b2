/- Equality of arrays of three numbers, and of terms. -/
import Derived.Test.YtgmcajojigedaaaTa
import Derived.Laws.StructEq
set_option linter.unusedSimpArgs false
set_option linter.unusedVariables false
namespace Go.Proofs.Ytgmcajojigedaaa
open Go.RowKit Go.Maps
theorem size3 (w : World) : (sizeOf 3).run Try.prog w = .ok 1 w := by kernel_rfl
theorem size82 (w : World) : (sizeOf 82).run Try.prog w = .ok 3 w := by kernel_rfl
theorem isAgg3 (w : World) : (isAgg 3).run Try.prog w = .ok false w := by kernel_rfl
theorem isAgg82 (w : World) : (isAgg 82).run Try.prog w = .ok true w := by kernel_rfl
theorem eqInt (d : Nat) (a b : Int) (w : World) : (Op.equalIn (d + 1) 3 (.int .i64 a) (.int .i64 b)).run Try.prog w = .ok (a == b) w := run_equalIn_int w d 3 .i64 .i64 a b Try.underlying3
theorem eq82 (d : Nat) (a b c a' b' c' : Int) (w : World) : (Op.equalIn (d + 2) 82 (.agg #[.int .i64 a, .int .i64 b, .int .i64 c]) (.agg #[.int .i64 a', .int .i64 b', .int .i64 c'])).run Try.prog w = .ok (decide (a = a' ∧ b = b' ∧ c = c')) w := by
  unfold Op.equalIn
  simp [run_underlying Try.underlying82, size3, part, isAgg3, eqInt, List.range']
  by_cases h1 : a = a' <;> by_cases h2 : b = b' <;> by_cases h3 : c = c' <;> simp [h1, h2, h3]
theorem held84 : Try.prog.stoodInHeld 84 = false := by kernel_rfl
theorem eq84 (d : Nat) (s t : Tm) (w : World) : (Op.equalIn (d + 3) 84 (tagg s) (tagg t)).run Try.prog w = .ok (decide (s = t)) w := by
  have hf : Try.prog.underlying 84 = some (.struct (Try.prog.fieldsOf 84)) := by unfold Program.fieldsOf; rw [Try.underlying84]
  unfold tagg
  rw [run_equalIn_struct w (d + 2) 84 _ _ hf held84]
  unfold Program.fieldsOf
  rw [Try.underlying84]
  simp [Op.eqFields, part, isAgg3, isAgg82, size82, eqInt, eq82]
  obtain ⟨o, v, a, b, c⟩ := s
  obtain ⟨o', v', a', b', c'⟩ := t
  by_cases h1 : o = o' <;> by_cases h2 : v = v' <;> by_cases h3 : a = a' <;> by_cases h4 : b = b' <;> by_cases h5 : c = c' <;> simp [h1, h2, h3, h4, h5]
theorem run_neq82 (a b c a' b' c' : Int) (w : World) : (binOp .neq 82 (.agg #[.int .i64 a, .int .i64 b, .int .i64 c]) (.agg #[.int .i64 a', .int .i64 b', .int .i64 c'])).run Try.prog w = .ok (.bool (!decide (a = a' ∧ b = b' ∧ c = c'))) w := by
  simp only [binOp]
  simp [Op.equal, Op.maxDepth, eq82 9998 a b c a' b' c' w]
theorem run_eql84 (s t : Tm) (w : World) : (binOp .eql 84 (tagg s) (tagg t)).run Try.prog w = .ok (.bool (decide (s = t))) w := by
  have := eq84 9997 s t w
  unfold tagg at *
  simp only [binOp]
  simp [Op.equal, Op.maxDepth, this]
theorem run_neq84 (s t : Tm) (w : World) : (binOp .neq 84 (tagg s) (tagg t)).run Try.prog w = .ok (.bool (!decide (s = t))) w := by
  have := eq84 9997 s t w
  unfold tagg at *
  simp only [binOp]
  simp [Op.equal, Op.maxDepth, this]
end Go.Proofs.Ytgmcajojigedaaa

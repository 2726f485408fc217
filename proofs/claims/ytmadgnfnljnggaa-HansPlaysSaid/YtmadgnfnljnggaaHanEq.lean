/- Two handles: are they the same? -/
import Derived.Test.YtmadgnfnljnggaaHan
import Derived.Laws.StructEq
namespace Go.Proofs.Ytmadgnfnljnggaa
open Go.RowKit
set_option linter.unusedVariables false
theorem han_under : Try.prog.underlying 35 = some (.struct (Try.prog.fieldsOf 35)) := by kernel_rfl
theorem han_stood : Try.prog.stoodInHeld 35 = false := by kernel_rfl
theorem han_fields : (Try.prog.fieldsOf 35).toList.map (fun f => (f.name == "_", f.type, f.offset)) = [(false, 3, 0), (false, 25, 1), (false, 4, 2)] := by kernel_rfl
theorem han_guard : Try.prog.eqGuardType Try.prog.depth 35 = false := by kernel_rfl
theorem han_neq (w : World) (a b a' b' : Int) (c c' : Bool) : (binOp .neq 35 (.agg #[.int .i64 a, .int .u64 b, .bool c]) (.agg #[.int .i64 a', .int .u64 b', .bool c'])).run Try.prog w = .ok (.bool (!decide ((⟨a, b, c⟩ : Han) = ⟨a', b', c'⟩))) w := by
  rw [run_neq_struct, run_equalIn_struct _ _ _ _ _ han_under han_stood]
  have hf := han_fields
  generalize (Try.prog.fieldsOf 35).toList = fs at hf
  rcases fs with _ | ⟨f, _ | ⟨g, _ | ⟨h, _ | ⟨_, _⟩⟩⟩⟩
  · simp at hf
  · simp at hf
  · simp at hf
  · simp only [List.map_cons, List.map_nil, List.cons.injEq, Prod.mk.injEq, beq_eq_false_iff_ne] at hf
    obtain ⟨⟨n1, t1, o1⟩, ⟨n2, t2, o2⟩, ⟨n3, t3, o3⟩, _⟩ := hf
    simp only [Op.eqFields, if_pos n1, if_pos n2, if_pos n3, t1, t2, t3, o1, o2, o3]
    have e1 := fun w' : World => run_equalIn_int (P := Try.prog) w' 9998 3 .i64 .i64 a a' Try.underlying3
    have e2 := fun w' : World => run_equalIn_int (P := Try.prog) w' 9998 25 .u64 .u64 b b' Try.underlying25
    have e3 := fun w' : World => run_equalIn_bool' (P := Try.prog) w' 9998 4 c c' Try.underlying4
    simp [Sem.run_bind, part, go_sem, e1, e2, e3]
    by_cases h1 : a = a' <;> by_cases h2 : b = b' <;> by_cases h3 : c = c' <;> simp [h1, h2, h3]
  · simp at hf
end Go.Proofs.Ytmadgnfnljnggaa

/- Two structs of numbers are held against one another number by number. Conditions: none. -/
import Derived.Test.YtlcbomjdbdgbmaaAwB
namespace Go.Proofs.Ytlcbomjdbdgbmaa
open Go.RowKit

/-- within a fraction two numbers are held against one another one step deeper -/
@[go_sem] theorem run_eqI9 (a0 a1 a2 a3 b0 b1 b2 b3 : Int) (w : World) :
    (Op.equalIn 9999 35 (.agg #[.int .u64 a0, .int .u64 a1, .int .u64 a2, .int .u64 a3]) (.agg #[.int .u64 b0, .int .u64 b1, .int .u64 b2, .int .u64 b3])).run Try.prog w = .ok (eq4 a0 a1 a2 a3 b0 b1 b2 b3) w := by
  have hu : Try.prog.underlying 35 = some (.array 4 33) := by kernel_rfl
  have hs : ∀ w, (sizeOf 33).run Try.prog w = .ok 1 w := fun w => by kernel_rfl
  have he : ∀ (a b : Int) w, (Op.equalIn 9998 33 (.int .u64 a) (.int .u64 b)).run Try.prog w = .ok (a == b) w := fun a b w => run_equalIn_int w 9997 _ .u64 .u64 a b (by kernel_rfl)
  have hp : ∀ (c : Array Value) (i : Nat) (v : Value) w, c[i]? = some v → (part 33 c i).run Try.prog w = .ok v w := by
    intro c i v w h
    have ha : (isAgg 33).run Try.prog w = .ok false w := by kernel_rfl
    unfold part
    simp [Sem.run_bind, ha, h]
  show (Op.equalIn (9998 + 1) _ _ _).run _ _ = _
  unfold Op.equalIn
  simp only [Sem.run_bind, run_underlying hu, Result.andThen_ok, hs]
  simp [List.range', he, hp, Sem.run_bind]
  unfold eq4
  by_cases h0 : a0 = b0 <;> by_cases h1 : a1 = b1 <;> by_cases h2 : a2 = b2 <;> by_cases h3 : a3 = b3 <;> simp [h0, h1, h2, h3]

@[go_sem] theorem eqP_self (a b : Int) : eqP a b a b = true := by unfold eqP; simp
@[go_sem] theorem eqP_ne {a b c d : Int} (h : ¬ a = c) : eqP a b c d = false := by unfold eqP; simp [h]
@[go_sem] theorem eqP_ne' {a b c d : Int} (h : ¬ c = a) : eqP a b c d = false := eqP_ne fun e => h e.symm
@[go_sem] theorem eqP_me {a b c d : Int} (h : ¬ b = d) : eqP a b c d = false := by unfold eqP; simp [h]
@[go_sem] theorem eqP_me' {a b c d : Int} (h : ¬ d = b) : eqP a b c d = false := eqP_me fun e => h e.symm
end Go.Proofs.Ytlcbomjdbdgbmaa

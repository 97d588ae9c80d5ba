/- Tuples, rows, violations as plain Lean data. -/
import Derived.Test.YtkfbbnagniolcaaApi
set_option linter.unusedSectionVars false
set_option linter.unusedSimpArgs false
set_option linter.unusedVariables false
namespace Go.Vc
open Go
/- api.Tuple -/
structure Tup where
  vals : List Val
  p : Per
  lin : List Int
deriving DecidableEq
/- a tuple with its key values -/
structure Kd where
  key : List Val
  t : Tup
deriving DecidableEq
/- api.Row -/
structure Rw where
  vals : List Val
  lin : List Int
deriving DecidableEq
/- api.Violation -/
structure Vio where
  p : Per
  ids : List Int
deriving DecidableEq
instance : Rep Tup where
  sz := 4
  byt := 64
  rel H vs v := ∃ A n c B m d, vs = [.slice A n c, .int .i64 v.p.lo, .int .i64 v.p.hi, .slice B m d] ∧ Sl H A n c v.vals ∧ rng .i64 v.p.lo ∧ rng .i64 v.p.hi ∧ Sl H B m d v.lin
  mono := fun hle ⟨A, n, c, B, m, d, h1, h2, h3, h4, h5⟩ => ⟨A, n, c, B, m, d, h1, h2.mono hle, h3, h4, h5.mono hle⟩
  len := fun ⟨A, n, c, B, m, d, h1, _⟩ => by simp [h1]
  pos := by decide
  bpos := by decide
  one := fun ⟨A, n, c, B, m, d, h1, _⟩ => by rw [h1]; simp [Value.oneCell']
instance : Rep Kd where
  sz := 5
  byt := 88
  rel H vs v := ∃ E k e A n c B m d, vs = [.slice E k e, .slice A n c, .int .i64 v.t.p.lo, .int .i64 v.t.p.hi, .slice B m d] ∧ Sl H E k e v.key ∧ Sl H A n c v.t.vals ∧ rng .i64 v.t.p.lo ∧ rng .i64 v.t.p.hi ∧ Sl H B m d v.t.lin
  mono := fun hle ⟨E, k, e, A, n, c, B, m, d, h1, h0, h2, h3, h4, h5⟩ => ⟨E, k, e, A, n, c, B, m, d, h1, h0.mono hle, h2.mono hle, h3, h4, h5.mono hle⟩
  len := fun ⟨E, k, e, A, n, c, B, m, d, h1, _⟩ => by simp [h1]
  pos := by decide
  bpos := by decide
  one := fun ⟨E, k, e, A, n, c, B, m, d, h1, _⟩ => by rw [h1]; simp [Value.oneCell']
instance : Rep Rw where
  sz := 2
  byt := 48
  rel H vs v := ∃ A n c B m d, vs = [.slice A n c, .slice B m d] ∧ Sl H A n c v.vals ∧ Sl H B m d v.lin
  mono := fun hle ⟨A, n, c, B, m, d, h1, h2, h3⟩ => ⟨A, n, c, B, m, d, h1, h2.mono hle, h3.mono hle⟩
  len := fun ⟨A, n, c, B, m, d, h1, _⟩ => by simp [h1]
  pos := by decide
  bpos := by decide
  one := fun ⟨A, n, c, B, m, d, h1, _⟩ => by rw [h1]; simp [Value.oneCell']
instance : Rep Vio where
  sz := 3
  byt := 40
  rel H vs v := ∃ A n c, vs = [.int .i64 v.p.lo, .int .i64 v.p.hi, .slice A n c] ∧ rng .i64 v.p.lo ∧ rng .i64 v.p.hi ∧ Sl H A n c v.ids
  mono := fun hle ⟨A, n, c, h1, h2, h3, h4⟩ => ⟨A, n, c, h1, h2, h3, h4.mono hle⟩
  len := fun ⟨A, n, c, h1, _⟩ => by simp [h1]
  pos := by decide
  bpos := by decide
  one := fun ⟨A, n, c, h1, _⟩ => by rw [h1]; simp [Value.oneCell']
end Go.Vc

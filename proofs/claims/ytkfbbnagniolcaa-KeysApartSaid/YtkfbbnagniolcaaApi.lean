/- The program's data as plain Lean data, and how they lie in cells. -/
import Derived.Test.YtkfbbnagniolcaaRep
set_option linter.unusedSectionVars false
set_option linter.unusedSimpArgs false
set_option linter.unusedVariables false
namespace Go.Vc
open Go
structure Per where
  lo : Int
  hi : Int
deriving DecidableEq
structure Val where
  kind : Int
  n : Int
  s : ByteArray
deriving DecidableEq
structure Col where
  id : Int
  name : ByteArray
  kind : Int
deriving DecidableEq
structure Ver where
  rc : Per
  cols : List Col
deriving DecidableEq
structure FKey where
  cols : List Int
  table : ByteArray
  refs : List Int
deriving DecidableEq
structure Cst where
  kind : Int
  cols : List Int
deriving DecidableEq
structure TSch where
  name : ByteArray
  vers : List Ver
  key : List Int
  fks : List FKey
  csts : List Cst
deriving DecidableEq

def str (s : ByteArray) : Prop := s.size ≤ 140737488355328
instance : Rep Per where
  sz := 2
  byt := 16
  rel _ vs p := vs = [.int .i64 p.lo, .int .i64 p.hi] ∧ rng .i64 p.lo ∧ rng .i64 p.hi
  mono _ h := h
  len h := by simp [h.1]
  pos := by decide
  bpos := by decide
  one h := by rw [h.1]; simp [Value.oneCell']
instance : Rep Val where
  sz := 3
  byt := 32
  rel _ vs v := vs = [.int .i64 v.kind, .int .i64 v.n, .string v.s] ∧ rng .i64 v.kind ∧ rng .i64 v.n ∧ str v.s
  mono _ h := h
  len h := by simp [h.1]
  pos := by decide
  bpos := by decide
  one h := by rw [h.1]; simp [Value.oneCell']
instance : Rep Col where
  sz := 3
  byt := 32
  rel _ vs v := vs = [.int .i64 v.id, .string v.name, .int .i64 v.kind] ∧ rng .i64 v.id ∧ str v.name ∧ rng .i64 v.kind
  mono _ h := h
  len h := by simp [h.1]
  pos := by decide
  bpos := by decide
  one h := by rw [h.1]; simp [Value.oneCell']
instance : Rep Ver where
  sz := 3
  byt := 40
  rel H vs v := ∃ A n c, vs = [.int .i64 v.rc.lo, .int .i64 v.rc.hi, .slice A n c] ∧ rng .i64 v.rc.lo ∧ rng .i64 v.rc.hi ∧ Sl H A n c v.cols
  mono := fun hle ⟨A, n, c, h1, h2, h3, h4⟩ => ⟨A, n, c, h1, h2, h3, h4.mono hle⟩
  len := fun ⟨A, n, c, h1, _⟩ => by simp [h1]
  pos := by decide
  bpos := by decide
  one := fun ⟨A, n, c, h1, _⟩ => by rw [h1]; simp [Value.oneCell']
instance : Rep FKey where
  sz := 3
  byt := 64
  rel H vs v := ∃ A n c B m d, vs = [.slice A n c, .string v.table, .slice B m d] ∧ Sl H A n c v.cols ∧ str v.table ∧ Sl H B m d v.refs
  mono := fun hle ⟨A, n, c, B, m, d, h1, h2, h3, h4⟩ => ⟨A, n, c, B, m, d, h1, h2.mono hle, h3, h4.mono hle⟩
  len := fun ⟨A, n, c, B, m, d, h1, _⟩ => by simp [h1]
  pos := by decide
  bpos := by decide
  one := fun ⟨A, n, c, B, m, d, h1, _⟩ => by rw [h1]; simp [Value.oneCell']
instance : Rep Cst where
  sz := 2
  byt := 32
  rel H vs v := ∃ A n c, vs = [.int .i64 v.kind, .slice A n c] ∧ rng .i64 v.kind ∧ Sl H A n c v.cols
  mono := fun hle ⟨A, n, c, h1, h2, h3⟩ => ⟨A, n, c, h1, h2, h3.mono hle⟩
  len := fun ⟨A, n, c, h1, _⟩ => by simp [h1]
  pos := by decide
  bpos := by decide
  one := fun ⟨A, n, c, h1, _⟩ => by rw [h1]; simp [Value.oneCell']
instance : Rep TSch where
  sz := 5
  byt := 112
  rel H vs v := ∃ A n c B m d E k e F l f, vs = [.string v.name, .slice A n c, .slice B m d, .slice E k e, .slice F l f] ∧ str v.name ∧ Sl H A n c v.vers ∧ Sl H B m d v.key ∧ Sl H E k e v.fks ∧ Sl H F l f v.csts
  mono := fun hle ⟨A, n, c, B, m, d, E, k, e, F, l, f, h1, h2, h3, h4, h5, h6⟩ => ⟨A, n, c, B, m, d, E, k, e, F, l, f, h1, h2, h3.mono hle, h4.mono hle, h5.mono hle, h6.mono hle⟩
  len := fun ⟨A, n, c, B, m, d, E, k, e, F, l, f, h1, _⟩ => by simp [h1]
  pos := by decide
  bpos := by decide
  one := fun ⟨A, n, c, B, m, d, E, k, e, F, l, f, h1, _⟩ => by rw [h1]; simp [Value.oneCell']
end Go.Vc

/- Running moves the count of draws forward, never back. -/
import Derived.Test.YteogpcpleokfbaaGJAg0
import Derived.Sort.Grow
set_option linter.unusedSectionVars false
set_option linter.unusedSimpArgs false
set_option linter.unusedVariables false
namespace Go.Vc
open Go Go.RowKit
theorem ask_drawn {α : Type} : ∀ (k : Ask α) (w : World), w.drawn ≤ (w.ask k).2.drawn := by
  intro k
  induction k with
  | done a => exact fun w => Nat.le_refl _
  | ask what range k ih =>
    intro w
    simp only [World.ask]
    split
    · exact ih _ _
    · exact Nat.le_trans (Nat.le_succ _) (ih _ { w with drawn := w.drawn + 1 })
theorem sys_drawn (w : World) (c : Sys) : w.drawn ≤ (w.sys c).2.drawn := by
  have h := ask_drawn (Kernel.perform c w.os) w
  unfold World.sys
  split
  · exact Nat.le_refl _
  · rename_i he
    rw [he] at h
    exact h
theorem viewStore_drawn {P : Program} {w w2 : World} {at_ : Addr} {u : TypeId} {a : Addr} {v : Value} {b : Bool} {l : List Addr} (h : w.viewStore P at_ u a v b = .ok (w2, l)) : w.drawn ≤ w2.drawn := by
  unfold World.viewStore at h
  simp only [bind, Except.bind, pure, Except.pure] at h
  repeat' (split at h)
  all_goals first
    | (cases h; done)
    | (simp only [Except.ok.injEq, Prod.mk.injEq] at h; rw [← h.1]; exact Nat.le_refl _)
theorem farStore_drawn {P : Program} {w w2 : World} {a : Addr} {v : Value} {b : Bool} {l : List Addr} (h : w.farStore P a v b = .ok (w2, l)) : w.drawn ≤ w2.drawn := by
  unfold World.farStore at h
  split at h
  · split at h
    · rename_i hv
      simp only [Except.ok.injEq] at h
      rw [h] at hv
      exact viewStore_drawn hv
    · cases h
  · cases h
theorem run_drawn {P : Program} {α : Type} {r : α} : ∀ {s : Sem α} {w w' : World}, s.run P w = .ok r w' → w.drawn ≤ w'.drawn := by
  intro s
  induction s with
  | pure a => intro w w' h; simp only [Sem.run, Result.ok.injEq] at h; rw [h.2]; exact Nat.le_refl _
  | load m a k ih =>
    intro w w' h
    simp only [Sem.run] at h
    split at h
    · exact ih _ h
    · split at h
      · exact ih _ h
      · cases h
  | store m a v k ih =>
    intro w w' h
    have key : ∀ {w1 : World}, (match w.cell? a with
      | some _ => if w.frozen? a then Result.halt (.unsupported (.unsafePointer "a write to bytes that a string shares")) w else k.run P (w.setCell a v)
      | none => match w.farStore P a v (m == Mode.atomic) with
        | .ok (w, _) => k.run P w
        | .error h => .halt h w) = .ok r w1 → w.drawn ≤ w1.drawn := by
      intro w1 h
      split at h
      · split at h
        · cases h
        · exact ih (w := w.setCell a v) h
      · split at h
        · rename_i w2 l hf
          exact Nat.le_trans (farStore_drawn hf) (ih h)
        · cases h
    cases v
    case agg => simp only [Sem.run] at h; cases h
    case tuple => simp only [Sem.run] at h; cases h
    all_goals exact key h
  | new o k ih => intro w w' h; exact ih _ (w := { w with heap := w.heap.push o }) h
  | shape r k ih => intro w w' h; exact ih _ h
  | freeze a n k ih =>
    intro w w' h
    have := ih (w := w.freeze a n) h
    unfold World.freeze at this
    split at this <;> exact this
  | frozen a k ih => intro w w' h; exact ih _ h
  | getObj r k ih =>
    intro w w' h
    simp only [Sem.run] at h
    split at h
    · cases h
    · exact ih _ h
    · cases h
  | setObj b o k ih =>
    intro w w' h
    simp only [Sem.run] at h
    split at h
    · cases h
    · exact ih (w := { w with heap := w.heap.setIfInBounds b o }) h
    · cases h
  | choose q k ih =>
    intro w w' h
    simp only [Sem.run] at h
    split at h
    · exact ih _ h
    · exact Nat.le_trans (Nat.le_succ _) (ih _ h)
  | sys c k ih => intro w w' h; exact Nat.le_trans (sys_drawn w c) (ih _ h)
  | program k ih => intro w w' h; exact ih _ h
  | mark m k ih => intro w w' h; exact ih h
  | halt h0 => intro w w' h; cases h
/- as the library's 'grownBy', and no draw is taken back -/
structure GrB (w w' : World) (row : Option Nat) : Prop extends World.grownBy w w' row where
  drawn : w.drawn ≤ w'.drawn
theorem GrB.refl (w : World) (row : Option Nat) : GrB w w row := ⟨World.grownBy.refl w row, Nat.le_refl _⟩
theorem GrB.alloc (w : World) (o : Obj) (row : Option Nat) : GrB w (w.alloc o) row := ⟨World.grownBy_alloc w o row, Nat.le_refl _⟩
end Go.Vc

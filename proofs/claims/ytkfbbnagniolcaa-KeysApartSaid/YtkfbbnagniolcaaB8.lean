/- Plain laws of the violations of one key: in ascending order, separated or with other IDs. -/
import Derived.Test.YtkfbbnagniolcaaB6
set_option linter.unusedSectionVars false
set_option linter.unusedSimpArgs false
set_option linter.unusedVariables false
namespace Go.Vc
open Go
def apartV (u v : Vio) : Prop := u.p.hi ≤ v.p.lo ∧ ¬ (u.p.hi = v.p.lo ∧ u.ids = v.ids)
def chainV : List Vio → Prop
  | [] => True
  | [_] => True
  | u :: v :: r => apartV u v ∧ chainV (v :: r)
theorem chainV_snoc : ∀ (l : List Vio) (v : Vio), chainV (l ++ [v]) ↔ chainV l ∧ ∀ u, l.getLast? = some u → apartV u v
  | [], v => by simp [chainV]
  | [u], v => by simp [chainV]
  | u :: w :: r, v => by
    have ih := chainV_snoc (w :: r) v
    simp only [List.cons_append, chainV] at ih ⊢
    rw [ih, and_assoc]
    simp [List.getLast?_cons_cons]
theorem chainV_get : ∀ (l : List Vio), chainV l → ∀ i (h : i + 1 < l.length), apartV l[i] l[i + 1]
  | [], _, i, h => by simp at h
  | [_], _, i, h => by simp at h
  | u :: v :: r, hc, 0, h => hc.1
  | u :: v :: r, hc, i + 1, h => by
    have := chainV_get (v :: r) hc.2 i (by simpa using h)
    simpa using this
theorem extV_chain {l : List Vio} {v : Vio} (hc : chainV l) (hl : ∀ u, l.getLast? = some u → u.p.hi ≤ v.p.lo) : chainV (extV l v) ∧ ∀ u, (extV l v).getLast? = some u → u.p.hi = v.p.hi := by
  unfold extV
  split
  · rename_i u hu
    obtain ⟨l', rfl⟩ : ∃ l', l = l' ++ [u] := by
      rw [List.getLast?_eq_some_iff] at hu
      exact hu
    rw [List.dropLast_concat]
    obtain ⟨h1, h2⟩ := (chainV_snoc l' u).1 hc
    split
    · rename_i h
      refine ⟨(chainV_snoc _ _).2 ⟨h1, fun w hw => ?_⟩, fun w hw => ?_⟩
      · have := h2 w hw
        exact this
      · simp at hw; subst hw; rfl
    · rename_i h
      refine ⟨(chainV_snoc _ _).2 ⟨hc, fun w hw => ?_⟩, fun w hw => ?_⟩
      · simp at hw; subst hw
        exact ⟨hl u (by simp), h⟩
      · simp at hw; subst hw; rfl
  · rename_i h
    refine ⟨(chainV_snoc _ _).2 ⟨hc, fun w hw => ?_⟩, fun w hw => ?_⟩
    · rw [h] at hw; cases hw
    · simp at hw; subst hw; rfl
theorem confGo_chain : ∀ (ps : List Int) (act rest : List Kd) (out : List Vio), ps.Pairwise (fun a b => a < b) → chainV out → (∀ u f, out.getLast? = some u → ps.head? = some f → u.p.hi ≤ f) → chainV (confGo ps act rest out)
  | [], _, _, out, _, hc, _ => by simpa [confGo] using hc
  | [x], _, _, out, _, hc, _ => by simpa [confGo] using hc
  | f :: t :: ps, act, rest, out, hp, hc, hl => by
    rw [confGo]
    have hft : f < t := (List.pairwise_cons.1 hp).1 t (by simp)
    obtain ⟨h1, h2⟩ := extV_chain (v := ⟨⟨f, t⟩, mergedL (stepA f act rest)⟩) hc (fun u hu => hl u f hu rfl)
    refine confGo_chain (t :: ps) _ _ _ (List.pairwise_cons.1 hp).2 ?_ ?_
    · split
      · exact h1
      · exact hc
    · intro u g hu hg
      simp at hg; subst hg
      split at hu
      · rw [h2 u hu]; exact Int.le_refl _
      · have := hl u f hu rfl; omega
end Go.Vc

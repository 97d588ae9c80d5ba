/- The reading operations: fields, slices, structs laid out. -/
import Derived.Test.YtkfbbnagniolcaaVcS5
set_option linter.unusedSectionVars false
set_option linter.unusedSimpArgs false
set_option linter.unusedVariables false
namespace Go.Vc
open Go Go.RowKit

theorem foldl_set (off : Nat) : ∀ (l : List Value) (s : Nat) (cells : Array Value), off + s + l.length ≤ cells.size →
    ((l.zipIdx s).foldl (fun cs x => cs.setIfInBounds (off + x.2) x.1) cells).toList = cells.toList.take (off + s) ++ l ++ cells.toList.drop (off + s + l.length) := by
  intro l
  induction l with
  | nil => intro s cells h; simp
  | cons x l ih =>
    intro s cells h
    simp only [List.length_cons] at h
    simp only [List.zipIdx_cons, List.foldl_cons]
    rw [ih (s + 1) _ (by simp; omega)]
    have hset : (cells.setIfInBounds (off + s) x).toList = cells.toList.take (off + s) ++ x :: cells.toList.drop (off + s + 1) := by
      rw [Array.toList_setIfInBounds, List.set_eq_take_append_cons_drop, if_pos (by simp; omega)]
    rw [hset]
    have hl : (cells.toList.take (off + s)).length = off + s := by simp; omega
    have e1 : (cells.toList.take (off + s) ++ x :: cells.toList.drop (off + s + 1)).take (off + (s + 1)) = cells.toList.take (off + s) ++ [x] := by
      rw [List.take_append, hl, List.take_of_length_le (by omega)]
      rw [show off + (s + 1) - (off + s) = 1 from by omega]
      rfl
    have e2 : (cells.toList.take (off + s) ++ x :: cells.toList.drop (off + s + 1)).drop (off + (s + 1) + l.length) = cells.toList.drop (off + s + (l.length + 1)) := by
      rw [List.drop_append, hl, List.drop_eq_nil_of_le (by omega)]
      rw [show off + (s + 1) + l.length - (off + s) = l.length + 1 from by omega, List.drop_succ_cons, List.drop_drop]
      simp only [List.nil_append]
      congr 1; omega
    rw [e1, e2]
    simp
theorem foldl_setA (off : Nat) (vs : Array Value) (cells : Array Value) (h : off + vs.size ≤ cells.size) :
    (vs.zipIdx.foldl (fun cs (x : Value × Nat) => cs.setIfInBounds (off + x.2) x.1) cells).toList = cells.toList.take off ++ vs.toList ++ cells.toList.drop (off + vs.size) := by
  rw [← Array.foldl_toList, Array.toList_zipIdx]
  have := foldl_set off vs.toList 0 cells (by simpa using h)
  simpa using this

section
variable {P : Program} {Γ : Tab} {w0 : W0} {w : World} {H0 : Heap} {st : St} {a : Act} {ρ : Nat → Nat} {σ : Nat → Value}
variable (hT : TabOK P Γ) (hg : Good P w0 H0 st a w ρ σ)
include hT in
theorem vcField_some {t : TypeId} {f off : Nat} {j : TyI} (h : vcField Γ t f = some (off, j)) :
    ∃ (F : Array Field) (fl : Field), P.underlying t = some (.struct F) ∧ F[f]? = some fl ∧ fl.offset = off ∧ Γ fl.type = some j := by
  unfold vcField at h
  split at h
  · rename_i i hi
    have hu := (hT _ _ hi).und
    split at h
    · rename_i fs hty
      rw [hty] at hu
      obtain ⟨F, hF, hmap, _⟩ := hu
      split at h
      · rename_i off' ft hf
        split at h
        · rename_i j' hj
          simp at h
          obtain ⟨rfl, rfl⟩ := h
          rw [← hmap, List.getElem?_map] at hf
          cases hfl : F.toList[f]? with
          | none => rw [hfl] at hf; simp at hf
          | some fl =>
            rw [hfl] at hf
            simp at hf
            obtain ⟨rfl, rfl⟩ := hf
            exact ⟨F, fl, hF, by simpa using hfl, rfl, hj⟩
        · simp at h
      · simp at h
    · simp at h
  · simp at h
theorem one1_rel (hsl : ∀ i, ∃ A n c, σ i = .slice A n c) {c : S1} {y : Value} (h : c.one1 = true) (hr : c.rel ρ σ y) : y.oneCell' = true := by
  cases c <;> simp only [S1.one1] at h <;> simp only [S1.rel] at hr <;> try (simp at h; done)
  case v x => cases x <;> simp at h <;> subst hr <;> rfl
  case own i => obtain ⟨A, n, c, e⟩ := hsl i; subst hr; rw [e]; rfl
  case oelt i j => obtain ⟨g, n, c, _, e⟩ := hr; subst e; rfl
  case elt A j => obtain ⟨b, o, _, e⟩ := hr; subst e; rfl
  case sub i l m sz => obtain ⟨A, n, c, _, _, e⟩ := hr; subst e; rfl
  case pin i s => obtain ⟨A, n, c, e⟩ := hsl i; rw [hr.1, e]; rfl
  all_goals (subst hr; rfl)
theorem cells_rel (hsl : ∀ i, ∃ A n c, σ i = .slice A n c) {x : SV} {cs : List S1} {v : Value} (h : x.cells = some cs) (hx : x.rel ρ σ v) : relL ρ σ cs v.cells.toList := by
  cases x <;> simp only [SV.cells] at h
  case one c =>
    split at h
    · rename_i h1
      simp at h; subst h
      have := one1_rel hsl h1 hx
      cases v <;> simp only [Value.cells] <;> first | exact ⟨hx, trivial⟩ | (simp [Value.oneCell'] at this)
    · simp at h
  case agg cs =>
    simp at h; subst h
    obtain ⟨ys, rfl, hr⟩ := hx
    exact hr
  all_goals simp at h
theorem cells_refs {x : SV} {cs : List S1} {d : Nat} (h : x.cells = some cs) (hr : refsL d cs) : x.refs d := by
  cases x <;> simp only [SV.cells] at h
  case one c =>
    split at h
    · simp at h; subst h
      obtain ⟨c', hc, hr⟩ := hr
      simp at hc; subst hc
      exact hr
    · simp at h
  case agg cs => simp at h; subst h; exact hr
  all_goals simp at h
include hg in
theorem bound_run {o : Option Operand} {d l : Int} (h : bound st o d = some l) : (o = none ∧ l = d) ∨ ∃ x k, o = some x ∧ a.eval x = .int k l := by
  unfold bound at h
  split at h
  · rename_i x
    split at h
    · rename_i k n he
      simp at h; subst h
      have := ev_rel hg he
      exact .inr ⟨x, k, rfl, this⟩
    · simp at h
  · simp at h
    exact .inl ⟨rfl, h.symm⟩
theorem run_sliceBound {k : IntKind} {l : Int} {y : Nat} {c : BoundsCode} (h0 : 0 ≤ l) (h1 : l ≤ y) : (Instr.sliceBound (.int k l) y c).run P w = .ok l.toNat w := by
  simp [Instr.sliceBound, asIntOf, h0, h1]
theorem run_sliceBounds {b : Bool} {len cap : Nat} {lo hi : Option Value} {l h : Int} (hlo : (lo = none ∧ l = 0) ∨ ∃ k, lo = some (.int k l)) (hhi : (hi = none ∧ h = len) ∨ ∃ k, hi = some (.int k h))
    (h0 : 0 ≤ l) (h1 : l ≤ h) (h2 : h ≤ cap) : (Instr.sliceBounds b len cap lo hi none).run P w = .ok (l.toNat, h.toNat, cap) w := by
  rcases hhi with ⟨rfl, rfl⟩ | ⟨k, rfl⟩ <;> rcases hlo with ⟨rfl, rfl⟩ | ⟨k', rfl⟩
  · simp [Instr.sliceBounds]
  · simp only [Instr.sliceBounds, Sem.run_bind, Sem.run_pure, Result.andThen_ok]
    rw [run_sliceBound h0 h1]; simp
  · simp only [Instr.sliceBounds, Sem.run_bind, Sem.run_pure, Result.andThen_ok]
    rw [run_sliceBound (by omega) h2]; simp
  · simp only [Instr.sliceBounds, Sem.run_bind, Sem.run_pure, Result.andThen_ok]
    rw [run_sliceBound (by omega) h2]
    simp only [Result.andThen_ok]
    rw [run_sliceBound h0 (by omega)]; simp
include hT hg
theorem vcSlice_sound {t : TypeId} {x : SV} {v : Value} {lo hi : Option Operand} (hx : x.rel ρ σ v) (hxr : ∀ d, st.noRef d → ¬ x.refs d) {K : SV → Prop} (h : vcSlice Γ st t x lo hi K) :
    RdOK P st ρ σ w (Instr.sliceAt t v (lo.map a.eval) (hi.map a.eval) none) K := by
  have hb : ∀ {o : Option Operand} {d l : Int}, bound st o d = some l → (o.map a.eval = none ∧ l = d) ∨ ∃ k, o.map a.eval = some (.int k l) := by
    intro o d l h'
    rcases bound_run hg h' with ⟨rfl, h2⟩ | ⟨x, k, rfl, h2⟩
    · exact .inl ⟨rfl, h2⟩
    · exact .inr ⟨k, by rw [Option.map_some, h2]⟩
  unfold vcSlice at h
  split at h
  · exact h.elim
  · rename_i i hi'
    have hu := (hT _ _ hi').und
    split at h
    · rename_i e hty
      rw [hty] at hu
      split at h
      · exact h.elim
      · rename_i j hj
        have hsz := (hT _ _ hj).run_size (P := P)
        split at h
        · rename_i A n c
          split at h
          · rename_i l hh hl hhi
            obtain ⟨h0, h1, h2, h3⟩ := h
            have e1 := SV.rel_one_v hx
            subst e1
            have hbs := fun w => run_sliceBounds (P := P) (w := w) (b := true) (len := n) (cap := c) (hb hl) (hb hhi) h0 h1 h2
            refine ⟨.slice (subA A c l.toNat j.size) (hh.toNat - l.toNat) (c - l.toNat), .one (.v _), ?_, ?_, fun _ _ hh => ?_, h3 _ rfl⟩
            · intro w' _
              simp only [Instr.sliceAt, Instr.slice, Sem.run_bind, run_und hu, Result.andThen_ok, hbs, hsz, Sem.run_pure]
              rfl
            · rfl
            · exact hh
          · exact h.elim
        · rename_i o
          split at h
          · rename_i e' n xs hL
            split at h
            · rename_i l hh hl hhi
              obtain ⟨h0, h1, h2, h3⟩ := h
              have h0' : 0 ≤ l := h0
              have h1' : l ≤ hh := h1
              have h2' : hh ≤ (n : Int) := h2
              obtain ⟨A, c, hv, hnc⟩ : ∃ A c, σ o = .slice A n c ∧ n ≤ c := by
                rcases (row_of hg hL).row.2 with ⟨hv, h0⟩ | ⟨g, c, cur, hv, _, _, hnc, _⟩
                · subst h0; exact ⟨_, _, hv, Nat.le_refl _⟩
                · exact ⟨_, _, hv, hnc⟩
              have e1 : v = σ o := hx
              rw [hv] at e1
              subst e1
              have hbs := fun w => run_sliceBounds (P := P) (w := w) (b := true) (len := n) (cap := c) (hb hl) (hb hhi) h0' h1' (by omega)
              have hlow : lowN lo l = l.toNat := by
                cases lo with
                | none => simp [bound] at hl; subst hl; rfl
                | some _ => rfl
              rw [hlow] at h3
              refine ⟨.slice (subA A c l.toNat j.size) (hh.toNat - l.toNat) (c - l.toNat), .one (.sub _ _ _ _), ?_, ⟨A, n, c, hv, by show l.toNat + (hh.toNat - l.toNat) ≤ n; omega, rfl⟩, fun d hd hr => ?_, h3⟩
              · intro w' _
                simp only [Instr.sliceAt, Instr.slice, Sem.run_bind, run_und hu, Result.andThen_ok, hbs, hsz, Sem.run_pure]
                rfl
              · exact hxr d hd hr
            · exact h.elim
          · exact h.elim
        · exact h.elim
    · rename_i hty
      rw [hty] at hu
      split at h
      · rename_i s
        split at h
        · rename_i l hh hl hhi
          obtain ⟨h0, h1, h2, h3⟩ := h
          have e1 := SV.rel_one_v hx
          subst e1
          have hbs := fun w => run_sliceBounds (P := P) (w := w) (b := false) (len := s.size) (cap := s.size) (hb hl) (hb hhi) h0 h1 h2
          refine ⟨.string (s.extract l.toNat hh.toNat), .one (.v _), ?_, ?_, fun _ _ hh => ?_, h3⟩
          · intro w' _
            simp [Instr.sliceAt, Instr.slice, run_und hu, hbs]
          · rfl
          · exact hh
        · exact h.elim
      · exact h.elim
    · exact h.elim
/- 'fill' on the machine's side -/
theorem lay_sound {pl : Nat → Option (Nat × Nat)} {place : Nat → Option (Nat × Nat)} (hpl : ∀ f p, pl f = some p → place f = some p) :
    ∀ (ps : List (Nat × Operand)) (cs : List S1) (ys : Array Value) (out : List S1), lay st pl ps cs = some out → relL ρ σ cs ys.toList → (∀ d, st.noRef d → ¬ refsL d cs) →
      ∃ zs, Instr.fill place ys (ps.map fun p => (p.1, a.eval p.2)) = some zs ∧ relL ρ σ out zs.toList ∧ (∀ d, st.noRef d → ¬ refsL d out) ∧ zs.size = ys.size := by
  intro ps
  induction ps with
  | nil =>
    intro cs ys out h hr hn
    simp only [lay, Option.some.injEq] at h
    subst h
    exact ⟨ys, rfl, hr, hn, rfl⟩
  | cons p ps ih =>
    intro cs ys out h hr hn
    obtain ⟨f, x⟩ := p
    simp only [lay] at h
    split at h
    · rename_i off sz hp
      split at h
      · rename_i sv hev
        split at h
        · rename_i ds hds
          split at h
          · rename_i hc
            obtain ⟨hsz, hle⟩ := hc
            have hrel := ev_rel hg hev
            have hrl := cells_rel hg.sl hds hrel
            have hlen := relL_length hrl
            have hlen2 := relL_length hr
            simp only [Array.length_toList] at hlen hlen2
            have hfit : off + (a.eval x).cells.size ≤ ys.size := by omega
            have hfold := foldl_setA off (a.eval x).cells ys hfit
            obtain ⟨zs, h1, h2, h3, h4⟩ := ih _ (((a.eval x).cells.zipIdx.foldl (fun cs (x : Value × Nat) => cs.setIfInBounds (off + x.2) x.1) ys)) out h
              (by
                rw [hfold, ← hlen]
                exact relL_append (relL_append (relL_take _ hr) hrl) (relL_drop _ hr))
              (by
                intro d hd hh
                obtain ⟨c, hc, hcr⟩ := hh
                rcases List.mem_append.1 hc with hc | hc
                · rcases List.mem_append.1 hc with hc | hc
                  · exact hn d hd ⟨c, List.mem_of_mem_take hc, hcr⟩
                  · exact ev_refs hev hd (cells_refs hds ⟨c, hc, hcr⟩)
                · exact hn d hd ⟨c, List.mem_of_mem_drop hc, hcr⟩)
            refine ⟨zs, ?_, h2, h3, ?_⟩
            · simp only [List.map_cons, Instr.fill, hpl _ _ hp]
              rw [if_neg]
              · exact h1
              · simp only [ne_eq, Bool.or_eq_true, decide_eq_true_eq, not_or, Decidable.not_not]
                constructor
                · omega
                · omega
            · rw [h4]
              have : ∀ (l : List (Value × Nat)) (ys : Array Value), (l.foldl (fun cs (x : Value × Nat) => cs.setIfInBounds (off + x.2) x.1) ys).size = ys.size := by
                intro l
                induction l with
                | nil => intro ys; rfl
                | cons x l ih => intro ys; rw [List.foldl_cons, ih]; simp
              rw [← Array.foldl_toList, this]
          · simp at h
        · simp at h
      · simp at h
    · simp at h
end
end Go.Vc

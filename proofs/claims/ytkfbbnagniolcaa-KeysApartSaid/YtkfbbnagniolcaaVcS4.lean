/- The reading operations: together. -/
import Derived.Test.YtkfbbnagniolcaaVcS3
set_option linter.unusedSectionVars false
set_option linter.unusedSimpArgs false
set_option linter.unusedVariables false
namespace Go.Vc
open Go Go.RowKit

section
variable {P : Program} {Γ : Tab} {w0 : W0} {w : World} {H0 : Heap} {st : St} {a : Act} {ρ : Nat → Nat} {σ : Nat → Value}
variable (hT : TabOK P Γ) (hg : Good P w0 H0 st a w ρ σ)
theorem RdOK.of_run {m : Sem Value} {K : SV → Prop} (h : ∃ v r, (∀ w, m.run P w = .ok v w) ∧ (∀ ρ σ, SV.rel ρ σ r v) ∧ (∀ d, ¬ r.refs d) ∧ K r) : RdOK P st ρ σ w m K := by
  obtain ⟨v, r, h1, h2, h3, h4⟩ := h
  exact ⟨v, r, fun w' _ => h1 w', h2 _ _, fun d _ => h3 d, h4⟩
theorem run_binOp_eql {t : TypeId} {x y : Value} (hx : ∀ k n, x ≠ .int k n) (hf : ∀ k n, x ≠ .float k n) (hc : ∀ k a b, x ≠ .complex k a b) (hs : ∀ s, x ≠ .string s) (op : BinOp) (ho : op = .eql ∨ op = .neq) :
    (binOp op t x y).run P w = ((Op.equal t x y).run P w).andThen fun r w' => .ok (.bool (if op = .eql then r else !r)) w' := by
  rcases ho with rfl | rfl
  · unfold binOp
    split <;> simp_all
  · unfold binOp
    split <;> simp_all
theorem run_equalIn_slice {t e : TypeId} {A : Option Addr} {n c n' c' d : Nat} (h : P.underlying t = some (.slice e)) : (Op.equalIn (d + 1) t (.slice A n c) (.slice none n' c')).run P w = .ok A.isNone w := by
  cases A <;> simp [Op.equalIn, run_und h]
theorem SV.rel_one_v {x v : Value} (h : (SV.one (S1.v x)).rel ρ σ v) : v = x := h
theorem relL_of_agg {cs : List S1} {v : Value} (h : (SV.agg cs).rel ρ σ v) : ∃ ys : Array Value, v = .agg ys ∧ relL ρ σ cs ys.toList := h
include hT in
theorem vcBin_sound {op : BinOp} {t : TypeId} {x y : SV} {xo yo : Operand} {u v : Value} (hx : x.rel ρ σ u) (hy : y.rel ρ σ v) {K : SV → Prop} (h : vcBin Γ op t x y K) :
    RdOK P st ρ σ w (do eqGuard op t xo yo u v; binOp op t u v) K := by
  unfold vcBin at h
  split at h
  · rename_i k n
    split at h
    · rename_i k' n'
      split at h
      · rename_i hk
        subst hk
        have e1 := SV.rel_one_v hx
        have e2 := SV.rel_one_v hy
        subst e1 e2
        obtain ⟨v, r, h1, h2⟩ := vcInt_run (P := P) (t := t) h
        refine RdOK.of_run ⟨v, r, ?_, h2⟩
        intro w
        simp only [Sem.run_bind, run_guard_int, Result.andThen_ok, h1]
      · exact h.elim
    · exact h.elim
  · rename_i s
    split at h
    · rename_i s'
      split at h
      · have e1 := SV.rel_one_v hx
        have e2 := SV.rel_one_v hy
        subst e1 e2
        obtain ⟨hle, h⟩ := h
        have hle' : s.size + s'.size ≤ 9223372036854775807 := hle
        refine ⟨.string (s ++ s'), _, ?_, ?_, ?_, h⟩
        · intro w' _
          simp only [Sem.run_bind, run_guard_string, Result.andThen_ok, binOp, Op.stringOp]
          have hm : IntKind.i64.max = 9223372036854775807 := by decide
          rw [hm, if_neg (by omega)]
          rfl
        · exact rfl
        · exact fun _ _ hh => hh
      split at h
      · rename_i e he
        have e1 := SV.rel_one_v hx
        have e2 := SV.rel_one_v hy
        subst e1 e2
        refine ⟨.bool e, _, ?_, ?_, ?_, h⟩
        · intro w' _
          simp only [Sem.run_bind, run_guard_string, Result.andThen_ok]
          exact vcStr_run he
        · exact rfl
        · exact fun _ _ hh => hh
      · exact h.elim
    · exact h.elim
  · rename_i A n c
    split at h
    · rename_i n' c'
      split at h
      · rename_i i hi
        split at h
        · rename_i e hty
          have hu := (hT _ _ hi).und
          rw [hty] at hu
          have e1 := SV.rel_one_v hx
          have e2 := SV.rel_one_v hy
          subst e1 e2
          have hrun : ∀ w, (Op.equal t (.slice A n c) (.slice none n' c')).run P w = .ok A.isNone w := by
            intro w
            unfold Op.equal Op.maxDepth
            exact run_equalIn_slice (d := 9999) hu
          obtain ⟨v, r, h1, h2⟩ := vcEq_run (P := P) (t := t) h hrun (fun op ho w => run_binOp_eql (by simp) (by simp) (by simp) (by simp) op ho)
          refine RdOK.of_run ⟨v, r, ?_, h2⟩
          intro w
          simp only [Sem.run_bind, run_guard_slice, Result.andThen_ok, h1]
        · exact h.elim
      · exact h.elim
    · exact h.elim
  · rename_i cs
    split at h
    · rename_i ds
      split at h
      · rename_i i hi
        split at h
        · rename_i e he
          obtain ⟨ys, rfl, hr⟩ := relL_of_agg hx
          obtain ⟨zs, rfl, hs⟩ := relL_of_agg hy
          have hne : i.eqk ≠ [] := by
            intro h0
            rw [h0] at he
            simp [eqCells] at he
          obtain ⟨F, hF, hgt, hst, hlen, hall⟩ := (hT _ _ hi).eq hne
          have hfo : P.fieldsOf t = F := by simp [Program.fieldsOf, hF]
          have hrun : ∀ w, (Op.equal t (.agg ys) (.agg zs)).run P w = .ok e w := by
            intro w
            unfold Op.equal Op.maxDepth
            rw [run_equalIn_struct w 9999 t ys zs (by rw [hfo]; exact hF) hst, hfo]
            exact eqFields_run (d := 9998) i.eqk F.toList cs ds 0 e he (by simpa using hr) (by simpa using hs) hlen (fun j f q h1 h2 => by
              have := hall j f q h1 h2
              simpa using this)
          obtain ⟨v, r, h1, h2⟩ := vcEq_run (P := P) (t := t) h hrun (fun op ho w => run_binOp_eql (by simp) (by simp) (by simp) (by simp) op ho)
          refine RdOK.of_run ⟨v, r, ?_, h2⟩
          intro w
          simp only [Sem.run_bind, run_guard_agg hgt, Result.andThen_ok, h1]
        · exact h.elim
      · exact h.elim
    · exact h.elim
  · rename_i x
    split at h
    · rename_i y
      split at h
      · rename_i b hb
        split at h
        · rename_i b' hb'
          have e1 := S1.asB_rel hb hx
          have e2 := S1.asB_rel hb' hy
          subst e1 e2
          split at h
          · rename_i i hi
            split at h
            · rename_i hty
              have hu := (hT _ _ hi).und
              rw [hty] at hu
              have hrun : ∀ w, (Op.equal t (.bool b) (.bool b')).run P w = .ok (beq2 b b') w := by
                intro w
                unfold Op.equal Op.maxDepth
                exact run_equalIn_bool' w 9999 t b b' hu
              obtain ⟨v, r, h1, h2⟩ := vcEq_run (P := P) (t := t) h hrun (fun op ho w => run_binOp_eql (by simp) (by simp) (by simp) (by simp) op ho)
              refine RdOK.of_run ⟨v, r, ?_, h2⟩
              intro w
              simp only [Sem.run_bind, run_guard_bool, Result.andThen_ok, h1]
            · exact h.elim
          · exact h.elim
        · exact h.elim
      · exact h.elim
    · exact h.elim
  · exact h.elim
end
end Go.Vc

/- The reading operations: addresses, indexes, slices, structs. -/
import Derived.Test.YtkfbbnagniolcaaVcS4
set_option linter.unusedSectionVars false
set_option linter.unusedSimpArgs false
set_option linter.unusedVariables false
namespace Go.Vc
open Go Go.RowKit

section
variable {P : Program} {Γ : Tab} {w0 : W0} {w : World} {H0 : Heap} {st : St} {a : Act} {ρ : Nat → Nat} {σ : Nat → Value}
variable (hT : TabOK P Γ) (hg : Good P w0 H0 st a w ρ σ)
theorem row_form {e : TypeId} {n : Nat} {xs : List Value} {v : Value} {B sz : Nat} (h : w.ownsRow B e sz v n xs) (hn : 0 < n) : ∃ g c, v = .slice (some ⟨g, 0, none⟩) n c := by
  rcases h.2 with ⟨_, h0⟩ | ⟨g, c, cur, hv, _⟩
  · omega
  · exact ⟨g, c, hv⟩
include hT hg
theorem vcIndexAddr_sound {t : TypeId} {x : SV} {v : Value} {k : IntKind} {n : Int} (hx : x.rel ρ σ v) (hxr : ∀ d, st.noRef d → ¬ x.refs d) {K : SV → Prop} (h : vcIndexAddr Γ st t x n K) :
    RdOK P st ρ σ w (Instr.indexAt t v (.int k n)) K := by
  unfold vcIndexAddr at h
  split at h
  · exact h.elim
  · rename_i i hi
    have hu := (hT _ _ hi).und
    split at h
    · rename_i e hty
      rw [hty] at hu
      split at h
      · exact h.elim
      · rename_i j hj
        have hsz := (hT _ _ hj).run_size (P := P)
        split at h
        · rename_i A len c
          obtain ⟨⟨b, o, rfl⟩, h0, h1, h2⟩ := h
          have e1 := SV.rel_one_v hx
          subst e1
          refine ⟨.pointer (some ⟨b, o + nidx n j.size, none⟩), .one (.elt _ _), ?_, ⟨b, o, rfl, rfl⟩, fun _ _ hh => hh, h2⟩
          have h0' : 0 ≤ n := h0
          have h1' : n < (len : Int) := h1
          intro w' _
          simp [Instr.indexAt, asIntOf, run_und hu, h0', h1', hsz, add_plain, nidx]
        · rename_i o
          split at h
          · rename_i e' len xs hL
            obtain ⟨h0, h1, h2⟩ := h
            have h0' : 0 ≤ n := h0
            have h1' : n < (len : Int) := h1
            have hrow := row_of hg hL
            obtain ⟨g, c, hs⟩ := row_form hrow.row (by omega)
            have e1 : v = σ o := hx
            rw [hs] at e1
            subst e1
            refine ⟨.pointer (some ⟨g, nidx n j.size, none⟩), .one (.oelt _ _), ?_, ⟨g, len, c, hs, rfl⟩, fun d hd hh => hxr d hd hh, h2⟩
            intro w' _
            simp [Instr.indexAt, asIntOf, run_und hu, h0', h1', hsz, add_plain, nidx]
          · exact h.elim
        · exact h.elim
    · rename_i len e hty
      rw [hty] at hu
      split at h
      · exact h.elim
      · rename_i j hj
        have hsz := (hT _ _ hj).run_size (P := P)
        split at h
        · rename_i o
          split at h
          · rename_i t0 xs hL
            obtain ⟨h0, h1, h2⟩ := h
            have h0' : 0 ≤ n := h0
            have h1' : n < (len : Int) := h1
            have e1 : v = .pointer (some ⟨ρ o, 0, none⟩) := hx
            subst e1
            refine ⟨.pointer (some ⟨ρ o, nidx n j.size, none⟩), .one (.aelt _ _), ?_, rfl, fun d hd hh => hxr d hd hh, h2⟩
            intro w' _
            simp [Instr.indexAt, Instr.sureAddr, asIntOf, run_und hu, h0', h1', hsz, add_plain, nidx]
          · exact h.elim
        · rename_i A off
          obtain ⟨h0, h1, h2⟩ := h
          have h0' : 0 ≤ n := h0
          have h1' : n < (len : Int) := h1
          obtain ⟨b, o, rfl, rfl⟩ := hx
          refine ⟨.pointer (some ⟨b, o + nadd off (nidx n j.size), none⟩), .one (.elt _ _), ?_, ⟨b, o, rfl, rfl⟩, fun _ _ hh => hh, h2⟩
          intro w' _
          simp [Instr.indexAt, Instr.sureAddr, asIntOf, run_und hu, h0', h1', hsz, add_plain, nidx, nadd, Nat.add_assoc]
        · rename_i o off
          obtain ⟨h0, h1, h2⟩ := h
          have h0' : 0 ≤ n := h0
          have h1' : n < (len : Int) := h1
          obtain ⟨g, m, c, hs, rfl⟩ := hx
          refine ⟨.pointer (some ⟨g, nadd off (nidx n j.size), none⟩), .one (.oelt _ _), ?_, ⟨g, m, c, hs, rfl⟩, fun d hd hh => hxr d hd hh, h2⟩
          intro w' _
          simp [Instr.indexAt, Instr.sureAddr, asIntOf, run_und hu, h0', h1', hsz, add_plain, nidx, nadd]
        · rename_i o off
          obtain ⟨h0, h1, h2⟩ := h
          have h0' : 0 ≤ n := h0
          have h1' : n < (len : Int) := h1
          have e1 : v = .pointer (some ⟨ρ o, off, none⟩) := hx
          subst e1
          refine ⟨.pointer (some ⟨ρ o, nadd off (nidx n j.size), none⟩), .one (.aelt _ _), ?_, rfl, fun d hd hh => hxr d hd hh, h2⟩
          intro w' _
          simp [Instr.indexAt, Instr.sureAddr, asIntOf, run_und hu, h0', h1', hsz, add_plain, nidx, nadd]
        · exact h.elim
    · exact h.elim
omit hT hg in
theorem vcIdxAll_get {n : Int} {K : Nat → Prop} : ∀ {c m : Nat}, vcIdxAll n K c m → ∀ k, m ≤ k → k < m + c → n = (k : Int) → K k
  | 0, m, _, k, h1, h2, _ => by omega
  | c + 1, m, h, k, h1, h2, e => by
    by_cases hk : m = k
    · subst hk; exact h.1 e
    · exact vcIdxAll_get h.2 k (by omega) (by omega) e
omit hT hg in
theorem vcIndexS_index {t : TypeId} {x : SV} {n : Int} {K : SV → Prop} (h : vcIndexS Γ t x n K) : vcIndex Γ t x n K := by
  unfold vcIndexS at h
  split at h
  · exact h.elim
  · rename_i i hi
    split at h
    · rename_i len e hty
      split at h
      · rename_i cs
        split at h
        · exact h.elim
        · rename_i j hj
          obtain ⟨h0, h1, h2⟩ := h
          have h0' : 0 ≤ n := h0
          have h1' : n < (len : Int) := h1
          have h3 := vcIdxAll_get h2 n.toNat (by omega) (by omega) (by omega)
          split at h3
          · rename_i hle
            unfold vcIndex
            simp only [hi, hty, hj]
            rw [if_pos ⟨h0', h1', hle⟩]
            exact h3
          · exact h3.elim
      · exact h.elim
    · exact h
omit hg in
theorem vcIndex_sound {t : TypeId} {x : SV} {v : Value} {k : IntKind} {n : Int} (hx : x.rel ρ σ v) (hxr : ∀ d, st.noRef d → ¬ x.refs d) {K : SV → Prop} (h : vcIndex Γ t x n K) :
    RdOK P st ρ σ w (Instr.index t v (.int k n)) K := by
  unfold vcIndex at h
  split at h
  · exact h.elim
  · rename_i i hi
    have hu := (hT _ _ hi).und
    split at h
    · rename_i hty
      rw [hty] at hu
      split at h
      · rename_i s
        obtain ⟨h0, h1, h2⟩ := h
        have h0' : 0 ≤ n := h0
        have h1' : n < (s.size : Int) := h1
        have e1 := SV.rel_one_v hx
        subst e1
        have hlt : n.toNat < s.size := by omega
        have hget : s[n.toNat]? = some (s.data.toList.getD n.toNat 0) := by
          rw [getElem?_pos s n.toNat hlt]
          congr 1
          rw [List.getD_eq_getElem?_getD, List.getElem?_eq_getElem (by simpa using hlt)]
          rfl
        refine ⟨.int .u8 (byteAt s n), .one (.v _), ?_, rfl, fun _ _ hh => hh, h2⟩
        intro w' _
        simp only [Instr.index, asIntOf, run_und hu, Sem.run_bind, Sem.run_pure, Result.andThen_ok, h0', if_true, hget]
        rfl
      · exact h.elim
    · rename_i len e hty
      rw [hty] at hu
      split at h
      · rename_i cs
        split at h
        · exact h.elim
        · rename_i j hj
          have hTj := hT _ _ hj
          split at h
          · rename_i hc
            obtain ⟨h0, h1, h2⟩ := hc
            obtain ⟨ys, rfl, hr⟩ := hx
            have hr' := relL_take j.size (relL_drop (n.toNat * j.size) hr)
            have hl : ((ys.toList.drop (n.toNat * j.size)).take j.size).length = j.size := by
              have := relL_length hr
              simp only [List.length_take, List.length_drop]; omega
            obtain ⟨r, q1, q2, q3, q4⟩ := vcMk_sound h hr'
            refine ⟨_, r, ?_, q1, fun d hd hh => ?_, q4⟩
            · intro w' _
              have hrun : (part e ys (n.toNat * j.size)).run P w' = .ok (valMk j.agg ((ys.toList.drop (n.toNat * j.size)).take j.size)) w' := by
                unfold part valMk
                simp only [Sem.run_bind, hTj.agg w', Result.andThen_ok]
                cases hgg : j.agg
                · simp only [Bool.false_eq_true, if_false]
                  rcases q2 with q2 | q2
                  · rw [hgg] at q2; simp at q2
                  · have hlt : n.toNat * j.size < ys.size := by
                      have := relL_length hr
                      simp only [Array.length_toList] at this
                      rw [hl] at q2
                      omega
                    rw [Array.getElem?_eq_getElem hlt]
                    simp only [Sem.run_pure]
                    congr 1
                    rw [List.drop_eq_getElem_cons (by simpa using hlt)]
                    rw [hl] at q2
                    obtain ⟨m, hm⟩ : ∃ m, j.size = m := ⟨_, rfl⟩
                    rw [hm] at q2
                    subst q2
                    generalize ys.toList.drop (n.toNat * j.size + 1) = tl
                    generalize hx0 : ys[n.toNat * j.size] = x0
                    have : ys.toList[n.toNat * j.size]'(by simpa using hlt) = x0 := by rw [← hx0]; simp
                    rw [this, hm]
                    rfl
                · simp only [if_true, Sem.run_bind, hTj.run_size w', Result.andThen_ok, Sem.run_pure]
                  congr 2
                  apply Array.ext'
                  simp only [Array.toList_extract]
                  rw [List.extract_eq_take_drop]
                  congr 1
                  omega
              simp [Instr.index, asIntOf, run_und hu, h0, h1, hTj.run_size w', hrun]
            · obtain ⟨c, hc, hcr⟩ := q3 d hh
              exact hxr d hd ⟨c, List.mem_of_mem_drop (List.mem_of_mem_take hc), hcr⟩
          · exact h.elim
      · exact h.elim
    · exact h.elim
end
end Go.Vc

/- The builtin clear on a row of the call's own, or on a part of one. -/
import Derived.Test.YtkfbbnagniolcaaVcS11
import Derived.Lib.SliceRun
import Derived.Lib.Walk
set_option linter.unusedSectionVars false
set_option linter.unusedSimpArgs false
set_option linter.unusedVariables false
namespace Go.Vc
open Go Go.RowKit
section
variable {P : Program} {w : World}
/- what storing a run of cells does to the memory -/
structure Stored (w w' : World) (g : Nat) (e : TypeId) (cur cur' : Array Value) : Prop where
  os : w'.os = w.os
  tape : w'.tape = w.tape
  output : w'.output = w.output
  size : w'.heap.size = w.heap.size
  block : ∀ k, k ≠ g → w'.heap[k]? = w.heap[k]?
  here : w'.heap[g]? = some (.cells cur' e (0, 0))
  drawn : w.drawn ≤ w'.drawn
theorem stored_setCell {g o : Nat} {e : TypeId} {cur : Array Value} {v : Value} (h : w.heap[g]? = some (.cells cur e (0, 0))) : Stored w (w.setCell ⟨g, o, none⟩ v) g e cur (cur.setIfInBounds o v) := by
  have hlt : g < w.heap.size := (Array.getElem?_eq_some_iff.1 h).1
  refine ⟨rfl, rfl, rfl, by simp [World.setCell], fun k hk => ?_, ?_, Nat.le_refl _⟩
  · simp only [World.setCell, Array.getElem?_modify]
    rw [if_neg (by simpa using fun e => hk e.symm)]
  · simp only [World.setCell, Array.getElem?_modify]
    rw [if_pos trivial, h]
    simp
theorem stored_setCells {g : Nat} {e : TypeId} : ∀ (vs : List Value) (o : Nat) (w : World) (cur : Array Value), w.heap[g]? = some (.cells cur e (0, 0)) → o + vs.length ≤ cur.size →
    ∃ cur', Stored w (w.setCells g o vs) g e cur cur' ∧ cur'.toList = cur.toList.take o ++ (vs ++ cur.toList.drop (o + vs.length))
  | [], o, w, cur, h, hl => ⟨cur, ⟨rfl, rfl, rfl, rfl, fun _ _ => rfl, h, Nat.le_refl _⟩, by simp⟩
  | v :: r, o, w, cur, h, hl => by
    simp only [List.length_cons] at hl
    have h1 := stored_setCell (o := o) (v := v) h
    obtain ⟨cur', h2, h3⟩ := stored_setCells r (o + 1) _ _ h1.here (by simp; omega)
    refine ⟨cur', ⟨h2.os.trans h1.os, h2.tape.trans h1.tape, h2.output.trans h1.output, h2.size.trans h1.size, fun k hk => (h2.block k hk).trans (h1.block k hk), h2.here, Nat.le_trans h1.drawn h2.drawn⟩, ?_⟩
    rw [h3]
    have hlt : o < cur.toList.length := by simp; omega
    simp only [Array.toList_setIfInBounds, List.length_cons]
    rw [List.take_set, List.drop_set_of_lt (by omega), show o + 1 + r.length = o + (r.length + 1) by omega]
    rw [List.take_add_one, List.getElem?_eq_getElem hlt]
    have hm : min o cur.size = o := by omega
    simp [List.set_append, List.length_take, hm]
theorem Stored.trans {w w1 w2 : World} {g : Nat} {e : TypeId} {c c1 c2 : Array Value} (h : Stored w w1 g e c c1) (h' : Stored w1 w2 g e c1 c2) : Stored w w2 g e c c2 :=
  ⟨h'.os.trans h.os, h'.tape.trans h.tape, h'.output.trans h.output, h'.size.trans h.size, fun k hk => (h'.block k hk).trans (h.block k hk), h'.here, Nat.le_trans h.drawn h'.drawn⟩
theorem Stored.drew {w : World} {g : Nat} {e : TypeId} {c : Array Value} (h : w.heap[g]? = some (.cells c e (0, 0))) : Stored w w.drew g e c c := ⟨rfl, rfl, rfl, rfl, fun _ _ => rfl, h, Nat.le_succ _⟩
/- clear on a run of cells -/
theorem run_clear {t e ty : TypeId} {z : Value} (ht : P.underlying t = some (.slice e)) (hv : ∀ w, (zeroValue e).run P w = .ok z w) (h1 : ∀ x ∈ z.cells.toList, x.oneCell' = true) {g : Nat} {cur : Array Value} {e' : TypeId}
    (h : w.heap[g]? = some (.cells cur e' (0, 0))) {o n c : Nat} (hn : 0 < n) (hl : o + n * z.cells.size ≤ cur.size) :
    (Builtin.clear_ #[t] ty #[.slice (some ⟨g, o, none⟩) n c]).run P w = .ok (.tuple #[]) (w.setCells g o (Builtin.zeroCells z.cells n).toList) := by
  have hzs : (Builtin.zeroCells z.cells n).toList.length = n * z.cells.size := by simp [Builtin.zeroCells]
  have hst := run_storeCells_cells (P := P) g o (Builtin.zeroCells z.cells n).toList 0 w (fun j hj => by
      rw [hzs] at hj
      simp [World.cell?, h, show o + j < cur.size by omega])
    (fun j hj => by simp [World.frozen?, h]) (by
      intro v hv'
      simp only [Builtin.zeroCells, List.mem_map, Array.toList_map, Array.toList_range, List.mem_range] at hv'
      obtain ⟨i, hi, rfl⟩ := hv'
      have hz : 0 < z.cells.size := by
        rcases Nat.eq_zero_or_pos z.cells.size with h0 | h0
        · rw [h0] at hi; simp at hi
        · exact h0
      have hm := Nat.mod_lt i hz
      rw [getElem!_pos z.cells _ hm]
      exact h1 _ (by simp))
  simp only [Nat.add_zero] at hst
  obtain ⟨m, rfl⟩ : ∃ m, n = m + 1 := ⟨n - 1, by omega⟩
  simp [Builtin.clear_, run_underlying ht, hv, hst]
end

section
variable {P : Program} {Γ : Tab} {w0 : W0} {w : World} {H0 : Heap} {st : St} {a : Act} {ρ : Nat → Nat} {σ : Nat → Value}
variable (hT : TabOK P Γ) (hg : Good P w0 H0 st a w ρ σ)
theorem run_clear_none {t e ty : TypeId} (ht : P.underlying t = some (.slice e)) {A : Option Addr} {n c : Nat} (h : A = none ∨ n = 0) :
    (Builtin.clear_ #[t] ty #[.slice A n c]).run P w = .ok (.tuple #[]) w := by
  rcases h with rfl | rfl
  · simp [Builtin.clear_, run_underlying ht]
  · cases A <;> simp [Builtin.clear_, run_underlying ht]
theorem zeroCells_repl {z : Value} {zs : List Value} {n sz : Nat} (hz : z.cells = ⟨zs⟩) (hl : zs.length = sz) : (Builtin.zeroCells z.cells n).toList = repl zs n := by
  have h := range_repl zs n sz hl
  subst hl
  rw [← h]
  simp only [Builtin.zeroCells, hz]
  simp
include hT hg in
theorem clear_sound {dst : Option Tmp} {t ty e : TypeId} {i j : TyI} {x : Operand} {xv : SV} {pos : String} {after : Array Edge} {gd : Option (Nat × Bool)} {K : St → Prop}
    (hi : Γ t = some i) (hty : i.ty = .slice e) (hj : Γ e = some j) (hx : ev st x = some xv) (h : vcClear st dst e j xv K) :
    EfOK P w0 H0 st a w ρ ⟨dst, .call { callee := .builtin .clear, args := #[x], argTypes := #[t] }, ty, pos, after, gd⟩ K := by
  have hu := (hT _ _ hi).und
  rw [hty] at hu
  have hTj := hT _ _ hj
  have hv := ev_rel hg hx
  obtain ⟨inf, z, i1, i2, i3, i4, i5⟩ := hTj.info
  have hz : ∀ w, (zeroValue e).run P w = .ok z w := fun w => by simp [zeroValue, typeInfo, i1, i4]
  have hzl := hTj.zlen
  have hone : ∀ x ∈ z.cells.toList, x.oneCell' = true := by rw [i5]; exact hTj.zone
  have main : ∀ {k n l m : Nat} {xs : List Value}, getW st k = some (.row e n xs) → l + m ≤ n → (∀ A c, σ k = .slice A n c → a.eval x = .slice (subA A c l j.size) m (c - l)) →
      K (Vc.setL st k (.row e n (splice xs (l * j.size) (repl j.zero m)))) → dst = none → EfOK P w0 H0 st a w ρ ⟨dst, .call { callee := .builtin .clear, args := #[x], argTypes := #[t] }, ty, pos, after, gd⟩ K := by
    intro k n l m xs hW hle hev hK hd
    subst hd
    have hL := getW_some hW
    obtain ⟨hrow, hx1, hfree⟩ := hg.obj _ _ _ hL
    have hxl : xs.length = n * j.size := by rw [hrow.row.1, hTj.cellsOf]
    have hrl : (repl j.zero m).length = m * j.size := by rw [repl_length, hzl]
    have hlm : l * j.size + m * j.size ≤ n * j.size := by rw [← Nat.add_mul]; exact Nat.mul_le_mul_right _ hle
    have none_case : m = 0 ∨ (∃ c, σ k = .slice none n c) → EfOK P w0 H0 st a w ρ ⟨none, .call { callee := .builtin .clear, args := #[x], argTypes := #[t] }, ty, pos, after, gd⟩ K := by
      intro hc
      have hm : m = 0 := by
        rcases hc with h | ⟨c, hc⟩
        · exact h
        · rcases hrow.row.2 with ⟨_, h0⟩ | ⟨g, cap, cur, hv', _⟩
          · omega
          · rw [hc] at hv'; simp at hv'
      subst hm
      have he : splice xs (l * j.size) (repl j.zero 0) = xs := by simp [splice, repl, List.take_append_drop]
      rw [he] at hK
      have hst : Vc.setL st k (.row e n xs) = st := by
        have : st.L.set k (some (true, .row e n xs)) = st.L := by
          obtain ⟨hlt, h1⟩ := List.getElem?_eq_some_iff.1 hL
          rw [← h1]; simp
        simp only [Vc.setL, this]
      rw [hst] at hK
      obtain ⟨A, c, hs⟩ : ∃ A c, σ k = .slice A n c := by
        rcases hrow.row.2 with ⟨hv', h0⟩ | ⟨g, cap, cur, hv', _⟩
        · exact ⟨none, 0, by rw [hv', h0]⟩
        · exact ⟨_, _, hv'⟩
      refine ⟨.value (.tuple #[]), .tuple #[], w, st, ρ, σ, ?_, .inl rfl, hK, Keeps.refl st, hg, Goes.refl st ρ w⟩
      have := run_clear_none (P := P) (w := w) (ty := ty) hu (A := subA A c l j.size) (n := 0) (c := c - l) (.inr rfl)
      simp [execOp, resolve, invoke, builtin, hev A c hs, this]
    by_cases hm0 : m = 0
    · exact none_case (.inl hm0)
    rcases hrow.row.2 with ⟨h0, hn0⟩ | ⟨g, cap, cur, hs, hge, hb, hnc, hcm, hcs, htake⟩
    · exact none_case (.inr ⟨0, by rw [h0, hn0]⟩)
    · have hcl : l ≠ cap := by omega
      have hA : subA (some ⟨g, 0, none⟩) cap l j.size = some ⟨g, l * j.size, none⟩ := by
        unfold subA
        rw [if_neg (Ne.symm hcl)]
        simp [add_plain]
      have hob : (σ k).ownBlock = some g := by rw [hs]; rfl
      have hle2 : n * j.size ≤ cur.size := by rw [hcs, hTj.cellsOf]; exact Nat.mul_le_mul_right _ hnc
      have hzs : z.cells.size = j.size := by rw [i5]; simpa using hzl
      have hrun := run_clear (P := P) (ty := ty) hu hz hone hb (o := l * j.size) (n := m) (c := cap - l) (by omega) (by rw [hzs]; omega)
      rw [zeroCells_repl i5 hzl] at hrun
      obtain ⟨cur', hS, hc'⟩ := stored_setCells (repl j.zero m) (l * j.size) w cur hb (by rw [hrl]; omega)
      have hgr : GrB w (w.setCells g (l * j.size) (repl j.zero m)) (some g) := ⟨⟨hS.os, hS.tape, hS.output, by rw [hS.size]; exact Nat.le_refl _, fun k' hk' hne => hS.block k' (fun e => hne (by rw [e]))⟩, hS.drawn⟩
      obtain ⟨st', q1, q2, q3, q4⟩ := storeK (w' := w.setCells g (l * j.size) (repl j.zero m)) (g := g) hg hW hob (by exact hob) hK hgr (by
        have hsl : (splice xs (l * j.size) (repl j.zero m)).length = xs.length := by simp only [splice, List.length_append, List.length_take, List.length_drop, hrl]; omega
        have hcl' : cur'.toList.length = cur.size := by rw [hc']; simp only [List.length_append, List.length_take, List.length_drop, hrl, Array.length_toList]; omega
        refine ⟨⟨⟨by rw [hsl, hrow.row.1], .inr ⟨g, cap, cur', hs, hge, hS.here, hnc, hcm, by rw [← hcs, ← hcl']; simp, ?_⟩⟩, hrow.nw⟩, ?_, hfree⟩
        · rw [hc', ← List.append_assoc]
          simp only [splice, hrl]
          have hk : l * j.size + m * j.size ≤ n * P.cellsOf e := by rw [hTj.cellsOf]; omega
          have hk2 : n * P.cellsOf e ≤ cur.size := by rw [hTj.cellsOf]; omega
          have hcl : cur.toList.length = cur.size := by simp
          rw [← htake, List.take_append, List.take_append]
          simp only [List.length_append, List.length_take, hcl, hrl]
          rw [List.take_take, List.take_take, List.drop_take]
          have e1 : min (n * P.cellsOf e) (l * j.size) = l * j.size := by omega
          have e2 : min (l * j.size) (n * P.cellsOf e) = l * j.size := by omega
          have e3 : min (l * j.size) cur.size = l * j.size := by omega
          rw [e1, e2, e3, List.take_of_length_le (by rw [hrl]; omega : (repl j.zero m).length ≤ n * P.cellsOf e - l * j.size)]
        · intro v hv'
          simp only [splice] at hv'
          rcases List.mem_append.1 hv' with hv' | hv'
          · rcases List.mem_append.1 hv' with hv' | hv'
            · exact hx1 v (List.mem_of_mem_take hv')
            · exact hTj.zone v (repl_mem hv')
          · exact hx1 v (List.mem_of_mem_drop hv')) (fun _ _ _ hh => hh)
      refine ⟨.value (.tuple #[]), .tuple #[], _, st', ρ, σ, ?_, .inl rfl, q1, q2, q3, q4.mono fun i hh => by simp [isBA] at hh⟩
      have he := hev _ _ hs
      rw [hA] at he
      simp [execOp, resolve, invoke, builtin, he, hrun]
  unfold vcClear at h
  split at h
  · split at h
    · rename_i k
      split at h
      · rename_i e' n xs hW
        split at h
        · rename_i he
          subst he
          have hL := getW_some hW
          obtain ⟨hrow, hx1, hfree⟩ := hg.obj _ _ _ hL
          have hxl : xs.length = n * j.size := by rw [hrow.row.1, hTj.cellsOf]
          refine main (k := k) (l := 0) (m := n) hW (by omega) (fun A c hs => ?_) ?_ rfl
          · have e1 : a.eval x = σ k := hv
            rw [e1, hs]
            congr 1
            · unfold subA
              split
              · rfl
              · cases A with
                | none => rfl
                | some ad => obtain ⟨b, o, s⟩ := ad; cases s <;> simp [Addr.add]
          · have : splice xs (0 * j.size) (repl j.zero n) = repl j.zero n := by
              simp only [splice, Nat.zero_mul, List.take_zero, List.nil_append, Nat.zero_add, repl_length, hzl]
              rw [List.drop_of_length_le (by omega)]; simp
            rw [this]; exact h
        · exact h.elim
      · exact h.elim
    · rename_i k l m sz
      obtain ⟨A, n0, c, hs, hle, he⟩ : ∃ A n c, σ k = .slice A n c ∧ l + m ≤ n ∧ a.eval x = .slice (subA A c l sz) m (c - l) := hv
      split at h
      · rename_i e' n xs hW
        split at h
        · rename_i hee
          obtain ⟨rfl, rfl⟩ := hee
          have hn : n = n0 := by
            obtain ⟨hrow, _⟩ := hg.obj _ _ _ (getW_some hW)
            rcases hrow.row.2 with ⟨hv', h0⟩ | ⟨g, cap, cur, hv', _⟩
            · rw [hs] at hv'; simp at hv'; omega
            · rw [hs] at hv'; simp at hv'; exact hv'.2.1.symm
          subst hn
          refine main (k := k) (l := l) (m := m) hW hle (fun A' c' hs' => ?_) h rfl
          rw [hs] at hs'
          simp at hs'
          obtain ⟨rfl, rfl⟩ := hs'
          exact he
        · exact h.elim
      · exact h.elim
    · exact h.elim
  · exact h.elim
omit hT hg in
/- the head of a row -/
theorem owns_cut {e : TypeId} {sz sz2 : Nat} {A : Option Addr} {n c m : Nat} {xs : List Value} (h : owns w w0 e sz (.slice A n c) n xs) (hm : m ≤ n) :
    owns w w0 e sz (.slice (subA A c 0 sz2) m (c - 0)) m (cutR xs n m) ∧ (Value.slice (subA A c 0 sz2) m (c - 0)).ownBlock = (Value.slice A n c).ownBlock ∧ ∀ x ∈ cutR xs n m, x ∈ xs := by
  have hA : subA A c 0 sz2 = A := by
    unfold subA
    split
    · rfl
    · rcases h.row.2 with ⟨hv, _⟩ | ⟨g, cap, cur, hv, _⟩
      · simp at hv; rw [hv.1]; rfl
      · simp at hv; rw [hv.1]; simp [add_plain]
  rw [hA, Nat.sub_zero]
  have hcut : cutR xs n m = xs.take (m * sz) := by
    unfold cutR
    rw [h.row.1]
    rcases Nat.eq_zero_or_pos n with h0 | h0
    · have : m = 0 := by omega
      subst this; simp
    · rw [Nat.mul_div_cancel_left _ h0, Nat.mul_comm]
  have hle : m * sz ≤ n * sz := Nat.mul_le_mul_right _ hm
  have hb : (Value.slice A m c).ownBlock = (Value.slice A n c).ownBlock := by
    cases A <;> rfl
  refine ⟨⟨⟨by rw [hcut, List.length_take, h.row.1]; omega, ?_⟩, fun g hg => h.nw g (by rw [← hb]; exact hg)⟩, hb, fun x hx => by rw [hcut] at hx; exact List.mem_of_mem_take hx⟩
  rcases h.row.2 with ⟨hv, h0⟩ | ⟨g, cap, cur, hv, k0, k1, k2, k3, k4, k5⟩
  · have : m = 0 := by omega
    subst this
    simp at hv
    obtain ⟨rfl, _, rfl⟩ := hv
    exact .inl ⟨rfl, rfl⟩
  · simp at hv
    obtain ⟨rfl, rfl⟩ := hv
    refine .inr ⟨g, c, cur, rfl, k0, k1, by omega, k3, k4, ?_⟩
    rw [hcut, ← k5, List.take_take]
    congr 1
    omega
end
end Go.Vc

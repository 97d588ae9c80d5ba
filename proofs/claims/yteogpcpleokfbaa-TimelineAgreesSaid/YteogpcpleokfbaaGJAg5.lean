/- The builtin clear on a row of the call's own, or on a part of one. -/
import Derived.Test.YteogpcpleokfbaaGJAg4
import Derived.Lib.SliceRun
import Derived.Lib.Walk
set_option linter.unusedSectionVars false
set_option linter.unusedSimpArgs false
set_option linter.unusedVariables false
namespace Go.Vc
open Go Go.RowKit
section
variable {P : Program} {w : World}
/- what storing a run of cells does to the memory -/
structure Stored (w w' : World) (g : Nat) (e : TypeId) (cur cur' : Array Value) : Prop where
  os : w'.os = w.os
  tape : w'.tape = w.tape
  output : w'.output = w.output
  size : w'.heap.size = w.heap.size
  block : ∀ k, k ≠ g → w'.heap[k]? = w.heap[k]?
  here : w'.heap[g]? = some (.cells cur' e (0, 0))
  drawn : w.drawn ≤ w'.drawn
theorem stored_setCell {g o : Nat} {e : TypeId} {cur : Array Value} {v : Value} (h : w.heap[g]? = some (.cells cur e (0, 0))) : Stored w (w.setCell ⟨g, o, none⟩ v) g e cur (cur.setIfInBounds o v) := by
  have hlt : g < w.heap.size := (Array.getElem?_eq_some_iff.1 h).1
  refine ⟨rfl, rfl, rfl, by simp [World.setCell], fun k hk => ?_, ?_, Nat.le_refl _⟩
  · simp only [World.setCell, Array.getElem?_modify]
    rw [if_neg (by simpa using fun e => hk e.symm)]
  · simp only [World.setCell, Array.getElem?_modify]
    rw [if_pos trivial, h]
    simp
theorem stored_setCells {g : Nat} {e : TypeId} : ∀ (vs : List Value) (o : Nat) (w : World) (cur : Array Value), w.heap[g]? = some (.cells cur e (0, 0)) → o + vs.length ≤ cur.size →
    ∃ cur', Stored w (w.setCells g o vs) g e cur cur' ∧ cur'.toList = cur.toList.take o ++ (vs ++ cur.toList.drop (o + vs.length))
  | [], o, w, cur, h, hl => ⟨cur, ⟨rfl, rfl, rfl, rfl, fun _ _ => rfl, h, Nat.le_refl _⟩, by simp⟩
  | v :: r, o, w, cur, h, hl => by
    simp only [List.length_cons] at hl
    have h1 := stored_setCell (o := o) (v := v) h
    obtain ⟨cur', h2, h3⟩ := stored_setCells r (o + 1) _ _ h1.here (by simp; omega)
    refine ⟨cur', ⟨h2.os.trans h1.os, h2.tape.trans h1.tape, h2.output.trans h1.output, h2.size.trans h1.size, fun k hk => (h2.block k hk).trans (h1.block k hk), h2.here, Nat.le_trans h1.drawn h2.drawn⟩, ?_⟩
    rw [h3]
    have hlt : o < cur.toList.length := by simp; omega
    simp only [Array.toList_setIfInBounds, List.length_cons]
    rw [List.take_set, List.drop_set_of_lt (by omega), show o + 1 + r.length = o + (r.length + 1) by omega]
    rw [List.take_add_one, List.getElem?_eq_getElem hlt]
    have hm : min o cur.size = o := by omega
    simp [List.set_append, List.length_take, hm]
theorem Stored.trans {w w1 w2 : World} {g : Nat} {e : TypeId} {c c1 c2 : Array Value} (h : Stored w w1 g e c c1) (h' : Stored w1 w2 g e c1 c2) : Stored w w2 g e c c2 :=
  ⟨h'.os.trans h.os, h'.tape.trans h.tape, h'.output.trans h.output, h'.size.trans h.size, fun k hk => (h'.block k hk).trans (h.block k hk), h'.here, Nat.le_trans h.drawn h'.drawn⟩
theorem Stored.drew {w : World} {g : Nat} {e : TypeId} {c : Array Value} (h : w.heap[g]? = some (.cells c e (0, 0))) : Stored w w.drew g e c c := ⟨rfl, rfl, rfl, rfl, fun _ _ => rfl, h, Nat.le_succ _⟩
/- clear on a run of cells -/
theorem run_clear {t e ty : TypeId} {z : Value} (ht : P.underlying t = some (.slice e)) (hv : ∀ w, (zeroValue e).run P w = .ok z w) (h1 : ∀ x ∈ z.cells.toList, x.oneCell' = true) {g : Nat} {cur : Array Value} {e' : TypeId}
    (h : w.heap[g]? = some (.cells cur e' (0, 0))) {o n c : Nat} (hn : 0 < n) (hl : o + n * z.cells.size ≤ cur.size) :
    (Builtin.clear_ #[t] ty #[.slice (some ⟨g, o, none⟩) n c]).run P w = .ok (.tuple #[]) (w.setCells g o (Builtin.zeroCells z.cells n).toList) := by
  have hzs : (Builtin.zeroCells z.cells n).toList.length = n * z.cells.size := by simp [Builtin.zeroCells]
  have hst := run_storeCells_cells (P := P) g o (Builtin.zeroCells z.cells n).toList 0 w (fun j hj => by
      rw [hzs] at hj
      simp [World.cell?, h, show o + j < cur.size by omega])
    (fun j hj => by simp [World.frozen?, h]) (by
      intro v hv'
      simp only [Builtin.zeroCells, List.mem_map, Array.toList_map, Array.toList_range, List.mem_range] at hv'
      obtain ⟨i, hi, rfl⟩ := hv'
      have hz : 0 < z.cells.size := by
        rcases Nat.eq_zero_or_pos z.cells.size with h0 | h0
        · rw [h0] at hi; simp at hi
        · exact h0
      have hm := Nat.mod_lt i hz
      rw [getElem!_pos z.cells _ hm]
      exact h1 _ (by simp))
  simp only [Nat.add_zero] at hst
  obtain ⟨m, rfl⟩ : ∃ m, n = m + 1 := ⟨n - 1, by omega⟩
  simp [Builtin.clear_, run_underlying ht, hv, hst]
end

section
variable {P : Program} {Γ : Tab} {w0 : W0} {w : World} {H0 : Heap} {st : St} {a : Act} {ρ : Nat → Nat} {σ : Nat → Value}
variable (hT : TabOK P Γ) (hg : Good P w0 H0 st a w ρ σ)
theorem run_clear_none {t e ty : TypeId} (ht : P.underlying t = some (.slice e)) {A : Option Addr} {n c : Nat} (h : A = none ∨ n = 0) :
    (Builtin.clear_ #[t] ty #[.slice A n c]).run P w = .ok (.tuple #[]) w := by
  rcases h with rfl | rfl
  · simp [Builtin.clear_, run_underlying ht]
  · cases A <;> simp [Builtin.clear_, run_underlying ht]
theorem zeroCells_repl {z : Value} {zs : List Value} {n sz : Nat} (hz : z.cells = ⟨zs⟩) (hl : zs.length = sz) : (Builtin.zeroCells z.cells n).toList = repl zs n := by
  have h := range_repl zs n sz hl
  subst hl
  rw [← h]
  simp only [Builtin.zeroCells, hz]
  simp
include hT hg in
theorem clear_sound {dst : Option Tmp} {t ty e : TypeId} {i j : TyI} {x : Operand} {xv : SV} {pos : String} {after : Array Edge} {gd : Option (Nat × Bool)} {K : St → Prop}
    (hi : Γ t = some i) (hty : i.ty = .slice e) (hj : Γ e = some j) (hx : ev st x = some xv) (h : vcClear st dst e j xv K) :
    EfOK P w0 H0 st a w ρ ⟨dst, .call { callee := .builtin .clear, args := #[x], argTypes := #[t] }, ty, pos, after, gd⟩ K := by
  have hu := (hT _ _ hi).und
  rw [hty] at hu
  have hTj := hT _ _ hj
  have hv := ev_rel hg hx
  obtain ⟨inf, z, i1, i2, i3, i4, i5⟩ := hTj.info
  have hz : ∀ w, (zeroValue e).run P w = .ok z w := fun w => by simp [zeroValue, typeInfo, i1, i4]
  have hzl := hTj.zlen
  have hone : ∀ x ∈ z.cells.toList, x.oneCell' = true := by rw [i5]; exact hTj.zone
  have main : ∀ {k n l m : Nat} {xs : List Value}, getW st k = some (.row e n xs) → l + m ≤ n → (∀ A c, σ k = .slice A n c → a.eval x = .slice (subA A c l j.size) m (c - l)) →
      K (Vc.setL st k (.row e n (splice xs (l * j.size) (repl j.zero m)))) → dst = none → EfOK P w0 H0 st a w ρ ⟨dst, .call { callee := .builtin .clear, args := #[x], argTypes := #[t] }, ty, pos, after, gd⟩ K := by
    intro k n l m xs hW hle hev hK hd
    subst hd
    have hL := getW_some hW
    obtain ⟨hrow, hx1, hfree⟩ := hg.obj _ _ _ hL
    have hxl : xs.length = n * j.size := by rw [hrow.row.1, hTj.cellsOf]
    have hrl : (repl j.zero m).length = m * j.size := by rw [repl_length, hzl]
    have hlm : l * j.size + m * j.size ≤ n * j.size := by rw [← Nat.add_mul]; exact Nat.mul_le_mul_right _ hle
    have none_case : m = 0 ∨ (∃ c, σ k = .slice none n c) → EfOK P w0 H0 st a w ρ ⟨none, .call { callee := .builtin .clear, args := #[x], argTypes := #[t] }, ty, pos, after, gd⟩ K := by
      intro hc
      have hm : m = 0 := by
        rcases hc with h | ⟨c, hc⟩
        · exact h
        · rcases hrow.row.2 with ⟨_, h0⟩ | ⟨g, cap, cur, hv', _⟩
          · omega
          · rw [hc] at hv'; simp at hv'
      subst hm
      have he : splice xs (l * j.size) (repl j.zero 0) = xs := by simp [splice, repl, List.take_append_drop]
      rw [he] at hK
      have hst : Vc.setL st k (.row e n xs) = st := by
        have : st.L.set k (some (true, .row e n xs)) = st.L := by
          obtain ⟨hlt, h1⟩ := List.getElem?_eq_some_iff.1 hL
          rw [← h1]; simp
        simp only [Vc.setL, this]
      rw [hst] at hK
      obtain ⟨A, c, hs⟩ : ∃ A c, σ k = .slice A n c := by
        rcases hrow.row.2 with ⟨hv', h0⟩ | ⟨g, cap, cur, hv', _⟩
        · exact ⟨none, 0, by rw [hv', h0]⟩
        · exact ⟨_, _, hv'⟩
      refine ⟨.value (.tuple #[]), .tuple #[], w, st, ρ, σ, ?_, .inl rfl, hK, Keeps.refl st, hg, Goes.refl st ρ w⟩
      have := run_clear_none (P := P) (w := w) (ty := ty) hu (A := subA A c l j.size) (n := 0) (c := c - l) (.inr rfl)
      simp [execOp, resolve, invoke, builtin, hev A c hs, this]
    by_cases hm0 : m = 0
    · exact none_case (.inl hm0)
    rcases hrow.row.2 with ⟨h0, hn0⟩ | ⟨g, cap, cur, hs, hge, hb, hnc, hcm, hcs, htake⟩
    · exact none_case (.inr ⟨0, by rw [h0, hn0]⟩)
    · have hcl : l ≠ cap := by omega
      have hA : subA (some ⟨g, 0, none⟩) cap l j.size = some ⟨g, l * j.size, none⟩ := by
        unfold subA
        rw [if_neg (Ne.symm hcl)]
        simp [add_plain]
      have hob : (σ k).ownBlock = some g := by rw [hs]; rfl
      have hle2 : n * j.size ≤ cur.size := by rw [hcs, hTj.cellsOf]; exact Nat.mul_le_mul_right _ hnc
      have hzs : z.cells.size = j.size := by rw [i5]; simpa using hzl
      have hrun := run_clear (P := P) (ty := ty) hu hz hone hb (o := l * j.size) (n := m) (c := cap - l) (by omega) (by rw [hzs]; omega)
      rw [zeroCells_repl i5 hzl] at hrun
      obtain ⟨cur', hS, hc'⟩ := stored_setCells (repl j.zero m) (l * j.size) w cur hb (by rw [hrl]; omega)
      have hgr : GrB w (w.setCells g (l * j.size) (repl j.zero m)) (some g) := ⟨⟨hS.os, hS.tape, hS.output, by rw [hS.size]; exact Nat.le_refl _, fun k' hk' hne => hS.block k' (fun e => hne (by rw [e]))⟩, hS.drawn⟩
      obtain ⟨st', q1, q2, q3, q4⟩ := storeK (w' := w.setCells g (l * j.size) (repl j.zero m)) (g := g) hg hW hob (by exact hob) hK hgr (by
        have hsl : (splice xs (l * j.size) (repl j.zero m)).length = xs.length := by simp only [splice, List.length_append, List.length_take, List.length_drop, hrl]; omega
        have hcl' : cur'.toList.length = cur.size := by rw [hc']; simp only [List.length_append, List.length_take, List.length_drop, hrl, Array.length_toList]; omega
        refine ⟨⟨⟨by rw [hsl, hrow.row.1], .inr ⟨g, cap, cur', hs, hge, hS.here, hnc, hcm, by rw [← hcs, ← hcl']; simp, ?_⟩⟩, hrow.nw⟩, ?_, hfree⟩
        · rw [hc', ← List.append_assoc]
          simp only [splice, hrl]
          have hk : l * j.size + m * j.size ≤ n * P.cellsOf e := by rw [hTj.cellsOf]; omega
          have hk2 : n * P.cellsOf e ≤ cur.size := by rw [hTj.cellsOf]; omega
          have hcl : cur.toList.length = cur.size := by simp
          rw [← htake, List.take_append, List.take_append]
          simp only [List.length_append, List.length_take, hcl, hrl]
          rw [List.take_take, List.take_take, List.drop_take]
          have e1 : min (n * P.cellsOf e) (l * j.size) = l * j.size := by omega
          have e2 : min (l * j.size) (n * P.cellsOf e) = l * j.size := by omega
          have e3 : min (l * j.size) cur.size = l * j.size := by omega
          rw [e1, e2, e3, List.take_of_length_le (by rw [hrl]; omega : (repl j.zero m).length ≤ n * P.cellsOf e - l * j.size)]
        · intro v hv'
          simp only [splice] at hv'
          rcases List.mem_append.1 hv' with hv' | hv'
          · rcases List.mem_append.1 hv' with hv' | hv'
            · exact hx1 v (List.mem_of_mem_take hv')
            · exact hTj.zone v (repl_mem hv')
          · exact hx1 v (List.mem_of_mem_drop hv')) (fun _ _ _ hh => hh)
      refine ⟨.value (.tuple #[]), .tuple #[], _, st', ρ, σ, ?_, .inl rfl, q1, q2, q3, q4.mono fun i hh => by simp [isBA] at hh⟩
      have he := hev _ _ hs
      rw [hA] at he
      simp [execOp, resolve, invoke, builtin, he, hrun]
  unfold vcClear at h
  split at h
  · split at h
    · rename_i k
      split at h
      · rename_i e' n xs hW
        split at h
        · rename_i he
          subst he
          have hL := getW_some hW
          obtain ⟨hrow, hx1, hfree⟩ := hg.obj _ _ _ hL
          have hxl : xs.length = n * j.size := by rw [hrow.row.1, hTj.cellsOf]
          refine main (k := k) (l := 0) (m := n) hW (by omega) (fun A c hs => ?_) ?_ rfl
          · have e1 : a.eval x = σ k := hv
            rw [e1, hs]
            congr 1
            · unfold subA
              split
              · rfl
              · cases A with
                | none => rfl
                | some ad => obtain ⟨b, o, s⟩ := ad; cases s <;> simp [Addr.add]
          · have : splice xs (0 * j.size) (repl j.zero n) = repl j.zero n := by
              simp only [splice, Nat.zero_mul, List.take_zero, List.nil_append, Nat.zero_add, repl_length, hzl]
              rw [List.drop_of_length_le (by omega)]; simp
            rw [this]; exact h
        · exact h.elim
      · exact h.elim
    · rename_i k l m sz
      obtain ⟨A, n0, c, hs, hle, he⟩ : ∃ A n c, σ k = .slice A n c ∧ l + m ≤ n ∧ a.eval x = .slice (subA A c l sz) m (c - l) := hv
      split at h
      · rename_i e' n xs hW
        split at h
        · rename_i hee
          obtain ⟨rfl, rfl⟩ := hee
          have hn : n = n0 := by
            obtain ⟨hrow, _⟩ := hg.obj _ _ _ (getW_some hW)
            rcases hrow.row.2 with ⟨hv', h0⟩ | ⟨g, cap, cur, hv', _⟩
            · rw [hs] at hv'; simp at hv'; omega
            · rw [hs] at hv'; simp at hv'; exact hv'.2.1.symm
          subst hn
          refine main (k := k) (l := l) (m := m) hW hle (fun A' c' hs' => ?_) h rfl
          rw [hs] at hs'
          simp at hs'
          obtain ⟨rfl, rfl⟩ := hs'
          exact he
        · exact h.elim
      · exact h.elim
    · exact h.elim
  · exact h.elim
omit hT hg in
/- the head of a row -/
theorem owns_cut {e : TypeId} {sz sz2 : Nat} {A : Option Addr} {n c m : Nat} {xs : List Value} (h : owns w w0 e sz (.slice A n c) n xs) (hm : m ≤ n) :
    owns w w0 e sz (.slice (subA A c 0 sz2) m (c - 0)) m (cutR xs n m) ∧ (Value.slice (subA A c 0 sz2) m (c - 0)).ownBlock = (Value.slice A n c).ownBlock ∧ ∀ x ∈ cutR xs n m, x ∈ xs := by
  have hA : subA A c 0 sz2 = A := by
    unfold subA
    split
    · rfl
    · rcases h.row.2 with ⟨hv, _⟩ | ⟨g, cap, cur, hv, _⟩
      · simp at hv; rw [hv.1]; rfl
      · simp at hv; rw [hv.1]; simp [add_plain]
  rw [hA, Nat.sub_zero]
  have hcut : cutR xs n m = xs.take (m * sz) := by
    unfold cutR
    rw [h.row.1]
    rcases Nat.eq_zero_or_pos n with h0 | h0
    · have : m = 0 := by omega
      subst this; simp
    · rw [Nat.mul_div_cancel_left _ h0, Nat.mul_comm]
  have hle : m * sz ≤ n * sz := Nat.mul_le_mul_right _ hm
  have hb : (Value.slice A m c).ownBlock = (Value.slice A n c).ownBlock := by
    cases A <;> rfl
  refine ⟨⟨⟨by rw [hcut, List.length_take, h.row.1]; omega, ?_⟩, fun g hg => h.nw g (by rw [← hb]; exact hg)⟩, hb, fun x hx => by rw [hcut] at hx; exact List.mem_of_mem_take hx⟩
  rcases h.row.2 with ⟨hv, h0⟩ | ⟨g, cap, cur, hv, k0, k1, k2, k3, k4, k5⟩
  · have : m = 0 := by omega
    subst this
    simp at hv
    obtain ⟨rfl, _, rfl⟩ := hv
    exact .inl ⟨rfl, rfl⟩
  · simp at hv
    obtain ⟨rfl, rfl⟩ := hv
    refine .inr ⟨g, c, cur, rfl, k0, k1, by omega, k3, k4, ?_⟩
    rw [hcut, ← k5, List.take_take]
    congr 1
    omega
end
end Go.Vc
/- Results of calls: laid into the abstract state. -/
namespace Go.Vc
open Go Go.RowKit

structure RowIn (P : Program) (w0 : W0) (w : World) (H : Heap) (r : NRow) : Prop where
  own : owns w w0 r.e (P.cellsOf r.e) r.s r.n r.xs
  one : ∀ x ∈ r.xs, x.oneCell' = true
  free : ∀ g, r.s.ownBlock = some g → ∀ o, H g o = none
section
variable {P : Program} {Γ : Tab} {w0 : W0} {w w' : World} {H0 H' : Heap} {st : St} {a : Act} {ρ : Nat → Nat} {σ : Nat → Value}
theorem ownsRow_form {base : Nat} {e : TypeId} {size : Nat} {v : Value} {n : Nat} {xs : List Value} (h : w.ownsRow base e size v n xs) : ∃ A m c, v = .slice A m c := by
  rcases h.2 with ⟨hv, _⟩ | ⟨g, cap, cur, hv, _⟩
  · exact ⟨_, _, _, hv⟩
  · exact ⟨_, _, _, hv⟩
/- a row that is in the world already, in no block of another object -/
theorem Good.addRow (hg : Good P w0 H0 st a w ρ σ) {d : Nat} (hf : fresh? st d = true) {r : NRow} (hr : RowIn P w0 w st.H r)
    (hsep : ∀ i f o g, st.L[i]? = some (some (f, o)) → blk ρ σ i o = some g → r.s.ownBlock ≠ some g) (hop : ∀ g, r.s.ownBlock = some g → st.O g = none) :
    Good P w0 H0 (Vc.setL st d (.row r.e r.n r.xs)) a w ρ (upd σ d r.s) := by
  have hn := fresh?_some hf
  have hlt : d < st.L.length := (List.getElem?_eq_some_iff.1 hn).1
  have hnr := hg.nr d hn
  refine Good.step hg _ d (.row r.e r.n r.xs) r.s.ownBlock (set_get hlt) (fun i hi => .inl ?_) (.inr ⟨hnr, fun _ _ => rfl, fun i hi => upd_ne _ _ hi⟩)
    (GrB.refl w _) (fun g h => ⟨(hr.own.lt g h).1, hr.free g h⟩) hop (fun i f o g hi h hb => ?_) ?_ ?_ (fun _ _ _ _ hh => hh) ?_
  · rw [List.getElem?_set_ne (Ne.symm hi)]
  · rw [List.getElem?_set_ne (Ne.symm hi)] at h
    exact hsep i f o g h hb
  · simp only [ObjOK, upd_same]
    exact ⟨hr.own, hr.one, hr.free⟩
  · intro g hb
    simp only [blk, upd_same] at hb
    exact .inr hb
  · intro i
    by_cases hi : i = d
    · subst hi; rw [upd_same]; exact ownsRow_form hr.own.row
    · rw [upd_ne _ _ hi]; exact hg.sl i

def SepR (st : St) (ρ : Nat → Nat) (σ : Nat → Value) (nr : List NRow) : Prop :=
  (∀ r ∈ nr, ∀ i f o g, st.L[i]? = some (some (f, o)) → blk ρ σ i o = some g → r.s.ownBlock ≠ some g) ∧ ∀ r ∈ nr, ∀ g, r.s.ownBlock = some g → st.O g = none
/- relations carried over the addition of objects under fresh numbers -/
def Carry (st : St) (σ σ' : Nat → Value) : Prop := ∀ i, st.L[i]? ≠ some none → σ' i = σ i
def noFresh1 (st : St) (c : S1) : Prop := ∀ d, st.L[d]? = some none → ¬ c.refs d
def noFreshL (st : St) (cs : List S1) : Prop := ∀ d, st.L[d]? = some none → ¬ refsL d cs
def Olds (st st' : St) : Prop := ∀ i : Nat, st.L[i]? ≠ some none → st'.L[i]? = st.L[i]?
theorem Olds.refl (st : St) : Olds st st := fun _ _ => rfl
theorem Carry.refl (st : St) (σ : Nat → Value) : Carry st σ σ := fun _ _ => rfl
theorem S1.rel_carry {σ' : Nat → Value} (h : Carry st σ σ') {c : S1} (hn : noFresh1 st c) {y : Value} (hr : c.rel ρ σ y) : c.rel ρ σ' y := by
  cases c <;> simp only [S1.rel] at hr ⊢ <;> try exact hr
  case oelt i j =>
    have := h i (fun e => hn i e rfl)
    rw [this]; exact hr
  case own i =>
    have := h i (fun e => hn i e rfl)
    rw [this]; exact hr
  case sub i l m sz =>
    have := h i (fun e => hn i e rfl)
    rw [this]; exact hr
  case pin i s =>
    have := h i (fun e => hn i e rfl)
    rw [this]; exact hr
theorem relL_carry {σ' : Nat → Value} (h : Carry st σ σ') : ∀ {cs : List S1} {ys : List Value}, noFreshL st cs → relL ρ σ cs ys → relL ρ σ' cs ys
  | [], [], _, _ => trivial
  | c :: _, _ :: _, hn, hr => ⟨S1.rel_carry h (fun d hd hh => hn d hd ⟨c, by simp, hh⟩) hr.1, relL_carry h (fun d hd ⟨x, hx, hh⟩ => hn d hd ⟨x, by simp [hx], hh⟩) hr.2⟩
  | [], _ :: _, _, hr => hr.elim
  | _ :: _, [], _, hr => hr.elim

theorem allL_sound : ∀ {ls : List Leaf} {R : Type} {p : PostL ls R} {st : St} {σ : Nat → Value} {K : List S1 → St → R → Prop} {K2 : List Value → List NRow → R → Prop} {nr : List NRow},
    Good P w0 H0 st a w ρ σ → allL ls p st K → exL ls p nr K2 → (∀ r ∈ nr, RowIn P w0 w st.H r) → apartRows nr → SepR st ρ σ nr →
    ∃ (cs : List S1) (st' : St) (q : R) (nr' : List NRow) (vs : List Value) (σ' : Nat → Value), K cs st' q ∧ K2 vs nr' q ∧ Good P w0 H0 st' a w ρ σ' ∧ relL ρ σ' cs vs ∧ Keeps [] st st' ∧ noFreshL st' cs ∧ (∀ d : Nat, st'.L[d]? = some none → st.L[d]? = some none) ∧
      Carry st σ σ' ∧ st'.H = st.H ∧ Olds st st' ∧ (∀ r ∈ nr', RowIn P w0 w st'.H r) ∧ apartRows nr' ∧ SepR st' ρ σ' nr'
  | [], R, p, st, σ, K, K2, nr, hg, h, h2, h3, h4, h5 =>
    ⟨[], st, p, nr, [], σ, h, h2, hg, trivial, Keeps.refl st, fun d _ ⟨x, hx, _⟩ => by simp at hx, fun _ h => h, Carry.refl st σ, rfl, Olds.refl st, h3, h4, h5⟩
  | l :: ls, R, p, st, σ, K, K2, nr, hg, h, h2, h3, h4, h5 => by
    have plainK : ∀ {p' : PostL ls R} (c : S1) (v : Value), (∀ ρ σ, S1.rel ρ σ c v) → (∀ d, ¬ c.refs d) → allL ls p' st (fun cs st q => K (c :: cs) st q) → exL ls p' nr (fun vs nr q => K2 (v :: vs) nr q) →
        ∃ (cs : List S1) (st' : St) (q : R) (nr' : List NRow) (vs : List Value) (σ' : Nat → Value), K cs st' q ∧ K2 vs nr' q ∧ Good P w0 H0 st' a w ρ σ' ∧ relL ρ σ' cs vs ∧ Keeps [] st st' ∧ noFreshL st' cs ∧ (∀ d : Nat, st'.L[d]? = some none → st.L[d]? = some none) ∧
          Carry st σ σ' ∧ st'.H = st.H ∧ Olds st st' ∧ (∀ r ∈ nr', RowIn P w0 w st'.H r) ∧ apartRows nr' ∧ SepR st' ρ σ' nr' := by
      intro p' c v hr hn ha he
      obtain ⟨cs, st', q, nr', vs, σ', k1, k2, k3, k4, k5, k6, k7, k8, k9, k10⟩ := allL_sound hg ha he h3 h4 h5
      refine ⟨c :: cs, st', q, nr', v :: vs, σ', k1, k2, k3, ⟨hr _ _, k4⟩, k5, ?_, k7, k8, k9, k10⟩
      rintro d hd ⟨x, hx, hh⟩
      rcases List.mem_cons.1 hx with rfl | hx
      · exact hn d hh
      · exact k6 d hd ⟨x, hx, hh⟩
    cases l with
    | int k => obtain ⟨n, h2⟩ := h2; exact plainK (.v (.int k n)) _ (fun _ _ => rfl) (fun _ hh => hh) (h n) h2
    | bool => obtain ⟨n, h2⟩ := h2; exact plainK (.b n) _ (fun _ _ => rfl) (fun _ hh => hh) (h n) h2
    | str => obtain ⟨n, h2⟩ := h2; exact plainK (.v (.string n)) _ (fun _ _ => rfl) (fun _ hh => hh) (h n) h2
    | sl => obtain ⟨A, n, c, h2⟩ := h2; exact plainK (.v (.slice A n c)) _ (fun _ _ => rfl) (fun _ hh => hh) (h A n c) h2
    | mp => obtain ⟨A, h2⟩ := h2; exact plainK (.v (.map A)) _ (fun _ _ => rfl) (fun _ hh => hh) (h A) h2
    | val => obtain ⟨v, _, h2⟩ := h2; exact plainK (.v v) _ (fun _ _ => rfl) (fun _ hh => hh) (h v) h2
    | cells => exact h.elim
    | row i e =>
      obtain ⟨r, nr1, rfl, rfl, h2⟩ := h2
      simp only [allL] at h
      split at h
      · rename_i hf
        have hn := fresh?_some hf
        have hlt := fresh_lt hf
        have hg1 := hg.addRow hf (h3 r (by simp)) (h5.1 r (by simp)) (h5.2 r (by simp))
        have hsep1 : SepR (Vc.setL st i (.row r.e r.n r.xs)) ρ (upd σ i r.s) nr1 := by
          refine ⟨fun r' hr' j f o g hj hb => ?_, fun r' hr' => h5.2 r' (by simp [hr'])⟩
          by_cases hji : j = i
          · subst hji
            simp only [Vc.setL] at hj
            rw [set_get hlt] at hj
            simp at hj
            obtain ⟨_, rfl⟩ := hj
            simp only [blk, upd_same] at hb
            exact fun hh => (List.pairwise_cons.1 h4).1 r' hr' g hb hh
          · rw [setL_keeps_other hji] at hj
            refine h5.1 r' (by simp [hr']) j f o g hj ?_
            cases o <;> simp only [blk] at hb ⊢ <;> try exact hb
            rw [upd_ne _ _ hji] at hb; exact hb
        obtain ⟨cs, st', q, nr', vs, σ', k1, k2, k3, k4, k5, k6, k7, k8, k9, k10⟩ := allL_sound hg1 (h r.n r.xs) h2 (fun r' hr' => h3 r' (by simp [hr'])) (List.pairwise_cons.1 h4).2 hsep1
        refine ⟨.own i :: cs, st', q, nr', r.s :: vs, σ', k1, k2, k3, ⟨?_, k4⟩, (Keeps.setL_fresh hf).trans k5, ?_, ?_, ?_, k9, ?_, k10.2⟩
        · show r.s = σ' i
          rw [k8 i (by simp only [Vc.setL]; rw [set_get hlt]; simp), upd_same]
        · rintro d hd ⟨x, hx, hh⟩
          rcases List.mem_cons.1 hx with rfl | hx
          · have hid : i = d := hh
            subst hid
            have := k7 i hd
            simp only [Vc.setL] at this
            rw [set_get hlt] at this
            simp at this
          · exact k6 d hd ⟨x, hx, hh⟩
        · intro d hd
          exact (set_none (k7 d hd) hlt).2
        · intro j hj
          have hji : j ≠ i := fun e => hj (e ▸ hn)
          rw [k8 j (by rw [setL_keeps_other hji]; exact hj), upd_ne _ _ hji]
        · intro j hj
          have hji : j ≠ i := fun e => hj (e ▸ hn)
          rw [k10.1 j (by rw [setL_keeps_other hji]; exact hj), setL_keeps_other hji]
      · exact h.elim
def noFreshT (st : St) (r : List (Bool × List S1)) : Prop := ∀ d, st.L[d]? = some none → ∀ x ∈ r, ¬ refsL d x.2
theorem relT_carry {σ' : Nat → Value} (h : Carry st σ σ') {g : Bool} {cs : List S1} {v : Value} (hn : noFreshL st cs) (hr : relT ρ σ [(g, cs)] [v]) : relT ρ σ' [(g, cs)] [v] := by
  cases g
  · exact ⟨relL_carry h hn hr.1, trivial⟩
  · obtain ⟨⟨zs, e, hz⟩, _⟩ := hr
    exact ⟨⟨zs, e, relL_carry h hn hz⟩, trivial⟩
theorem relT_cons {x : Bool × List S1} {r : List (Bool × List S1)} {v : Value} {us : List Value} (h : relT ρ σ [x] [v]) (hr : relT ρ σ r us) : relT ρ σ (x :: r) (v :: us) := by
  obtain ⟨g, cs⟩ := x
  cases g
  · exact ⟨h.1, hr⟩
  · exact ⟨h.1, hr⟩
theorem allR_sound : ∀ {ps : List (Bool × List Leaf)} {R : Type} {p : PostR ps R} {st : St} {σ : Nat → Value} {K : List (Bool × List S1) → St → R → Prop} {K2 : List Value → List NRow → R → Prop} {nr : List NRow},
    Good P w0 H0 st a w ρ σ → allR ps p st K → exR ps p nr K2 → (∀ r ∈ nr, RowIn P w0 w st.H r) → apartRows nr → SepR st ρ σ nr →
    ∃ (r : List (Bool × List S1)) (st' : St) (q : R) (nr' : List NRow) (us : List Value) (σ' : Nat → Value), K r st' q ∧ K2 us nr' q ∧ Good P w0 H0 st' a w ρ σ' ∧ relT ρ σ' r us ∧ Keeps [] st st' ∧ noFreshT st' r ∧ (∀ d : Nat, st'.L[d]? = some none → st.L[d]? = some none) ∧
      Carry st σ σ' ∧ st'.H = st.H ∧ Olds st st'
  | [], R, p, st, σ, K, K2, nr, hg, h, h2, h3, h4, h5 =>
    ⟨[], st, p, nr, [], σ, h, h2, hg, trivial, Keeps.refl st, fun d _ x hx => by simp at hx, fun _ h => h, Carry.refl st σ, rfl, Olds.refl st⟩
  | (g, ls) :: ps, R, p, st, σ, K, K2, nr, hg, h, h2, h3, h4, h5 => by
    obtain ⟨cs, st1, q1, nr1, vs, σ1, k1, ⟨v, hv, k2⟩, k3, k4, k5, k6, k7, k8, k9, k13, k10, k11, k12⟩ := allL_sound hg h h2 h3 h4 h5
    obtain ⟨r, st', q, nr', us, σ', j1, j2, j3, j4, j5, j6, j7, j8, j9, j10⟩ := allR_sound k3 k1 k2 k10 k11 k12
    refine ⟨(g, cs) :: r, st', q, nr', v :: us, σ', j1, j2, j3, relT_cons ?_ j4, k5.trans j5, ?_, fun d hd => k7 d (j7 d hd), ?_, j9.trans k9, ?_⟩
    · have hvv : relT ρ σ1 [(g, cs)] [v] := by
        cases g with
        | true =>
          simp [mkV] at hv; subst hv
          exact ⟨⟨⟨vs⟩, rfl, k4⟩, trivial⟩
        | false =>
          match vs, hv with
          | [x], hv =>
            simp [mkV] at hv; subst hv
            exact ⟨k4, trivial⟩
      exact relT_carry j8 k6 hvv
    · intro d hd x hx
      rcases List.mem_cons.1 hx with rfl | hx
      · exact k6 d (j7 d hd)
      · exact j6 d hd x hx
    · intro i hi
      rw [j8 i (fun e => hi (k7 i e)), k8 i hi]
    · intro i hi
      rw [j10 i (fun e => hi (k7 i e)), k13 i hi]
/- the result of a call, into its slot -/
theorem vcRes_sound (hg : Good P w0 H0 st a w ρ σ) {sh : RSh} {d : Option Tmp} {r : List (Bool × List S1)} {K : St → Prop} (h : vcRes sh d r st K) {us : List Value} {v : Value}
    (hr : relT ρ σ r us) (hn : noFreshT st r) (hv : if sh.tup then v = .tuple ⟨us⟩ else us = [v]) : ∃ st', K st' ∧ Keeps d.toList st st' ∧ Good P w0 H0 st' (a.put d v) w ρ σ ∧ st'.L = st.L := by
  unfold vcRes at h
  split at h
  · rename_i x hx
    refine ⟨_, h, Keeps.setS st d x, Good.setS hg d ?_ ?_, by cases d <;> rfl⟩
    · cases htup : sh.tup with
      | true =>
        rw [htup] at hx hv
        simp [mkRes] at hx; subst hx
        simp at hv; subst hv
        exact ⟨⟨us⟩, rfl, hr⟩
      | false =>
        rw [htup] at hx hv
        simp at hv; subst hv
        match r, hx, hr with
        | [(g, cs)], hx, hr =>
          simp only [mkRes] at hx
          cases g with
          | true =>
            simp [mkSV] at hx; subst hx
            exact hr.1
          | false =>
            match cs, hx, hr with
            | [c], hx, hr =>
              simp [mkSV] at hx; subst hx
              exact hr.1.1
    · intro d' hd'
      cases htup : sh.tup with
      | true =>
        rw [htup] at hx
        simp [mkRes] at hx; subst hx
        rintro ⟨x, hx, hh⟩
        exact hn d' hd' x hx hh
      | false =>
        rw [htup] at hx
        match r, hx, hn with
        | [(g, cs)], hx, hn =>
          simp only [mkRes] at hx
          cases g with
          | true =>
            simp [mkSV] at hx; subst hx
            exact hn d' hd' (true, cs) (by simp)
          | false =>
            match cs, hx, hn with
            | [c], hx, hn =>
              simp [mkSV] at hx; subst hx
              exact fun hh => hn d' hd' (false, [c]) (by simp) ⟨c, by simp, hh⟩
  · exact h.elim
end
end Go.Vc
/- Objects that die; rows given out; a box that is handed to a call. -/
namespace Go.Vc
open Go Go.RowKit

def isDead (st : St) (k : Nat) : Prop := st.L[k]? = some (some (true, .dead))
structure Dies (st st' : St) : Prop where
  fr : st'.fr = st.fr
  H : st'.H = st.H
  O : st'.O = st.O
  ll : st'.L.length = st.L.length
  L : ∀ k : Nat, st'.L[k]? = st.L[k]? ∨ (isDead st' k ∧ ∃ e n xs, st.L[k]? = some (some (true, .row e n xs)))
theorem Dies.refl (st : St) : Dies st st := ⟨rfl, rfl, rfl, rfl, fun _ => .inl rfl⟩
theorem Dies.keeps {st st' : St} (h : Dies st st') {k : Nat} (hd : isDead st k) : isDead st' k := by
  rcases h.L k with h | ⟨h, _⟩
  · unfold isDead at *; rw [h]; exact hd
  · exact h
theorem Dies.trans {st st' st'' : St} (h : Dies st st') (h' : Dies st' st'') : Dies st st'' := by
  refine ⟨h'.fr.trans h.fr, h'.H.trans h.H, h'.O.trans h.O, h'.ll.trans h.ll, fun k => ?_⟩
  rcases h'.L k with h1 | ⟨h1, e, n, xs, h2⟩
  · rcases h.L k with h2 | ⟨h2, h3⟩
    · exact .inl (h1.trans h2)
    · exact .inr ⟨by unfold isDead at *; rw [h1]; exact h2, h3⟩
  · rcases h.L k with h3 | ⟨h3, h4⟩
    · exact .inr ⟨h1, e, n, xs, by rw [← h3]; exact h2⟩
    · exact .inr ⟨h1, h4⟩
theorem Dies.ro {st st' : St} (h : Dies st st') {k : Nat} {o : LObj} (hk : st.L[k]? = some (some (false, o))) : st'.L[k]? = some (some (false, o)) := by
  rcases h.L k with h1 | ⟨_, e, n, xs, h2⟩
  · rw [h1]; exact hk
  · rw [hk] at h2; simp at h2
theorem Dies.back {st st' : St} (h : Dies st st') {k : Nat} {f : Bool} {o : LObj} (hk : st'.L[k]? = some (some (f, o))) (ho : o ≠ .dead) : st.L[k]? = some (some (f, o)) := by
  rcases h.L k with h1 | ⟨h1, _⟩
  · rw [← h1]; exact hk
  · unfold isDead at h1; rw [hk] at h1; simp at h1; exact absurd h1.2 ho
theorem Dies.none {st st' : St} (h : Dies st st') {k : Nat} (hk : st'.L[k]? = some none) : st.L[k]? = some none := by
  rcases h.L k with h1 | ⟨h1, _⟩
  · rw [← h1]; exact hk
  · unfold isDead at h1; rw [hk] at h1; simp at h1
theorem Dies.box {st st' : St} (h : Dies st st') {k : Nat} {f : Bool} {o : LObj} (hk : st.L[k]? = some (some (f, o))) (ho : ∀ e n xs, o ≠ .row e n xs) : st'.L[k]? = some (some (f, o)) := by
  rcases h.L k with h1 | ⟨_, e, n, xs, h2⟩
  · rw [h1]; exact hk
  · rw [hk] at h2; simp at h2; exact absurd h2.2 (ho e n xs)
theorem Dies.kill {st : St} {k : Nat} {e : TypeId} {n : Nat} {xs : List Value} (h : getW st k = some (.row e n xs)) : Dies st (setL st k .dead) := by
  have hL := getW_some h
  have hlt : k < st.L.length := (List.getElem?_eq_some_iff.1 hL).1
  refine ⟨rfl, rfl, rfl, by simp [setL], fun j => ?_⟩
  by_cases hj : j = k
  · subst hj
    exact .inr ⟨by simp only [isDead, setL]; exact set_get hlt, e, n, xs, hL⟩
  · exact .inl (setL_keeps_other hj)
theorem takeRow_dies {st st' : St} {e : TypeId} {c : S1} {n : Nat} {xs : List Value} (h : takeRow st e c = some (n, xs, st')) : Dies st st' := by
  unfold takeRow at h
  split at h
  · split at h
    · rename_i hW
      split at h
      · simp at h
        obtain ⟨_, _, rfl⟩ := h
        exact Dies.kill hW
      · simp at h
    · simp at h
  · split at h
    · split at h
      · rename_i hW
        split at h
        · simp at h
          obtain ⟨_, _, rfl⟩ := h
          exact Dies.kill hW
        · simp at h
      · simp at h
    · simp at h
  · simp at h
    obtain ⟨_, _, rfl⟩ := h
    exact Dies.refl _
  · simp at h
theorem colL_dies : ∀ {ls : List Leaf} {R : Type} {p : PostL ls R} {cs : List S1} {st : St} {q : R} {st' : St}, colL ls p cs st = some (q, st') → Dies st st'
  | [], R, p, cs, st, q, st', h => by
    cases cs with
    | nil => simp [colL] at h; obtain ⟨_, rfl⟩ := h; exact Dies.refl _
    | cons _ _ => simp [colL] at h
  | l :: ls, R, p, cs, st, q, st', h => by
    cases cs with
    | nil => cases l <;> simp [colL] at h
    | cons c cs =>
      cases l with
      | cells => simp [colL] at h
      | row i e =>
        simp only [colL] at h
        split at h
        · rename_i n xs st1 ht
          exact (takeRow_dies ht).trans (colL_dies h)
        · simp at h
      | _ =>
        simp only [colL] at h
        split at h
        · exact colL_dies h
        · simp at h
section
variable {P : Program} {Γ : Tab} {w0 : W0} {w w' : World} {H0 H' : Heap} {st : St} {a : Act} {ρ : Nat → Nat} {σ : Nat → Value} {an : Ann}
/- flags and dead objects do not matter -/
theorem Good.alike (hg : Good P w0 H0 st a w ρ σ) {L' : List (Option Ent)} (h : ∀ (i : Nat) (f : Bool) (o : LObj), L'[i]? = some (some (f, o)) → o = .dead ∨ ∃ f', st.L[i]? = some (some (f', o))) (hn : ∀ d : Nat, L'[d]? = some none → st.L[d]? = some none) :
    Good P w0 H0 { st with L := L' } a w ρ σ := by
  refine ⟨hg.defers, hg.size, hg.fr, hg.below, hg.le, hg.old, hg.snap, fun i f o hi => ?_, fun i j f f' o o' g hij hi hj hb hb' => ?_, fun d hd => ⟨(hg.nr d (hn d hd)).fr, fun j f o hj => ?_⟩, hg.sl, fun b x hO => ⟨(hg.opn b x hO).1, fun i f o hi => ?_⟩⟩
  rotate_right
  · rcases h i f o hi with rfl | ⟨f', h1⟩
    · simp [blk]
    · exact (hg.opn b x hO).2 i f' o h1
  · rcases h i f o hi with rfl | ⟨f', h1⟩
    · trivial
    · exact hg.obj i f' o h1
  · rcases h i f o hi with rfl | ⟨f1, h1⟩
    · simp [blk] at hb
    · rcases h j f' o' hj with rfl | ⟨f2, h2⟩
      · simp [blk] at hb'
      · exact hg.sep i j f1 f2 o o' g hij h1 h2 hb hb'
  · rcases h j f o hj with rfl | ⟨f1, h1⟩
    · exact fun hh => hh
    · exact (hg.nr d (hn d hd)).obj j f1 o h1
theorem Good.dies (hg : Good P w0 H0 st a w ρ σ) {st' : St} (h : Dies st st') : Good P w0 H0 st' a w ρ σ := by
  have := hg.alike (L' := st'.L) (fun i f o hi => by
    by_cases ho : o = .dead
    · exact .inl ho
    · exact .inr ⟨f, h.back hi ho⟩) (fun d hd => h.none hd)
  have e : st' = { st with L := st'.L } := by
    cases st'; simp [← h.fr, ← h.H, ← h.O]
  rw [e]; exact this
end
section
variable {P : Program} {Γ : Tab} {w0 : W0} {w w' : World} {H0 H' : Heap} {a : Act} {ρ : Nat → Nat} {σ : Nat → Value} {an : Ann}
/- rows given out: each a row of its own of st, dead in st' -/
structure RowsOut (P : Program) (w0 : W0) (w : World) (σ : Nat → Value) (st st' : St) (nr : List NRow) : Prop where
  each : ∀ r ∈ nr, RowIn P w0 w st.H r ∧ ∀ g, r.s.ownBlock = some g → ∃ (k : Nat) (e : TypeId) (n : Nat) (xs : List Value), st.L[k]? = some (some (true, .row e n xs)) ∧ isDead st' k ∧ (σ k).ownBlock = some g
  apart : apartRows nr
theorem RowsOut.nil (st st' : St) : RowsOut P w0 w σ st st' [] := ⟨by simp, List.Pairwise.nil⟩
theorem RowsOut.append {st st1 st2 : St} (hg : Good P w0 H0 st a w ρ σ) {nr nr' : List NRow} (h : RowsOut P w0 w σ st st1 nr) (h' : RowsOut P w0 w σ st1 st2 nr') (hd : Dies st st1) (hd' : Dies st1 st2) :
    RowsOut P w0 w σ st st2 (nr ++ nr') := by
  refine ⟨fun r hr => ?_, List.pairwise_append.2 ⟨h.apart, h'.apart, fun r hr r' hr' g hgr hgr' => ?_⟩⟩
  · rcases List.mem_append.1 hr with hr | hr
    · obtain ⟨h1, h2⟩ := h.each r hr
      refine ⟨h1, fun g hg => ?_⟩
      obtain ⟨k, e, n, xs, k1, k2, k3⟩ := h2 g hg
      exact ⟨k, e, n, xs, k1, hd'.keeps k2, k3⟩
    · obtain ⟨h1, h2⟩ := h'.each r hr
      refine ⟨by rw [← hd.H]; exact h1, fun g hg => ?_⟩
      obtain ⟨k, e, n, xs, k1, k2, k3⟩ := h2 g hg
      exact ⟨k, e, n, xs, hd.back k1 (by simp), k2, k3⟩
  · obtain ⟨k, e, n, xs, k1, k2, k3⟩ := (h.each r hr).2 g hgr
    obtain ⟨k', e', n', xs', j1, j2, j3⟩ := (h'.each r' hr').2 g hgr'
    have hne : k ≠ k' := by
      rintro rfl
      unfold isDead at k2
      rw [j1] at k2
      simp at k2
    exact hg.sep k k' true true (.row e n xs) (.row e' n' xs') g hne k1 (hd.back j1 (by simp)) k3 j3
theorem takeRow_out {st st' : St} (hg : Good P w0 H0 st a w ρ σ) {e : TypeId} {c : S1} {y : Value} {n : Nat} {xs : List Value} (h : takeRow st e c = some (n, xs, st')) (hr : c.rel ρ σ y) :
    RowsOut P w0 w σ st st' [⟨y, e, n, xs⟩] := by
  unfold takeRow at h
  split at h
  · rename_i k
    split at h
    · rename_i e' n' xs' hW
      split at h
      · rename_i he
        subst he
        simp at h
        obtain ⟨rfl, rfl, rfl⟩ := h
        have hyk : y = σ k := hr
        subst hyk
        have hL := getW_some hW
        obtain ⟨q1, q2, q3⟩ := hg.obj _ _ _ hL
        refine ⟨?_, List.pairwise_singleton _ _⟩
        intro r hr
        simp at hr; subst hr
        refine ⟨⟨q1, q2, q3⟩, fun g hgb => ⟨k, e', n', xs', hL, ?_, hgb⟩⟩
        simp only [isDead, setL]
        exact set_get (List.getElem?_eq_some_iff.1 hL).1
      · simp at h
    · simp at h
  · rename_i k l m sz
    split at h
    · split at h
      · rename_i e' n' xs' hW
        split at h
        · rename_i he
          subst he
          simp at h
          obtain ⟨rfl, rfl, rfl⟩ := h
          obtain ⟨A, n0, c0, hs, hle, hy⟩ : ∃ A n c, σ k = .slice A n c ∧ 0 + m ≤ n ∧ y = .slice (subA A c 0 sz) m (c - 0) := hr
          subst hy
          have hL := getW_some hW
          obtain ⟨q1, q2, q3⟩ := hg.obj _ _ _ hL
          have hn : n' = n0 := by
            rcases q1.row.2 with ⟨hv', h0⟩ | ⟨g, cap, cur, hv', _⟩
            · rw [hs] at hv'; simp at hv'; omega
            · rw [hs] at hv'; simp at hv'; exact hv'.2.1.symm
          subst hn
          rw [hs] at q1
          obtain ⟨c1, c2, c3⟩ := owns_cut (sz2 := sz) q1 (by omega : m ≤ n')
          have hb : ∀ g, (Value.slice (subA A c0 0 sz) m (c0 - 0)).ownBlock = some g → (σ k).ownBlock = some g := fun g hg => by rw [hs, ← c2]; exact hg
          refine ⟨?_, List.pairwise_singleton _ _⟩
          intro r hr
          simp at hr; subst hr
          refine ⟨⟨c1, fun x hx => q2 x (c3 x hx), fun g hgb o => q3 g (hb g hgb) o⟩, fun g hgb => ⟨k, e', n', xs', hL, ?_, hb g hgb⟩⟩
          simp only [isDead, setL]
          exact set_get (List.getElem?_eq_some_iff.1 hL).1
        · simp at h
      · simp at h
    · simp at h
  · simp at h
    obtain ⟨rfl, rfl, rfl⟩ := h
    have hy : y = .slice none 0 0 := hr
    subst hy
    refine ⟨?_, List.pairwise_singleton _ _⟩
    intro r hr
    simp at hr; subst hr
    exact ⟨⟨owns.nil w w0 e (P.cellsOf e), by simp, by simp [Value.ownBlock]⟩, by simp [Value.ownBlock]⟩
  · simp at h
end
section
variable {P : Program} {Γ : Tab} {w0 : W0} {w w' : World} {H0 H' : Heap} {st : St} {a : Act} {ρ : Nat → Nat} {σ : Nat → Value} {an : Ann}
/- several objects of the call's own are handed on -/
structure Kills (st st1 : St) : Prop where
  fr : st1.fr = st.fr
  H : st1.H = st.H
  O : st1.O = st.O
  ll : st1.L.length = st.L.length
  L : ∀ k : Nat, st1.L[k]? = st.L[k]? ∨ (isDead st1 k ∧ ∃ o, st.L[k]? = some (some (true, o)))
theorem Kills.refl (st : St) : Kills st st := ⟨rfl, rfl, rfl, rfl, fun _ => .inl rfl⟩
theorem Dies.kills {st st1 : St} (h : Dies st st1) : Kills st st1 := ⟨h.fr, h.H, h.O, h.ll, fun k => by
  rcases h.L k with h | ⟨h1, e, n, xs, h2⟩
  · exact .inl h
  · exact .inr ⟨h1, _, h2⟩⟩
theorem Kills.set {st st1 : St} (h : Kills st st1) {i : Nat} {o : LObj} (hi : st.L[i]? = some (some (true, o))) : Kills st (Vc.setL st1 i .dead) := by
  have hlt : i < st1.L.length := by rw [h.ll]; exact (List.getElem?_eq_some_iff.1 hi).1
  refine ⟨h.fr, h.H, h.O, by simp [Vc.setL, h.ll], fun k => ?_⟩
  by_cases hk : i = k
  · subst hk
    exact .inr ⟨by simp only [isDead, Vc.setL]; exact set_get hlt, o, hi⟩
  · rcases h.L k with h1 | ⟨h1, h2⟩
    · refine .inl ?_
      simp only [Vc.setL]
      rw [List.getElem?_set_ne hk]; exact h1
    · refine .inr ⟨?_, h2⟩
      simp only [isDead, Vc.setL]
      rw [List.getElem?_set_ne hk]; exact h1
def HandS (ρ : Nat → Nat) (σ : Nat → Value) (st st1 : St) (b : Nat) : Prop := (∃ (j : Nat) (o : LObj), st.L[j]? = some (some (true, o)) ∧ isDead st1 j ∧ blk ρ σ j o = some b) ∨ st.O b ≠ none
theorem HandS.nw (hg : Good P w0 H0 st a w ρ σ) {st1 : St} {b : Nat} (h : HandS ρ σ st st1 b) : w0.nw b := by
  rcases h with ⟨j, o, h1, _, h3⟩ | h
  · exact (hg.blk_lt h1 h3).2.1
  · rcases hO : st.O b with _ | x
    · exact absurd hO h
    · exact (hg.opn b x hO).1.1
theorem Kills.live {st1 : St} (hk : Kills st st1) {j : Nat} {f : Bool} {o : LObj} (h : st1.L[j]? = some (some (f, o))) : o = .dead ∨ st.L[j]? = some (some (f, o)) := by
  rcases hk.L j with h1 | ⟨h1, _⟩
  · exact .inr (h1.symm.trans h)
  · unfold isDead at h1
    rw [h] at h1
    simp at h1
    exact .inl h1.2
theorem Kills.away (hg : Good P w0 H0 st a w ρ σ) {st1 : St} (hk : Kills st st1) {j : Nat} {f : Bool} {o : LObj} {g : Nat} (h : st1.L[j]? = some (some (f, o))) (hb : blk ρ σ j o = some g) : g < w.heap.size ∧ ¬ HandS ρ σ st st1 g := by
  have hne : o ≠ .dead := by rintro rfl; simp [blk] at hb
  rcases hk.live h with h1 | h1
  · exact absurd h1 hne
  · refine ⟨(hg.blk_lt h1 hb).1, ?_⟩
    rintro (⟨k, o', k1, k2, k3⟩ | hO)
    · have hjk : j ≠ k := by
        rintro rfl
        unfold isDead at k2
        rw [h] at k2
        simp at k2
        exact hne k2.2
      exact hg.sep j k _ _ _ _ g hjk h1 k1 hb k3
    · exact hO (hg.noOpen h1 hb)
theorem BelS.mono {g g' : Nat → Prop} (h : BelS w w' g) (hs : ∀ b, g b → g' b) : BelS w w' g' := ⟨h.os, h.tape, h.output, h.size, fun k hk hn => h.block k hk fun hh => hn (hs k hh), h.drawn⟩
theorem Good.calledS (hg : Good P w0 H0 st a w ρ σ) {st1 : St} (hk : Kills st st1) (hb : BelS w w' (HandS ρ σ st st1)) {H' : Heap} {O' : OMap} (hle : Heap.le st.H H')
    (hold : ∀ b, b < w.heap.size → ¬ HandS ρ σ st st1 b → ∀ o, H' b o = st.H b o) (hs : Snap H' w')
    (hO : ∀ b x, O' b = some x → (∃ ob, w'.heap[b]? = some ob ∧ XOb P x ob) ∧ (∀ t, XFree P x t → H' b t = none) ∧ (w.heap.size ≤ b ∨ HandS ρ σ st st1 b)) :
    Good P w0 H0 { st1 with H := H', O := O' } a w' ρ σ := by
  have hnw : ∀ {b}, (w.heap.size ≤ b ∨ HandS ρ σ st st1 b) → w0.nw b := by
    rintro b (h | h)
    · exact .inl (Nat.le_trans hg.below.size h)
    · exact h.nw hg
  refine ⟨hg.defers, by rw [hg.size]; show _ = st1.fr.length; rw [hk.fr], fun i x hx => hg.fr i x (by rw [← hk.fr]; exact hx), ⟨hb.os.trans hg.below.os, hb.tape.trans hg.below.tape, hb.output.trans hg.below.output, Nat.le_trans hg.below.size hb.size, fun k hk' hne => ?_, Nat.le_trans hg.below.drawn hb.drawn⟩, Heap.le_trans hg.le hle, fun b hbb o => ?_, hs, fun j f o h => ?_, fun j k f f' o o2 g hjk hj hk' hbj hbk => ?_, fun d hd => ?_, hg.sl, fun b x hx => ?_⟩
  · refine (hb.block k (Nat.lt_of_lt_of_le hk' hg.below.size) fun hh => ?_).trans (hg.below.block k hk' hne)
    rcases hh.nw hg with h1 | h1
    · omega
    · exact hne h1
  · exact (hold b (Nat.lt_of_lt_of_le (W0.old hbb).1 hg.below.size) (fun hh => hbb (hh.nw hg)) o).trans (hg.old b hbb o)
  · have h : st1.L[j]? = some (some (f, o)) := h
    have haw := fun g => hk.away hg (g := g) h
    rcases hk.live h with rfl | h1
    · trivial
    have ho := hg.obj j f o h1
    cases o <;> simp only [ObjOK] at ho ⊢
    case box t cs =>
      obtain ⟨ys, q1, q2, q3, q4⟩ := ho
      obtain ⟨hlt, hn⟩ := haw _ rfl
      exact ⟨ys, (hb.block _ hlt hn).trans q1, q2, q3, fun o => (hold _ hlt hn o).trans (q4 o)⟩
    case arr t xs =>
      obtain ⟨q1, q2, q3, q4⟩ := ho
      obtain ⟨hlt, hn⟩ := haw _ rfl
      exact ⟨(hb.block _ hlt hn).trans q1, q2, q3, fun o => (hold _ hlt hn o).trans (q4 o)⟩
    case row e n xs =>
      obtain ⟨q1, q2, q3⟩ := ho
      refine ⟨⟨⟨q1.row.1, ?_⟩, q1.nw⟩, q2, fun g hgb o => (hold g (haw g hgb).1 (haw g hgb).2 o).trans (q3 g hgb o)⟩
      rcases q1.row.2 with hh | ⟨g, cap, cur, hv, hle, hgc, hr⟩
      · exact .inl hh
      · obtain ⟨hlt, hn⟩ := haw g (by show (σ j).ownBlock = some g; rw [hv]; rfl)
        exact .inr ⟨g, cap, cur, hv, hle, (hb.block g hlt hn).trans hgc, hr⟩
    case pub A n c => exact ho
  · rcases hk.live hj with rfl | h1
    · simp [blk] at hbj
    · rcases hk.live hk' with rfl | h2
      · simp [blk] at hbk
      · exact hg.sep j k _ _ _ _ g hjk h1 h2 hbj hbk
  · have hd : st1.L[d]? = some none := hd
    have hd' : st.L[d]? = some none := by
      rcases hk.L d with h1 | ⟨h1, _⟩
      · exact h1.symm.trans hd
      · unfold isDead at h1; rw [hd] at h1; simp at h1
    refine ⟨fun j x hx => (hg.nr d hd').fr j x (by rw [← hk.fr]; exact hx), fun j f o hj => ?_⟩
    rcases hk.live hj with rfl | h1
    · exact fun hh => hh
    · exact (hg.nr d hd').obj j f o h1
  · obtain ⟨h1, h2, h3⟩ := hO b x hx
    refine ⟨⟨hnw h3, h1, h2⟩, fun i f o hi hbi => ?_⟩
    obtain ⟨hlt, hn⟩ := hk.away hg hi hbi
    rcases h3 with h3 | h3
    · omega
    · exact hn h3
/- a box laid into the state, in a block of the world -/
theorem Good.setBox (hg : Good P w0 H0 st a w ρ σ) {i : Nat} {t : TypeId} {cs : List S1} {ys : List Value} (hlt : i < st.L.length) (hbx : w.heap[ρ i]? = some (.cells ⟨ys⟩ t (0, 0))) (hr : relL ρ σ cs ys) (hnw : w0.nw (ρ i)) (hH : ∀ o, st.H (ρ i) o = none)
    (hO : st.O (ρ i) = none) (hsep : ∀ j f o, j ≠ i → st.L[j]? = some (some (f, o)) → blk ρ σ j o ≠ some (ρ i)) (hn : noFreshL st cs) : Good P w0 H0 (Vc.setL st i (.box t cs)) a w ρ σ := by
  refine Good.step hg _ i (.box t cs) (some (ρ i)) (set_get hlt) (fun j hj => .inl ?_) (.inl ⟨rfl, rfl⟩) (GrB.refl w _) (fun g h => ?_) (fun g h => ?_) (fun j f o g hj h hb => ?_) ?_ (fun g h => ?_) (fun d hd hdn _ => ?_) hg.sl
  · rw [List.getElem?_set_ne (Ne.symm hj)]
  · cases h; exact ⟨hnw, hH⟩
  · cases h; exact hO
  · rw [List.getElem?_set_ne (Ne.symm hj)] at h
    intro e; cases e
    exact hsep j f o hj h hb
  · exact ⟨⟨ys⟩, hbx, hr, hnw, hH⟩
  · exact .inr h
  · exact hn d hdn
/- what is read out of a box -/
theorem takeBox_out : ∀ {ls : List Leaf} {cs : List S1} {ys : List Value} {st st' : St} {bs : List BC}, Good P w0 H0 st a w ρ σ → takeBox ls cs st = some (bs, st') → relL ρ σ cs ys →
    Dies st st' ∧ bLies bs ys ∧ RowsOut P w0 w σ st st' (bRows bs ys) ∧ ls.length = cs.length
  | [], [], [], st, st', bs, hg, h, hr => by
    simp [takeBox] at h
    obtain ⟨rfl, rfl⟩ := h
    exact ⟨Dies.refl _, trivial, RowsOut.nil _ _, rfl⟩
  | [], c :: cs, _, st, st', bs, hg, h, hr => by simp [takeBox] at h
  | l :: ls, [], _, st, st', bs, hg, h, hr => by cases l <;> simp [takeBox] at h
  | _, [], _ :: _, _, _, _, _, _, hr => hr.elim
  | _, _ :: _, [], _, _, _, _, _, hr => hr.elim
  | l :: ls, c :: cs, y :: ys, st, st', bs, hg, h, hr => by
    have plainK : (∀ i e, l ≠ .row i e) → Dies st st' ∧ bLies bs (y :: ys) ∧ RowsOut P w0 w σ st st' (bRows bs (y :: ys)) ∧ (l :: ls).length = (c :: cs).length := by
      intro hl
      have h' : (match c.asVal with
        | some x => match takeBox ls cs st with
          | some (bs, st2) => some (BC.v x :: bs, st2)
          | none => none
        | none => none) = some (bs, st') := by
        cases l <;> first | exact h | exact absurd rfl (hl _ _)
      split at h'
      · rename_i x hx
        split at h'
        · rename_i bs2 st2 ht
          simp at h'
          obtain ⟨rfl, rfl⟩ := h'
          obtain ⟨k1, k2, k3, k4⟩ := takeBox_out hg ht hr.2
          unfold S1.asVal at hx
          split at hx
          · rename_i hok
            have e1 := S1.toV_rel hx hr.1
            have e2 := S1.ok1_rel hg.sl hok hr.1
            exact ⟨k1, ⟨⟨e1, e1 ▸ e2⟩, k2⟩, k3, by simp [k4]⟩
          · simp at hx
        · simp at h'
      · simp at h'
    cases l with
    | row i e =>
      simp only [takeBox] at h
      split at h
      · rename_i n xs st1 ht
        split at h
        · rename_i bs2 st2 hb
          simp at h
          obtain ⟨rfl, rfl⟩ := h
          have hd := takeRow_dies ht
          obtain ⟨k1, k2, k3, k4⟩ := takeBox_out (hg.dies hd) hb hr.2
          exact ⟨hd.trans k1, k2, (takeRow_out hg ht hr.1).append hg k3 hd k1, by simp [k4]⟩
        · simp at h
      · simp at h
    | int k => exact plainK (by simp)
    | bool => exact plainK (by simp)
    | str => exact plainK (by simp)
    | sl => exact plainK (by simp)
    | mp => exact plainK (by simp)
    | val => exact plainK (by simp)
    | cells => exact plainK (by simp)
/- more that a typed post lets through -/
theorem exL_mono : ∀ {ls : List Leaf} {R : Type} {p : PostL ls R} {nr : List NRow} {K K' : List Value → List NRow → R → Prop}, (∀ vs nr q, K vs nr q → K' vs nr q) → exL ls p nr K → exL ls p nr K'
  | [], R, p, nr, K, K', hk, h => hk _ _ _ h
  | l :: ls, R, p, nr, K, K', hk, h => by
    cases l with
    | int k => obtain ⟨n, h⟩ := h; exact ⟨n, exL_mono (fun _ _ _ => hk _ _ _) h⟩
    | bool => obtain ⟨n, h⟩ := h; exact ⟨n, exL_mono (fun _ _ _ => hk _ _ _) h⟩
    | str => obtain ⟨n, h⟩ := h; exact ⟨n, exL_mono (fun _ _ _ => hk _ _ _) h⟩
    | sl => obtain ⟨A, n, c, h⟩ := h; exact ⟨A, n, c, exL_mono (fun _ _ _ => hk _ _ _) h⟩
    | mp => obtain ⟨n, h⟩ := h; exact ⟨n, exL_mono (fun _ _ _ => hk _ _ _) h⟩
    | val => obtain ⟨n, h1, h⟩ := h; exact ⟨n, h1, exL_mono (fun _ _ _ => hk _ _ _) h⟩
    | cells => exact h.elim
    | row i e =>
      obtain ⟨r, nr1, rfl, h1, h⟩ := h
      exact ⟨r, nr1, rfl, h1, exL_mono (fun _ _ _ => hk _ _ _) h⟩
theorem exL_len {ls : List Leaf} {R : Type} {p : PostL ls R} {nr : List NRow} {ys : List Value} {K : List Value → List NRow → R → Prop} (h : exL ls p nr fun vs nr1 q => vs = ys ∧ K vs nr1 q) : ys.length = ls.length := by
  have key : ∀ {ls : List Leaf} {R : Type} {p : PostL ls R} {nr : List NRow} {C : Prop} {k : Nat} {K : List Value → List NRow → R → Prop}, (∀ vs nr q, vs.length = k + ls.length → K vs nr q → C) → ∀ (pre : List Value), pre.length = k → (exL ls p nr fun vs nr q => K (pre ++ vs) nr q) → C := by
    intro ls
    induction ls with
    | nil => intro R p nr C k K hC pre hp h; exact hC _ _ _ (by simp [hp]) h
    | cons l ls ih =>
      intro R p nr C k K hC pre hp h
      have go : ∀ {p' : PostL ls R} {nr0 : List NRow} (v : Value), (exL ls p' nr0 fun vs nr q => K (pre ++ v :: vs) nr q) → C := fun {p' nr0} v hh =>
        ih (p := p') (nr := nr0) (k := k + 1) (K := K) (fun vs nr q hl => hC vs nr q (by simp only [List.length_cons]; omega)) (pre ++ [v]) (by simp [hp]) (exL_mono (fun _ _ _ x => by simpa using x) hh)
      cases l with
      | int k => obtain ⟨n, h⟩ := h; exact go _ h
      | bool => obtain ⟨n, h⟩ := h; exact go _ h
      | str => obtain ⟨n, h⟩ := h; exact go _ h
      | sl => obtain ⟨A, n, c, h⟩ := h; exact go _ h
      | mp => obtain ⟨A, h⟩ := h; exact go _ h
      | val => obtain ⟨n, _, h⟩ := h; exact go _ h
      | cells => exact h.elim
      | row i e => obtain ⟨r, nr1, rfl, _, h⟩ := h; exact go _ h
  exact key (k := 0) (K := fun vs nr1 q => vs = ys ∧ K vs nr1 q) (fun vs nr q hl h => by rw [← h.1]; omega) [] rfl h
theorem exL_sub : ∀ {ls : List Leaf} {R : Type} {p : PostL ls R} {nr : List NRow} {K : List Value → List NRow → R → Prop}, exL ls p nr K → exL ls p nr fun vs nr' q => ((∀ r ∈ nr', r ∈ nr) ∧ vs.length = ls.length) ∧ K vs nr' q
  | [], R, p, nr, K, h => ⟨⟨fun _ h => h, rfl⟩, h⟩
  | l :: ls, R, p, nr, K, h => by
    have key : ∀ {p' : PostL ls R} {nr0 : List NRow} {K' : List Value → List NRow → R → Prop}, (∀ r ∈ nr0, r ∈ nr) → exL ls p' nr0 K' → ∀ (v : Value), exL ls p' nr0 fun vs nr' q => ((∀ r ∈ nr', r ∈ nr) ∧ (v :: vs).length = (l :: ls).length) ∧ K' vs nr' q := by
      intro p' nr0 K' hn hk v
      have := exL_sub hk
      refine exL_mono (fun vs nr' q hh => ⟨⟨fun r hr => hn r (hh.1.1 r hr), by simp [hh.1.2]⟩, hh.2⟩) this
    cases l with
    | int k => obtain ⟨n, h⟩ := h; exact ⟨n, key (fun _ h => h) h _⟩
    | bool => obtain ⟨n, h⟩ := h; exact ⟨n, key (fun _ h => h) h _⟩
    | str => obtain ⟨n, h⟩ := h; exact ⟨n, key (fun _ h => h) h _⟩
    | sl => obtain ⟨A, n, c, h⟩ := h; exact ⟨A, n, c, key (fun _ h => h) h _⟩
    | mp => obtain ⟨n, h⟩ := h; exact ⟨n, key (fun _ h => h) h _⟩
    | val => obtain ⟨n, h1, h⟩ := h; exact ⟨n, h1, key (fun _ h => h) h _⟩
    | cells => exact h.elim
    | row i e =>
      obtain ⟨r, nr1, rfl, h1, h⟩ := h
      exact ⟨r, nr1, rfl, h1, key (fun r hr => by simp [hr]) h _⟩
end
end Go.Vc
/- Calls: the theorem. -/
namespace Go.Vc
open Go Go.RowKit

section
variable {P : Program} {Γ : Tab} {w0 : W0} {w w' : World} {H0 H' : Heap} {st : St} {a : Act} {ρ : Nat → Nat} {σ : Nat → Value}
/- behind a call -/
theorem Good.called (hg : Good P w0 H0 st a w ρ σ) (hb : Below w.heap.size w w') {H' : Heap} (hle : Heap.le st.H H') (hold : ∀ b, b < w.heap.size → ∀ o, H' b o = st.H b o) (hs : Snap H' w') (hdr : w.drawn ≤ w'.drawn) :
    Good P w0 H0 { st with H := H' } a w' ρ σ := by
  refine ⟨hg.defers, hg.size, hg.fr, ⟨hb.os.trans hg.below.os, hb.tape.trans hg.below.tape, hb.output.trans hg.below.output, Nat.le_trans hg.below.size hb.size, fun k hk hne => (hb.block k (Nat.lt_of_lt_of_le hk hg.below.size)).trans (hg.below.block k hk hne), Nat.le_trans hg.below.drawn hdr⟩, Heap.le_trans hg.le hle, fun b hbb o => ?_, hs, fun i f o h => ?_, hg.sep, fun d hd => ?_, hg.sl, fun b x hO => ?_⟩
  rotate_right
  · obtain ⟨⟨k1, ⟨cur, k2, k3⟩, k4⟩, k5⟩ := hg.opn b x hO
    have hlt := (Array.getElem?_eq_some_iff.1 k2).1
    exact ⟨⟨k1, ⟨cur, (hb.block b hlt).trans k2, k3⟩, fun t ht => (hold b hlt t).trans (k4 t ht)⟩, k5⟩
  · exact (hold b (Nat.lt_of_lt_of_le (W0.old hbb).1 hg.below.size) o).trans (hg.old b hbb o)
  · have ho := hg.obj i f o h
    have hblk := fun g => hg.blk_lt (g := g) h
    cases o <;> simp only [ObjOK] at ho ⊢
    case box t cs =>
      obtain ⟨ys, h1, h2, h3, h4⟩ := ho
      have hlt := (hblk _ rfl).1
      exact ⟨ys, (hb.block _ hlt).trans h1, h2, h3, fun o => (hold _ hlt o).trans (h4 o)⟩
    case arr t xs =>
      obtain ⟨h1, h2, h3, h4⟩ := ho
      have hlt := (hblk _ rfl).1
      exact ⟨(hb.block _ hlt).trans h1, h2, h3, fun o => (hold _ hlt o).trans (h4 o)⟩
    case row e n xs =>
      obtain ⟨h1, h2, h3⟩ := ho
      refine ⟨⟨⟨h1.row.1, ?_⟩, h1.nw⟩, h2, fun g hgb o => (hold g (hblk g hgb).1 o).trans (h3 g hgb o)⟩
      rcases h1.row.2 with hh | ⟨g, cap, cur, hv, hle, hgc, hr⟩
      · exact .inl hh
      · exact .inr ⟨g, cap, cur, hv, hle, (hb.block g (Array.getElem?_eq_some_iff.1 hgc).1).trans hgc, hr⟩
    case pub A n c => exact ho
  · exact ⟨(hg.nr d hd).fr, (hg.nr d hd).obj⟩

/- arguments and what they stand for -/
def relA (ρ : Nat → Nat) (σ : Nat → Value) : List SV → List Value → Prop
  | [], [] => True
  | x :: xs, v :: vs => x.rel ρ σ v ∧ relA ρ σ xs vs
  | _, _ => False
theorem SV.plain_rel {x : SV} {v y : Value} (h : x.plain = some v) (hr : x.rel ρ σ y) : y = v := by
  cases x with
  | one x => exact S1.toV_rel h hr
  | agg cs =>
    obtain ⟨ys, rfl, hr⟩ := hr
    simp only [SV.plain] at h
    split at h
    · rename_i xs hx
      simp at h; subst h
      have := toVs_rel hx hr
      congr 1
      apply Array.ext'
      exact this
    · simp at h
  | clo f cap =>
    obtain ⟨ys, rfl, hr⟩ := hr
    match cap, h, hr with
    | [], h, hr =>
      simp [SV.plain] at h; subst h
      have h0 : ys.toList = [] := by
        cases hy : ys.toList with
        | nil => rfl
        | cons y l => rw [hy] at hr; exact hr.elim
      congr 1
      apply Array.ext'
      simpa using h0
    | _ :: _, h, _ => simp [SV.plain] at h
  | tup cs => simp [SV.plain] at h
theorem plains_rel : ∀ {xs : List SV} {vs us : List Value}, plains xs = some vs → relA ρ σ xs us → us = vs
  | [], vs, us, h, hr => by
    simp [plains] at h; subst h
    cases us with
    | nil => rfl
    | cons _ _ => exact hr.elim
  | x :: xs, vs, us, h, hr => by
    cases us with
    | nil => exact hr.elim
    | cons u us =>
      simp only [plains] at h
      split at h
      · rename_i v hv
        split at h
        · rename_i ws hws
          simp at h; subst h
          rw [SV.plain_rel hv hr.1, plains_rel hws hr.2]
        · simp at h
      · simp at h

/- lending -/
def over (H : Heap) (w : World) (g : Nat) : Heap := fun b o => if b = g then (match w.cell? ⟨b, o, none⟩ with
  | some v => if isEnd v = true then none else some v
  | none => H b o) else H b o
theorem over_cell {H : Heap} {g o : Nat} {v : Value} (h : w.cell? ⟨g, o, none⟩ = some v) (h1 : v.oneCell' = true) : over H w g g o = some v := by
  simp [over, h, isEnd_one h1]
theorem over_le {H : Heap} (hs : Snap H w) (g : Nat) : Heap.le H (over H w g) := by
  intro b o v hv
  have h := hs b o v hv
  unfold over
  split
  · unfold seen at h
    split at h
    · rename_i he
      rw [h]
      simp [he, hv]
    · rename_i he
      obtain ⟨cs, t, fz, h1, h2⟩ := h
      have : w.cell? ⟨b, o, none⟩ = none := by simp [World.cell?, h1, h2]
      rw [this]; exact hv
  · exact hv
theorem over_snap {H : Heap} (hs : Snap H w) (g : Nat) : Snap (over H w g) w := by
  intro b o v hv
  unfold over at hv
  by_cases hb : b = g
  · rw [if_pos hb] at hv
    cases hu : w.cell? ⟨b, o, none⟩ with
    | none => rw [hu] at hv; exact hs b o v hv
    | some z =>
      rw [hu] at hv
      simp only at hv
      by_cases he : isEnd z = true
      · rw [if_pos he] at hv; cases hv
      · rw [if_neg he] at hv
        cases hv
        unfold seen
        rw [show isEnd v = false by simpa using he]
        exact hu
  · rw [if_neg hb] at hv
    exact hs b o v hv
/- memory that is no object's stays as it is when objects are lent -/
def Lent (st : St) (ρ : Nat → Nat) (σ : Nat → Value) (H H' : Heap) : Prop := ∀ g, (∀ i f o, st.L[i]? = some (some (f, o)) → blk ρ σ i o ≠ some g) → ∀ o, H' g o = H g o
theorem Lent.refl (st : St) (ρ : Nat → Nat) (σ : Nat → Value) (H : Heap) : Lent st ρ σ H H := fun _ _ _ => rfl
theorem Lent.trans {st : St} {ρ : Nat → Nat} {σ : Nat → Value} {H H1 H2 : Heap} (h : Lent st ρ σ H H1) (k : Lent st ρ σ H1 H2) : Lent st ρ σ H H2 := fun g hg o => (k g hg o).trans (h g hg o)
theorem Lent.over {st : St} {i : Nat} {f : Bool} {o : LObj} {g : Nat} {H : Heap} (hi : st.L[i]? = some (some (f, o))) (hb : blk ρ σ i o = some g) : Lent st ρ σ H (over H w g) := by
  intro g' hg' k
  have : g' ≠ g := fun e => hg' i f o hi (by rw [e]; exact hb)
  simp [Vc.over, this]
def LendOK (w : World) (st : St) (ρ : Nat → Nat) (σ : Nat → Value) (l1 : S1 → Heap → (Value → Heap → Prop) → Prop) : Prop := ∀ (x : S1) (H : Heap) (K : Value → Heap → Prop) (v : Value), l1 x H K → Snap H w → x.rel ρ σ v → ∃ H', Heap.le H H' ∧ Snap H' w ∧ K v H' ∧ Lent st ρ σ H H'
theorem lendBy_sound {l1 : S1 → Heap → (Value → Heap → Prop) → Prop} (hl : LendOK w st ρ σ l1) : ∀ {xs : List S1} {H : Heap} {K : List Value → Heap → Prop} {vs : List Value}, lendBy l1 xs H K → Snap H w → relL ρ σ xs vs → ∃ H', Heap.le H H' ∧ Snap H' w ∧ K vs H' ∧ Lent st ρ σ H H'
  | [], H, K, vs, h, hs, hr => by
    cases vs with
    | nil => exact ⟨H, Heap.le_refl _, hs, h, Lent.refl _ _ _ _⟩
    | cons _ _ => exact hr.elim
  | x :: xs, H, K, vs, h, hs, hr => by
    cases vs with
    | nil => exact hr.elim
    | cons v vs =>
      obtain ⟨H1, h1, h2, h3, h4⟩ := hl _ _ _ _ h hs hr.1
      obtain ⟨H2, k1, k2, k3, k4⟩ := lendBy_sound hl h3 h2 hr.2
      exact ⟨H2, Heap.le_trans h1 k1, k2, k3, h4.trans k4⟩
theorem lendF_sound (hg : Good P w0 H0 st a w ρ σ) : ∀ n : Nat, LendOK w st ρ σ (lendF st n)
  | 0 => by
    intro x H K v h hs hr
    unfold lendF at h
    split at h
    · rename_i u hu
      have := S1.toV_rel hu hr
      subst this
      exact ⟨H, Heap.le_refl _, hs, h, Lent.refl _ _ _ _⟩
    · exact h.elim
  | n + 1 => by
    intro x H K v h hs hr
    unfold lendF at h
    split at h
    · rename_i i off
      split at h
      · rename_i t cs hL
        split at h
        · rename_i h1
          obtain ⟨f, hf⟩ := getL_some hL
          obtain ⟨ys, q1, q2, q3, q4⟩ := hg.obj _ _ _ hf
          obtain ⟨H1, j1, j2, j3, j4⟩ := lendBy_sound (lendF_sound hg n) h hs q2
          have hv : v = .pointer (some ⟨ρ i, off, none⟩) := hr
          subst hv
          refine ⟨over H1 w (ρ i), Heap.le_trans j1 (over_le j2 _), over_snap j2 _, j3 _ _ (over_le j2 _) (.inr ⟨_, 0, rfl, fun k u hu => ?_⟩), j4.trans (Lent.over hf rfl)⟩
          have hcell : w.cell? ⟨ρ i, k, none⟩ = some u := by
            rw [cell_of_block q1, ← hu]
            simp
          have hone := ok1s_rel hg.sl h1 q2 u (List.mem_of_getElem? hu)
          refine ⟨?_, hone⟩
          rw [show 0 + 0 + k = k by omega]
          exact over_cell hcell hone
        · exact h.elim
      · exact h.elim
    · rename_i i
      split at h
      · rename_i e n xs hL
        obtain ⟨f, hf⟩ := getL_some hL
        obtain ⟨hrow, h1, hfree⟩ := hg.obj _ _ _ hf
        have hv : v = σ i := hr
        subst hv
        rcases hrow.row.2 with ⟨hs0, h0⟩ | ⟨g, cap, cur, hs0, hge, hb, hnc, hcm, hcs, htake⟩
        · have hxs : xs = [] := List.eq_nil_of_length_eq_zero (by rw [hrow.row.1, h0]; simp)
          rw [hs0]
          subst h0
          exact ⟨H, Heap.le_refl _, hs, h none 0 H (Heap.le_refl _) (.inl hxs) (Nat.le_refl _), Lent.refl _ _ _ _⟩
        · rw [hs0]
          refine ⟨over H w g, over_le hs _, over_snap hs _, h _ _ _ (over_le hs _) (.inr ⟨g, 0, rfl, fun k u hu => ?_⟩) hnc, Lent.over hf (by simp only [blk]; rw [hs0]; rfl)⟩
          have hcell := row_cells hrow hs0 k u hu
          have hone := h1 u (List.mem_of_getElem? hu)
          refine ⟨?_, hone⟩
          rw [show 0 + 0 + k = k by omega]
          exact over_cell hcell hone
      · exact h.elim
    · split at h
      · rename_i u hu
        have := S1.toV_rel hu hr
        subst this
        exact ⟨H, Heap.le_refl _, hs, h, Lent.refl _ _ _ _⟩
      · exact h.elim
theorem lend1_sound (hg : Good P w0 H0 st a w ρ σ) {x : S1} {H : Heap} {K : Value → Heap → Prop} {v : Value} (h : lend1 st x H K) (hs : Snap H w) (hr : x.rel ρ σ v) : ∃ H', Heap.le H H' ∧ Snap H' w ∧ K v H' ∧ Lent st ρ σ H H' := lendF_sound hg 4 _ _ _ _ h hs hr
theorem lendL_sound (hg : Good P w0 H0 st a w ρ σ) {xs : List S1} {H : Heap} {K : List Value → Heap → Prop} {vs : List Value} (h : lendL st xs H K) (hs : Snap H w) (hr : relL ρ σ xs vs) : ∃ H', Heap.le H H' ∧ Snap H' w ∧ K vs H' ∧ Lent st ρ σ H H' := lendBy_sound (lendF_sound hg 4) h hs hr
theorem lendS_sound (hg : Good P w0 H0 st a w ρ σ) {x : SV} {H : Heap} {K : Value → Heap → Prop} {v : Value} (h : lendS st x H K) (hs : Snap H w) (hr : x.rel ρ σ v) : ∃ H', Heap.le H H' ∧ Snap H' w ∧ K v H' ∧ Lent st ρ σ H H' := by
  cases x with
  | one x => exact lend1_sound hg h hs hr
  | agg cs =>
    obtain ⟨ys, rfl, hr⟩ := hr
    exact lendL_sound hg (K := fun vs H' => K (.agg ⟨vs⟩) H') h hs hr
  | clo f cap =>
    obtain ⟨ys, rfl, hr⟩ := hr
    exact lendL_sound hg (K := fun vs H' => K (.func (.func f) #[] ⟨vs⟩) H') h hs hr
  | tup cs => exact h.elim
theorem lendA_sound (hg : Good P w0 H0 st a w ρ σ) : ∀ {xs : List SV} {H : Heap} {K : List Value → Heap → Prop} {vs : List Value}, lendA st xs H K → Snap H w → relA ρ σ xs vs → ∃ H', Heap.le H H' ∧ Snap H' w ∧ K vs H' ∧ Lent st ρ σ H H'
  | [], H, K, vs, h, hs, hr => by
    cases vs with
    | nil => exact ⟨H, Heap.le_refl _, hs, h, Lent.refl _ _ _ _⟩
    | cons _ _ => exact hr.elim
  | x :: xs, H, K, vs, h, hs, hr => by
    cases vs with
    | nil => exact hr.elim
    | cons v vs =>
      obtain ⟨H1, h1, h2, h3, h4⟩ := lendS_sound hg h hs hr.1
      obtain ⟨H2, k1, k2, k3, k4⟩ := lendA_sound hg h3 h2 hr.2
      exact ⟨H2, Heap.le_trans h1 k1, k2, k3, h4.trans k4⟩

end
end Go.Vc
/- Calls that are handed a box, and calls that hand back a new one: the theorem. -/
namespace Go.Vc
open Go Go.RowKit

section
variable {P : Program} {Γ : Tab} {w0 : W0} {w w' : World} {H0 H' : Heap} {st : St} {a : Act} {ρ : Nat → Nat} {σ : Nat → Value}
def CallOK (P : Program) (w0 : W0) (H0 : Heap) (st : St) (a : Act) (w : World) (ρ : Nat → Nat) (d : Option Tmp) (f : FuncId) (us : List Value) (K : St → Prop) (X : Nat → Prop := noX) : Prop :=
  FnOK P f ∧ Calls P f us.toArray w fun e w' => ∃ v st' ρ' σ', e = .returned v ∧ K st' ∧ Keeps d.toList st st' ∧ Good P w0 H0 st' (a.put d v) w' ρ' σ' ∧ Goes X st st' ρ ρ' w w'
theorem CallOK.of_keeps {d : Option Tmp} {f : FuncId} {us : List Value} {K : St → Prop} {st' : St} (hk : Keeps [] st st') (hgo : Goes noX st st' ρ ρ w w) (h : CallOK P w0 H0 st' a w ρ d f us K) : CallOK P w0 H0 st a w ρ d f us K := by
  refine ⟨h.1, Calls.mono h.2 ?_⟩
  rintro e w' ⟨v, st2, ρ', σ', h1, h2, h3, h4, h5⟩
  exact ⟨v, st2, ρ', σ', h1, h2, (hk.mono (by simp)).trans h3, h4, hgo.trans h5⟩
theorem CallOK.any {d : Option Tmp} {f : FuncId} {us : List Value} {K : St → Prop} {X : Nat → Prop} (h : CallOK P w0 H0 st a w ρ d f us K) : CallOK P w0 H0 st a w ρ d f us K X := by
  refine ⟨h.1, Calls.mono h.2 ?_⟩
  rintro e w' ⟨v, st2, ρ', σ', h1, h2, h3, h4, h5⟩
  exact ⟨v, st2, ρ', σ', h1, h2, h3, h4, h5.any⟩
theorem posOf_get {k : Nat} : ∀ {cs : List S1} {p0 p : Nat}, posOf k cs p0 = some p → ∃ m, p = p0 + m ∧ cs[m]? = some (.own k)
  | [], p0, p, h => by simp [posOf] at h
  | c :: cs, p0, p, h => by
    have next : posOf k cs (p0 + 1) = some p → ∃ m, p = p0 + m ∧ (c :: cs)[m]? = some (.own k) := fun h => by
      obtain ⟨m, h1, h2⟩ := posOf_get h
      exact ⟨m + 1, by omega, by simpa using h2⟩
    cases c <;> simp only [posOf] at h <;> try exact next h
    case own k' =>
      split at h
      · rename_i e
        subst e
        simp at h
        exact ⟨0, by omega, rfl⟩
      · exact next h
theorem baOf_rel {i : Nat} {cells : List S1} {x : SV} {b : BA} {ys : List Value} {v : Value} (h : baOf i cells x = some b) (hx : x.rel ρ σ v) (hc : relL ρ σ cells ys) : v = b.val (ρ i) ys := by
  have plainK : (match x.plain with
      | some v => some (BA.v v)
      | none => none) = some b → v = b.val (ρ i) ys := by
    intro h
    split at h
    · rename_i u hu
      simp at h; subst h
      have : plains [x] = some [u] := by simp [plains, hu]
      have := plains_rel (us := [v]) this ⟨hx, trivial⟩
      simpa [BA.val] using this
    · simp at h
  unfold baOf at h
  split at h
  · split at h
    · rename_i e
      subst e
      simp at h; subst h
      exact hx
    · simp at h
  · rename_i k j
    split at h
    · rename_i p hp
      simp at h; subst h
      obtain ⟨m, hm, hg⟩ := posOf_get hp
      obtain rfl : p = m := by omega
      obtain ⟨y, hy, hr⟩ := relL_get hc hg
      obtain ⟨g, n, c, hs, rfl⟩ := hx
      have hr : y = σ k := hr
      rw [hs] at hr
      subst hr
      simp only [BA.val, hy]
    · simp at h
  · exact plainK h
theorem baL_rel {i : Nat} {cells : List S1} {ys : List Value} (hc : relL ρ σ cells ys) : ∀ {as : List SV} {bs : List BA} {us : List Value}, baL i cells as = some bs → relA ρ σ as us → us = bs.map (BA.val (ρ i) ys)
  | [], bs, [], h, _ => by simp [baL] at h; subst h; rfl
  | x :: as, bs, u :: us, h, hr => by
    simp only [baL] at h
    split at h
    · rename_i b hb
      split at h
      · rename_i bs' hbs
        simp at h; subst h
        rw [List.map_cons, ← baOf_rel hb hr.1 hc, ← baL_rel hc hbs hr.2]
      · simp at h
    · simp at h
  | [], _, _ :: _, _, hr => hr.elim
  | _ :: _, _, [], _, hr => hr.elim
theorem relL_any : ∀ {ls : List Leaf} {ys : List Value}, ys.length = ls.length → relL ρ σ (ls.map fun _ => S1.any) ys
  | [], [], _ => trivial
  | _ :: ls, _ :: ys, h => ⟨trivial, relL_any (by simpa using h)⟩
  | [], _ :: _, h => by simp at h
  | _ :: _, [], h => by simp at h
theorem refs_any {ls : List Leaf} {d : Nat} : ¬ refsL d (ls.map fun _ => S1.any) := by
  rintro ⟨c, hc, hr⟩
  obtain ⟨_, _, rfl⟩ := List.mem_map.1 hc
  exact hr
/- the common end of a call that hands back a box: the world is such; the box has number i and lies in block ρ' i -/
theorem box_end {st1 : St} (hg : Good P w0 H0 st1 a w' ρ σ) {i : Nat} {t : TypeId} {ls : List Leaf} {R : Type} {post : PostL ls R} {K : List S1 → St → R → Prop} {K2 : List Value → List NRow → R → Prop} {nr : List NRow} {ys : List Value} {O : OMap}
    (hL : st1.L[i]? = some (some (true, .box t (ls.map fun _ => S1.any)))) (hO1 : st1.O = O) (hbx : w'.heap[ρ i]? = some (.cells ⟨ys⟩ t (0, 0)))
    (hK : allL ls post st1 K) (hex : exL ls post nr fun vs nr1 q => vs = ys ∧ K2 vs nr1 q) (hrows : ∀ r ∈ nr, RowIn P w0 w' st1.H r) (hap : apartRows nr) (hsep : SepR st1 ρ σ nr) :
    ∃ (cs : List S1) (st2 : St) (q : R) (nr2 : List NRow) (σ2 : Nat → Value), K cs st2 q ∧ K2 ys nr2 q ∧ Good P w0 H0 (Vc.setL st2 i (.box t cs)) a w' ρ σ2 ∧ Keeps [] st1 st2 ∧ noFreshL st2 cs ∧ (∀ d : Nat, st2.L[d]? = some none → st1.L[d]? = some none) ∧ Carry st1 σ σ2 ∧ st2.H = st1.H ∧ Olds st1 st2 ∧
      (∀ r ∈ nr2, RowIn P w0 w' st2.H r) ∧ apartRows nr2 ∧ SepR (Vc.setL st2 i (.box t cs)) ρ σ2 nr2 ∧ st2.L[i]? = st1.L[i]? := by
  obtain ⟨cs, st2, q, nr2, vs, σ2, k1, ⟨rfl, k2⟩, k3, k4, k5, k6, k7, k8, k9, k13, k10, k11, k12⟩ := allL_sound hg hK hex hrows hap hsep
  have hLi : st2.L[i]? = st1.L[i]? := k13 i (by rw [hL]; simp)
  have hL2 := hLi.trans hL
  have hlt : i < st2.L.length := (List.getElem?_eq_some_iff.1 hL2).1
  obtain ⟨ys', o1, o2, o3, o4⟩ := k3.obj _ _ _ hL2
  have hgood : Good P w0 H0 (Vc.setL st2 i (.box t cs)) a w' ρ σ2 := by
    refine k3.setBox hlt hbx k4 o3 o4 (k3.noOpen hL2 rfl) (fun j f o hj h hb => ?_) k6
    exact k3.sep j i _ _ _ _ (ρ i) hj h hL2 hb rfl
  refine ⟨cs, st2, q, nr2, σ2, k1, k2, hgood, k5, k6, k7, k8, k9, k13, k10, k11, ⟨fun r hr j f o g hj hb => ?_, k12.2⟩, hLi⟩
  by_cases hij : j = i
  · subst hij
    simp only [Vc.setL] at hj
    rw [set_get hlt] at hj
    simp at hj
    obtain ⟨_, rfl⟩ := hj
    exact k12.1 r hr j _ _ g hL2 hb
  · rw [setL_keeps_other hij] at hj
    exact k12.1 r hr j f o g hj hb
theorem vcBox_sound (hg : Good P w0 H0 st a w ρ σ) {ls : List Leaf} {sh : RSh} {d : Option Tmp} {f : FuncId} {as : List SV} {us : List Value} {K : St → Prop} (hrel : relA ρ σ as us) (h : vcBox P ls sh st d f as K) :
    CallOK P w0 H0 st a w ρ d f us K (fun j => boxArg as = some j) := by
  unfold vcBox at h
  split at h
  · exact h.elim
  · rename_i i harg
    split at h
    · rename_i t cs0 hW
      split at h
      · exact h.elim
      · rename_i bas hbas
        split at h
        · exact h.elim
        · rename_i bcs st1 htake
          obtain ⟨post, hc, hK⟩ := h
          have hL := getW_some hW
          obtain ⟨ys, b1, b2, b3, b4⟩ := hg.obj _ _ _ hL
          have hcells := resL_rel hg.obj b2
          obtain ⟨t1, t2, t3, t4⟩ := takeBox_out hg htake hcells
          have hlt : i < st.L.length := (List.getElem?_eq_some_iff.1 hL).1
          have hlt1 : i < st1.L.length := by rw [t1.ll]; exact hlt
          -- what is handed
          have hk : Kills st (Vc.setL st1 i .dead) := t1.kills.set hL
          have hdead : isDead (Vc.setL st1 i .dead) i := by simp only [isDead, Vc.setL]; exact set_get hlt1
          have hrowdead : ∀ r ∈ bRows bcs ys.toList, ∀ g, r.s.ownBlock = some g → ∃ (k : Nat) (e : TypeId) (n : Nat) (xs : List Value), st.L[k]? = some (some (true, .row e n xs)) ∧ isDead (Vc.setL st1 i .dead) k ∧ (σ k).ownBlock = some g ∧ k ≠ i := by
            intro r hr g hgb
            obtain ⟨k, e, n, xs, q1, q2, q3⟩ := (t3.each r hr).2 g hgb
            have hne : k ≠ i := by rintro rfl; rw [hL] at q1; simp at q1
            exact ⟨k, e, n, xs, q1, by simp only [isDead, Vc.setL]; rw [List.getElem?_set_ne (Ne.symm hne)]; exact q2, q3, hne⟩
          have hand : ∀ b, Names (some (ρ i)) (bRows bcs ys.toList) st.O b → HandS ρ σ st (Vc.setL st1 i .dead) b := by
            rintro b (e | ⟨r, hr, hgb⟩ | hO)
            · cases e
              exact .inl ⟨i, _, hL, hdead, rfl⟩
            · obtain ⟨k, e, n, xs, q1, q2, q3, _⟩ := hrowdead r hr b hgb
              exact .inl ⟨k, _, q1, q2, q3⟩
            · exact .inr hO
          have hbw : BoxW P w st.H (ρ i) t ys.toList (bRows bcs ys.toList) st.O := by
            refine ⟨b1, b4, fun r hr => ?_, fun r hr hgb => ?_, t3.apart, fun b x hO => ?_, fun b hO => ⟨?_, fun r hr hgb => ?_⟩⟩
            · obtain ⟨q1, q2, q3⟩ := (t3.each r hr).1
              exact ⟨q1.row, q2, q3⟩
            · obtain ⟨k, e, n, xs, q1, q2, q3, hne⟩ := hrowdead r hr _ hgb
              exact hg.sep k i _ _ _ _ _ hne q1 hL q3 rfl
            · exact (hg.opn b x hO).1.2
            · rintro rfl
              exact hO (hg.noOpen hL rfl)
            · obtain ⟨k, e, n, xs, q1, q2, q3, hne⟩ := hrowdead r hr _ hgb
              exact hO (hg.noOpen q1 q3)
          have hus : us = bas.map (BA.val (ρ i) ys.toList) := baL_rel hcells hbas hrel
          refine ⟨hc.1, ?_⟩
          have hcall := hc.2 w (ρ i) ys.toList hg.snap t2 hbw
          rw [← hus] at hcall
          refine Calls.mono hcall ?_
          rintro e' w' ⟨v, H', O', ys', nr, rfl, hex, hbel, hle, hold, hsn, hbw', hnames⟩
          have hnames' : ∀ b, Names (some (ρ i)) nr O' b → w.heap.size ≤ b ∨ HandS ρ σ st (Vc.setL st1 i .dead) b := fun b hb => (hnames b hb).imp id (hand b)
          have hgood0 := hg.calledS hk (hbel.mono hand) hle (fun b hb hn => hold b hb fun hh => hn (hand b hh)) hsn (fun b x hO => ⟨(hbw'.opn b x hO).1, (hbw'.opn b x hO).2, hnames' b (.inr (.inr (by rw [hO]; simp)))⟩)
          have hex2 := exL_sub hex
          have hlen : ys'.length = ls.length := by
            have := exL_len hex
            exact this
          have hset2 : Vc.setL (Vc.setL st1 i .dead) i (.box t (ls.map fun _ => S1.any)) = Vc.setL st1 i (.box t (ls.map fun _ => S1.any)) := by simp [Vc.setL]
          have hgood : Good P w0 H0 { Vc.setL st1 i (.box t (ls.map fun _ => S1.any)) with H := H', O := O' } a w' ρ σ := by
            have := hgood0.setBox (i := i) (t := t) (cs := ls.map fun _ => S1.any) (ys := ys') (by simpa [Vc.setL] using hlt1) hbw'.box (relL_any hlen) b3 hbw'.hid ?_ (fun j f o hj h hb => ?_) (fun d _ => refs_any)
            · have e : Vc.setL { Vc.setL st1 i .dead with H := H', O := O' } i (.box t (ls.map fun _ => S1.any)) = { Vc.setL st1 i (.box t (ls.map fun _ => S1.any)) with H := H', O := O' } := by simp [Vc.setL]
              rw [e] at this
              exact this
            · show O' (ρ i) = none
              rcases hO : O' (ρ i) with _ | x
              · rfl
              · exact absurd rfl (hbw'.opn2 (ρ i) (by rw [hO]; simp)).1
            · have h : (Vc.setL st1 i .dead).L[j]? = some (some (f, o)) := h
              exact (hk.away hg h hb).2 (hand _ (.inl rfl))
          have hrows : ∀ r ∈ nr, RowIn P w0 w' H' r := fun r hr => by
            obtain ⟨q1, q2, q3⟩ := hbw'.rows r hr
            refine ⟨⟨q1, fun g hgb => ?_⟩, q2, q3⟩
            rcases hnames' g (.inr (.inl ⟨r, hr, hgb⟩)) with h1 | h1
            · exact .inl (Nat.le_trans hg.below.size h1)
            · exact h1.nw hg
          have hL1 : ({ Vc.setL st1 i (.box t (ls.map fun _ => S1.any)) with H := H', O := O' } : St).L[i]? = some (some (true, .box t (ls.map fun _ => S1.any))) := by
            simp only [Vc.setL]; exact set_get hlt1
          have hsep : SepR { Vc.setL st1 i (.box t (ls.map fun _ => S1.any)) with H := H', O := O' } ρ σ nr := by
            refine ⟨fun r hr j f o g hj hb hh => ?_, fun r hr g hh => ?_⟩
            · have hj : (Vc.setL st1 i (.box t (ls.map fun _ => S1.any))).L[j]? = some (some (f, o)) := hj
              by_cases hij : j = i
              · subst hij
                simp only [Vc.setL] at hj
                rw [set_get hlt1] at hj
                simp at hj
                obtain ⟨_, rfl⟩ := hj
                simp [blk] at hb
                subst hb
                exact hbw'.ne r hr hh
              · have hj' : (Vc.setL st1 i .dead).L[j]? = some (some (f, o)) := by
                  rw [setL_keeps_other hij] at hj ⊢; exact hj
                obtain ⟨a1, a2⟩ := hk.away hg hj' hb
                rcases hnames' g (.inr (.inl ⟨r, hr, hh⟩)) with h1 | h1
                · omega
                · exact a2 h1
            · show O' g = none
              rcases hO : O' g with _ | x
              · rfl
              · exact absurd hh ((hbw'.opn2 g (by rw [hO]; simp)).2 r hr)
          obtain ⟨cs, st2, q, nr2, σ2, k1, k2, k3, k5, k6, k7, k8, k9, k13, k10, k11, k12, k14⟩ := box_end hgood hL1 rfl hbw'.box (hK H' hle O') hex hrows hbw'.apart hsep
          obtain ⟨r, st3, p, nr3, us', σ3, j1, ⟨_, j2, j3⟩, j4, j5, j6, j7, j8, j9, j10, j11⟩ := allR_sound k3 k1 k2 k10 k11 k12
          obtain ⟨st4, i1, i2, i3, i4⟩ := vcRes_sound j4 (j1 j3) j5 j7 j2
          have hlt2 : i < st2.L.length := (List.getElem?_eq_some_iff.1 (k14.trans hL1)).1
          have hkp : Keeps [] st { Vc.setL st1 i (.box t (ls.map fun _ => S1.any)) with H := H', O := O' } := by
            refine ⟨by show st1.fr.length = _; rw [t1.fr], by simp [Vc.setL, t1.ll], fun j _ => by show st1.fr[j]? = _; rw [t1.fr], fun j o hj => ?_, hle⟩
            have hij : j ≠ i := by rintro rfl; rw [hL] at hj; simp at hj
            show (Vc.setL st1 i (.box t (ls.map fun _ => S1.any))).L[j]? = _
            rw [setL_keeps_other hij]
            exact t1.ro hj
          have hkp2 : Keeps [] st2 (Vc.setL st2 i (.box t cs)) := Keeps.setL fun o' hh => by rw [k14, hL1] at hh; simp at hh
          have same : ∀ (j : Nat) (f : Bool) (o : LObj), st.L[j]? = some (some (f, o)) → isBA o = true → ¬ boxArg as = some j → j ≠ i ∧ (Vc.setL st1 i .dead).L[j]? = some (some (f, o)) ∧ st4.L[j]? = some (some (f, o)) := by
            intro j f o h1 h2 hx
            have hij : j ≠ i := by rintro rfl; exact hx harg
            have e1 : st1.L[j]? = some (some (f, o)) := t1.box h1 (fun e n xs hh => by subst hh; simp [isBA] at h2)
            have e2 : (Vc.setL st1 i (.box t (ls.map fun _ => S1.any))).L[j]? = some (some (f, o)) := by rw [setL_keeps_other hij]; exact e1
            have e3 : st2.L[j]? = some (some (f, o)) := (k13 j (by show (Vc.setL st1 i (.box t (ls.map fun _ => S1.any))).L[j]? ≠ _; rw [e2]; simp)).trans e2
            have e4 : (Vc.setL st2 i (.box t cs)).L[j]? = some (some (f, o)) := by rw [setL_keeps_other hij]; exact e3
            exact ⟨hij, by rw [setL_keeps_other hij]; exact e1, by rw [i4, j11 j (by rw [e4]; simp)]; exact e4⟩
          refine ⟨v, st4, ρ, σ3, rfl, i1, ((((hkp.trans k5).trans hkp2).trans j6).mono (by simp)).trans i2, i3, fun j f o h1 h2 hx => ⟨f, (same j f o h1 h2 hx).2.2⟩, fun _ _ _ _ _ _ => rfl, fun j f o h1 h2 hx => ?_⟩
          obtain ⟨q1, q2, q3⟩ := same j f o h1 h2 hx
          obtain ⟨a1, a2⟩ := hk.away hg q2 (blk_BA (σ := σ) h2)
          exact hbel.block _ a1 fun hh => a2 (hand _ hh)
    · exact h.elim
theorem vcNew2_sound (hg : Good P w0 H0 st a w ρ σ) {t : TypeId} {ls : List Leaf} {d : Nat} {f : FuncId} {vals : List Value} {K : St → Prop} (h : vcNew2 P t ls st d f vals K) : CallOK P w0 H0 st a w ρ (some d) f vals K := by
  unfold vcNew2 at h
  split at h
  · rename_i hf
    obtain ⟨post, hc, hK⟩ := h
    have hn := fresh?_some hf
    have hlt : d < st.L.length := (List.getElem?_eq_some_iff.1 hn).1
    have hnr := hg.nr d hn
    refine ⟨hc.1, Calls.mono (hc.2 w hg.snap fun b x hO => (hg.opn b x hO).1.2) ?_⟩
    rintro e' w' ⟨b, H', O', ys', nr, rfl, hex, hbel, hle, hold, hsn, hbw, hnames⟩
    have hk := Kills.refl st
    have hand : ∀ b, Names none [] st.O b → HandS ρ σ st st b := by
      rintro b (e | ⟨r, hr, _⟩ | hO)
      · cases e
      · cases hr
      · exact .inr hO
    have hnames' : ∀ c, Names (some b) nr O' c → w.heap.size ≤ c ∨ HandS ρ σ st st c := fun c hc => (hnames c hc).imp id (hand c)
    have hgood0 := hg.calledS hk (hbel.mono hand) hle (fun c hc hn => hold c hc fun hh => hn (hand c hh)) hsn (fun c x hO => ⟨(hbw.opn c x hO).1, (hbw.opn c x hO).2, hnames' c (.inr (.inr (by rw [hO]; simp)))⟩)
    have hlen : ys'.length = ls.length := exL_len hex
    have hnw : w0.nw b := by
      rcases hnames' b (.inl rfl) with h1 | h1
      · exact .inl (Nat.le_trans hg.below.size h1)
      · exact h1.nw hg
    have hOb : O' b = none := by
      rcases hO : O' b with _ | x
      · rfl
      · exact absurd rfl (hbw.opn2 b (by rw [hO]; simp)).1
    have hfar : ∀ (j : Nat) (f : Bool) (o : LObj) (g : Nat), st.L[j]? = some (some (f, o)) → blk ρ σ j o = some g → ¬ Names (some b) nr O' g := by
      intro j f o g hj hb hh
      obtain ⟨a1, a2⟩ := hk.away hg hj hb
      rcases hnames' g hh with h1 | h1
      · omega
      · exact a2 h1
    have hother : ∀ (j : Nat), j ≠ d → (Vc.setL st d (.box t (ls.map fun _ => S1.any))).L[j]? = st.L[j]? := fun j hj => setL_keeps_other hj
    have hLd : ({ Vc.setL st d (.box t (ls.map fun _ => S1.any)) with H := H', O := O' } : St).L[d]? = some (some (true, .box t (ls.map fun _ => S1.any))) := by
      simp only [Vc.setL]; exact set_get hlt
    have hgood : Good P w0 H0 { Vc.setL st d (.box t (ls.map fun _ => S1.any)) with H := H', O := O' } a w' (upd ρ d b) σ := by
      refine Good.step hgood0 (Vc.setL st d (.box t (ls.map fun _ => S1.any))).L d (.box t (ls.map fun _ => S1.any)) (some b) hLd (fun j hj => .inl (hother j hj)) (.inr ⟨hgood0.nr d hn, fun j hj => upd_ne _ _ hj, fun _ _ => rfl⟩) (GrB.refl w' _)
        (fun g e => ?_) (fun g e => ?_) (fun j f o g hj h hb => ?_) ?_ (fun g e => ?_) (fun d' _ _ _ => refs_any) hg.sl
      · cases e; exact ⟨hnw, hbw.hid⟩
      · cases e; exact hOb
      · rw [hother j hj] at h
        intro e; cases e
        exact hfar j f o b h hb (.inl rfl)
      · exact ⟨⟨ys'⟩, by rw [upd_same]; exact hbw.box, relL_any hlen, by rw [upd_same]; exact hnw, by rw [upd_same]; exact hbw.hid⟩
      · simp only [blk, upd_same] at e
        exact .inr e
    have hrows : ∀ r ∈ nr, RowIn P w0 w' H' r := fun r hr => by
      obtain ⟨q1, q2, q3⟩ := hbw.rows r hr
      refine ⟨⟨q1, fun g hgb => ?_⟩, q2, q3⟩
      rcases hnames' g (.inr (.inl ⟨r, hr, hgb⟩)) with h1 | h1
      · exact .inl (Nat.le_trans hg.below.size h1)
      · exact h1.nw hg
    have hsep : SepR { Vc.setL st d (.box t (ls.map fun _ => S1.any)) with H := H', O := O' } (upd ρ d b) σ nr := by
      refine ⟨fun r hr j f o g hj hb hh => ?_, fun r hr g hh => ?_⟩
      · have hj : (Vc.setL st d (.box t (ls.map fun _ => S1.any))).L[j]? = some (some (f, o)) := hj
        by_cases hij : j = d
        · subst hij
          simp only [Vc.setL] at hj
          rw [set_get hlt] at hj
          simp at hj
          obtain ⟨_, rfl⟩ := hj
          simp [blk] at hb
          rw [upd_same] at hb
          subst hb
          exact hbw.ne r hr hh
        · rw [hother j hij] at hj
          refine hfar j f o g hj ?_ (.inr (.inl ⟨r, hr, hh⟩))
          cases o <;> simp only [blk] at hb ⊢ <;> first | exact hb | (rw [upd_ne _ _ hij] at hb; exact hb)
      · show O' g = none
        rcases hO : O' g with _ | x
        · rfl
        · exact absurd hh ((hbw.opn2 g (by rw [hO]; simp)).2 r hr)
    obtain ⟨cs, st2, q, nr2, σ2, k1, ⟨_, k2⟩, k3, k5, k6, k7, k8, k9, k13, k10, k11, k12, k14⟩ := box_end hgood hLd rfl (by rw [upd_same]; exact hbw.box) (hK H' hle O') hex hrows hbw.apart hsep
    have hlt2 : d < st2.L.length := (List.getElem?_eq_some_iff.1 (k14.trans hLd)).1
    have hkp : Keeps [] st { Vc.setL st d (.box t (ls.map fun _ => S1.any)) with H := H', O := O' } := by
      refine ⟨rfl, by simp [Vc.setL], fun _ _ => rfl, fun j o hj => ?_, hle⟩
      have hij : j ≠ d := by rintro rfl; rw [hn] at hj; simp at hj
      exact (hother j hij).trans hj
    have hkp2 : Keeps [] st2 (Vc.setL st2 d (.box t cs)) := Keeps.setL fun o' hh => by rw [k14, hLd] at hh; simp at hh
    have hsetd : (Vc.setL st2 d (.box t cs)).L[d]? = some (some (true, .box t cs)) := by simp only [Vc.setL]; exact set_get hlt2
    refine ⟨_, _, upd ρ d b, σ2, rfl, k1 k2, (((hkp.trans k5).trans hkp2).mono (by simp)).trans (Keeps.setS _ (some d) _), Good.setS k3 (some d) (r := .one (.loc d 0)) ?_ (fun d' hd' => ?_), fun j f o h1 h2 _ => ⟨f, ?_⟩, fun j f o h1 _ _ => ?_, fun j f o h1 h2 _ => ?_⟩
    · show Value.pointer (some ⟨b, 0, none⟩) = _
      rw [upd_same]
    · intro e
      have e : d = d' := e
      subst e
      rw [hsetd] at hd'; simp at hd'
    · have hij : j ≠ d := by rintro rfl; rw [hn] at h1; simp at h1
      show (Vc.setL st2 d (.box t cs)).L[j]? = _
      rw [setL_keeps_other hij, k13 j (by show (Vc.setL st d (.box t (ls.map fun _ => S1.any))).L[j]? ≠ _; rw [hother j hij, h1]; simp)]
      exact (hother j hij).trans h1
    · exact upd_ne _ _ (by rintro rfl; rw [hn] at h1; simp at h1)
    · obtain ⟨a1, a2⟩ := hk.away hg h1 (blk_BA (σ := σ) h2)
      exact hbel.block _ a1 fun hh => a2 (hand _ hh)
  · exact h.elim
end
end Go.Vc
/- Calls: the theorem. -/
namespace Go.Vc
open Go Go.RowKit

section
variable {P : Program} {Γ : Tab} {w0 : W0} {w w' : World} {H0 H' : Heap} {st : St} {a : Act} {ρ : Nat → Nat} {σ : Nat → Value}
/- the common end: the call has returned, its result fits, and the public memory may be taken to be H2 -/
theorem call_end (hg : Good P w0 H0 st a w ρ σ) {H1 H' H2 : Heap} {sh : RSh} {post : PostR sh.parts (Heap → Prop)} {d : Option Tmp} {K : St → Prop} {v : Value} {nr : List NRow}
    (hgr : Grows w w' H1 H') (hle1 : Heap.le st.H H1) (hfit : Fits sh post v H' nr) (hnew : ∀ r ∈ nr, NewRow P w w' H' r) (hap : apartRows nr)
    (h2 : H2 = H' ∧ (∀ b, b < w.heap.size → ∀ o, H' b o = st.H b o) ∨ H2 = st.H)
    (hK : allR sh.parts post { st with H := H2 } fun r st' q => q H' → vcRes sh d r st' K) :
    ∃ st' ρ' σ', K st' ∧ Keeps d.toList st st' ∧ Good P w0 H0 st' (a.put d v) w' ρ' σ' ∧ Goes noX st st' ρ ρ' w w' := by
  have hle2 : Heap.le st.H H2 := by
    rcases h2 with ⟨rfl, _⟩ | rfl
    · exact Heap.le_trans hle1 hgr.le
    · exact Heap.le_refl _
  have hle3 : Heap.le H2 H' := by
    rcases h2 with ⟨rfl, _⟩ | rfl
    · exact Heap.le_refl _
    · exact Heap.le_trans hle1 hgr.le
  have hgood : Good P w0 H0 { st with H := H2 } a w' ρ σ := by
    refine hg.called hgr.below hle2 ?_ ?_ hgr.drawn
    · rcases h2 with ⟨rfl, h⟩ | rfl
      · exact h
      · exact fun _ _ _ => rfl
    · exact fun b o v hv => hgr.snap b o v (hle3 b o v hv)
  have hrow : ∀ r ∈ nr, RowIn P w0 w' H2 r := fun r hr => by
    obtain ⟨q1, q2, q3⟩ := hnew r hr
    refine ⟨⟨ownsRow_base0 q1, fun g hgb => .inl (Nat.le_trans hg.below.size (q1.lt g hgb).1)⟩, q2, fun g hgb o => ?_⟩
    cases hh : H2 g o with
    | none => rfl
    | some z => have := hle3 g o z hh; rw [q3 g hgb o] at this; simp at this
  have hsep : SepR { st with H := H2 } ρ σ nr := by
    refine ⟨fun r hr i f o g hi hb hh => ?_, fun r hr g hh => ?_⟩
    · have h1 := (hg.blk_lt hi hb).1
      have h2 := ((hnew r hr).1.lt g hh).1
      omega
    · have h2 := ((hnew r hr).1.lt g hh).1
      cases hO : st.O g with
      | none => rfl
      | some x =>
        obtain ⟨⟨_, ⟨cur, k2, _⟩, _⟩, _⟩ := hg.opn g x hO
        have := (Array.getElem?_eq_some_iff.1 k2).1
        omega
  unfold Fits at hfit
  obtain ⟨r, st', q, nr', us, σ', k1, ⟨_, k2, k3⟩, k4, k5, k6, k7, k8, k9, k10, k11⟩ := allR_sound hgood hK hfit hrow hap hsep
  obtain ⟨st2, j1, j2, j3, j4⟩ := vcRes_sound k4 (k1 k3) k5 k7 k2
  have hkeep : Keeps [] st { st with H := H2 } := ⟨rfl, rfl, fun _ _ => rfl, fun _ _ h => h, hle2⟩
  refine ⟨st2, ρ, σ', j1, ((hkeep.trans k6).mono (by simp)).trans j2, j3, fun i f o h1 h2 _ => ⟨f, ?_⟩, fun _ _ _ _ _ _ => rfl, fun i f o h1 h2 _ => ?_⟩
  · rw [j4, k11 i (by simp only; rw [h1]; simp)]
    exact h1
  · exact hgr.below.block _ (hg.blk_lt h1 (blk_BA (σ := σ) h2)).1
theorem vcPlain_sound (hg : Good P w0 H0 st a w ρ σ) {sh : RSh} {d : Option Tmp} {f : FuncId} {vals : List Value} {K : St → Prop} (h : vcPlain P sh st d f vals K) : CallOK P w0 H0 st a w ρ d f vals K := by
  obtain ⟨post, hc, hK⟩ := h
  refine ⟨hc.1, Calls.mono (hc.2 w hg.snap) ?_⟩
  rintro e w' ⟨v, H', nr, rfl, hfit, hgr, hnew, hap⟩
  obtain ⟨st', ρ', σ', k1, k2, k3, k4⟩ := call_end hg hgr (Heap.le_refl _) hfit hnew hap (.inl ⟨rfl, hgr.old⟩) (hK H' hgr.le)
  exact ⟨v, st', ρ', σ', rfl, k1, k2, k3, k4⟩
/- a call that is handed a row -/
theorem Good.calledX (hg : Good P w0 H0 st a w ρ σ) {i : Nat} {e : TypeId} {n : Nat} {xs : List Value} (hW : getW st i = some (.row e n xs)) (o' : LObj) (hb : BelX w w' (σ i).ownBlock) {H' : Heap} (hle : Heap.le st.H H')
    (hold : ∀ b, b < w.heap.size → (σ i).ownBlock ≠ some b → ∀ o, H' b o = st.H b o) (hs : Snap H' w') (ho' : ObjOK P w0 w' H' ρ σ i o') (hform : o' = .dead ∨ ∃ ys, o' = .row e n ys) : Good P w0 H0 { Vc.setL st i o' with H := H' } a w' ρ σ := by
  have hL := getW_some hW
  have hlt : i < st.L.length := (List.getElem?_eq_some_iff.1 hL).1
  have hrow := (hg.obj _ _ _ hL).1
  have hge : ∀ k, (σ i).ownBlock = some k → w0.nw (k) := fun k hk => (hrow.lt k hk).1
  have hblk' : ∀ g, blk ρ σ i o' = some g → blk ρ σ i (.row e n xs) = some g := by
    intro g h
    rcases hform with rfl | ⟨ys, rfl⟩
    · simp [blk] at h
    · exact h
  have hget : ∀ j, (Vc.setL st i o').L[j]? = if i = j then some (some (true, o')) else st.L[j]? := by
    intro j
    by_cases hj : i = j
    · subst hj; simp only [Vc.setL, if_true]; exact set_get hlt
    · simp only [Vc.setL, if_neg hj]; exact List.getElem?_set_ne hj
  have hne : ∀ j f o g, i ≠ j → st.L[j]? = some (some (f, o)) → blk ρ σ j o = some g → (σ i).ownBlock ≠ some g := fun j f o g hij hj hbj hh => hg.sep i j _ _ _ _ g hij hL hj hh hbj
  refine ⟨hg.defers, hg.size, hg.fr, ⟨hb.os.trans hg.below.os, hb.tape.trans hg.below.tape, hb.output.trans hg.below.output, Nat.le_trans hg.below.size hb.size, fun k hk hne => ?_, Nat.le_trans hg.below.drawn hb.drawn⟩, Heap.le_trans hg.le hle, fun b hbb o => ?_, hs, fun j f o h => ?_, fun j k f f' o o2 g hjk hj hk hbj hbk => ?_, fun d hd => ?_, hg.sl, fun b x hO => ?_⟩
  rotate_right
  · obtain ⟨⟨k1, ⟨cur, k2, k3⟩, k4⟩, k5⟩ := hg.opn b x hO
    have hlt := (Array.getElem?_eq_some_iff.1 k2).1
    refine ⟨⟨k1, ⟨cur, (hb.block b hlt (fun hh => k5 i _ _ hL hh)).trans k2, k3⟩, fun t ht => (hold b hlt (fun hh => k5 i _ _ hL hh) t).trans (k4 t ht)⟩, fun j f o hj => ?_⟩
    have hj : (Vc.setL st i o').L[j]? = some (some (f, o)) := hj
    rw [hget] at hj
    by_cases hij : i = j
    · subst hij
      rw [if_pos rfl] at hj
      simp only [Option.some.injEq, Prod.mk.injEq] at hj
      rw [← hj.2]
      exact fun hh => k5 i _ _ hL (hblk' b hh)
    · rw [if_neg hij] at hj
      exact k5 j f o hj
  · refine (hb.block k (Nat.lt_of_lt_of_le hk hg.below.size) fun hh => ?_).trans (hg.below.block k hk hne)
    rcases hge k hh with h1 | h1
    · omega
    · exact hne h1
  · exact (hold b (Nat.lt_of_lt_of_le (W0.old hbb).1 hg.below.size) (fun hh => hbb (hge b hh)) o).trans (hg.old b hbb o)
  · have h : (Vc.setL st i o').L[j]? = some (some (f, o)) := h
    rw [hget] at h
    by_cases hij : i = j
    · subst hij
      rw [if_pos rfl] at h
      simp only [Option.some.injEq, Prod.mk.injEq] at h
      rw [← h.2]; exact ho'
    · rw [if_neg hij] at h
      have ho := hg.obj j f o h
      have hblk := fun g => hg.blk_lt (g := g) h
      have hn := fun g => hne j f o g hij h
      cases o <;> simp only [ObjOK] at ho ⊢
      case box t cs =>
        obtain ⟨ys, h1, h2, h3, h4⟩ := ho
        have hlt := (hblk _ rfl).1
        exact ⟨ys, (hb.block _ hlt (hn _ rfl)).trans h1, h2, h3, fun o => (hold _ hlt (hn _ rfl) o).trans (h4 o)⟩
      case arr t xs =>
        obtain ⟨h1, h2, h3, h4⟩ := ho
        have hlt := (hblk _ rfl).1
        exact ⟨(hb.block _ hlt (hn _ rfl)).trans h1, h2, h3, fun o => (hold _ hlt (hn _ rfl) o).trans (h4 o)⟩
      case row e n xs =>
        obtain ⟨h1, h2, h3⟩ := ho
        refine ⟨⟨⟨h1.row.1, ?_⟩, h1.nw⟩, h2, fun g hgb o => (hold g (hblk g hgb).1 (hn g hgb) o).trans (h3 g hgb o)⟩
        rcases h1.row.2 with hh | ⟨g, cap, cur, hv, hle, hgc, hr⟩
        · exact .inl hh
        · exact .inr ⟨g, cap, cur, hv, hle, (hb.block g (Array.getElem?_eq_some_iff.1 hgc).1 (hn g (by show (σ j).ownBlock = some g; rw [hv]; rfl))).trans hgc, hr⟩
      case pub A n c => exact ho
  · have hj : (Vc.setL st i o').L[j]? = some (some (f, o)) := hj
    have hk : (Vc.setL st i o').L[k]? = some (some (f', o2)) := hk
    rw [hget] at hj hk
    by_cases hij : i = j
    · subst hij
      rw [if_pos rfl] at hj
      rw [if_neg hjk] at hk
      simp only [Option.some.injEq, Prod.mk.injEq] at hj
      rw [← hj.2] at hbj
      exact hg.sep i k _ _ _ _ g hjk hL hk (hblk' g hbj) hbk
    · rw [if_neg hij] at hj
      by_cases hik : i = k
      · subst hik
        rw [if_pos rfl] at hk
        simp only [Option.some.injEq, Prod.mk.injEq] at hk
        rw [← hk.2] at hbk
        exact hg.sep j i _ _ _ _ g hjk hj hL hbj (hblk' g hbk)
      · rw [if_neg hik] at hk
        exact hg.sep j k _ _ _ _ g hjk hj hk hbj hbk
  · have hd : (Vc.setL st i o').L[d]? = some none := hd
    rw [hget] at hd
    split at hd
    · simp at hd
    · refine ⟨(hg.nr d hd).fr, fun j f o hj => ?_⟩
      have hj : (Vc.setL st i o').L[j]? = some (some (f, o)) := hj
      rw [hget] at hj
      split at hj
      · simp only [Option.some.injEq, Prod.mk.injEq] at hj
        rw [← hj.2]
        rcases hform with rfl | ⟨ys, rfl⟩
        · exact fun hh => hh
        · exact fun hh => hh
      · exact (hg.nr d hd).obj j f o hj
theorem oneRow_get : ∀ {as : List SV} {k0 k i : Nat}, oneRow as k0 = some (k, i) → ∃ m, k = k0 + m ∧ as[m]? = some (.one (.own i))
  | x :: xs, k0, k, i, h => by
    unfold oneRow at h
    split at h
    · simp at h
    · rename_i heq
      simp at heq h
      obtain ⟨rfl, rfl⟩ := heq
      exact ⟨0, by omega, by simp [h.2]⟩
    · rename_i heq
      simp at heq
      obtain ⟨rfl, rfl⟩ := heq
      obtain ⟨m, h1, h2⟩ := oneRow_get h
      exact ⟨m + 1, by omega, by simpa using h2⟩
theorem relA_set : ∀ {as : List SV} {us : List Value} {m : Nat} {x : SV} {v : Value}, relA ρ σ as us → x.rel ρ σ v → relA ρ σ (as.set m x) (us.set m v)
  | [], [], _, _, _, h, _ => h
  | _ :: _, _ :: _, 0, _, _, h, hx => ⟨hx, h.2⟩
  | _ :: _, _ :: _, m + 1, _, _, h, hx => ⟨h.1, relA_set h.2 hx⟩
theorem relA_get : ∀ {as : List SV} {us : List Value} {m : Nat} {x : SV}, relA ρ σ as us → as[m]? = some x → ∃ v, us[m]? = some v ∧ x.rel ρ σ v
  | _ :: _, v :: _, 0, _, h, e => by simp at e; subst e; exact ⟨v, rfl, h.1⟩
  | _ :: _, _ :: _, m + 1, _, h, e => by
    obtain ⟨v, h1, h2⟩ := relA_get (m := m) h.2 (by simpa using e)
    exact ⟨v, by simpa using h1, h2⟩
/- the common end of a call that is handed a row -/
theorem mut_end (hg : Good P w0 H0 st a w ρ σ) {i : Nat} {e : TypeId} {n : Nat} {xs ys : List Value} (hW : getW st i = some (.row e n xs)) {keep : Bool} {H1 H' H2 : Heap} {sh : RSh} {post : PostR sh.parts (Heap → Prop)} {d : Option Tmp} {K : St → Prop} {v : Value} {nr : List NRow}
    (hgr : GrowsX w w' H1 H' (σ i).ownBlock) (hle1 : Heap.le st.H H1) (hfit : Fits sh post v H' nr) (hkeep : keep = true → RowX P w' 0 H' ⟨σ i, e, n, ys⟩)
    (hnew : ∀ r ∈ nr, RowX P w' 0 H' r ∧ ∀ g, r.s.ownBlock = some g → w.heap.size ≤ g ∨ (keep = false ∧ (σ i).ownBlock = some g)) (hap : apartRows nr) (h2 : (H1 = st.H ∧ H2 = H') ∨ H2 = st.H)
    (hK : allR sh.parts post { Vc.setL st i (if keep then .row e n ys else .dead) with H := H2 } fun r st' q => q H' → vcRes sh d r st' K) :
    ∃ st' ρ' σ', K st' ∧ Keeps d.toList st st' ∧ Good P w0 H0 st' (a.put d v) w' ρ' σ' ∧ Goes noX st st' ρ ρ' w w' := by
  have hL := getW_some hW
  have hlt : i < st.L.length := (List.getElem?_eq_some_iff.1 hL).1
  have hobj := hg.obj _ _ _ hL
  have hle2 : Heap.le st.H H2 := by
    rcases h2 with ⟨_, rfl⟩ | rfl
    · exact Heap.le_trans hle1 hgr.le
    · exact Heap.le_refl _
  have hle3 : Heap.le H2 H' := by
    rcases h2 with ⟨_, rfl⟩ | rfl
    · exact Heap.le_refl _
    · exact Heap.le_trans hle1 hgr.le
  have hold2 : ∀ b, b < w.heap.size → (σ i).ownBlock ≠ some b → ∀ o, H2 b o = st.H b o := by
    rcases h2 with ⟨rfl, rfl⟩ | rfl
    · exact hgr.old
    · exact fun _ _ _ _ => rfl
  have hnone : ∀ {g o : Nat}, H' g o = none → H2 g o = none := by
    intro g o h
    cases hh : H2 g o with
    | none => rfl
    | some z => rw [hle3 g o z hh] at h; cases h
  have hgood : Good P w0 H0 { Vc.setL st i (if keep then .row e n ys else .dead) with H := H2 } a w' ρ σ := by
    refine hg.calledX hW _ hgr.below hle2 hold2 (fun b o u hu => hgr.snap b o u (hle3 b o u hu)) ?_ ?_
    · cases keep with
      | true => exact ⟨⟨(hkeep rfl).1, hobj.1.nw⟩, (hkeep rfl).2.1, fun g hg o => hnone ((hkeep rfl).2.2 g hg o)⟩
      | false => trivial
    · cases keep with
      | true => exact .inr ⟨ys, rfl⟩
      | false => exact .inl rfl
  have hrow : ∀ r ∈ nr, RowIn P w0 w' H2 r := fun r hr => by
    obtain ⟨⟨q1, q2, q3⟩, q4⟩ := hnew r hr
    exact ⟨⟨q1, fun g hgb => by
      rcases q4 g hgb with h | ⟨_, h⟩
      · exact .inl (Nat.le_trans hg.below.size h)
      · exact hobj.1.nw g h⟩, q2, fun g hgb o => hnone (q3 g hgb o)⟩
  have hset : ∀ (o' : LObj) (j : Nat), (Vc.setL st i o').L[j]? = if i = j then some (some (true, o')) else st.L[j]? := by
    intro o' j
    by_cases hj : i = j
    · subst hj; simp only [Vc.setL, if_true]; exact set_get hlt
    · simp only [Vc.setL, if_neg hj]; exact List.getElem?_set_ne hj
  have hsep : SepR { Vc.setL st i (if keep then .row e n ys else .dead) with H := H2 } ρ σ nr := by
    refine ⟨fun r hr j f o g hj hb hh => ?_, fun r hr g hh => ?_⟩
    rotate_left
    · obtain ⟨_, hblk⟩ := hnew r hr
      rcases hblk g hh with h2 | ⟨_, h2⟩
      · show st.O g = none
        cases hO : st.O g with
        | none => rfl
        | some x =>
          obtain ⟨⟨_, ⟨cur, k2, _⟩, _⟩, _⟩ := hg.opn g x hO
          have := (Array.getElem?_eq_some_iff.1 k2).1
          omega
      · exact hg.noOpen hL h2
    have hj : (Vc.setL st i (if keep then .row e n ys else .dead)).L[j]? = some (some (f, o)) := hj
    rw [hset] at hj
    obtain ⟨_, hblk⟩ := hnew r hr
    by_cases hij : i = j
    · subst hij
      rw [if_pos rfl] at hj
      simp only [Option.some.injEq, Prod.mk.injEq] at hj
      rw [← hj.2] at hb
      cases keep with
      | true =>
        have h1 := (hg.blk_lt hL (g := g) hb).1
        rcases hblk g hh with h2 | ⟨h2, _⟩
        · omega
        · simp at h2
      | false => simp [blk] at hb
    · rw [if_neg hij] at hj
      rcases hblk g hh with h2 | ⟨_, h2⟩
      · have h1 := (hg.blk_lt hj hb).1
        omega
      · exact hg.sep i j _ _ _ _ g hij hL hj h2 hb
  unfold Fits at hfit
  obtain ⟨r, st', q, nr', vs, σ', k1, ⟨_, k2, k3⟩, k4, k5, k6, k7, k8, k9, k10, k11⟩ := allR_sound hgood hK hfit hrow hap hsep
  obtain ⟨st2, j1, j2, j3, j4⟩ := vcRes_sound k4 (k1 k3) k5 k7 k2
  have hkp : Keeps [] st { Vc.setL st i (if keep then .row e n ys else .dead) with H := H2 } := by
    have := Keeps.setL_w (o := if keep then .row e n ys else .dead) hW
    exact ⟨this.fl, this.ll, this.fr, this.ro, hle2⟩
  refine ⟨st2, ρ, σ', j1, ((hkp.trans k6).mono (by simp)).trans j2, j3, fun j f o h1 h2 _ => ⟨f, ?_⟩, fun _ _ _ _ _ _ => rfl, fun j f o h1 h2 _ => ?_⟩
  · have hij : i ≠ j := by
      intro e0; subst e0
      rw [hL] at h1
      simp only [Option.some.injEq, Prod.mk.injEq] at h1
      rw [← h1.2] at h2; simp [isBA] at h2
    have h3 : (Vc.setL st i (if keep then .row e n ys else .dead)).L[j]? = some (some (f, o)) := by rw [hset, if_neg hij]; exact h1
    rw [j4, k11 j (by simp only; rw [h3]; simp)]
    exact h3
  · have hij : i ≠ j := by
      intro e0; subst e0
      rw [hL] at h1
      simp only [Option.some.injEq, Prod.mk.injEq] at h1
      rw [← h1.2] at h2; simp [isBA] at h2
    refine hgr.below.block _ (hg.blk_lt h1 (blk_BA (σ := σ) h2)).1 fun hh => ?_
    exact hg.sep i j _ _ _ _ _ hij hL h1 hh (blk_BA (σ := σ) h2)
theorem vcMut_sound (hg : Good P w0 H0 st a w ρ σ) {ln : Bool} {sh : RSh} {d : Option Tmp} {f : FuncId} {as : List SV} {us : List Value} {keep : Bool} {K : St → Prop} (hrel : relA ρ σ as us) (h : vcMut P ln sh st d f as keep K) : CallOK P w0 H0 st a w ρ d f us K := by
  unfold vcMut at h
  split at h
  · exact h.elim
  · rename_i k i hone
    split at h
    · rename_i e n xs hW
      obtain ⟨m, hm, hget⟩ := oneRow_get hone
      obtain rfl : k = m := by omega
      obtain ⟨u, hu1, hu2⟩ := relA_get hrel hget
      have hu : u = σ i := hu2
      subst hu
      have hL := getW_some hW
      have hlt : i < st.L.length := (List.getElem?_eq_some_iff.1 hL).1
      have hobj := hg.obj _ _ _ hL
      have hback : (us.set k (.slice none 0 0)).set k (σ i) = us := by
        rw [List.set_set]
        obtain ⟨hk, e1⟩ := List.getElem?_eq_some_iff.1 hu1
        rw [← e1]; simp
      have hrel0 : relA ρ σ (as.set k (.one (.v (.slice none 0 0)))) (us.set k (.slice none 0 0)) := relA_set hrel rfl
      split at h
      · rename_i hv
        split at h
        · obtain ⟨post, hl, hK⟩ := h
          have hgood : Good P w0 H0 (Vc.setL st i .dead) a w ρ σ := hg.calledX hW .dead ⟨rfl, rfl, rfl, Nat.le_refl _, fun _ _ _ => rfl, Nat.le_refl _⟩ (Heap.le_refl _) (fun _ _ _ _ => rfl) hg.snap trivial (.inl rfl)
          obtain ⟨H1, hle, hs, hc, hlent⟩ := lendA_sound hgood hl hg.snap hrel0
          refine ⟨hc.1, ?_⟩
          have hcall := hc.2 w 0 (σ i) hs (Nat.zero_le _) ⟨hobj.1.row, hobj.2.1, fun g hgb o => by
            rw [hlent g (fun j f o hj hb => ?_)]
            · exact hobj.2.2 g hgb o
            · by_cases hij : i = j
              · subst hij
                have hj : (Vc.setL st i .dead).L[i]? = some (some (f, o)) := hj
                simp only [Vc.setL] at hj
                rw [set_get hlt] at hj
                simp at hj
                rw [← hj.2] at hb
                simp [blk] at hb
              · have hj : (Vc.setL st i .dead).L[j]? = some (some (f, o)) := hj
                simp only [Vc.setL] at hj
                rw [List.getElem?_set_ne hij] at hj
                exact hg.sep j i _ _ _ _ g (Ne.symm hij) hj hL hb hgb⟩
          rw [hback] at hcall
          refine Calls.mono hcall ?_
          rintro e' w' ⟨v, H', nr, ys, rfl, hfit, hgr, hkeep, hnew, hap⟩
          obtain ⟨st', ρ', σ', k1, k2, k3, k4⟩ := mut_end hg hW hgr hle hfit hkeep hnew hap (.inr rfl) (hK H' ys)
          exact ⟨v, st', ρ', σ', rfl, k1, k2, k3, k4⟩
        · exact h.elim
      · rename_i vals hv
        obtain ⟨post, hc, hK⟩ := h
        have hvals : us.set k (.slice none 0 0) = vals := plains_rel hv hrel0
        have hus : vals.set k (σ i) = us := by rw [← hvals]; exact hback
        refine ⟨hc.1, ?_⟩
        have hcall := hc.2 w 0 (σ i) hg.snap (Nat.zero_le _) ⟨hobj.1.row, hobj.2.1, hobj.2.2⟩
        rw [hus] at hcall
        refine Calls.mono hcall ?_
        rintro e' w' ⟨v, H', nr, ys, rfl, hfit, hgr, hkeep, hnew, hap⟩
        obtain ⟨st', ρ', σ', k1, k2, k3, k4⟩ := mut_end hg hW hgr (Heap.le_refl _) hfit hkeep hnew hap (.inl ⟨rfl, rfl⟩) (hK H' hgr.le ys)
        exact ⟨v, st', ρ', σ', rfl, k1, k2, k3, k4⟩
    · exact h.elim
theorem CallOK.monoX {d : Option Tmp} {f : FuncId} {us : List Value} {K : St → Prop} {X Y : Nat → Prop} (h : CallOK P w0 H0 st a w ρ d f us K X) (hs : ∀ i, X i → Y i) : CallOK P w0 H0 st a w ρ d f us K Y := by
  refine ⟨h.1, Calls.mono h.2 ?_⟩
  rintro e w' ⟨v, st2, ρ', σ', h1, h2, h3, h4, h5⟩
  exact ⟨v, st2, ρ', σ', h1, h2, h3, h4, h5.mono hs⟩
/- which box a call is handed -/
def bxX (an : Ann) (st : St) (d : Option Tmp) (f : FuncId) (args : St → Option (List SV)) (j : Nat) : Prop := ∃ as ls, args st = some as ∧ an.bx d f = some ls ∧ boxArg as = some j
theorem vcCall_sound (hg : Good P w0 H0 st a w ρ σ) {an : Ann} {t : TypeId} {d : Option Tmp} {f : FuncId} {args : St → Option (List SV)} {us : List Value} {K : St → Prop}
    (hargs : ∀ st', Good P w0 H0 st' a w ρ σ → ∀ as, args st' = some as → relA ρ σ as us) (h : vcCall P Γ an t st d f args K) : CallOK P w0 H0 st a w ρ d f us K (bxX an st d f args) := by
  unfold vcCall at h
  split at h
  · exact h.elim
  rename_i as has
  split at h
  · rename_i ls hbx
    exact (vcBox_sound hg (hargs st hg as has) h).monoX fun j hj => ⟨as, ls, has, hbx, hj⟩
  split at h
  · rename_i d' t' ls hnb
    obtain ⟨st', q1, q2, q3, q4⟩ := vcPubs_sound hg h
    have hd : d = some d' := by
      unfold nbOf at hnb
      split at hnb
      · split at hnb
        · simp at hnb; rw [hnb.1]
        · simp at hnb
      · simp at hnb
    split at q1
    · exact q1.elim
    · rename_i as' has'
      split at q1
      · rename_i vals hv
        have := plains_rel hv (hargs st' q3 as' has')
        subst this
        subst hd
        exact (CallOK.of_keeps q2 q4 (vcNew2_sound q3 q1)).any
      · exact q1.elim
  refine CallOK.any ?_
  · split at h
    · rename_i vals hv
      have := plains_rel hv (hargs st hg as has)
      subst this
      exact vcPlain_sound hg h
    · split at h
      · split at h
        · exact vcMut_sound hg (hargs st hg as has) h
        · obtain ⟨st', q1, q2, q3, q4⟩ := vcPubs_sound hg h
          split at q1
          · exact q1.elim
          · rename_i as' has'
            exact CallOK.of_keeps q2 q4 (vcMut_sound q3 (hargs st' q3 as' has') q1)
      split at h
      · obtain ⟨post, hl, hK⟩ := h
        obtain ⟨H1, hle, hs, hc, _⟩ := lendA_sound hg hl hg.snap (hargs st hg as has)
        refine ⟨hc.1, Calls.mono (hc.2 w hs) ?_⟩
        rintro e w' ⟨v, H', nr, rfl, hfit, hgr, hnew, hap⟩
        obtain ⟨st', ρ', σ', k1, k2, k3, k4⟩ := call_end hg hgr hle hfit hnew hap (.inr rfl) (hK H')
        exact ⟨v, st', ρ', σ', rfl, k1, k2, k3, k4⟩
      · obtain ⟨st', q1, q2, q3, q4⟩ := vcPubs_sound hg h
        split at q1
        · exact q1.elim
        · rename_i as' has'
          split at q1
          · rename_i vals hv
            have := plains_rel hv (hargs st' q3 as' has')
            subst this
            exact CallOK.of_keeps q2 q4 (vcPlain_sound q3 q1)
          · exact q1.elim
end
end Go.Vc
/- Maps of the call's own. -/
namespace Go.Vc
open Go Go.RowKit
section
variable {P : Program} {Γ : Tab} {w0 : W0} {w w' : World} {H0 H' : Heap} {st : St} {a : Act} {ρ : Nat → Nat} {σ : Nat → Value} {an : Ann}
theorem baeq (a b : ByteArray) : (a == b) = decide (a = b) := by
  rw [Bool.eq_iff_iff, decide_eq_true_eq]
  obtain ⟨a⟩ := a; obtain ⟨b⟩ := b
  show (a == b) = true ↔ _
  simp
/- finding a key -/
def entL (arr : List MapEntry) : List (Value × Value) := arr.map fun e => (e.key, e.val)
def keyD : TypeDesc → Value → Prop
  | .int _, .int _ _ => True
  | .string, .string _ => True
  | _, _ => False
theorem mput_mem {es : List (Value × Value)} {k v : Value} {p : Value × Value} (h : p ∈ mput es k v) : p ∈ es ∨ p = (k, v) := by
  induction es with
  | nil => simp [mput] at h; exact .inr h
  | cons q es ih =>
    simp only [mput] at h
    split at h
    · rcases List.mem_cons.1 h with rfl | h
      · exact .inr rfl
      · exact .inl (by simp [h])
    · rcases List.mem_cons.1 h with rfl | h
      · exact .inl (by simp)
      · rcases ih h with h | h
        · exact .inl (by simp [h])
        · exact .inr h
theorem findNow_spec {D : TypeDesc} {k : Value} (hk : keyD D k) : ∀ (es : List MapEntry) (i : Nat), (∀ e ∈ es, keyD D e.key ∧ ∀ q a q' b, k = .int q a → e.key = .int q' b → q = q') →
    ∃ r, Instr.findNow D k es i = some r ∧ ((r = none ∧ ∀ e ∈ es, keyEq k e.key = false) ∨ ∃ j e, r = some (i + j, e.val) ∧ es[j]? = some e ∧ keyEq k e.key = true ∧ ∀ e' ∈ es.take j, keyEq k e'.key = false)
  | [], i, _ => ⟨none, rfl, .inl ⟨rfl, fun e h => by cases h⟩⟩
  | e :: es, i, h => by
    obtain ⟨h1, h1'⟩ := h e (by simp)
    have hs : Instr.sameNow D k e.key = some (keyEq k e.key) := by
      revert hk h1 h1'
      cases D <;> cases k <;> simp only [keyD] <;> (try exact fun hk => hk.elim) <;> cases e.key <;> simp only [keyD] <;> intro _ h1 h1' <;> first | exact h1.elim | skip
      · rename_i q a q' b
        have := h1' _ _ _ _ rfl rfl
        subst this
        simp only [Instr.sameNow, keyEq, if_true]
        congr 1
      · simp only [Instr.sameNow, keyEq, baeq]
    unfold Instr.findNow
    rw [hs]
    cases hq : keyEq k e.key with
    | true => exact ⟨_, rfl, .inr ⟨0, e, by simp, rfl, hq, by simp⟩⟩
    | false =>
      obtain ⟨r, hr, hcase⟩ := findNow_spec hk es (i + 1) fun e' he' => h e' (by simp [he'])
      refine ⟨r, hr, ?_⟩
      rcases hcase with ⟨h2, h3⟩ | ⟨j, e', h2, h3, h4, h5⟩
      · refine .inl ⟨h2, fun e' he' => ?_⟩
        rcases List.mem_cons.1 he' with rfl | he'
        · exact hq
        · exact h3 e' he'
      · refine .inr ⟨j + 1, e', by rw [h2]; congr 2; omega, by simpa using h3, h4, fun x hx => ?_⟩
        rw [List.take_succ_cons] at hx
        rcases List.mem_cons.1 hx with rfl | hx
        · exact hq
        · exact h5 x hx
theorem mfind_none {es : List MapEntry} {k : Value} (h : ∀ e ∈ es, keyEq k e.key = false) : mfind (entL es) k = none ∧ mhas (entL es) k = false ∧ ∀ v, mput (entL es) k v = entL es ++ [(k, v)] := by
  induction es with
  | nil => exact ⟨rfl, rfl, fun v => rfl⟩
  | cons e es ih =>
    obtain ⟨h1, h2, h3⟩ := ih fun x hx => h x (by simp [hx])
    have he := h e (by simp)
    refine ⟨?_, ?_, fun v => ?_⟩
    · simp only [mfind, entL, List.map_cons, List.find?_cons, he] at h1 ⊢
      exact h1
    · simp only [mhas, entL, List.map_cons, List.any_cons, he, Bool.false_or] at h2 ⊢
      exact h2
    · simp only [entL, List.map_cons, mput, he, Bool.false_eq_true, if_false, List.cons_append] at h3 ⊢
      rw [h3]
theorem mfind_some {es : List MapEntry} {k : Value} {j : Nat} {e : MapEntry} (hj : es[j]? = some e) (he : keyEq k e.key = true) (hb : ∀ x ∈ es.take j, keyEq k x.key = false) :
    mfind (entL es) k = some e.val ∧ mhas (entL es) k = true ∧ ∀ v, mput (entL es) k v = (entL es).set j (k, v) := by
  induction es generalizing j with
  | nil => simp at hj
  | cons x es ih =>
    cases j with
    | zero =>
      simp at hj; subst hj
      refine ⟨?_, ?_, fun v => ?_⟩
      · simp [mfind, entL, List.find?_cons, he]
      · simp [mhas, entL, he]
      · simp [entL, mput, he]
    | succ j =>
      have hx := hb x (by simp)
      obtain ⟨h1, h2, h3⟩ := ih (j := j) (by simpa using hj) fun y hy => hb y (by rw [List.take_succ_cons]; simp [hy])
      refine ⟨?_, ?_, fun v => ?_⟩
      · simp only [mfind, entL, List.map_cons, List.find?_cons, hx] at h1 ⊢
        exact h1
      · simp only [mhas, entL, List.map_cons, List.any_cons, hx, Bool.false_or] at h2 ⊢
        exact h2
      · simp only [entL, List.map_cons, mput, hx, Bool.false_eq_true, if_false, List.set_cons_succ] at h3 ⊢
        rw [h3]
theorem keyOK_desc (hT : TabOK P Γ) {kt : TypeId} {ki : TyI} (hk : Γ kt = some ki) {kv : Value} (h : keyOK ki.ty kv = true) :
    (∃ q x, P.underlying kt = some (.int q) ∧ kv = .int q x) ∨ ∃ s, P.underlying kt = some .string ∧ kv = .string s := by
  have hu := (hT _ _ hk).und
  revert hu h
  cases ki.ty <;> cases kv <;> simp only [keyOK] <;> intro h hu <;> first | exact (Bool.false_ne_true h).elim | skip
  · rename_i q q' x
    have : q = q' := by simpa using h
    subst this
    exact .inl ⟨_, _, hu, rfl⟩
  · exact .inr ⟨_, hu, rfl⟩
/- the runs -/
theorem run_checkKey {kt : TypeId} {kv : Value} (h : (∃ q x, P.underlying kt = some (.int q) ∧ kv = .int q x) ∨ ∃ s, P.underlying kt = some .string ∧ kv = .string s) (em : Bool) (w : World) :
    (Instr.checkKey em 10000 kt kv).run P w = .ok () w := by
  rw [show (10000 : Nat) = 9999 + 1 from rfl, Instr.checkKey]
  rcases h with ⟨q, x, h1, rfl⟩ | ⟨s, h1, rfl⟩ <;> simp [run_und h1]
theorem run_findKey {t kt et : TypeId} {kv : Value} (ht : P.underlying t = some (.map kt et)) (h : (∃ q x, P.underlying kt = some (.int q) ∧ kv = .int q x) ∨ ∃ s, P.underlying kt = some .string ∧ kv = .string s) {arr : List MapEntry}
    (hw : ∀ p ∈ entL arr, keyW P t p.1) (w : World) :
    ∃ r, (Instr.findKey kt kv arr).run P w = .ok r w ∧ ((r = none ∧ ∀ e ∈ arr, keyEq kv e.key = false) ∨ ∃ j e, r = some (j, e.val) ∧ arr[j]? = some e ∧ keyEq kv e.key = true ∧ ∀ e' ∈ arr.take j, keyEq kv e'.key = false) := by
  have key : ∃ D, P.underlying kt = some D ∧ keyD D kv ∧ ∀ e ∈ arr, keyD D e.key ∧ ∀ q a q' b, kv = .int q a → e.key = .int q' b → q = q' := by
    have hall : ∀ e ∈ arr, keyW P t e.key := fun e he => hw (e.key, e.val) (List.mem_map.2 ⟨e, he, rfl⟩)
    rcases h with ⟨q, x, h1, rfl⟩ | ⟨s, h1, rfl⟩
    · refine ⟨_, h1, trivial, fun e he => ?_⟩
      obtain ⟨k', e', h2, h3⟩ := hall e he
      rw [ht] at h2; cases h2
      rcases h3 with ⟨q', a', h3, h4⟩ | ⟨s, h3, _⟩
      · rw [h1] at h3; cases h3
        rw [h4]
        refine ⟨trivial, fun q1 a1 q2 b2 e1 e2 => ?_⟩
        cases e1; cases e2; rfl
      · rw [h1] at h3; cases h3
    · refine ⟨_, h1, trivial, fun e he => ?_⟩
      obtain ⟨k', e', h2, h3⟩ := hall e he
      rw [ht] at h2; cases h2
      rcases h3 with ⟨q', a', h3, _⟩ | ⟨s', h3, h4⟩
      · rw [h1] at h3; cases h3
      · rw [h4]
        exact ⟨trivial, fun q1 a1 q2 b2 e1 e2 => by cases e1⟩
  obtain ⟨D, hD, hk, hall⟩ := key
  obtain ⟨r, hr, hcase⟩ := findNow_spec hk arr 0 hall
  refine ⟨r, ?_, ?_⟩
  · simp [Instr.findKey, run_und hD, hr]
  · rcases hcase with h | ⟨j, e, h1, h2⟩
    · exact .inl h
    · exact .inr ⟨j, e, by rw [h1]; simp, h2⟩
theorem goesS (st : St) (d : Option Tmp) (x : SV) (ρ : Nat → Nat) (w : World) {X : Nat → Prop} : Goes X st (setS st d x) ρ ρ w w := by
  refine ⟨fun i f o h _ _ => ⟨f, ?_⟩, fun _ _ _ _ _ _ => rfl, fun _ _ _ _ _ _ => rfl⟩
  cases d <;> exact h
theorem mkV_zero {t : TypeId} {i : TyI} (h : TyOK P t i) {z : Value} {w : World} (hz : (zeroValue t).run P w = .ok z w) : mkV i.agg i.zero = some z := by
  obtain ⟨inf, z', h1, _, _, h4, h5⟩ := h.info
  have hz' : z' = z := by
    have : (zeroValue t).run P w = .ok z' w := by simp [zeroValue, typeInfo, h1, h4]
    rw [this] at hz
    simpa using hz
  subst hz'
  have hf := h.zform inf z' h1 h4
  cases ha : i.agg with
  | true =>
    obtain ⟨cs, rfl⟩ := hf.1 ha
    have : cs = ⟨i.zero⟩ := h5
    subst this; rfl
  | false =>
    have hn : ∀ cs, z' ≠ .agg cs := fun cs e => by have := hf.2 ⟨cs, e⟩; rw [ha] at this; cases this
    have h6 : z'.cells = #[z'] := by cases z' <;> first | rfl | exact absurd rfl (hn _)
    rw [h6] at h5
    have : i.zero = [z'] := (congrArg Array.toList h5).symm
    rw [this]; rfl
theorem mkSV_rel2 {agg : Bool} {cs : List S1} {r : SV} {vs : List Value} {v : Value} (h : mkSV agg cs = some r) (hv : mkV agg vs = some v) (hr : relL ρ σ cs vs) : r.rel ρ σ v := by
  cases agg with
  | true =>
    simp [mkSV] at h; subst h
    simp [mkV] at hv; subst hv
    exact ⟨_, rfl, hr⟩
  | false =>
    match cs, h with
    | [c], h =>
      simp [mkSV] at h; subst h
      match vs, hv, hr with
      | [x], hv, hr =>
        simp [mkV] at hv; subst hv
        exact hr.1
      | [], hv, hr => exact hr.elim
      | _ :: _ :: _, hv, hr => exact hr.2.elim
theorem mkSV_refs {agg : Bool} {cs : List S1} {r : SV} (h : mkSV agg cs = some r) (hn : ∀ d, ¬ refsL d cs) : ∀ d, ¬ r.refs d := by
  intro d hh
  cases agg with
  | true => simp [mkSV] at h; subst h; exact hn d hh
  | false =>
    match cs, h with
    | [c], h =>
      simp [mkSV] at h; subst h
      exact hn d ⟨c, by simp, hh⟩
theorem tup_rel {agg : Bool} {cs : List S1} {vs : List Value} {v : Value} {b : Bool} (hv : mkV agg vs = some v) (hr : relL ρ σ cs vs) : (SV.tup [(agg, cs), (false, [.b b])]).rel ρ σ (.tuple #[v, .bool b]) := by
  refine ⟨_, rfl, ?_⟩
  cases agg with
  | true =>
    simp [mkV] at hv; subst hv
    exact ⟨⟨_, rfl, hr⟩, ⟨rfl, trivial⟩, trivial⟩
  | false =>
    match vs, hv with
    | [x], hv =>
      simp [mkV] at hv; subst hv
      exact ⟨hr, ⟨rfl, trivial⟩, trivial⟩
theorem makeMap_sound (hT : TabOK P Γ) (hg : Good P w0 H0 st a w ρ σ) {dst : Option Tmp} {t ty : TypeId} {r : Option Operand} {pos : String} {after : Array Edge} {gd : Option (Nat × Bool)} {K : St → Prop} (h : vcEf P Γ an st dst ty (.makeMap t r) K) :
    EfOK P w0 H0 st a w ρ ⟨dst, .makeMap t r, ty, pos, after, gd⟩ K := by
  simp only [vcEf] at h
  split at h
  · exact h.elim
  · rename_i d
    split at h
    · exact h.elim
    · rename_i i hi
      split at h
      · rename_i kt et hty
        have hu := (hT _ _ hi).und
        rw [hty] at hu
        have hu : P.underlying t = some (.map kt et) := hu
        split at h
        · rename_i hh
          have hnb : ∀ x, st.O w.heap.size ≠ some x := fun x hx => by
            obtain ⟨⟨_, ⟨ob, k2, _⟩, _⟩, _⟩ := hg.opn _ _ hx
            have := (Array.getElem?_eq_some_iff.1 k2).1
            omega
          have hO0 : st.O w.heap.size = none := by
            cases hx : st.O w.heap.size with
            | none => rfl
            | some x => exact absurd hx (hnb x)
          have hH0 : ∀ k, st.H w.heap.size k = none := fun k => by
            cases hh : st.H w.heap.size k with
            | none => rfl
            | some z => exact absurd (hg.H_lt hh) (Nat.lt_irrefl _)
          obtain ⟨O2, hO2⟩ : ∃ O2 : OMap, O2 = fun b => if b = w.heap.size then some (.mp t []) else st.O b := ⟨_, rfl⟩
          have hK := h w.heap.size O2 ⟨hO0, by rw [hO2]; simp, fun b' hb' => by rw [hO2]; simp [hb']⟩
          have hgr : GrB w (w.alloc (.map #[] 0)) none := GrB.alloc w _ none
          refine ⟨_, .map (some w.heap.size), w.alloc (.map #[] 0), _, ρ, σ, ?_, .inl rfl, hK, ?_, ?_, ?_⟩
          · have hn : (newObj (.map #[] 0)).run P w = .ok w.heap.size (w.alloc (.map #[] 0)) := rfl
            cases r with
            | none => simp [execOp, Instr.makeMap, hn]
            | some x =>
              simp only [mapHint] at hh
              split at hh
              · rename_i q n hx
                have hv : a.eval x = .int q n := ev_rel hg hx
                simp [execOp, Instr.makeMap, hn, hv, run_und hu, asInt, asIntOf]
              · simp at hh
          · have hk1 : Keeps [d] st { st with O := O2 } := ⟨rfl, rfl, fun _ _ => rfl, fun _ _ h => h, Heap.le_refl _⟩
            exact hk1.trans (Keeps.setS _ (some d) _)
          · refine Good.setS (hg.opened hgr (fun g hg' => by simp at hg') (Heap.le_refl _) (fun b hb o => rfl) ?_ (fun i f o g hi hbk t => rfl) (fun b x hO => ?_)) (some d) rfl (fun _ _ hh => hh)
            · intro b o u hu2
              have hlt' := hg.H_lt hu2
              exact (hg.snap _ _ _ hu2).keep (hgr.block b hlt' (by simp))
            · rw [hO2] at hO
              by_cases hb : b = w.heap.size
              · subst hb
                simp only [if_true, Option.some.injEq] at hO
                subst hO
                refine ⟨⟨.inl hg.below.size, ⟨.map #[] 0, by show (w.heap.push (.map #[] 0))[w.heap.size]? = _; simp, #[], 0, rfl, rfl, fun p hp => by cases hp⟩, fun t _ => hH0 t⟩, fun i f o hi hbk => ?_⟩
                have := (hg.blk_lt hi hbk).1; omega
              · simp only [if_neg hb] at hO
                obtain ⟨⟨k1, ⟨ob, k2, k3⟩, k4⟩, k5⟩ := hg.opn b x hO
                exact ⟨⟨k1, ⟨ob, (hgr.block b (Array.getElem?_eq_some_iff.1 k2).1 (by simp)).trans k2, k3⟩, k4⟩, k5⟩
          · refine ⟨fun i f o h1 _ _ => ⟨f, h1⟩, fun _ _ _ _ _ _ => rfl, fun i f o h1 h2 _ => ?_⟩
            exact hgr.block _ (hg.blk_lt h1 (blk_BA (ρ := ρ) (σ := σ) (i := i) h2)).1 (by simp)
        · exact h.elim
      · exact h.elim
theorem lookup_sound (hT : TabOK P Γ) (hg : Good P w0 H0 st a w ρ σ) {dst : Option Tmp} {t ty : TypeId} {m k : Operand} {ok : Bool} {pos : String} {after : Array Edge} {gd : Option (Nat × Bool)} {K : St → Prop} (h : vcEf P Γ an st dst ty (.lookup t m k ok) K) :
    EfOK P w0 H0 st a w ρ ⟨dst, .lookup t m k ok, ty, pos, after, gd⟩ K := by
  simp only [vcEf] at h
  split at h
  · exact h.elim
  · rename_i d
    split at h
    · exact h.elim
    · rename_i i hi
      split at h
      · rename_i kt et hty
        have hu := (hT _ _ hi).und
        rw [hty] at hu
        have hu : P.underlying t = some (.map kt et) := hu
        split at h
        · exact h.elim
        · rename_i ki hki
          split at h
          · exact h.elim
          · rename_i ei hei
            split at h
            · rename_i A hm
              have hmv : a.eval m = .map A := ev_rel hg hm
              split at h
              · rename_i kv hk
                have hkv : a.eval k = kv := ev_rel hg hk
                split at h
                · rename_i hko
                  obtain ⟨es, hes, h⟩ := h
                  have hkd := keyOK_desc hT hki hko
                  obtain ⟨vs, cs, hr, hn, hlk, h⟩ := exQ_sound (ρ := ρ) (σ := σ) h
                  split at h
                  · rename_i hlen
                    split at h
                    · rename_i rr hmk
                      obtain ⟨z, hz, hzc⟩ := (hT _ _ hei).run_zero w
                      -- the entries
                      obtain ⟨arr, harr, hent, hwf⟩ : ∃ arr : Array MapEntry, ((A = none ∧ arr = #[]) ∨ ∃ b clock, A = some b ∧ w.heap[b]? = some (.map arr clock)) ∧ entL arr.toList = es ∧ ∀ p ∈ es, keyW P t p.1 := by
                        rcases hes with ⟨rfl, rfl⟩ | ⟨b, rfl, hO⟩
                        · exact ⟨#[], .inl ⟨rfl, rfl⟩, rfl, fun p hp => by cases hp⟩
                        · obtain ⟨⟨_, ⟨ob, k2, arr, clock, rfl, k3, k4⟩, _⟩, _⟩ := hg.opn _ _ hO
                          exact ⟨arr, .inr ⟨b, clock, rfl, k2⟩, k3, k4⟩
                      subst hent
                      obtain ⟨rf, hf1, hf2⟩ := run_findKey hu hkd hwf w
                      -- the value
                      have hval : ∃ v : Value, ∃ b : Bool, mkV ei.agg vs = some v ∧ b = mhas (entL arr.toList) kv ∧ ((rf = none ∧ v = z ∧ b = false) ∨ ∃ j, rf = some (j, v) ∧ b = true) := by
                        rcases hf2 with ⟨rfl, hno⟩ | ⟨j, e, rfl, hj, he, hb⟩
                        · obtain ⟨q1, q2, _⟩ := mfind_none hno
                          rw [lkIs, q1] at hlk
                          have hlk : vs = ei.zero := hlk
                          refine ⟨z, false, ?_, q2.symm, .inl ⟨rfl, rfl, rfl⟩⟩
                          rw [hlk]
                          exact mkV_zero (hT _ _ hei) hz
                        · obtain ⟨q1, q2, _⟩ := mfind_some hj he hb
                          rw [lkIs, q1] at hlk
                          exact ⟨e.val, true, hlk, q2.symm, .inr ⟨j, rfl, rfl⟩⟩
                      obtain ⟨v, b, hv1, hv2, hv3⟩ := hval
                      have hrun : (Instr.lookup t (.map A) kv ok).run P w = .ok (if ok then .tuple #[v, .bool b] else v) w := by
                        have hck := run_checkKey (P := P) hkd
                        rcases harr with ⟨rfl, rfl⟩ | ⟨bk, clock, rfl, hbk⟩
                        · rcases hv3 with ⟨rfl, rfl, rfl⟩ | ⟨j, rfl, rfl⟩
                          · simp [Instr.lookup, run_und hu, hck, hf1, hz]
                          · simp [Instr.lookup, run_und hu, hck, hf1]
                        · have hgo : (getObj bk).run P w = .ok (.map arr clock) w := by simp [getObj, Sem.run, hbk]
                          rcases hv3 with ⟨rfl, rfl, rfl⟩ | ⟨j, rfl, rfl⟩
                          · simp [Instr.lookup, run_und hu, hck, hf1, hz, hgo]
                          · simp [Instr.lookup, run_und hu, hck, hf1, hgo]
                      have hrel : rr.rel ρ σ v := mkSV_rel2 hmk hv1 hr
                      have hnr : ∀ d', ¬ rr.refs d' := mkSV_refs hmk hn
                      subst hv2
                      cases ok with
                      | true =>
                        refine ⟨_, _, w, _, ρ, σ, ?_, .inl rfl, h, Keeps.setS st (some d) _, Good.setS hg (some d) (v := .tuple #[v, .bool (mhas (entL arr.toList) kv)]) ?_ ?_, goesS st (some d) _ ρ w⟩
                        · simp [execOp, hmv, hkv, hrun]
                        · exact tup_rel hv1 hr
                        · rintro d' _ ⟨x, hx, hh⟩
                          rcases List.mem_cons.1 hx with rfl | hx
                          · exact hn d' hh
                          · simp at hx; subst hx
                            obtain ⟨c, hc, hh⟩ := hh
                            simp at hc; subst hc
                            exact hh
                      | false =>
                        refine ⟨_, _, w, _, ρ, σ, ?_, .inl rfl, h, Keeps.setS st (some d) _, Good.setS hg (some d) hrel (fun d' _ => hnr d'), goesS st (some d) _ ρ w⟩
                        simp [execOp, hmv, hkv, hrun]
                    · exact h.elim
                  · exact h.elim
                · exact h.elim
              · exact h.elim
            · exact h.elim
      · exact h.elim
theorem set_ent {arr : Array MapEntry} {j : Nat} {e : MapEntry} {k v : Value} (hj : arr.toList[j]? = some e) : entL (arr.modify j fun e => { e with key := k, val := v }).toList = (entL arr.toList).set j (k, v) := by
  apply List.ext_getElem?
  intro n
  simp only [entL, List.getElem?_map, List.getElem?_set, Array.getElem?_toList, Array.getElem?_modify, List.length_map, Array.length_toList]
  have hlt : j < arr.size := by
    have := (List.getElem?_eq_some_iff.1 hj).1
    simpa using this
  by_cases hn : j = n
  · subst hn
    simp [hlt]
  · simp [hn]
theorem run_keyStays {kv : Value} (h : (∃ q x, kv = .int q x) ∨ ∃ s, kv = .string s) {k' : Value} (he : keyEq kv k' = true) (hq : ∀ q a q' b, kv = .int q a → k' = .int q' b → q = q') (w : World) :
    (Instr.keyThatStays k' kv).run P w = .ok kv w := by
  rcases h with ⟨q, x, rfl⟩ | ⟨s, rfl⟩
  · cases k' <;> simp [keyEq] at he
    rename_i q' x'
    have := hq _ _ _ _ rfl rfl
    subst this; subst he
    simp [Instr.keyThatStays, Instr.sameBits]
  · cases k' <;> simp [keyEq] at he
    subst he
    simp [Instr.keyThatStays, Instr.sameBits, baeq]
theorem mapUpdate_sound (hT : TabOK P Γ) (hg : Good P w0 H0 st a w ρ σ) {dst : Option Tmp} {t ty : TypeId} {m k x : Operand} {pos : String} {after : Array Edge} {gd : Option (Nat × Bool)} {K : St → Prop} (h : vcEf P Γ an st dst ty (.mapUpdate t m k x) K) :
    EfOK P w0 H0 st a w ρ ⟨dst, .mapUpdate t m k x, ty, pos, after, gd⟩ K := by
  simp only [vcEf] at h
  split at h
  · exact h.elim
  · split at h
    · exact h.elim
    · rename_i i hi
      split at h
      · rename_i kt et hty
        have hu := (hT _ _ hi).und
        rw [hty] at hu
        have hu : P.underlying t = some (.map kt et) := hu
        split at h
        · exact h.elim
        · rename_i ki hki
          split at h
          · rename_i A hm
            have hmv : a.eval m = .map A := ev_rel hg hm
            split at h
            · rename_i kv hk
              have hkv : a.eval k = kv := ev_rel hg hk
              split at h
              · rename_i hko
                split at h
                · rename_i xv hx
                  split at h
                  · rename_i vv hvv
                    have hxv : a.eval x = vv := SV.plain_rel hvv (ev_rel hg hx)
                    obtain ⟨es, ⟨b, rfl, hO⟩, h⟩ := h
                    have hkd := keyOK_desc hT hki hko
                    obtain ⟨⟨k1, ⟨ob, k2, arr, clock, rfl, k3, k4⟩, k6⟩, k5⟩ := hg.opn _ _ hO
                    have k3 : entL arr.toList = es := k3
                    subst k3
                    have hblt := (Array.getElem?_eq_some_iff.1 k2).1
                    obtain ⟨rf, hf1, hf2⟩ := run_findKey hu hkd k4 w
                    have hck := run_checkKey (P := P) hkd false w
                    have hgo : (getObj b).run P w = .ok (.map arr clock) w := by simp [getObj, Sem.run, k2]
                    have hset : ∀ ob, (setObj b ob).run P w = .ok () { w with heap := w.heap.setIfInBounds b ob } := fun ob => by simp [setObj, Sem.run, k2]
                    -- what the block holds then
                    have hres : ∃ arr' clock', (Instr.mapUpdate t (.map (some b)) kv vv).run P w = .ok () { w with heap := w.heap.setIfInBounds b (.map arr' clock') } ∧ entL arr'.toList = mput (entL arr.toList) kv vv := by
                      rcases hf2 with ⟨rfl, hno⟩ | ⟨j, e, rfl, hj, he, hb⟩
                      · obtain ⟨_, _, q3⟩ := mfind_none hno
                        refine ⟨arr.push ⟨kv, vv, clock⟩, clock + 1, ?_, ?_⟩
                        · simp [Instr.mapUpdate, run_und hu, hgo, hck, hf1, hset]
                        · rw [q3]; simp [entL]
                      · obtain ⟨_, _, q3⟩ := mfind_some hj he hb
                        have hj' : arr[j]? = some e := by simpa using hj
                        refine ⟨arr.modify j fun e => { e with key := kv, val := vv }, clock, ?_, ?_⟩
                        · have hst : (Instr.keyThatStays (((arr[j]?).map (·.key)).getD kv) kv).run P w = .ok kv w := by
                            rw [hj']
                            refine run_keyStays ?_ he ?_ w
                            · rcases hkd with ⟨q, z, _, e1⟩ | ⟨s, _, e1⟩
                              · exact .inl ⟨_, _, e1⟩
                              · exact .inr ⟨_, e1⟩
                            · intro q a1 q' b1 e1 e2
                              obtain ⟨k', e', u1, u2⟩ := k4 (e.key, e.val) (List.mem_map.2 ⟨e, List.mem_of_getElem? hj, rfl⟩)
                              rw [hu] at u1; cases u1
                              rcases hkd with ⟨q2, z, u3, u4⟩ | ⟨s, u3, u4⟩
                              · rcases u2 with ⟨q3, a3, u5, u6⟩ | ⟨s, u5, u6⟩
                                · rw [u3] at u5; cases u5
                                  rw [u4] at e1; cases e1
                                  simp only at u6
                                  rw [e2] at u6; cases u6; rfl
                                · rw [u3] at u5; cases u5
                              · rw [u4] at e1; cases e1
                          simp [Instr.mapUpdate, run_und hu, hgo, hck, hf1, hst, hset]
                        · rw [q3]; exact set_ent hj
                    obtain ⟨arr', clock', hrun, hent⟩ := hres
                    obtain ⟨w', hw'⟩ : ∃ w' : World, w' = { w with heap := w.heap.setIfInBounds b (.map arr' clock') } := ⟨_, rfl⟩
                    rw [← hw'] at hrun
                    have hgr : GrB w w' (some b) := by
                      refine ⟨⟨by rw [hw'], by rw [hw'], by rw [hw'], by rw [hw']; simp, fun n hn hne => ?_⟩, by rw [hw']; exact Nat.le_refl _⟩
                      rw [hw']
                      have : b ≠ n := fun e => hne (by rw [e])
                      simp [Array.getElem?_setIfInBounds_ne this]
                    obtain ⟨O2, hO2⟩ : ∃ O2 : OMap, O2 = fun n => if n = b then some (.mp t (mput (entL arr.toList) kv vv)) else st.O n := ⟨_, rfl⟩
                    have hK := h O2 ⟨b, rfl, by rw [hO2]; simp, fun b' hb' => by rw [hO2]; simp [hb']⟩
                    refine ⟨_, undef, w', _, ρ, σ, ?_, .inr ⟨rfl, rfl⟩, hK, ?_, ?_, ?_⟩
                    · simp [execOp, hmv, hkv, hxv, hrun]
                    · exact ⟨rfl, rfl, fun _ _ => rfl, fun _ _ h => h, Heap.le_refl _⟩
                    · refine hg.opened hgr (fun g hg' => by cases hg'; rw [hO]; simp) (Heap.le_refl _) (fun b hb o => rfl) ?_ (fun i f o g hi hbk t => rfl) (fun n z hz => ?_)
                      · intro n o u hu2
                        have hlt' := hg.H_lt hu2
                        have hne : n ≠ b := fun e => by
                          subst e
                          rw [k6 o trivial] at hu2; cases hu2
                        exact (hg.snap _ _ _ hu2).keep (hgr.block n hlt' (fun e => hne (by cases e; rfl)))
                      · rw [hO2] at hz
                        by_cases hb : n = b
                        · subst hb
                          simp only [if_true, Option.some.injEq] at hz
                          subst hz
                          refine ⟨⟨k1, ⟨_, by rw [hw']; simp [hblt], arr', clock', rfl, hent, fun p hp => ?_⟩, k6⟩, k5⟩
                          rcases mput_mem hp with hp | rfl
                          · exact k4 p hp
                          · exact ⟨kt, et, hu, hkd⟩
                        · simp only [if_neg hb] at hz
                          obtain ⟨⟨j1, ⟨ob, j2, j3⟩, j4⟩, j5⟩ := hg.opn n z hz
                          exact ⟨⟨j1, ⟨ob, (hgr.block n (Array.getElem?_eq_some_iff.1 j2).1 (fun e => hb (by cases e; rfl))).trans j2, j3⟩, j4⟩, j5⟩
                    · refine ⟨fun i f o h1 _ _ => ⟨f, h1⟩, fun _ _ _ _ _ _ => rfl, fun i f o h1 h2 _ => ?_⟩
                      have hbk := blk_BA (ρ := ρ) (σ := σ) (i := i) h2
                      refine hgr.block _ (hg.blk_lt h1 hbk).1 (fun e => ?_)
                      have := hg.noOpen h1 hbk
                      cases e
                      rw [hO] at this; cases this
                  · exact h.elim
                · exact h.elim
              · exact h.elim
            · exact h.elim
          · exact h.elim
      · exact h.elim
end
end Go.Vc
/- One operation, and a row of operations. -/
namespace Go.Vc
open Go Go.RowKit

section
variable {P : Program} {Γ : Tab} {w0 : W0} {w w' : World} {H0 H' : Heap} {st : St} {a : Act} {ρ : Nat → Nat} {σ : Nat → Value} {an : Ann}
theorem relA_append {xs ys : List SV} {us vs : List Value} : relA ρ σ xs us → relA ρ σ ys vs → relA ρ σ (xs ++ ys) (us ++ vs) := by
  induction xs generalizing us with
  | nil =>
    intro h k
    cases us with
    | nil => exact k
    | cons _ _ => exact h.elim
  | cons x xs ih =>
    intro h k
    cases us with
    | nil => exact h.elim
    | cons u us => exact ⟨h.1, ih h.2 k⟩
theorem relA_evs (hg : Good P w0 H0 st a w ρ σ) : ∀ {xs : List Operand} {rs : List SV}, evs st xs = some rs → relA ρ σ rs (xs.map a.eval)
  | [], rs, h => by simp [evs] at h; subst h; trivial
  | x :: xs, rs, h => by
    simp only [evs] at h
    split at h
    · rename_i r hr
      split at h
      · rename_i rs' hrs
        simp at h; subst h
        exact ⟨ev_rel hg hr, relA_evs hg hrs⟩
      · simp at h
    · simp at h
theorem relA_caps (hg : Good P w0 H0 st a w ρ σ) : ∀ {cap : List S1} {ys : List Value}, relL ρ σ cap ys → relA ρ σ (cap.map fun c => .one (res1 st c)) ys
  | [], [], _ => trivial
  | _ :: _, _ :: _, h => ⟨res1_rel hg.obj h.1, relA_caps hg h.2⟩
  | [], _ :: _, h => h.elim
  | _ :: _, [], h => h.elim
theorem relA_vs : ∀ (ys : List Value), relA ρ σ (ys.map fun c => SV.one (.v c)) ys
  | [] => trivial
  | _ :: ys => ⟨rfl, relA_vs ys⟩
def Next0 (P : Program) (w0 : W0) (H0 : Heap) (ws : List Nat) (st : St) (K : St → Prop) (next : Act → World → Prop) : Prop :=
  ∀ a' w' st' ρ' σ', K st' → Keeps ws st st' → Good P w0 H0 st' a' w' ρ' σ' → next a' w'
def NextO (P : Program) (an : Ann) (w0 : W0) (H0 : Heap) (o : Oper) (st : St) (w : World) (ρ : Nat → Nat) (K : St → Prop) (next : Act → World → Prop) : Prop :=
  ∀ a' w' st' ρ' σ', K st' → Keeps o.dst.toList st st' → Good P w0 H0 st' a' w' ρ' σ' → Goes (fun i => stTgt st o.op = some i ∨ bxTgt an st o = some i) st st' ρ ρ' w w' → next a' w'
theorem EfOK.wp {o : Oper} {K : St → Prop} (h : EfOK P w0 H0 st a w ρ o K) {next : Act → World → Prop} {Q : Exit → Act → World → Prop} (hn : NextO P an w0 H0 o st w ρ K next) : o.wp P a w next Q := by
  obtain ⟨nx, v, w', st', ρ', σ', h1, h2, h3, h4, h5, h6⟩ := h
  rcases h2 with rfl | ⟨rfl, rfl⟩
  · simp only [Oper.wp, h1, Oper.upon]
    exact hn _ _ _ _ _ h3 h4 h5 (h6.mono fun _ => .inl)
  · simp only [Oper.wp, h1, Oper.upon]
    exact hn _ _ _ _ _ h3 h4 h5 (h6.mono fun _ => .inl)
theorem run_callFunc {f : FuncId} (h : FnOK P f) (args : Array Value) (w : World) : (callFunc f args).run P w = .ok (.enter f args) w := by
  obtain ⟨fn, h1, h2, h3⟩ := h
  have h2' : fn.body ≠ none := by
    intro hb; rw [hb] at h2; simp at h2
  have h3' : ¬ fn.name = "runtime.NumGoroutine" := by
    intro hh; rw [hh] at h3; simp at h3
  simp [callFunc, h1, h2', h3']
theorem call_wp {o : Oper} {K : St → Prop} {f : FuncId} {us : List Value} {X : Nat → Prop} (hc : CallOK P w0 H0 st a w ρ o.dst f us K X) (hX : ∀ i, X i → bxTgt an st o = some i)
    (he : (execOp a.eval o).run P w = (callFunc f us.toArray).run P w) {next : Act → World → Prop} {Q : Exit → Act → World → Prop} (hn : NextO P an w0 H0 o st w ρ K next) : o.wp P a w next Q := by
  simp only [Oper.wp, he, run_callFunc hc.1, Oper.upon]
  refine Calls.mono hc.2 ?_
  rintro e w' ⟨v, st', ρ', σ', rfl, h1, h2, h3, h4⟩
  exact hn _ _ _ _ _ h1 h2 h3 (h4.mono fun i hi => .inr (hX i hi))
theorem goes_setS (st : St) (d : Option Tmp) (x : SV) (ρ : Nat → Nat) (w : World) {X : Nat → Prop} : Goes X st (setS st d x) ρ ρ w w := by
  refine ⟨fun i f o h _ _ => ⟨f, ?_⟩, fun _ _ _ _ _ _ => rfl, fun _ _ _ _ _ _ => rfl⟩
  cases d <;> exact h
theorem trOf_some {o : Oper} {d : Nat} {t : TypeId} {x : Operand} {hi : Option Operand} (h : trOf an o = some (d, t, x, hi)) : o.dst = some d ∧ o.op = .slice t x none hi none := by
  unfold trOf at h
  split at h
  · simp at h
  · rename_i d' hd
    split at h
    · split at h
      · rename_i hop
        simp at h
        obtain ⟨rfl, rfl, rfl, rfl⟩ := h
        exact ⟨hd, hop⟩
      · simp at h
    · simp at h
theorem vcTr_sound (hT : TabOK P Γ) (hg : Good P w0 H0 st a w ρ σ) {o : Oper} {d : Nat} {t : TypeId} {x : Operand} {hi : Option Operand} {x' : SV} (htr : trOf an o = some (d, t, x, hi)) (hx : ev st x = some x') {K : St → Prop} (h : vcTr Γ st d t x' hi K)
    {next : Act → World → Prop} {Q : Exit → Act → World → Prop} (hn : NextO P an w0 H0 o st w ρ K next) : o.wp P a w next Q := by
  obtain ⟨hd, hop⟩ := trOf_some htr
  unfold vcTr at h
  split at h
  · exact h.elim
  · rename_i i hi0
    split at h
    · rename_i e hty
      split at h
      · exact h.elim
      · rename_i j hj
        split at h
        · rename_i k
          split at h
          · rename_i e' n xs hW
            split at h
            · rename_i hh hb
              split at h
              · rename_i hc
                obtain ⟨rfl, hf⟩ := hc
                obtain ⟨h0, h1, hK⟩ := h
                have hrd : vcRd Γ st o.op fun r => r = .one (.sub k 0 hh.toNat j.size) := by
                  rw [hop]
                  have hgl : getL st k = some (.row e' n xs) := by
                    have := getW_some hW
                    unfold getL; rw [this]
                  simp only [vcRd, hx, vcSlice, hi0, hty, hj, hgl, hb]
                  exact ⟨Int.le_refl _, h0, h1, rfl⟩
                obtain ⟨v, r, r1, r2, r3, r4⟩ := vcRd_sound hT hg hrd
                subst r4
                replace r1 := r1 w (SameFor.refl hg)
                have htk : takeRow st e' (.sub k 0 hh.toNat j.size) = some (hh.toNat, cutR xs n hh.toNat, Vc.setL st k .dead) := by
                  simp only [takeRow, hW, if_true]
                have hout := takeRow_out hg htk (y := v) r2
                have hdies := takeRow_dies htk
                have hg1 := hg.dies hdies
                have hL := getW_some hW
                have hkd : k ≠ d := by
                  rintro rfl
                  have := fresh?_some hf
                  rw [hL] at this; simp at this
                have hf1 : fresh? (Vc.setL st k .dead) d = true := by
                  have := fresh?_some hf
                  unfold fresh?
                  rw [setL_keeps_other (Ne.symm hkd), this]
                obtain ⟨hrow, hblk⟩ := hout.each _ (List.mem_singleton.2 rfl)
                have hown : ∀ g, v.ownBlock = some g → (σ k).ownBlock = some g ∧ ∀ (i : Nat) (f : Bool) (o : LObj), (Vc.setL st k .dead).L[i]? = some (some (f, o)) → blk ρ σ i o ≠ some g := by
                  intro g hgb
                  obtain ⟨k', e2, n2, xs2, q1, q2, q3⟩ := hblk g hgb
                  have hk' : k' = k := by
                    refine Classical.byContradiction fun hne => ?_
                    unfold isDead at q2
                    rw [setL_keeps_other hne, q1] at q2
                    simp at q2
                  subst hk'
                  refine ⟨q3, fun i f o hi hb => ?_⟩
                  by_cases hik : i = k'
                  · subst hik
                    simp only [Vc.setL] at hi
                    rw [set_get (List.getElem?_eq_some_iff.1 hL).1] at hi
                    simp at hi
                    rw [← hi.2] at hb; simp [blk] at hb
                  · rw [setL_keeps_other hik] at hi
                    exact hg.sep i k' _ _ _ _ g hik hi hL hb q3
                have hg2 := hg1.addRow (r := ⟨v, e', hh.toNat, cutR xs n hh.toNat⟩) hf1 (by rw [hdies.H]; exact hrow) (fun i f o g hi hb hgb => (hown g hgb).2 i f o hi hb) (fun g hgb => by rw [hdies.O]; exact hg.noOpen hL (hown g hgb).1)
                have hlt : d < (Vc.setL st k .dead).L.length := fresh_lt hf1
                have hg3 := Good.setS hg2 (some d) (r := .one (.own d)) (v := v) (by show v = upd σ d v d; rw [upd_same]) (fun d' hd' hr => by
                  have hr : d = d' := hr
                  subst hr
                  have e : (Vc.setL (Vc.setL st k .dead) d (.row e' hh.toNat (cutR xs n hh.toNat))).L[d]? = some (some (true, .row e' hh.toNat (cutR xs n hh.toNat))) := by
                    show ((Vc.setL st k .dead).L.set d _)[d]? = _
                    exact set_get hlt
                  rw [e] at hd'; simp at hd')
                simp only [Oper.wp, r1, Oper.upon]
                rw [hd]
                refine hn _ _ _ ρ (upd σ d v) hK ?_ hg3 ?_
                · rw [hd]
                  exact (((Keeps.setL_w hW).trans (Keeps.setL_fresh hf1)).mono (by simp)).trans (Keeps.setS _ (some d) _)
                · refine ⟨fun i f o h1 h2 _ => ⟨f, ?_⟩, fun _ _ _ _ _ _ => rfl, fun _ _ _ _ _ _ => rfl⟩
                  have hik : i ≠ k := by rintro rfl; rw [hL] at h1; simp at h1; rw [← h1.2] at h2; simp [isBA] at h2
                  have hid : i ≠ d := by rintro rfl; rw [fresh?_some hf] at h1; simp at h1
                  show (Vc.setL (Vc.setL st k .dead) d _).L[i]? = _
                  rw [setL_keeps_other hid, setL_keeps_other hik]; exact h1
              · exact h.elim
            · exact h.elim
          · exact h.elim
        · split at h
          · rename_i hh hb
            obtain ⟨h0, hK⟩ := h
            have h0 : hh = 0 := h0
            subst h0
            have hrd : vcRd Γ st o.op fun r => r = .one (.v (.slice none 0 0)) := by
              rw [hop]
              have hb0 : bound st hi (ofN 0) = some 0 := hb
              have hb1 : bound st none 0 = some 0 := rfl
              simp only [vcRd, hx, vcSlice, hi0, hty, hj, hb0, hb1]
              refine ⟨Int.le_refl _, Int.le_refl _, Int.le_refl _, fun A' hA => ?_⟩
              subst hA
              simp [subA, nsub]
            obtain ⟨v, r, r1, r2, r3, r4⟩ := vcRd_sound hT hg hrd
            subst r4
            replace r1 := r1 w (SameFor.refl hg)
            simp only [Oper.wp, r1, Oper.upon]
            rw [hd]
            refine hn _ _ _ ρ σ hK ?_ (Good.setS hg (some d) r2 fun _ _ hh => hh) (goes_setS _ _ _ _ _)
            rw [hd]
            exact Keeps.setS st (some d) _
          · exact h.elim
        · exact h.elim
    · exact h.elim
theorem vcExec_sound (hT : TabOK P Γ) (hg : Good P w0 H0 st a w ρ σ) {o : Oper} {K : St → Prop} (h : vcExec P Γ an st o K) {next : Act → World → Prop} {Q : Exit → Act → World → Prop}
    (hn : NextO P an w0 H0 o st w ρ K next) : o.wp P a w next Q := by
  unfold vcExec at h
  split at h
  · rename_i d t x hi htr
    split at h
    · rename_i x' hx
      exact vcTr_sound hT hg htr hx h hn
    · exact h.elim
  rename_i htr0
  clear htr0
  generalize hrd : isRd o.op = rd at h
  cases rd
  case true =>
    obtain ⟨v, r, h1, h2, h3, h4⟩ := vcRd_sound hT hg h
    replace h1 := h1 w (SameFor.refl hg)
    simp only [Oper.wp, h1, Oper.upon]
    exact hn _ _ _ _ _ h4 (Keeps.setS st o.dst r) (Good.setS hg o.dst h2 fun d hd => h3 d (hg.nr d hd)) (goes_setS _ _ _ _ _)
  case false =>
    clear hrd
    obtain ⟨dst, op, ty, pos, after, gd⟩ := o
    simp only at h
    cases op <;> try (exact h.elim)
    case alloc t => exact (alloc_sound hT hg h).wp hn
    case box t x => exact (box_sound hT hg h).wp hn
    case buildSlice t n parts => exact (buildSlice_sound hT hg h).wp hn
    case makeSlice t l c => exact (makeSlice_sound hT hg h).wp hn
    case store t x y => exact (store_sound hT hg h).wp hn
    case makeMap t r => exact (makeMap_sound hT hg h).wp hn
    case lookup t m k ok => exact (lookup_sound hT hg h).wp hn
    case mapUpdate t m k x => exact (mapUpdate_sound hT hg h).wp hn
    case call c =>
      obtain ⟨callee, args, argTypes⟩ := c
      cases callee with
      | invoke r m => exact h.elim
      | builtin b =>
        cases b <;> try (exact h.elim)
        case append =>
          simp only [vcEf] at h
          split at h
          · rename_i s x hargs
            split at h
            · rename_i t t' htys
              split at h
              · rename_i htt
                subst htt
                split at h
                · exact h.elim
                · rename_i sv hs
                  split at h
                  · exact h.elim
                  · rename_i xv hx
                    obtain ⟨v, w', st', ρ', σ', r1, r2, r3, r4, r5⟩ := append_sound hT hg (ty := ty) hs hx h
                    have e1 : args = #[s, x] := Array.ext' hargs
                    have e2 : argTypes = #[t, t] := Array.ext' htys
                    subst e1; subst e2
                    have he : (execOp a.eval ⟨dst, .call { callee := .builtin .append, args := #[s, x], argTypes := #[t, t] }, ty, pos, after, gd⟩).run P w = .ok (.value v) w' := by
                      simp [execOp, resolve, invoke, builtin, r1]
                    simp only [Oper.wp, he, Oper.upon]
                    exact hn _ _ _ _ _ r2 r3 r4 r5.any
              · exact h.elim
            · exact h.elim
          · exact h.elim
        case clear =>
          simp only [vcEf] at h
          split at h
          · rename_i x hargs
            split at h
            · rename_i t htys
              split at h
              · rename_i i hi
                split at h
                · rename_i e hty
                  split at h
                  · rename_i j hj
                    split at h
                    · rename_i xv hx
                      have e1 : args = #[x] := Array.ext' hargs
                      have e2 : argTypes = #[t] := Array.ext' htys
                      subst e1; subst e2
                      exact (clear_sound hT hg hi hty hj hx h).wp hn
                    · exact h.elim
                  · exact h.elim
                · exact h.elim
              · exact h.elim
            · exact h.elim
          · exact h.elim
      | value f =>
        simp only [vcEf] at h
        split at h
        · rename_i f' cap hf
          obtain ⟨ys, hy, hr⟩ := ev_rel hg hf
          refine call_wp (us := args.toList.map a.eval ++ ys.toList) (vcCall_sound hg ?_ h) ?_ ?_ hn
          rotate_left
          · rintro i ⟨as, ls, has, hbx, hi⟩
            simp only [bxTgt, callArgs, hf]
            simp only at has
            split at has
            · rename_i as' has'
              simp at has
              simp only [has', has, hbx, hi]
            · simp at has
          rotate_right
          · intro st' hg' as has
            split at has
            · rename_i as' has'
              simp at has; subst has
              exact relA_append (relA_evs hg' has') (relA_caps hg' hr)
            · simp at has
          · have : (args.map a.eval ++ ys) = (args.toList.map a.eval ++ ys.toList).toArray := by
              apply Array.ext'; simp
            simp only [execOp, resolve, invoke, hy, Deferred.ofValue]
            rw [← this]
            simp
        · rename_i f' first cap hf
          have hv : a.eval f = .func (.func f') first cap := ev_rel hg hf
          split at h
          · rename_i hfi
            have e1 : first = #[] := Array.ext' hfi
            subst e1
            refine call_wp (us := args.toList.map a.eval ++ cap.toList) (vcCall_sound hg ?_ h) ?_ ?_ hn
            rotate_left
            · rintro i ⟨as, ls, has, hbx, hi⟩
              simp only [bxTgt, callArgs, hf]
              simp only at has
              split at has
              · rename_i as' has'
                simp at has
                simp only [has', has, hbx, hi]
              · simp at has
            rotate_right
            · intro st' hg' as has
              split at has
              · rename_i as' has'
                simp at has; subst has
                exact relA_append (relA_evs hg' has') (relA_vs cap.toList)
              · simp at has
            · have : (args.map a.eval ++ cap) = (args.toList.map a.eval ++ cap.toList).toArray := by
                apply Array.ext'; simp
              simp only [execOp, resolve, invoke, hv, Deferred.ofValue]
              rw [← this]
              simp
          · exact h.elim
        · exact h.elim

/- the guards -/
theorem put_same {d : Nat} {v : Value} (h : a.tmps.getD d undef = v) (hd : d < a.tmps.size) : a.put (some d) v = a := by
  have : a.tmps.setIfInBounds d v = a.tmps := by
    apply Array.ext_getElem?
    intro i
    by_cases hi : d = i
    · subst hi
      subst h
      simp [hd]
    · rw [Array.getElem?_setIfInBounds_ne hi]
  simp [Act.put, this]
def boolO (v : Value) : Option Bool := match v with
  | .bool b => some b
  | _ => none
theorem yielded_of (hg : Good P w0 H0 st a w ρ σ) {l : List Oper} {j d : Nat} (hd : dstOf l j = some d) {x : SV} (hx : st.fr[d]? = some x) {v : Value} (hv : ∀ y, x.rel ρ σ y → y = v) :
    yielded l.toArray a.tmps j = boolO v := by
  have h1 := hv _ (hg.fr d x hx)
  have hlt : d < a.tmps.size := by rw [hg.size]; exact (List.getElem?_eq_some_iff.1 hx).1
  have h2 : a.tmps[d]? = some v := by
    rw [← h1]; simp [hlt]
  unfold dstOf at hd
  split at hd
  · rename_i o ho
    simp only [yielded, List.getElem?_toArray, ho, Option.bind_some, hd, h2]
    cases v <;> rfl
  · simp at hd
theorem vcFork_sound (hg : Good P w0 H0 st a w ρ σ) {l : List Oper} {j : Nat} {K : St → Prop} (h : vcFork l j st K) :
    ∃ st', K st' ∧ Keeps ((dstOf l j).toList) st st' ∧ Good P w0 H0 st' a w ρ σ ∧ Goes noX st st' ρ ρ w w := by
  unfold vcFork at h
  split at h
  · exact ⟨st, h, (Keeps.refl st).mono (by simp), hg, Goes.refl _ _ _⟩
  · rename_i d hd
    have key : ∀ x : SV, st.fr[d]? = some x → ∀ b : Bool, (∀ y, x.rel ρ σ y → y = .bool b) → (b = true → K (setS st (some d) (.one .tt))) ∧ (b = false → K (setS st (some d) (.one .ff))) →
        ∃ st', K st' ∧ Keeps ((some d).toList) st st' ∧ Good P w0 H0 st' a w ρ σ ∧ Goes noX st st' ρ ρ w w := by
      intro x hx b hb hk
      have h1 := hb _ (hg.fr d x hx)
      have hlt : d < a.tmps.size := by rw [hg.size]; exact (List.getElem?_eq_some_iff.1 hx).1
      cases b
      · refine ⟨_, hk.2 rfl, Keeps.setS st (some d) _, ?_, goes_setS _ _ _ _ _⟩
        have := Good.setS hg (some d) (r := .one .ff) (v := .bool false) rfl (fun _ _ hh => hh)
        rwa [put_same h1 hlt] at this
      · refine ⟨_, hk.1 rfl, Keeps.setS st (some d) _, ?_, goes_setS _ _ _ _ _⟩
        have := Good.setS hg (some d) (r := .one .tt) (v := .bool true) rfl (fun _ _ hh => hh)
        rwa [put_same h1 hlt] at this
    rw [hd]
    split at h
    · rename_i x hx
      exact key _ hx x (fun y hy => hy) h
    · rename_i x hx
      exact key _ hx x (fun y hy => hy) h
    · exact ⟨st, h, (Keeps.refl st).mono (by simp), hg, Goes.refl _ _ _⟩
theorem vcOne_sound (hT : TabOK P Γ) (hg : Good P w0 H0 st a w ρ σ) {l : List Oper} {i : Nat} {o : Oper} (hi : l[i]? = some o) {K : St → Prop} (h : vcOne P Γ an l st o K) {next : Act → World → Prop} {Q : Exit → Act → World → Prop}
    (hn : NextO P an w0 H0 o st w ρ K next) : wpOp P l.toArray Q i next a w := by
  have hi' : l.toArray[i]? = some o := by simpa using hi
  have hskip : K (setS st o.dst (.one .un)) → next (a.put o.dst undef) w := fun hk =>
    hn _ _ _ _ _ hk (Keeps.setS st o.dst _) (Good.setS hg o.dst (r := .one .un) rfl (fun _ _ hh => hh)) (goes_setS _ _ _ _ _)
  unfold vcOne at h
  unfold wpOp
  simp only [hi']
  split at h
  · rename_i hgd
    simp only [Region.wanted, hgd, if_true]
    exact .inl (vcExec_sound hT hg h hn)
  · rename_i j want hgd
    split at h
    · exact h.elim
    · rename_i d hd
      split at h
      · rename_i hx
        have hy := yielded_of hg hd hx (v := .bool true) (fun y hy => hy)
        cases want
        · simp only [Region.wanted, hgd, hy, boolO, undef]
          exact hskip h
        · simp only [Region.wanted, hgd, hy, boolO, undef]
          exact .inl (vcExec_sound hT hg h hn)
      · rename_i hx
        have hy := yielded_of hg hd hx (v := .bool false) (fun y hy => hy)
        cases want
        · simp only [Region.wanted, hgd, hy, boolO, undef]
          exact .inl (vcExec_sound hT hg h hn)
        · simp only [Region.wanted, hgd, hy, boolO, undef]
          exact hskip h
      · rename_i hx
        have hy := yielded_of hg hd hx (v := undef) (fun y hy => hy)
        simp only [Region.wanted, hgd, hy, boolO, undef]
        exact hskip h
      · exact h.elim
theorem dst_mem {l : List Oper} : ∀ {i : Nat} {o : Oper}, l[i]? = some o → ∀ d, o.dst = some d → d ∈ writesO l := by
  induction l with
  | nil => intro i o h; simp at h
  | cons x l ih =>
    intro i o h d hd
    cases i with
    | zero =>
      simp at h; subst h
      simp [writesO, hd]
    | succ i =>
      simp at h
      have := ih h d hd
      simp only [writesO]
      split
      · exact List.mem_cons_of_mem _ this
      · exact this
theorem dst_sub {l : List Oper} {i : Nat} {o : Oper} (h : l[i]? = some o) : ∀ x ∈ o.dst.toList, x ∈ writesO l := by
  intro x hx
  cases hd : o.dst with
  | none => rw [hd] at hx; simp at hx
  | some d => rw [hd] at hx; simp at hx; subst hx; exact dst_mem h _ hd
theorem dstOf_sub {l : List Oper} {j : Nat} : ∀ x ∈ (dstOf l j).toList, x ∈ writesO l := by
  intro x hx
  unfold dstOf at hx
  split at hx
  · rename_i o ho; exact dst_sub ho x hx
  · simp at hx
theorem vcItems_sound (hT : TabOK P Γ) {l : List Oper} {Q : Exit → Act → World → Prop} {K : St → Prop} : ∀ {idx : List Nat} {st : St} {a : Act} {w : World} {ρ : Nat → Nat} {σ : Nat → Value},
    Good P w0 H0 st a w ρ σ → vcItems P Γ an l K (itemsOf l idx) st → Next0 P w0 H0 (writesO l) st K (Q .normal) → wpOps P l.toArray Q idx a w
  | [], st, a, w, ρ, σ, hg, h, hn => hn _ _ _ _ _ h ((Keeps.refl st).mono (by simp)) hg
  | i :: idx, st, a, w, ρ, σ, hg, h, hn => by
    rw [wpOps_cons]
    simp only [itemsOf] at h
    split at h
    · simp only [vcItems] at h
      split at h
      · rename_i o ho
        refine vcOne_sound hT hg ho h ?_
        intro a' w' st' ρ' σ' hk hkeep hg' _
        obtain ⟨st2, k1, k2, k3, _⟩ := vcFork_sound hg' hk
        have hk2 : Keeps (writesO l) st st2 := (hkeep.mono (dst_sub ho)).trans (k2.mono dstOf_sub)
        exact vcItems_sound hT k3 k1 fun a3 w3 st3 ρ3 σ3 q1 q2 q3 => hn _ _ _ _ _ q1 (hk2.trans q2) q3
      · exact h.elim
    · simp only [vcItems] at h
      split at h
      · rename_i o ho
        refine vcOne_sound hT hg ho h ?_
        intro a' w' st' ρ' σ' hk hkeep hg' _
        exact vcItems_sound hT hg' hk fun a3 w3 st3 ρ3 σ3 q1 q2 q3 => hn _ _ _ _ _ q1 ((hkeep.mono (dst_sub ho)).trans q2) q3
      · exact h.elim
theorem upto_range (n i : Nat) : upto n i = (List.range n).map (· + i) := by
  induction n generalizing i with
  | zero => rfl
  | succ n ih =>
    rw [upto, ih, List.range_succ_eq_map]
    simp only [List.map_cons, List.map_map, Nat.zero_add]
    congr 1
    apply List.map_congr_left
    intro x _
    simp; omega
theorem region_sound (hT : TabOK P Γ) (hg : Good P w0 H0 st a w ρ σ) {id : Nat} {ops : Array Oper} {Q : Exit → Act → World → Prop} {K : St → Prop}
    (h : vcItems P Γ an ops.toList K (itemsOf ops.toList (upto ops.toList.length 0)) st) (hn : Next0 P w0 H0 (writesO ops.toList) st K (Q .normal)) : (Code.region id ops false).wp P Q a w := by
  apply wp_region
  have := vcItems_sound hT (Q := Q) hg h hn
  rw [upto_range] at this
  simpa using this
end
end Go.Vc
/- Loops: from the state at a round's end to the state at the loop's head. -/
namespace Go.Vc
open Go Go.RowKit

theorem colI_dies : ∀ {is : List Item} {R : Type} {p : PostI is R} {st : St} {q : R} {st' : St}, colI is p st = some (q, st') → Dies st st'
  | [], R, p, st, q, st', h => by
    simp [colI] at h
    obtain ⟨_, rfl⟩ := h
    exact Dies.refl _
  | .slot d g ls :: is, R, p, st, q, st', h => by
    simp only [colI] at h
    split at h
    · split at h
      · split at h
        · rename_i h1
          exact (colL_dies h1).trans (colI_dies h)
        · simp at h
      · split at h
        · rename_i h1
          exact (colL_dies h1).trans (colI_dies h)
        · simp at h
      · simp at h
    · simp at h
  | .box i t ls :: is, R, p, st, q, st', h => by
    simp only [colI] at h
    split at h
    · split at h
      · split at h
        · rename_i h1
          exact (colL_dies h1).trans (colI_dies h)
        · simp at h
      · simp at h
    · simp at h
  | .arr i t :: is, R, p, st, q, st', h => by
    simp only [colI] at h
    split at h
    · split at h
      · exact colI_dies h
      · simp at h
    · simp at h
  | .rowc i e :: is, R, p, st, q, st', h => by
    simp only [colI] at h
    split at h
    · rename_i hW
      split at h
      · exact (Dies.kill hW).trans (colI_dies h)
      · simp at h
    · simp at h
def itemBoxes : List Item → List Nat
  | [] => []
  | .slot _ _ _ :: is => itemBoxes is
  | .box i _ _ :: is => i :: itemBoxes is
  | .arr i _ :: is => i :: itemBoxes is
  | .rowc i _ :: is => i :: itemBoxes is
theorem colI_boxes : ∀ {is : List Item} {R : Type} {p : PostI is R} {st : St} {q : R} {st' : St}, colI is p st = some (q, st') → ∀ i ∈ itemBoxes is, ∃ o, st.L[i]? = some (some (true, o))
  | [], R, p, st, q, st', h => by simp [itemBoxes]
  | .slot d g ls :: is, R, p, st, q, st', h => by
    have back : ∀ {st1 : St} {R' : Type} {p' : PostI is R'} {q' : R'} {st2 : St}, Dies st st1 → colI is p' st1 = some (q', st2) → ∀ i ∈ itemBoxes is, ∃ o, st.L[i]? = some (some (true, o)) := by
      intro st1 R' p' q' st2 hd hc i hi
      obtain ⟨o, ho⟩ := colI_boxes hc i hi
      rcases hd.L i with h1 | ⟨_, e, n, xs, h2⟩
      · exact ⟨o, by rw [← h1]; exact ho⟩
      · exact ⟨_, h2⟩
    simp only [colI] at h
    simp only [itemBoxes]
    split at h
    · split at h
      · split at h
        · rename_i h1
          exact back (colL_dies h1) h
        · simp at h
      · split at h
        · rename_i h1
          exact back (colL_dies h1) h
        · simp at h
      · simp at h
    · simp at h
  | .box i t ls :: is, R, p, st, q, st', h => by
    simp only [colI] at h
    simp only [itemBoxes]
    split at h
    · rename_i hW
      split at h
      · split at h
        · rename_i h1
          intro j hj
          rcases List.mem_cons.1 hj with rfl | hj
          · exact ⟨_, getW_some hW⟩
          · obtain ⟨o, ho⟩ := colI_boxes h j hj
            rcases (colL_dies h1).L j with h2 | ⟨_, e, n, xs, h2⟩
            · exact ⟨o, by rw [← h2]; exact ho⟩
            · exact ⟨_, h2⟩
        · simp at h
      · simp at h
    · simp at h
  | .arr i t :: is, R, p, st, q, st', h => by
    simp only [colI] at h
    simp only [itemBoxes]
    split at h
    · rename_i hW
      split at h
      · intro j hj
        rcases List.mem_cons.1 hj with rfl | hj
        · exact ⟨_, getW_some hW⟩
        · exact colI_boxes h j hj
      · simp at h
    · simp at h
  | .rowc i e :: is, R, p, st, q, st', h => by
    simp only [colI] at h
    simp only [itemBoxes]
    split at h
    · rename_i hW
      split at h
      · intro j hj
        rcases List.mem_cons.1 hj with rfl | hj
        · exact ⟨_, getW_some hW⟩
        · obtain ⟨o, ho⟩ := colI_boxes h j hj
          rcases (Dies.kill hW).L j with h2 | ⟨_, e, n, xs, h2⟩
          · exact ⟨o, by rw [← h2]; exact ho⟩
          · exact ⟨_, h2⟩
      · simp at h
    · simp at h

end Go.Vc
/- Loops: the state at the head. -/
namespace Go.Vc
open Go Go.RowKit

structure LI (P : Program) (w0 : W0) (H0 : Heap) (a : Act) (w : World) (ρ : Nat → Nat) (σ : Nat → Value) (S st3 bs : St) (σ' : Nat → Value) (cst : St) : Prop where
  good : Good P w0 H0 bs a w ρ σ'
  dies : Dies S cst
  H : bs.H = S.H
  fl : bs.fr.length = S.fr.length
  ll : bs.L.length = S.L.length
  src : ∀ (j : Nat) (f : Bool) (o : LObj) (g : Nat), bs.L[j]? = some (some (f, o)) → blk ρ σ' j o = some g →
    ∃ (j' : Nat) (f' : Bool) (o' : LObj), S.L[j']? = some (some (f', o')) ∧ blk ρ σ j' o' = some g ∧ ((j' = j ∧ ¬ isDead st3 j') ∨ isDead cst j')
  ole : ∀ b : Nat, bs.O b ≠ none → S.O b = bs.O b
  sg : ∀ (j : Nat) (f : Bool), bs.L[j]? = some (some (f, .dead)) → σ' j = σ j
section
variable {P : Program} {Γ : Tab} {w0 : W0} {w w' : World} {H0 H' : Heap} {a : Act} {ρ : Nat → Nat} {σ : Nat → Value} {an : Ann} {S st3 : St}
theorem LI.noOpen {bs cst : St} {σ' : Nat → Value} (li : LI P w0 H0 a w ρ σ S st3 bs σ' cst) (hS : Good P w0 H0 S a w ρ σ) {i : Nat} {f : Bool} {o : LObj} {g : Nat} (h : S.L[i]? = some (some (f, o))) (hb : blk ρ σ i o = some g) : bs.O g = none := by
  cases hO : bs.O g with
  | none => rfl
  | some x =>
    have h1 := li.ole g (by rw [hO]; simp)
    rw [hS.noOpen h hb, hO] at h1; cases h1
theorem takeRow_sound (hS : Good P w0 H0 S a w ρ σ) {bs cst cst' : St} {σ' : Nat → Value} (li : LI P w0 H0 a w ρ σ S st3 bs σ' cst) {e : TypeId} {c : S1} {y : Value} {n : Nat} {xs : List Value}
    (h : takeRow cst e c = some (n, xs, cst')) (hr : c.rel ρ σ y) (hfin : ∀ k, isDead cst' k → isDead st3 k) {i : Nat} (hf : fresh? bs i = true) :
    LI P w0 H0 a w ρ σ S st3 (setL bs i (.row e n xs)) (upd σ' i y) cst' := by
  have hlt := fresh_lt hf
  have core : ∀ (r : NRow), r.e = e → r.n = n → r.xs = xs → r.s = y → RowIn P w0 w bs.H r → Dies cst cst' →
      (∀ g, y.ownBlock = some g → ∃ (k : Nat) (e' : TypeId) (m : Nat) (zs : List Value), S.L[k]? = some (some (true, .row e' m zs)) ∧ blk ρ σ k (.row e' m zs) = some g ∧ isDead cst' k ∧ ¬ isDead cst k) →
      LI P w0 H0 a w ρ σ S st3 (setL bs i (.row e n xs)) (upd σ' i y) cst' := by
    rintro r rfl rfl rfl rfl hin hd hk
    have hop : ∀ g, r.s.ownBlock = some g → bs.O g = none := fun g hh => by
      obtain ⟨k, e', m, zs, k1, k2, _⟩ := hk g hh
      exact li.noOpen hS k1 k2
    refine ⟨li.good.addRow hf hin ?_ hop, li.dies.trans hd, li.H, li.fl, by simpa [setL] using li.ll, ?_, li.ole, fun j f hj => ?_⟩
    rotate_right
    · by_cases hji : j = i
      · subst hji
        simp only [setL] at hj
        rw [set_get hlt] at hj
        simp at hj
      · rw [setL_keeps_other hji] at hj
        rw [upd_ne _ _ hji]
        exact li.sg j f hj
    · intro j f o g hj hb hh
      obtain ⟨k, e', m, zs, k1, k2, k3, k4⟩ := hk g hh
      obtain ⟨j', f', o', h1, h2, h3⟩ := li.src j f o g hj hb
      have hne : j' ≠ k := by
        rintro rfl
        rcases h3 with ⟨_, h3⟩ | h3
        · exact h3 (hfin _ k3)
        · exact k4 h3
      exact hS.sep j' k f' true o' _ g hne h1 k1 h2 k2
    · intro j f o g hj hb
      by_cases hji : j = i
      · subst hji
        simp only [setL] at hj
        rw [set_get hlt] at hj
        simp at hj
        obtain ⟨_, rfl⟩ := hj
        simp only [blk, upd_same] at hb
        obtain ⟨k, e', m, zs, k1, k2, k3, k4⟩ := hk g hb
        exact ⟨k, _, _, k1, k2, .inr k3⟩
      · rw [setL_keeps_other hji] at hj
        have hb' : blk ρ σ' j o = some g := by
          cases o <;> simp only [blk] at hb ⊢ <;> try exact hb
          rw [upd_ne _ _ hji] at hb; exact hb
        obtain ⟨j', f', o', h1, h2, h3⟩ := li.src j f o g hj hb'
        exact ⟨j', f', o', h1, h2, h3.imp id fun h => hd.keeps h⟩
  have hdies := takeRow_dies h
  unfold takeRow at h
  split at h
  · rename_i k
    split at h
    · rename_i e' n' xs' hW
      split at h
      · rename_i he
        subst he
        simp at h
        obtain ⟨rfl, rfl, rfl⟩ := h
        have hyk : y = σ k := hr
        subst hyk
        have hc := getW_some hW
        have hSk : S.L[k]? = some (some (true, .row e' n' xs')) := li.dies.back hc (by simp)
        obtain ⟨q1, q2, q3⟩ := hS.obj _ _ _ hSk
        have hkl : k < cst.L.length := (List.getElem?_eq_some_iff.1 hc).1
        refine core ⟨σ k, e', n', xs'⟩ rfl rfl rfl rfl ⟨q1, q2, fun g hg o => by rw [li.H]; exact q3 g hg o⟩ hdies ?_
        intro g hg
        refine ⟨k, e', n', xs', hSk, hg, ?_, ?_⟩
        · simp only [isDead, setL]; exact set_get hkl
        · intro hh; unfold isDead at hh; rw [hc] at hh; simp at hh
      · simp at h
    · simp at h
  · rename_i k l m sz
    split at h
    · split at h
      · rename_i e' n' xs' hW
        split at h
        · rename_i he
          subst he
          simp at h
          obtain ⟨rfl, rfl, rfl⟩ := h
          obtain ⟨A, n0, c0, hs, hle, hy⟩ : ∃ A n c, σ k = .slice A n c ∧ 0 + m ≤ n ∧ y = .slice (subA A c 0 sz) m (c - 0) := hr
          subst hy
          have hc := getW_some hW
          have hSk : S.L[k]? = some (some (true, .row e' n' xs')) := li.dies.back hc (by simp)
          obtain ⟨q1, q2, q3⟩ := hS.obj _ _ _ hSk
          have hn : n' = n0 := by
            rcases q1.row.2 with ⟨hv', h0⟩ | ⟨g, cap, cur, hv', _⟩
            · rw [hs] at hv'; simp at hv'; omega
            · rw [hs] at hv'; simp at hv'; exact hv'.2.1.symm
          subst hn
          have hkl : k < cst.L.length := (List.getElem?_eq_some_iff.1 hc).1
          rw [hs] at q1
          obtain ⟨c1, c2, c3⟩ := owns_cut (sz2 := sz) q1 (by omega : m ≤ n')
          have hb : ∀ g, (Value.slice (subA A c0 0 sz) m (c0 - 0)).ownBlock = some g → (σ k).ownBlock = some g := fun g hg => by rw [hs, ← c2]; exact hg
          refine core ⟨_, e', m, cutR xs' n' m⟩ rfl rfl rfl rfl ⟨c1, fun x hx => q2 x (c3 x hx), fun g hg o => by rw [li.H]; exact q3 g (hb g hg) o⟩ hdies ?_
          intro g hg
          refine ⟨k, e', n', xs', hSk, hb g hg, ?_, ?_⟩
          · simp only [isDead, setL]; exact set_get hkl
          · intro hh; unfold isDead at hh; rw [hc] at hh; simp at hh
        · simp at h
      · simp at h
    · simp at h
  · simp at h
    obtain ⟨rfl, rfl, rfl⟩ := h
    have hy : y = .slice none 0 0 := hr
    subst hy
    exact core ⟨.slice none 0 0, e, 0, []⟩ rfl rfl rfl rfl ⟨owns.nil w w0 e (P.cellsOf e), by simp, by simp [Value.ownBlock]⟩ hdies (by simp [Value.ownBlock])
  · simp at h
theorem asInt_rel {k : IntKind} {c : S1} {n : Int} {y : Value} (h : c.asInt k = some n) (hr : c.rel ρ σ y) : y = .int k n := by
  unfold S1.asInt at h
  split at h
  · split at h
    · rename_i hk; subst hk; simp at h; subst h; exact hr
    · simp at h
  · simp at h
theorem asStr_rel {c : S1} {n : ByteArray} {y : Value} (h : c.asStr = some n) (hr : c.rel ρ σ y) : y = .string n := by
  unfold S1.asStr at h
  split at h
  · simp at h; subst h; exact hr
  · simp at h
theorem asSl_rel {c : S1} {A : Option Addr} {n m : Nat} {y : Value} (h : c.asSl = some (A, n, m)) (hr : c.rel ρ σ y) : y = .slice A n m := by
  unfold S1.asSl at h
  split at h
  · simp at h; obtain ⟨rfl, rfl, rfl⟩ := h; exact hr
  · simp at h
theorem asMp_rel {c : S1} {A : Option Nat} {y : Value} (h : c.asMp = some A) (hr : c.rel ρ σ y) : y = .map A := by
  unfold S1.asMp at h
  split at h
  · simp at h; subst h; exact hr
  · simp at h
theorem asVal_rel {c : S1} {v : Value} {y : Value} (h : c.asVal = some v) (hr : c.rel ρ σ y) : y = v := by
  unfold S1.asVal at h
  split at h
  · exact S1.toV_rel h hr
  · simp at h
theorem keeps_setL_fresh {st : St} {i : Nat} {o : LObj} (h : fresh? st i = true) : Keeps [] st (setL st i o) := Keeps.setL_fresh h

theorem headL_sound (hS : Good P w0 H0 S a w ρ σ) : ∀ {ls : List Leaf} {R : Type} {p : PostL ls R} {cs : List S1} {ys : List Value} {bs cst cst' : St} {σ' : Nat → Value} {q : R} {K : List S1 → St → R → Prop},
    LI P w0 H0 a w ρ σ S st3 bs σ' cst → allL ls p bs K → colL ls p cs cst = some (q, cst') → relL ρ σ cs ys → (∀ k, isDead cst' k → isDead st3 k) →
    ∃ (cs' : List S1) (bs' : St) (σ'' : Nat → Value), K cs' bs' q ∧ LI P w0 H0 a w ρ σ S st3 bs' σ'' cst' ∧ relL ρ σ'' cs' ys ∧ noFreshL bs' cs' ∧ (∀ d : Nat, bs'.L[d]? = some none → bs.L[d]? = some none) ∧
      Carry bs σ' σ'' ∧ Keeps [] bs bs'
  | [], R, p, cs, ys, bs, cst, cst', σ', q, K, li, h, hc, hr, hfin => by
    cases cs with
    | nil =>
      simp [colL] at hc
      obtain ⟨rfl, rfl⟩ := hc
      have hr' : relL ρ σ' [] ys := by
        cases ys with
        | nil => trivial
        | cons _ _ => exact hr.elim
      exact ⟨[], bs, σ', h, li, hr', fun d _ ⟨x, hx, _⟩ => by simp at hx, fun _ h => h, Carry.refl _ _, Keeps.refl _⟩
    | cons _ _ => simp [colL] at hc
  | l :: ls, R, p, cs, ys, bs, cst, cst', σ', q, K, li, h, hc, hr, hfin => by
    cases cs with
    | nil => cases l <;> simp [colL] at hc
    | cons c cs =>
      cases ys with
      | nil => exact hr.elim
      | cons y ys =>
        have plainK : ∀ {p' : PostL ls R} (c' : S1), (∀ ρ σ, S1.rel ρ σ c' y) → (∀ d, ¬ c'.refs d) → allL ls p' bs (fun cs st q => K (c' :: cs) st q) → colL ls p' cs cst = some (q, cst') →
            ∃ (cs' : List S1) (bs' : St) (σ'' : Nat → Value), K cs' bs' q ∧ LI P w0 H0 a w ρ σ S st3 bs' σ'' cst' ∧ relL ρ σ'' cs' (y :: ys) ∧ noFreshL bs' cs' ∧ (∀ d : Nat, bs'.L[d]? = some none → bs.L[d]? = some none) ∧
              Carry bs σ' σ'' ∧ Keeps [] bs bs' := by
          intro p' c' h1 h2 ha hcc
          obtain ⟨cs', bs', σ'', k1, k2, k3, k4, k5, k6, k7⟩ := headL_sound hS li ha hcc hr.2 hfin
          refine ⟨c' :: cs', bs', σ'', k1, k2, ⟨h1 _ _, k3⟩, ?_, k5, k6, k7⟩
          rintro d hd ⟨x, hx, hh⟩
          rcases List.mem_cons.1 hx with rfl | hx
          · exact h2 d hh
          · exact k4 d hd ⟨x, hx, hh⟩
        cases l with
        | cells => simp [colL] at hc
        | int k =>
          simp only [colL] at hc
          split at hc
          · rename_i n hn
            have := asInt_rel hn hr.1
            subst this
            exact plainK (.v (.int k n)) (fun _ _ => rfl) (fun _ hh => hh) (h n) hc
          · simp at hc
        | bool =>
          simp only [colL] at hc
          split at hc
          · rename_i n hn
            have := S1.asB_rel hn hr.1
            subst this
            exact plainK (.b n) (fun _ _ => rfl) (fun _ hh => hh) (h n) hc
          · simp at hc
        | str =>
          simp only [colL] at hc
          split at hc
          · rename_i n hn
            have := asStr_rel hn hr.1
            subst this
            exact plainK (.v (.string n)) (fun _ _ => rfl) (fun _ hh => hh) (h n) hc
          · simp at hc
        | sl =>
          simp only [colL] at hc
          split at hc
          · rename_i A n m hn
            have := asSl_rel hn hr.1
            subst this
            exact plainK (.v (.slice A n m)) (fun _ _ => rfl) (fun _ hh => hh) (h A n m) hc
          · simp at hc
        | mp =>
          simp only [colL] at hc
          split at hc
          · rename_i A hn
            have := asMp_rel hn hr.1
            subst this
            exact plainK (.v (.map A)) (fun _ _ => rfl) (fun _ hh => hh) (h A) hc
          · simp at hc
        | val =>
          simp only [colL] at hc
          split at hc
          · rename_i v hn
            have := asVal_rel hn hr.1
            subst this
            exact plainK (.v y) (fun _ _ => rfl) (fun _ hh => hh) (h y) hc
          · simp at hc
        | row i e =>
          simp only [colL] at hc
          split at hc
          · rename_i n xs st1 ht
            simp only [allL] at h
            split at h
            · rename_i hf
              have hn := fresh?_some hf
              have hlt := fresh_lt hf
              have hd2 := colL_dies hc
              have li1 := takeRow_sound hS li ht hr.1 (fun k hk => hfin k (hd2.keeps hk)) hf
              obtain ⟨cs', bs', σ'', k1, k2, k3, k4, k5, k6, k7⟩ := headL_sound hS li1 (h n xs) hc hr.2 hfin
              refine ⟨.own i :: cs', bs', σ'', k1, k2, ⟨?_, k3⟩, ?_, ?_, ?_, (keeps_setL_fresh hf).trans k7⟩
              · show y = σ'' i
                rw [k6 i (by simp only [setL]; rw [set_get hlt]; simp), upd_same]
              · rintro d hd ⟨x, hx, hh⟩
                rcases List.mem_cons.1 hx with rfl | hx
                · have hid : i = d := hh
                  subst hid
                  have := k5 i hd
                  simp only [setL] at this
                  rw [set_get hlt] at this
                  simp at this
                · exact k4 d hd ⟨x, hx, hh⟩
              · intro d hd
                exact (set_none (k5 d hd) hlt).2
              · intro j hj
                have hji : j ≠ i := fun e => hj (e ▸ hn)
                rw [k6 j (by rw [setL_keeps_other hji]; exact hj), upd_ne _ _ hji]
            · exact h.elim
          · simp at hc

/- what the head's making keeps -/
structure KeepI (is : List Item) (bs bs' : St) : Prop where
  fl : bs'.fr.length = bs.fr.length
  ll : bs'.L.length = bs.L.length
  H : bs'.H = bs.H
  fr : ∀ j, j ∉ itemSlots is → bs'.fr[j]? = bs.fr[j]?
  ro : ∀ (i : Nat) (o : LObj), i ∉ itemBoxes is → bs.L[i]? = some (some (false, o)) → bs'.L[i]? = some (some (false, o))
theorem headI_sound (hS : Good P w0 H0 S a w ρ σ) (hst3 : Dies S st3) : ∀ {is : List Item} {R : Type} {p : PostI is R} {bs cst : St} {σ' : Nat → Value} {q : R} {K : St → R → Prop},
    LI P w0 H0 a w ρ σ S st3 bs σ' cst → allI is p bs K → colI is p cst = some (q, st3) →
    ∃ (bs' : St) (σ'' : Nat → Value), K bs' q ∧ Good P w0 H0 bs' a w ρ σ'' ∧ KeepI is bs bs'
  | [], R, p, bs, cst, σ', q, K, li, h, hc => by
    simp [colI] at hc
    obtain ⟨rfl, rfl⟩ := hc
    exact ⟨bs, σ', h, li.good, rfl, rfl, rfl, fun _ _ => rfl, fun _ _ _ h => h⟩
  | .slot d g ls :: is, R, p, bs, cst, σ', q, K, li, h, hc => by
    have hgc : Good P w0 H0 cst a w ρ σ := hS.dies li.dies
    simp only [colI] at hc
    simp only [allI] at h
    split at hc
    · rename_i x hx
      have hxr := resV_rel hgc.obj (hgc.fr d x hx)
      have hlt : d < a.tmps.size := by rw [hgc.size]; exact (List.getElem?_eq_some_iff.1 hx).1
      have key : ∀ {cs : List S1} {ys : List Value} {q1 : PostI is R} {st1 : St}, colL ls p cs cst = some (q1, st1) → colI is q1 st1 = some (q, st3) → relL ρ σ cs ys →
          (∀ cs' σ'' x', relL ρ σ'' cs' ys → mkSV g cs' = some x' → x'.rel ρ σ'' (a.tmps.getD d undef)) →
          ∃ (bs' : St) (σ'' : Nat → Value), K bs' q ∧ Good P w0 H0 bs' a w ρ σ'' ∧ KeepI (.slot d g ls :: is) bs bs' := by
        intro cs ys q1 st1 h1 h2 hr hmk
        obtain ⟨cs', bs1, σ1, k1, k2, k3, k4, k5, k6, k7⟩ := headL_sound hS li h h1 hr (fun k hk => (colI_dies h2).keeps hk)
        split at k1
        · rename_i x' hx'
          have hg1 := Good.setS k2.good (some d) (hmk _ _ _ k3 hx') (fun d' hd' hh => by
            refine k4 d' hd' ?_
            cases g with
            | true => simp [mkSV] at hx'; subst hx'; exact hh
            | false =>
              match cs', hx', hh with
              | [c], hx', hh => simp [mkSV] at hx'; subst hx'; exact ⟨c, by simp, hh⟩)
          rw [put_same rfl hlt] at hg1
          have li2 : LI P w0 H0 a w ρ σ S st3 (setS bs1 (some d) x') σ1 st1 := ⟨hg1, k2.dies, k2.H, by simpa [setS] using k2.fl, k2.ll, k2.src, k2.ole, k2.sg⟩
          obtain ⟨bs', σ'', j1, j2, j3⟩ := headI_sound hS hst3 li2 k1 h2
          refine ⟨bs', σ'', j1, j2, ?_, j3.ll.trans k7.ll, j3.H.trans (k2.H.trans li.H.symm), fun j hj => ?_, fun i o hi ho => ?_⟩
          · have := j3.fl
            simp [setS] at this
            rw [this]; exact k7.fl
          · simp [itemSlots] at hj
            rw [j3.fr j hj.2]
            simp only [setS]
            rw [List.getElem?_set_ne (Ne.symm hj.1)]
            exact k7.fr j (by simp)
          · exact j3.ro i o hi (k7.ro i o ho)
        · exact k1.elim
      split at hc
      · rename_i cs hres
        split at hc
        · rename_i q1 st1 h1
          rw [hres] at hxr
          obtain ⟨ys, hy, hr⟩ := hxr
          refine key h1 hc hr ?_
          intro cs' σ'' x' hr' hx'
          simp [mkSV] at hx'; subst hx'
          exact ⟨ys, hy, hr'⟩
        · simp at hc
      · rename_i c hres
        split at hc
        · rename_i q1 st1 h1
          rw [hres] at hxr
          refine key (ys := [a.tmps.getD d undef]) h1 hc ⟨hxr, trivial⟩ ?_
          intro cs' σ'' x' hr' hx'
          match cs', hr', hx' with
          | [c'], hr', hx' => simp [mkSV] at hx'; subst hx'; exact hr'.1
        · simp at hc
      · simp at hc
    · simp at hc
  | .box i t ls :: is, R, p, bs, cst, σ', q, K, li, h, hc => by
    have hgc : Good P w0 H0 cst a w ρ σ := hS.dies li.dies
    simp only [colI] at hc
    simp only [allI] at h
    split at hc
    · rename_i t' cs hW
      split at hc
      · rename_i ht
        subst ht
        split at hc
        · rename_i q1 st1 h1
          have hci := getW_some hW
          have hSi : S.L[i]? = some (some (true, .box t' cs)) := li.dies.back hci (by simp)
          obtain ⟨ys, y1, y2, y3, y4⟩ := hgc.obj _ _ _ hci
          obtain ⟨cs', bs1, σ1, k1, k2, k3, k4, k5, k6, k7⟩ := headL_sound hS li h h1 (resL_rel hgc.obj y2) (fun k hk => (colI_dies hc).keeps hk)
          have hil : i < bs1.L.length := by rw [k2.ll]; exact (List.getElem?_eq_some_iff.1 hSi).1
          have hne : ∀ (j : Nat) (f : Bool) (o : LObj) (g : Nat), j ≠ i → bs1.L[j]? = some (some (f, o)) → blk ρ σ1 j o = some g → g ≠ ρ i := by
            intro j f o g hj hL hb e
            subst e
            obtain ⟨j', f', o', h1, h2, h3⟩ := k2.src j f o _ hL hb
            have hji : j' ≠ i := by
              rcases h3 with ⟨rfl, _⟩ | h3
              · exact hj
              · rintro rfl
                have := k2.dies.box hSi (by simp)
                unfold isDead at h3
                rw [this] at h3
                simp at h3
            exact hS.sep j' i f' true o' _ _ hji h1 hSi h2 rfl
          have hg2 : Good P w0 H0 (setL bs1 i (.box t' cs')) a w ρ σ1 := by
            refine Good.step k2.good _ i (.box t' cs') (some (ρ i)) (set_get hil) (fun j hj => .inl (List.getElem?_set_ne (Ne.symm hj))) (.inl ⟨rfl, rfl⟩) (GrB.refl w _) (fun g hg => ?_) (fun g hg => by simp at hg; subst hg; exact k2.noOpen hS hSi rfl) (fun j f o g hj hL hb e => ?_) ?_ ?_ ?_ k2.good.sl
            · simp at hg; subst hg
              exact ⟨y3, fun o => by rw [k2.H, ← li.dies.H]; exact y4 o⟩
            · rw [List.getElem?_set_ne (Ne.symm hj)] at hL
              simp at e
              exact hne j f o g hj hL hb e.symm
            · exact ⟨ys, y1, k3, y3, fun o => by rw [k2.H, ← li.dies.H]; exact y4 o⟩
            · intro g hb; exact .inr hb
            · intro d' _ hd' _ hh
              exact k4 d' hd' hh
          have li2 : LI P w0 H0 a w ρ σ S st3 (setL bs1 i (.box t' cs')) σ1 st1 := by
            refine ⟨hg2, k2.dies, k2.H, k2.fl, by simpa [setL] using k2.ll, fun j f o g hL hb => ?_, k2.ole, fun j f hj => ?_⟩
            rotate_right
            · by_cases hji : j = i
              · subst hji
                simp only [setL] at hj
                rw [set_get hil] at hj
                simp at hj
              · rw [setL_keeps_other hji] at hj
                exact k2.sg j f hj
            by_cases hj : j = i
            · subst hj
              simp only [setL] at hL
              rw [set_get hil] at hL
              simp at hL
              obtain ⟨_, rfl⟩ := hL
              refine ⟨j, _, _, hSi, hb, .inl ⟨rfl, fun hd => ?_⟩⟩
              have := hst3.box hSi (by simp)
              unfold isDead at hd
              rw [this] at hd
              simp at hd
            · rw [setL_keeps_other hj] at hL
              exact k2.src j f o g hL hb
          obtain ⟨bs', σ'', j1, j2, j3⟩ := headI_sound hS hst3 li2 k1 hc
          refine ⟨bs', σ'', j1, j2, j3.fl.trans k7.fl, ?_, j3.H.trans (k2.H.trans li.H.symm), fun j hj => (j3.fr j hj).trans (k7.fr j (by simp)), fun j o hj ho => ?_⟩
          · have := j3.ll
            simp [setL] at this
            rw [this]; exact k7.ll
          · simp [itemBoxes] at hj
            exact j3.ro j o hj.2 (by rw [setL_keeps_other hj.1]; exact k7.ro j o ho)
        · simp at hc
      · simp at hc
    · simp at hc
  | .arr i t :: is, R, p, bs, cst, σ', q, K, li, h, hc => by
    have hgc : Good P w0 H0 cst a w ρ σ := hS.dies li.dies
    simp only [colI] at hc
    simp only [allI] at h
    split at hc
    · rename_i t' xs hW
      split at hc
      · rename_i ht
        subst ht
        have hci := getW_some hW
        have hSi : S.L[i]? = some (some (true, .arr t' xs)) := li.dies.back hci (by simp)
        obtain ⟨y1, y2, y3, y4⟩ := hgc.obj _ _ _ hci
        have hil : i < bs.L.length := by rw [li.ll]; exact (List.getElem?_eq_some_iff.1 hSi).1
        have hne : ∀ (j : Nat) (f : Bool) (o : LObj) (g : Nat), j ≠ i → bs.L[j]? = some (some (f, o)) → blk ρ σ' j o = some g → g ≠ ρ i := by
          intro j f o g hj hL hb e
          subst e
          obtain ⟨j', f', o', h1, h2, h3⟩ := li.src j f o _ hL hb
          have hji : j' ≠ i := by
            rcases h3 with ⟨rfl, _⟩ | h3
            · exact hj
            · rintro rfl
              have := li.dies.box hSi (by simp)
              unfold isDead at h3
              rw [this] at h3
              simp at h3
          exact hS.sep j' i f' true o' _ _ hji h1 hSi h2 rfl
        have hg2 : Good P w0 H0 (setL bs i (.arr t' xs)) a w ρ σ' := by
          refine Good.step li.good _ i (.arr t' xs) (some (ρ i)) (set_get hil) (fun j hj => .inl (List.getElem?_set_ne (Ne.symm hj))) (.inl ⟨rfl, rfl⟩) (GrB.refl w _) (fun g hg => ?_) (fun g hg => by simp at hg; subst hg; exact li.noOpen hS hSi rfl) (fun j f o g hj hL hb e => ?_) ?_ ?_ ?_ li.good.sl
          · simp at hg; subst hg
            exact ⟨y3, fun o => by rw [li.H, ← li.dies.H]; exact y4 o⟩
          · rw [List.getElem?_set_ne (Ne.symm hj)] at hL
            simp at e
            exact hne j f o g hj hL hb e.symm
          · exact ⟨y1, y2, y3, fun o => by rw [li.H, ← li.dies.H]; exact y4 o⟩
          · intro g hb; exact .inr hb
          · intro d' _ hd' _ hh
            exact hh
        have li2 : LI P w0 H0 a w ρ σ S st3 (setL bs i (.arr t' xs)) σ' cst := by
          refine ⟨hg2, li.dies, li.H, li.fl, by simpa [setL] using li.ll, fun j f o g hL hb => ?_, li.ole, fun j f hj => ?_⟩
          rotate_right
          · by_cases hji : j = i
            · subst hji
              simp only [setL] at hj
              rw [set_get hil] at hj
              simp at hj
            · rw [setL_keeps_other hji] at hj
              exact li.sg j f hj
          by_cases hj : j = i
          · subst hj
            simp only [setL] at hL
            rw [set_get hil] at hL
            simp at hL
            obtain ⟨_, rfl⟩ := hL
            refine ⟨j, _, _, hSi, hb, .inl ⟨rfl, fun hd => ?_⟩⟩
            have := hst3.box hSi (by simp)
            unfold isDead at hd
            rw [this] at hd
            simp at hd
          · rw [setL_keeps_other hj] at hL
            exact li.src j f o g hL hb
        obtain ⟨bs', σ'', j1, j2, j3⟩ := headI_sound hS hst3 li2 (h xs) hc
        refine ⟨bs', σ'', j1, j2, j3.fl, ?_, j3.H, fun j hj => j3.fr j hj, fun j o hj ho => ?_⟩
        · have := j3.ll
          simpa [setL] using this
        · simp [itemBoxes] at hj
          exact j3.ro j o hj.2 (by rw [setL_keeps_other hj.1]; exact ho)
      · simp at hc
    · simp at hc
  | .rowc i e :: is, R, p, bs, cst, σ', q, K, li, h, hc => by
    simp only [colI] at hc
    simp only [allI] at h
    split at hc
    · rename_i e' n xs hW
      split at hc
      · rename_i he
        subst he
        split at h
        · rename_i hdd
          obtain ⟨fd, hfd⟩ := getL_some hdd
          have hσ : σ' i = σ i := li.sg i fd hfd
          have hci := getW_some hW
          have hSi : S.L[i]? = some (some (true, .row e' n xs)) := li.dies.back hci (by simp)
          obtain ⟨y1, y2, y3⟩ := hS.obj _ _ _ hSi
          have hil : i < bs.L.length := (List.getElem?_eq_some_iff.1 hfd).1
          have hkl : i < cst.L.length := (List.getElem?_eq_some_iff.1 hci).1
          have hne : ∀ (j : Nat) (f : Bool) (o : LObj) (g : Nat), j ≠ i → bs.L[j]? = some (some (f, o)) → blk ρ σ' j o = some g → (σ i).ownBlock ≠ some g := by
            intro j f o g hj hL hb e
            obtain ⟨j', f', o', h1, h2, h3⟩ := li.src j f o _ hL hb
            have hji : j' ≠ i := by
              rcases h3 with ⟨rfl, _⟩ | h3
              · exact hj
              · rintro rfl
                unfold isDead at h3
                rw [hci] at h3
                simp at h3
            exact hS.sep j' i f' true o' _ _ hji h1 hSi h2 e
          have hobj : ObjOK P w0 w bs.H ρ σ' i (.row e' n xs) := by
            simp only [ObjOK, hσ]
            exact ⟨y1, y2, fun g hg o => by rw [li.H]; exact y3 g hg o⟩
          have hg2 : Good P w0 H0 (setL bs i (.row e' n xs)) a w ρ σ' := by
            refine Good.step li.good _ i (.row e' n xs) (σ i).ownBlock (set_get hil) (fun j hj => .inl (List.getElem?_set_ne (Ne.symm hj))) (.inl ⟨rfl, rfl⟩) (GrB.refl w _) (fun g hg => ?_) (fun g hg => li.noOpen hS hSi hg) (fun j f o g hj hL hb e => ?_) hobj ?_ ?_ li.good.sl
            · exact ⟨(y1.lt g hg).1, fun o => by rw [li.H]; exact y3 g hg o⟩
            · rw [List.getElem?_set_ne (Ne.symm hj)] at hL
              exact hne j f o g hj hL hb e
            · intro g hb
              simp only [blk, hσ] at hb
              exact .inr hb
            · intro d' _ hd' _ hh
              exact hh
          have hkill : Dies cst (setL cst i .dead) := Dies.kill hW
          have li2 : LI P w0 H0 a w ρ σ S st3 (setL bs i (.row e' n xs)) σ' (setL cst i .dead) := by
            refine ⟨hg2, li.dies.trans hkill, li.H, li.fl, by simpa [setL] using li.ll, fun j f o g hL hb => ?_, li.ole, fun j f hj => ?_⟩
            rotate_right
            · by_cases hji : j = i
              · subst hji
                simp only [setL] at hj
                rw [set_get hil] at hj
                simp at hj
              · rw [setL_keeps_other hji] at hj
                exact li.sg j f hj
            by_cases hj : j = i
            · subst hj
              simp only [setL] at hL
              rw [set_get hil] at hL
              simp at hL
              obtain ⟨_, rfl⟩ := hL
              refine ⟨j, _, _, hSi, by simp only [blk, hσ] at hb ⊢; exact hb, .inr ?_⟩
              simp only [isDead, setL]
              exact set_get hkl
            · rw [setL_keeps_other hj] at hL
              obtain ⟨j', f', o', h1, h2, h3⟩ := li.src j f o g hL hb
              exact ⟨j', f', o', h1, h2, h3.imp id fun h => hkill.keeps h⟩
          obtain ⟨bs', σ'', j1, j2, j3⟩ := headI_sound hS hst3 li2 (h n xs) hc
          refine ⟨bs', σ'', j1, j2, j3.fl, ?_, j3.H, fun j hj => j3.fr j hj, fun j o hj ho => ?_⟩
          · have := j3.ll
            simpa [setL] using this
          · simp [itemBoxes] at hj
            exact j3.ro j o hj.2 (by rw [setL_keeps_other hj.1]; exact ho)
        · exact h.elim
      · simp at hc
    · simp at hc
end
end Go.Vc

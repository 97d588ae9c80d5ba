/- slices.Grow of a nil slice: a new empty row. -/
import Derived.Test.YtdgcjfnpfpbcfaaGreatDoorGJT9
import Derived.Shelf.Spec.SlicesGrow
set_option linter.unusedSectionVars false
set_option linter.unusedSimpArgs false
set_option linter.unusedVariables false
namespace Go.Vc
open Go Go.RowKit Go.Shelf Go.Proofs
theorem grow_con {P : Program} {Γ : Tab} (hT : TabOK P Γ) {ρ : Ren} (L : Lays8.n4 P ρ) {j : TyI} (hj : Γ (ρ.t 25) = some j) (hsz : 0 < j.size) (hby : 0 < j.bytes) {n r : Nat} {H : Heap} (hb : n * j.bytes ≤ 140737488355328) :
    ConT P (ρ.f 4) [.slice none 0 0, .int .i64 n] H ⟨false, [(false, [.row r (ρ.t 25)])]⟩ (fun m xs _ => m = 0 ∧ xs = []) := by
  refine ⟨FnOK.of_bears L.f4 rfl, fun w hs => ?_⟩
  have hTj := hT _ _ hj
  obtain ⟨inf, z, i1, i2, i3, i4, i5⟩ := hTj.info
  have hn : n ≤ n * j.bytes := Nat.le_mul_of_pos_right _ hby
  have fin : ∀ (w' : World) (v : Value), Below w.heap.size w w' → w.drawn ≤ w'.drawn → World.ownsRow w' w.heap.size (ρ.t 25) (P.cellsOf (ρ.t 25)) v 0 [] → (∀ g, v.ownBlock = some g → w.heap.size ≤ g) →
      ∃ v' H' nr, Ending.returned v = .returned v' ∧ Fits ⟨false, [(false, [.row r (ρ.t 25)])]⟩ (fun m xs _ => m = 0 ∧ xs = [] : PostR [(false, [.row r (ρ.t 25)])] (Heap → Prop)) v' H' nr ∧ Grows w w' H H' ∧ (∀ r ∈ nr, NewRow P w w' H' r) ∧ apartRows nr := by
    intro w' v hB hd hown hg
    have hlt : ∀ b o u, H b o = some u → b < w.heap.size := by
      intro b o u hu
      exact (hs b o u hu).lt
    refine ⟨v, H, [⟨v, ρ.t 25, 0, []⟩], rfl, ⟨⟨v, ρ.t 25, 0, []⟩, [], rfl, rfl, v, rfl, rfl, rfl, rfl, rfl⟩, ⟨hB, Heap.le_refl _, fun _ _ _ => rfl, fun b o u hu => ?_, hd⟩, fun r hr => ?_, List.pairwise_singleton _ _⟩
    · exact (hs b o u hu).keep (hB.block b (hlt b o u hu))
    · rw [List.mem_singleton] at hr
      subst hr
      refine ⟨hown, by simp, fun g hgg o => ?_⟩
      cases hh : H g o with
      | none => rfl
      | some u => have := hlt g o u hh; have := hg g hgg; omega
  by_cases h0 : n = 0
  · subst h0
    refine (Any8.slices_Grow_room L none 0 0 0 w (by omega) (by omega) (by omega) (by omega)).mono ?_
    rintro e w' ⟨rfl, rfl⟩
    exact fin _ _ (Below.refl _ _) (Nat.le_refl _) ⟨by simp, .inl ⟨rfl, rfl⟩⟩ (by simp [Value.ownBlock])
  · refine (Any8.slices_Grow_grow L inf z i1 i4 (by omega) none 0 0 n [] w (by omega) (by omega) (by rw [i3, Nat.zero_add]; exact hb) (by omega) (by simp) (fun _ => rfl) (by simp)).mono ?_
    rintro e w' ⟨rfl, rfl⟩
    refine fin _ _ (Below.drew (Below.refl _ _) |>.alloc (Nat.le_refl _) _) (Nat.le_succ _) ⟨by simp, .inr ⟨w.heap.size, grownCap w (0 + n) 0 (ρ.t 25), _, rfl, Nat.le_refl _, heap_alloc_new _ _, by omega, grownCap_le_maxLen w _ _ _ (by simp only [maxLen]; omega), ?_, by simp⟩⟩ (by simp [Value.ownBlock])
    have hzs : z.cells.size = P.cellsOf (ρ.t 25) := by rw [i5, hTj.cellsOf]; simpa using hTj.zlen
    have hge := grownCap_ge w (0 + n) 0 (ρ.t 25)
    simp only [List.size_toArray, List.length_nil, Array.size_append, Builtin.zeroCells, Array.size_map, Array.size_range, hzs]
    simp only [Nat.zero_add, Nat.sub_zero] at hge ⊢
    rw [← Nat.add_mul]
    congr 1; omega
end Go.Vc

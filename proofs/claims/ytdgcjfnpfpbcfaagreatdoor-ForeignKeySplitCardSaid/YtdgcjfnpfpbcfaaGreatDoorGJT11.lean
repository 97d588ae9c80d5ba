/- slices.Sort and slices.Compact on a row of ints of the caller's own. -/
import Derived.Test.YtdgcjfnpfpbcfaaGreatDoorGJT10
import Derived.Shelf.Sort.Plain
import Derived.Shelf.Slices.In.SortNone
import Derived.Shelf.Slices.CompactI
set_option linter.unusedSectionVars false
set_option linter.unusedSimpArgs false
set_option linter.unusedVariables false
namespace Go.Vc
open Go Go.RowKit Go.Shelf Go.Proofs Go.Sort
theorem row_int {H : Heap} : ∀ {xs : List Value} {l : List Int}, Row H xs l → xs = l.map (Value.int .i64) ∧ ∀ x ∈ l, rng .i64 x
  | xs, [], h => ⟨h, by simp⟩
  | xs, x :: l, ⟨vs, ys, h1, h2, h3⟩ => by
    obtain ⟨e1, e2⟩ := row_int h3
    obtain ⟨e3, e4⟩ := h2
    exact ⟨by rw [h1, e3, e1]; rfl, by simpa using ⟨e4, e2⟩⟩
theorem int_row {H : Heap} : ∀ {l : List Int}, (∀ x ∈ l, rng .i64 x) → Row H (l.map (Value.int .i64)) l
  | [], _ => rfl
  | x :: l, h => ⟨[.int .i64 x], _, rfl, ⟨rfl, h x (by simp)⟩, int_row fun y hy => h y (by simp [hy])⟩
theorem putRow_int (w : World) (g : Nat) (l : List Int) : putRow (Value.int .i64) w g 0 l.toArray = putRow id w g 0 (l.map (Value.int .i64)).toArray := by
  have h : (putCells (Value.int .i64) 0 l.toArray : Array Value → Array Value) = putCells id 0 (l.map (Value.int .i64)).toArray := by
    funext cur
    unfold putCells
    congr 1
    funext k v
    have hs : (l.map (Value.int .i64)).toArray.size = l.toArray.size := by simp
    rw [hs]
    split
    · rename_i hk
      rw [getElem!_pos l.toArray _ (by omega), getElem!_pos (l.map (Value.int .i64)).toArray _ (by omega)]
      simp
    · rfl
  unfold putRow
  rw [h]
theorem row_snap {w : World} {H : Heap} {g n : Nat} {F : Array Value} {os : Array Obj} {cur : Array Value} {e : TypeId} (hs : Snap H w) (hf : ∀ o, H g o = none) (hg : w.heap[g]? = some (.cells cur e (0, 0))) (hF : F.size ≤ cur.size) : Snap H (grow (putRow id (Sort.ahead w n) g 0 F) os) := by
  obtain ⟨cur', k1, k2, k3, k4, k5⟩ := sorted_world (n := n) (os := os) hg hF
  intro b o v hv
  have hbg : b ≠ g := by
    rintro rfl
    rw [hf o] at hv; cases hv
  have h1 := hs b o v hv
  exact h1.keep (k4 b h1.lt hbg)
theorem row_holds {w : World} {g c n : Nat} {cur : Array Value} {e : TypeId} {l : List Int} (hb : w.heap[g]? = some (.cells cur e (0, 0))) (hl : l.length = n) (ht : cur.toList.take n = l.map (Value.int .i64)) : Holds (Value.int .i64) w g 0 l.toArray := by
  intro j hj
  simp only [List.size_toArray] at hj
  have h1 : cur.toList[j]? = (l.map (Value.int .i64))[j]? := by rw [← ht, List.getElem?_take_of_lt (by omega)]
  refine ⟨?_, by simp [World.frozen?, hb]⟩
  simp only [World.cell?, hb, Nat.zero_add]
  rw [getElem!_pos l.toArray j (by simpa using hj)]
  rw [List.getElem?_map, List.getElem?_eq_getElem hj] at h1
  simpa using h1
theorem FnOK.of_body {P : Program} {f : FuncId} {B : Func} (h : P.funcs[f]? = some B) (hb : B.body.isSome = true) (hn : (B.name == "runtime.NumGoroutine") = false) : FnOK P f := ⟨B, h, hb, hn⟩
/- THE CONTRACT of slices.Sort -/
theorem sortI_con {P : Program} {ρ : Ren} (L : Lays.n189 P ρ) {e : TypeId} (he : P.cellsOf e = 1) {H : Heap} {n : Nat} {xs : List Value} {l : List Int} (hr : Row H xs l) (hl : l.length = n) (hn : n ≤ 140737488355328) :
    ConM P (ρ.f 189) [.slice none 0 0] 0 e n xs true H ⟨true, []⟩ (fun ys (H' : Heap) => Row H' ys (l.mergeSort fun x y => decide (x ≤ y))) := by
  refine ⟨FnOK.of_body L.f189 rfl (by kernel_rfl), fun w B s hs hB hrx => ?_⟩
  obtain ⟨⟨hxl, hcase⟩, hx1, hfree⟩ := hrx
  simp only at hxl hcase hx1 hfree
  rw [he] at hxl hcase
  obtain ⟨e1, e2⟩ := row_int hr
  have fin : ∀ (w' : World) (ys : List Value), GrowsX w w' H H s.ownBlock → RowX P w' B H ⟨s, e, n, ys⟩ → Row H ys (l.mergeSort fun x y => decide (x ≤ y)) →
      ∃ v H' nr ys, Ending.returned (.tuple #[]) = .returned v ∧ Fits ⟨true, []⟩ ((fun ys (H' : Heap) => Row H' ys (l.mergeSort fun x y => decide (x ≤ y)) : List Value → PostR [] (Heap → Prop)) ys) v H' nr ∧
        GrowsX w w' H H' s.ownBlock ∧ (true = true → RowX P w' B H' ⟨s, e, n, ys⟩) ∧
        (∀ r ∈ nr, RowX P w' B H' r ∧ ∀ g, r.s.ownBlock = some g → w.heap.size ≤ g ∨ (true = false ∧ s.ownBlock = some g)) ∧ apartRows nr := by
    intro w' ys hg hx hm
    exact ⟨_, H, [], ys, rfl, ⟨rfl, rfl, hm⟩, hg, fun _ => hx, by simp, List.Pairwise.nil⟩
  by_cases hn0 : n = 0
  · subst hn0
    obtain rfl : l = [] := List.eq_nil_of_length_eq_zero hl
    have hxs : xs = [] := hr
    subst hxs
    have hsl : ∃ p c, s = .slice p 0 c := by
      rcases hcase with ⟨rfl, -⟩ | ⟨g, c, cur, rfl, _⟩
      · exact ⟨_, _, rfl⟩
      · exact ⟨_, _, rfl⟩
    obtain ⟨p, c, rfl⟩ := hsl
    refine (Any.slices_Sort_int_none L p c w).mono ?_
    rintro e w' ⟨rfl, rfl⟩
    exact fin _ [] (GrowsX.same hs) ⟨⟨by rw [he]; exact hxl, by rw [he]; exact hcase⟩, hx1, hfree⟩ (by simp [Row])
  rcases hcase with ⟨-, h0⟩ | ⟨g, c, cur, rfl, hge, hb, hnc, hcm, hcs, htake⟩
  · exact absurd h0 hn0
  simp only [Nat.mul_one] at hcs htake
  have hlt : g < w.heap.size := (Array.getElem?_eq_some_iff.1 hb).1
  have hH : Holds (Value.int .i64) w g 0 l.toArray := row_holds (c := c) hb hl (by rw [htake, e1])
  have hcall := Any.slices_Sort_int L g 0 c l w hH hlt (by omega)
  rw [hl] at hcall
  refine hcall.mono ?_
  rintro e' w' ⟨rfl, m, os, rfl⟩
  rw [putRow_int]
  have hsl : (l.mergeSort fun x y => decide (x ≤ y)).length = n := by rw [List.length_mergeSort, hl]
  have hsz : ((l.mergeSort fun x y => decide (x ≤ y)).map (Value.int .i64)).toArray.size = n := by simp [hsl]
  have hrng : ∀ x ∈ (l.mergeSort fun x y => decide (x ≤ y)), rng .i64 x := fun x hx => e2 x (by simpa using hx)
  obtain ⟨cur', k1, k2, k3, k4, k5⟩ := sorted_world (n := m) (F := ((l.mergeSort fun x y => decide (x ≤ y)).map (Value.int .i64)).toArray) (os := os) hb (by rw [hsz, hcs]; exact hnc)
  refine fin (grow (putRow id (Sort.ahead w m) g 0 ((l.mergeSort fun x y => decide (x ≤ y)).map (Value.int .i64)).toArray) os) ((l.mergeSort fun x y => decide (x ≤ y)).map (Value.int .i64)) ⟨⟨rfl, rfl, rfl, k5, fun k hk hne => k4 k hk (fun e => hne (by rw [e]; rfl)), Nat.le_add_right _ _⟩, Heap.le_refl _, fun _ _ _ _ => rfl, row_snap hs (hfree g rfl) hb (by rw [hsz, hcs]; exact hnc)⟩
    ⟨⟨by rw [he]; simp [hsl], .inr ⟨g, c, cur', rfl, hge, k1, hnc, hcm, by rw [k2, he, hcs, Nat.mul_one], ?_⟩⟩, ?_, hfree⟩ (int_row hrng)
  · rw [he, Nat.mul_one, ← hsz, k3]
  · intro x hx
    obtain ⟨y, _, rfl⟩ := List.mem_map.1 hx
    rfl
theorem compact_snoc (l : List Int) (x : Int) : Lib.compact (l ++ [x]) = Lib.compact l ++ (if l.getLast? = some x then [] else [x]) := by
  have hlow : ∀ m, m ≤ l.length → Lib.compactUpTo (l ++ [x]).toArray m = Lib.compactUpTo l.toArray m := by
    intro m hm
    have hget : ∀ j, j < l.length → (l ++ [x]).toArray[j]! = l.toArray[j]! := by
      intro j hj
      rw [getElem!_pos (l ++ [x]).toArray j (by simp; omega), getElem!_pos l.toArray j (by simpa using hj)]
      simp [List.getElem_append_left hj]
    unfold Lib.compactUpTo
    have h1 : (List.range m).filter (Lib.keeps (l ++ [x]).toArray) = (List.range m).filter (Lib.keeps l.toArray) := by
      apply List.filter_congr
      intro j hj
      have hj := List.mem_range.1 hj
      unfold Lib.keeps
      rw [hget j (by omega), hget (j - 1) (by omega)]
    rw [h1]
    apply List.map_congr_left
    intro j hj
    have hj := List.mem_range.1 (List.mem_filter.1 hj).1
    exact hget j (by omega)
  unfold Lib.compact
  rw [show (l ++ [x]).length = l.length + 1 by simp, Lib.compactUpTo_succ, hlow _ (Nat.le_refl _)]
  congr 1
  have hx : (l ++ [x]).toArray[l.length]! = x := by
    rw [getElem!_pos (l ++ [x]).toArray l.length (by simp)]
    simp
  rw [hx]
  unfold Lib.keeps
  rw [hx]
  rcases Nat.eq_zero_or_pos l.length with h0 | h0
  · have : l = [] := List.eq_nil_of_length_eq_zero h0
    subst this; simp
  · have hl : (l ++ [x]).toArray[l.length - 1]! = l[l.length - 1]'(by omega) := by
      rw [getElem!_pos (l ++ [x]).toArray (l.length - 1) (by simp; omega)]
      simp [List.getElem_append_left (show l.length - 1 < l.length by omega)]
    rw [hl, List.getLast?_eq_getElem?, List.getElem?_eq_getElem (by omega)]
    by_cases h : l[l.length - 1] = x
    · have hne : l ≠ [] := fun e => by subst e; simp at h0
      simp [h, hne]
    · have : ¬ x = l[l.length - 1] := fun e => h e.symm
      simp [h, this]
theorem compact_sub (l : List Int) : (Lib.compact l).Sublist l := by
  have key : ∀ r : List Int, (Lib.compact r.reverse).Sublist r.reverse := by
    intro r
    induction r with
    | nil => exact List.Sublist.refl _
    | cons x l ih =>
      rw [List.reverse_cons, compact_snoc]
      split
      · rw [List.append_nil]; exact ih.trans (List.sublist_append_left _ _)
      · exact ih.append (List.Sublist.refl _)
  have := key l.reverse
  rwa [List.reverse_reverse] at this
/- THE CONTRACT of slices.Compact -/
set_option maxHeartbeats 1000000 in
theorem compactI_con {P : Program} {ρ : Ren} (L : Lays2.n20 P ρ) {e : TypeId} (he : P.cellsOf e = 1) {H : Heap} {n r : Nat} {xs : List Value} {l : List Int} (hr : Row H xs l) (hl : l.length = n) (hn : n ≤ 140737488355328) :
    ConM P (ρ.f 20) [.slice none 0 0] 0 e n xs false H ⟨false, [(false, [.row r e])]⟩ (fun _ => fun m (ys : List Value) (H' : Heap) => m = (Lib.compact l).length ∧ Row H' ys (Lib.compact l)) := by
  refine ⟨FnOK.of_body L.f20 rfl (by kernel_rfl), fun w B s hs hB hrx => ?_⟩
  obtain ⟨⟨hxl, hcase⟩, hx1, hfree⟩ := hrx
  simp only at hxl hcase hx1 hfree
  rw [he] at hxl hcase
  obtain ⟨e1, e2⟩ := row_int hr
  have fin : ∀ (w' : World) (v : Value) (m : Nat) (ys : List Value), GrowsX w w' H H s.ownBlock → RowX P w' B H ⟨v, e, m, ys⟩ → (∀ g, v.ownBlock = some g → s.ownBlock = some g) → m = (Lib.compact l).length ∧ Row H ys (Lib.compact l) →
      ∃ v' H' nr ys, Ending.returned v = .returned v' ∧ Fits ⟨false, [(false, [.row r e])]⟩ ((fun _ => fun m (ys : List Value) (H' : Heap) => m = (Lib.compact l).length ∧ Row H' ys (Lib.compact l) : List Value → PostR [(false, [.row r e])] (Heap → Prop)) ys) v' H' nr ∧
        GrowsX w w' H H' s.ownBlock ∧ (false = true → RowX P w' B H' ⟨s, e, n, ys⟩) ∧
        (∀ r ∈ nr, RowX P w' B H' r ∧ ∀ g, r.s.ownBlock = some g → w.heap.size ≤ g ∨ (false = false ∧ s.ownBlock = some g)) ∧ apartRows nr := by
    intro w' v m ys hg hx hv hm
    refine ⟨v, H, [⟨v, e, m, ys⟩], ys, rfl, ⟨⟨v, e, m, ys⟩, [], rfl, rfl, v, rfl, rfl, rfl, hm⟩, hg, by simp, fun r hr => ?_, List.pairwise_singleton _ _⟩
    simp at hr; subst hr
    exact ⟨hx, fun g hgv => .inr ⟨rfl, hv g hgv⟩⟩
  by_cases hn0 : n = 0
  · subst hn0
    obtain rfl : l = [] := List.eq_nil_of_length_eq_zero hl
    have hxs : xs = [] := hr
    subst hxs
    have hsl : ∃ p c, s = .slice p 0 c := by
      rcases hcase with ⟨rfl, -⟩ | ⟨g, c, cur, rfl, _⟩
      · exact ⟨_, _, rfl⟩
      · exact ⟨_, _, rfl⟩
    obtain ⟨p, c, rfl⟩ := hsl
    refine (Any.slices_Compact_int_empty L p c w).mono ?_
    rintro e' w' ⟨rfl, rfl⟩
    exact fin _ _ 0 [] (GrowsX.same hs) ⟨⟨by rw [he]; exact hxl, by rw [he]; exact hcase⟩, hx1, hfree⟩ (fun _ h => h) ⟨rfl, rfl⟩
  rcases hcase with ⟨-, h0⟩ | ⟨g, c, cur, rfl, hge, hb, hnc, hcm, hcs, htake⟩
  · exact absurd h0 hn0
  simp only [Nat.mul_one] at hcs htake
  have hlt : g < w.heap.size := (Array.getElem?_eq_some_iff.1 hb).1
  have hH : Holds (Value.int .i64) w g 0 l.toArray := row_holds (c := c) hb hl (by rw [htake, e1])
  have hcall := Any.slices_Compact_int L g 0 c l w hH (by omega) (by omega)
  rw [hl] at hcall
  refine hcall.mono ?_
  rintro e' w' ⟨rfl, q, rfl⟩
  rw [putRow_int]
  have hsub : (Lib.compact l).Sublist l := compact_sub l
  have hcl : (Lib.compact l).length ≤ n := by rw [← hl]; exact hsub.length_le
  have hsz : (((Lib.compact l) ++ List.replicate (n - (Lib.compact l).length) 0).map (Value.int .i64)).toArray.size = n := by simp; omega
  obtain ⟨cur', k1, k2, k3, k4, k5⟩ := sorted_world (n := q) (F := (((Lib.compact l) ++ List.replicate (n - (Lib.compact l).length) 0).map (Value.int .i64)).toArray) (os := #[]) hb (by rw [hsz, hcs]; exact hnc)
  rw [grow_empty] at k1 k4 k5
  have hsn := row_snap (n := q) (os := #[]) hs (hfree g rfl) hb (by rw [hsz, hcs]; exact hnc : (((Lib.compact l) ++ List.replicate (n - (Lib.compact l).length) 0).map (Value.int .i64)).toArray.size ≤ cur.size)
  rw [grow_empty] at hsn
  obtain ⟨F, hF⟩ : ∃ F, F = ((Lib.compact l ++ List.replicate (n - (Lib.compact l).length) 0).map (Value.int .i64)).toArray := ⟨_, rfl⟩
  rw [← hF] at k1 k3 k4 k5 hsn hsz ⊢
  rw [hsz] at k3
  have hk : cur'.toList.take (Lib.compact l).length = (Lib.compact l).map (Value.int .i64) := by
    have := congrArg (List.take (Lib.compact l).length) k3
    rw [List.take_take, Nat.min_eq_left hcl] at this
    rw [this, hF]
    simp
  have hrow : Row H ((Lib.compact l).map (Value.int .i64)) (Lib.compact l) := int_row fun x hx => e2 x (hsub.subset hx)
  have h1 : GrowsX w (putRow id (Sort.ahead w q) g 0 F) H H (Value.slice (some ⟨g, 0, none⟩) n c).ownBlock := ⟨⟨rfl, rfl, rfl, k5, fun k hk hne => k4 k hk (fun e => hne (by rw [e]; rfl)), Nat.le_add_right _ _⟩, Heap.le_refl _, fun _ _ _ _ => rfl, hsn⟩
  generalize Lib.compact l = cd at *
  have h2 : RowX P (putRow id (Sort.ahead w q) g 0 F) B H ⟨.slice (some ⟨g, 0, none⟩) cd.length c, e, cd.length, cd.map (Value.int .i64)⟩ := by
    refine ⟨⟨by rw [he]; simp, .inr ⟨g, c, cur', rfl, hge, k1, by show cd.length ≤ c; omega, hcm, by rw [k2, he, hcs, Nat.mul_one], ?_⟩⟩, ?_, hfree⟩
    · rw [he, Nat.mul_one]
      exact hk
    · intro x hx
      obtain ⟨y, _, rfl⟩ := List.mem_map.1 hx
      rfl
  exact fin _ _ _ _ h1 h2 (fun _ h => h) ⟨rfl, hrow⟩
end Go.Vc

/- slices.SortFunc on a row of the caller's own, at elements of one cell. -/
import Derived.Test.YtpgcjofhfaonpaaGreatDoorGJS10
import Derived.Shelf.SlLaysF
set_option linter.unusedSectionVars false
set_option linter.unusedSimpArgs false
set_option linter.unusedVariables false
namespace Go.Vc
open Go Go.RowKit Go.Shelf Go.Proofs Go.Sort
theorem putRow_map {α : Type} [Inhabited α] (enc : α → Value) (w : World) (g : Nat) (l : List α) : putRow enc w g 0 l.toArray = putRow id w g 0 (l.map enc).toArray := by
  have h : (putCells enc 0 l.toArray : Array Value → Array Value) = putCells id 0 (l.map enc).toArray := by
    funext cur
    unfold putCells
    congr 1
    funext k v
    have hs : (l.map enc).toArray.size = l.toArray.size := by simp
    rw [hs]
    split
    · rename_i hk
      rw [getElem!_pos l.toArray _ (by omega), getElem!_pos (l.map enc).toArray _ (by omega)]
      simp
    · rfl
  unfold putRow
  rw [h]
theorem row_elems1 {T : Type} [Rep T] (h1 : Rep.sz T = 1) {H : Heap} : ∀ {xs : List Value} {l : List T}, Row H xs l → ∃ d : List { x : Value × T // Rep.rel H [x.1] x.2 }, d.map (fun x => x.1.2) = l ∧ d.map (fun x => x.1.1) = xs
  | xs, [], h => ⟨[], rfl, h.symm⟩
  | xs, t :: l, ⟨vs, ys, e1, e2, e3⟩ => by
    obtain ⟨d, k1, k2⟩ := row_elems1 h1 e3
    have hl := Rep.len e2
    rw [h1] at hl
    obtain ⟨v, rfl⟩ : ∃ v, vs = [v] := by
      match vs, hl with
      | [v], _ => exact ⟨v, rfl⟩
    exact ⟨⟨(v, t), e2⟩ :: d, by simp [k1], by simp [k2, e1]⟩
theorem elems_row1 {T : Type} [Rep T] {H : Heap} : ∀ (d : List { x : Value × T // Rep.rel H [x.1] x.2 }), Row H (d.map (fun x => x.1.1)) (d.map (fun x => x.1.2))
  | [] => rfl
  | x :: d => ⟨[x.1.1], _, rfl, x.2, elems_row1 d⟩
/- a comparison that a function computes in every grown heap -/
def CmpFn1 (P : Program) (T : Type) [Rep T] (H : Heap) (f : FuncId) (cap : List Value) (cf : T → T → Int) : Prop :=
  ∀ (H' : Heap) (v u : Value) (s t : T), Heap.le H H' → Rep.rel H' [v] s → Rep.rel H' [u] t → ConT P f ([v, u] ++ cap) H' shI (fun r _ => r = cf s t)
/- THE CONTRACT -/
theorem sort1_con {P : Program} {ρ : Ren} {T : Type} [Rep T] (h1 : Rep.sz T = 1) (L : SlLaysF.n6 P ρ) (hcells : P.cellsOf (ρ.t 24) = 1) {H : Heap} {n : Nat} {xs : List Value} {l : List T} (hr : Row H xs l) (hl : l.length = n) (hn : n ≤ 140737488355328)
    {f : FuncId} (hf : FnOK P f) {cap : List Value} {cf : T → T → Int} (hO : SWO (ltOf cf)) (hcmp : CmpFn1 P T H f cap cf) :
    ConM P (ρ.f 6) [.slice none 0 0, .func (.func f) #[] ⟨cap⟩] 0 (ρ.t 24) n xs true H ⟨true, []⟩ (fun ys (H' : Heap) => ∃ m : List T, Row H' ys m ∧ m.Perm l ∧ m.Pairwise (fun a b => ¬ cf b a < 0)) := by
  refine ⟨FnOK.of_bears L.f6 rfl, fun w B s hs hB hrx => ?_⟩
  obtain ⟨⟨hxl, hcase⟩, hx1, hfree⟩ := hrx
  simp only at hxl hcase hx1 hfree
  rw [hcells] at hxl hcase
  obtain ⟨d, e1, e2⟩ := row_elems1 h1 hr
  have fin : ∀ (w' : World) (ys : List Value), GrowsX w w' H H s.ownBlock → RowX P w' B H ⟨s, ρ.t 24, n, ys⟩ → (∃ m : List T, Row H ys m ∧ m.Perm l ∧ m.Pairwise (fun a b => ¬ cf b a < 0)) →
      ∃ v H' nr ys, Ending.returned (.tuple #[]) = .returned v ∧ Fits ⟨true, []⟩ ((fun ys (H' : Heap) => ∃ m : List T, Row H' ys m ∧ m.Perm l ∧ m.Pairwise (fun a b => ¬ cf b a < 0) : List Value → PostR [] (Heap → Prop)) ys) v H' nr ∧
        GrowsX w w' H H' s.ownBlock ∧ (true = true → RowX P w' B H' ⟨s, ρ.t 24, n, ys⟩) ∧
        (∀ r ∈ nr, RowX P w' B H' r ∧ ∀ g, r.s.ownBlock = some g → w.heap.size ≤ g ∨ (true = false ∧ s.ownBlock = some g)) ∧ apartRows nr := by
    intro w' ys hg hx hm
    exact ⟨_, H, [], ys, rfl, ⟨rfl, rfl, hm⟩, hg, fun _ => hx, by simp, List.Pairwise.nil⟩
  by_cases hn0 : n = 0
  · subst hn0
    obtain rfl : l = [] := List.eq_nil_of_length_eq_zero hl
    have hxs : xs = [] := hr
    subst hxs
    have hsl : ∃ p c, s = .slice p 0 c := by
      rcases hcase with ⟨rfl, -⟩ | ⟨g, c, cur, rfl, _⟩
      · exact ⟨_, _, rfl⟩
      · exact ⟨_, _, rfl⟩
    obtain ⟨p, c, rfl⟩ := hsl
    refine (AnyF.slices_SortFunc_none { L with } p c (.func (.func f) #[] ⟨cap⟩) w).mono ?_
    rintro e w' ⟨rfl, rfl⟩
    refine fin _ [] (GrowsX.same hs) ⟨⟨by rw [hcells]; exact hxl, by rw [hcells]; exact hcase⟩, hx1, hfree⟩ ⟨[], rfl, List.Perm.refl _, List.Pairwise.nil⟩
  rcases hcase with ⟨-, h0⟩ | ⟨g, c, cur, rfl, hge, hb, hnc, hcm, hcs, htake⟩
  · exact absurd h0 hn0
  simp only [Nat.mul_one] at hcs htake
  have hdl : d.length = n := by rw [← hl, ← e1]; simp
  obtain ⟨d0, -⟩ : ∃ x, x ∈ d := by
    cases d with
    | nil => simp at hdl; omega
    | cons x r => exact ⟨x, by simp⟩
  haveI : Inhabited { x : Value × T // Rep.rel H [x.1] x.2 } := ⟨d0⟩
  have hone : OneCell (fun x : { x : Value × T // Rep.rel H [x.1] x.2 } => x.1.1) := fun x => Rep.one x.2 _ (by simp)
  have hlt : g < w.heap.size := (Array.getElem?_eq_some_iff.1 hb).1
  have hds : d.toArray.size = n := by simpa using hdl
  have hH : Holds (fun x : { x : Value × T // Rep.rel H [x.1] x.2 } => x.1.1) w g 0 d.toArray := by
    intro j hj
    rw [hds] at hj
    refine ⟨?_, by simp [World.frozen?, hb]⟩
    have h2 : cur.toList[j]? = xs[j]? := by rw [← htake, List.getElem?_take_of_lt hj]
    have h3 : (d.map (fun x => x.1.1))[j]? = some (d[j]'(by omega)).1.1 := by rw [List.getElem?_map, List.getElem?_eq_getElem (by omega)]; rfl
    rw [e2] at h3
    simp only [World.cell?, hb, Nat.zero_add]
    rw [getElem!_pos d.toArray j (by rw [hds]; exact hj)]
    rw [h3] at h2
    simpa using h2
  have hput : ∀ (m : Nat) (dk : Array { x : Value × T // Rep.rel H [x.1] x.2 }) (os : Array Obj), sortWorld (fun x : { x : Value × T // Rep.rel H [x.1] x.2 } => x.1.1) w g 0 m dk os = grow (putRow id (Sort.ahead w m) g 0 (dk.toList.map (fun x => x.1.1)).toArray) os := by
    intro m dk os
    unfold sortWorld
    rw [← putRow_map]
  have hcl : CmpLays1 P f ⟨cap⟩ (fun x : { x : Value × T // Rep.rel H [x.1] x.2 } => x.1.1) (fun x y => cf x.1.2 y.1.2) g 0 d.toArray.size w := by
    intro m os dk hdk x y
    obtain ⟨cur1, k1, k2, k3, k4, k5⟩ := sorted_world (n := m) (F := (dk.toList.map (fun x => x.1.1)).toArray) (os := os) hb (by simp [hdk, hdl, hcs, hnc])
    have hsn : Snap H (sortWorld (fun x : { x : Value × T // Rep.rel H [x.1] x.2 } => x.1.1) w g 0 m dk os) := by
      intro b o v hv
      have hbg : b ≠ g := by
        rintro rfl
        rw [hfree b rfl o] at hv; cases hv
      have h1 := hs b o v hv
      refine h1.keep ?_
      rw [hput]
      exact k4 b h1.lt hbg
    have hcon := (hcmp H x.1.1 y.1.1 x.1.2 y.1.2 (hle_refl H) x.2 y.2).2 _ hsn
    have ea : (#[x.1.1, y.1.1] ++ (⟨cap⟩ : Array Value)) = ([x.1.1, y.1.1] ++ cap).toArray := by
      apply Array.ext'; simp
    refine Calls.mono (by rw [ea]; exact hcon) ?_
    rintro e w' ⟨v, H', nr, rfl, hfit, hgr, -, -⟩
    obtain ⟨r, v', hv', hnr, hv, hr⟩ := hfit
    simp only [mkV, Option.some.injEq] at hv'
    subst hv'
    obtain ⟨hv, hr⟩ : [Value.int .i64 r] = [v] ∧ r = cf x.1.2 y.1.2 := ⟨hv, hr⟩
    simp only [List.cons.injEq, and_true] at hv
    subst hv hr
    refine ⟨rfl, w'.drawn - (sortWorld (fun x : { x : Value × T // Rep.rel H [x.1] x.2 } => x.1.1) w g 0 m dk os).drawn, w'.heap.extract (sortWorld (fun x : { x : Value × T // Rep.rel H [x.1] x.2 } => x.1.1) w g 0 m dk os).heap.size w'.heap.size, ?_⟩
    generalize sortWorld (fun x : { x : Value × T // Rep.rel H [x.1] x.2 } => x.1.1) w g 0 m dk os = W at hgr
    have hd := hgr.drawn
    have e3 : w'.heap = W.heap ++ w'.heap.extract W.heap.size w'.heap.size := by
      apply Array.ext_getElem?
      intro i
      by_cases hi : i < W.heap.size
      · rw [Array.getElem?_append_left hi, hgr.below.block i hi]
      · have := hgr.below.size
        rw [Array.getElem?_append_right (by omega)]
        simp only [Array.getElem?_extract]
        by_cases hi' : i < w'.heap.size
        · rw [if_pos (by simp; omega), show W.heap.size + (i - W.heap.size) = i by omega]
        · rw [if_neg (by simp; omega), Array.getElem?_eq_none (by omega)]
    have e4 : w'.drawn = W.drawn + (w'.drawn - W.drawn) := by omega
    cases w' with
    | mk a b c d e =>
      have o1 := hgr.below.os; have o2 := hgr.below.tape; have o3 := hgr.below.output
      simp only at o1 o2 o3 e3 e4
      unfold grow World.drewN
      simp only
      rw [← e3, ← e4, o1, o2, o3]
  have hOα : SWO (ltOf fun x y : { x : Value × T // Rep.rel H [x.1] x.2 } => cf x.1.2 y.1.2) :=
    ⟨fun x => hO.irrefl x.1.2, fun x y z => hO.trans x.1.2 y.1.2 z.1.2, fun x y z => hO.ntrans x.1.2 y.1.2 z.1.2⟩
  have hcall := Any.slices_SortFunc L (fun x : { x : Value × T // Rep.rel H [x.1] x.2 } => x.1.1) hone (fun x y => cf x.1.2 y.1.2) hOα f ⟨cap⟩ g 0 c d.toArray w
    (enters_of_FnOK hf) hcl hH hlt (by rw [hds]; omega)
  rw [hds] at hcall
  refine hcall.mono ?_
  rintro e w' ⟨rfl, d', m, os, hp, hso, rfl⟩
  have hds' : d'.size = n := by rw [hp.1, hds]
  obtain ⟨cur', k1, k2, k3, k4, k5⟩ := sorted_world (n := m) (F := (d'.toList.map (fun x => x.1.1)).toArray) (os := os) hb (by simp [hds', hcs, hnc])
  rw [hput]
  have hrow : Row H (d'.toList.map (fun x => x.1.1)) (d'.toList.map (fun x => x.1.2)) := elems_row1 _
  refine fin _ (d'.toList.map (fun x => x.1.1)) ⟨⟨rfl, rfl, rfl, k5, fun k hk hne => k4 k hk (fun e => hne (by rw [e]; rfl)), Nat.le_add_right _ _⟩, Heap.le_refl _, fun _ _ _ _ => rfl, ?_⟩ ⟨⟨by rw [hcells]; simp [hds'], .inr ⟨g, c, cur', rfl, hge, k1, hnc, hcm, by rw [k2, hcells]; simpa using hcs, ?_⟩⟩, ?_, hfree⟩ ⟨d'.toList.map (fun x => x.1.2), hrow, ?_, ?_⟩
  · intro b o v hv
    have hbg : b ≠ g := by
      rintro rfl
      rw [hfree b rfl o] at hv; cases hv
    have h1 := hs b o v hv
    exact h1.keep (k4 b h1.lt hbg)
  · rw [hcells, Nat.mul_one]
    have : (d'.toList.map (fun x => x.1.1)).toArray.size = n := by simp [hds']
    rw [this] at k3
    exact k3
  · intro x hx
    obtain ⟨y, _, rfl⟩ := List.mem_map.1 hx
    exact hone y
  · have h1 : d'.toList.Perm d := by
      have := hp.2.2
      have a1 : d'.extract 0 n = d' := by rw [← hds']; simp
      have a2 : d.toArray.extract 0 n = d.toArray := by rw [← hds]; simp
      rw [a1, a2] at this
      exact this
    rw [← e1]
    exact h1.map _
  · rw [List.pairwise_map]
    rw [List.pairwise_iff_getElem]
    intro i j hi hj hij
    have := hso i j (Nat.zero_le _) hij (by simp at hj; omega)
    simp only [Array.length_toList] at hi hj
    rw [getElem!_pos d' i hi, getElem!_pos d' j hj] at this
    simp only [ltOf, decide_eq_false_iff_not] at this
    simpa using this
end Go.Vc

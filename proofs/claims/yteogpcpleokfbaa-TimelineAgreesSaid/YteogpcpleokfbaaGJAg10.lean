/- slices.SortFunc on a row of the caller's own, at structs. -/
import Derived.Test.YteogpcpleokfbaaGJAg9
import Derived.Test.YteogpcpleokfbaaGJAg2
import Derived.Shelf.SlSortCmp.NoneTotal
set_option linter.unusedSectionVars false
set_option linter.unusedSimpArgs false
set_option linter.unusedVariables false
namespace Go.Vc
open Go Go.RowKit Go.Shelf Go.Proofs Go.Sort
/- what is asked of the program -/
structure SrtL (P : Program) (ρ : Ren) (sz : Nat) : Prop where
  L : SlLaysF0.n6 P ρ
  agg : ∀ w, (isAgg (ρ.t 24)).run P w = .ok true w
  size : ∀ w, (Go.sizeOf (ρ.t 24)).run P w = .ok sz w
  cells : P.cellsOf (ρ.t 24) = sz
section
variable {α : Type} [Inhabited α] {enc : α → List Value} {k : Nat}
theorem flatK_cons (hk : ∀ x, (enc x).length = k) : ∀ (l : List α), (flatK enc k l.toArray).toList = l.flatMap enc := by
  intro l
  have key : ∀ (l : List α) (t : Nat), t < l.length * k → (l.flatMap enc)[t]? = some (enc l.toArray[t / k]!)[t % k]! := by
    intro l
    induction l with
    | nil => intro t ht; simp at ht
    | cons x l ih =>
      intro t ht
      have hx := hk x
      have h0 : 0 < k := by
        rcases Nat.eq_zero_or_pos k with h | h
        · subst h; simp at ht
        · exact h
      rw [List.flatMap_cons]
      by_cases h : t < k
      · rw [List.getElem?_append_left (by omega), Nat.div_eq_of_lt h, Nat.mod_eq_of_lt h]
        have : (x :: l).toArray[0]! = x := rfl
        rw [this, getElem!_pos (enc x) t (by omega), List.getElem?_eq_getElem]
      · have ht' : t - k < l.length * k := by
          rw [List.length_cons, Nat.add_mul, Nat.one_mul] at ht; omega
        rw [List.getElem?_append_right (by omega), hx, ih (t - k) ht']
        have e1 : t / k = (t - k) / k + 1 := by rw [Nat.div_eq_sub_div h0 (by omega)]
        have e2 : t % k = (t - k) % k := by rw [Nat.mod_eq_sub_mod (by omega)]
        have hlt : (t - k) / k < l.length := Nat.div_lt_of_lt_mul (by rw [Nat.mul_comm]; exact ht')
        rw [e1, e2]
        congr 3
        rw [getElem!_pos l.toArray _ (by simpa using hlt), getElem!_pos (x :: l).toArray _ (by simpa using hlt)]
        simp
  apply List.ext_getElem?
  intro t
  have hs : (flatK enc k l.toArray).toList.length = l.length * k := by simp
  have hs' : (l.flatMap enc).length = l.length * k := by
    rw [List.length_flatMap]
    induction l with
    | nil => simp
    | cons x l ih => simp [hk, Nat.add_mul] at *; omega
  by_cases h : t < l.length * k
  · rw [key l t h]
    rw [List.getElem?_eq_getElem (by omega)]
    congr 1
    have := get_flatK enc k l.toArray t (by simpa using h)
    rw [getElem!_pos (flatK enc k l.toArray) t (by simpa using h)] at this
    simpa using this
  · rw [List.getElem?_eq_none (by omega), List.getElem?_eq_none (by omega)]
/- what the memory is after a row was laid anew and blocks were added -/
theorem sorted_world {w : World} {g n : Nat} {cur : Array Value} {e : TypeId} {F : Array Value} {os : Array Obj} (hg : w.heap[g]? = some (.cells cur e (0, 0))) (hF : F.size ≤ cur.size) :
    ∃ cur', (grow (putRow id (Sort.ahead w n) g 0 F) os).heap[g]? = some (.cells cur' e (0, 0)) ∧ cur'.size = cur.size ∧ cur'.toList.take F.size = F.toList ∧
      (∀ k, k < w.heap.size → k ≠ g → (grow (putRow id (Sort.ahead w n) g 0 F) os).heap[k]? = w.heap[k]?) ∧ w.heap.size ≤ (grow (putRow id (Sort.ahead w n) g 0 F) os).heap.size := by
  have hlt : g < w.heap.size := (Array.getElem?_eq_some_iff.1 hg).1
  refine ⟨putCells id 0 F cur, ?_, by simp [putCells], ?_, ?_, ?_⟩
  · rw [heap_grow_old _ _ (by simpa using hlt)]
    simp only [putRow, mapBlock, Array.getElem?_modify, Sort.ahead, if_true, hg, Option.map_some, onCells]
  · apply List.ext_getElem?
    intro t
    by_cases ht : t < F.size
    · rw [List.getElem?_take_of_lt ht]
      simp only [putCells, Array.getElem?_toList, Array.getElem?_mapIdx]
      rw [Array.getElem?_eq_getElem (by omega), Array.getElem?_eq_getElem ht]
      simp [ht, getElem!_pos F t ht]
    · rw [List.getElem?_take_eq_none (by omega), List.getElem?_eq_none (by simpa using ht)]
  · intro k hk hne
    rw [heap_grow_old _ _ (by simpa using hk)]
    simp only [putRow, mapBlock, Array.getElem?_modify, Sort.ahead]
    rw [if_neg (Ne.symm hne)]
  · simp
end
/- the elements of a row, each with its cells -/
theorem row_elems {T : Type} [Rep T] {H : Heap} : ∀ {xs : List Value} {l : List T}, Row H xs l → ∃ d : List { x : List Value × T // Rep.rel H x.1 x.2 }, d.map (fun x => x.1.2) = l ∧ d.flatMap (fun x => x.1.1) = xs
  | xs, [], h => ⟨[], rfl, h.symm⟩
  | xs, t :: l, ⟨vs, ys, h1, h2, h3⟩ => by
    obtain ⟨d, e1, e2⟩ := row_elems h3
    exact ⟨⟨(vs, t), h2⟩ :: d, by simp [e1], by simp [e2, h1]⟩
theorem elems_row {T : Type} [Rep T] {H : Heap} : ∀ (d : List { x : List Value × T // Rep.rel H x.1 x.2 }), Row H (d.flatMap (fun x => x.1.1)) (d.map (fun x => x.1.2))
  | [] => rfl
  | x :: d => ⟨x.1.1, _, rfl, x.2, elems_row d⟩
/- a comparison that a function computes in every grown heap -/
def CmpFn (P : Program) (T : Type) [Rep T] (H : Heap) (f : FuncId) (cap : List Value) (cf : T → T → Int) : Prop :=
  ∀ (H' : Heap) (vs us : List Value) (s t : T), Heap.le H H' → Rep.rel H' vs s → Rep.rel H' us t → ConT P f ([.agg ⟨vs⟩, .agg ⟨us⟩] ++ cap) H' shI (fun r _ => r = cf s t)
theorem enters_of_FnOK {P : Program} {f : FuncId} (h : FnOK P f) : ∀ args w, (callFunc f args).run P w = .ok (.enter f args) w := by
  obtain ⟨fn, h1, h2, h3⟩ := h
  obtain ⟨c, hc⟩ := Option.isSome_iff_exists.1 h2
  exact enters_of h1 h3 hc
/- THE CONTRACT: the row is laid anew: a permutation of what it held, sorted -/
theorem sort_con {P : Program} {ρ : Ren} {T : Type} [Rep T] (L : SrtL P ρ (Rep.sz T)) {H : Heap} {n : Nat} {xs : List Value} {l : List T} (hr : Row H xs l) (hl : l.length = n) (hn : n ≤ 140737488355328)
    {f : FuncId} (hf : FnOK P f) {cap : List Value} {cf : T → T → Int} (hO : SWO (ltOf cf)) (hcmp : CmpFn P T H f cap cf) :
    ConM P (ρ.f 6) [.slice none 0 0, .func (.func f) #[] ⟨cap⟩] 0 (ρ.t 24) n xs true H ⟨true, []⟩ (fun ys (H' : Heap) => ∃ m : List T, Row H' ys m ∧ m.Perm l ∧ m.Pairwise (fun a b => ¬ cf b a < 0)) := by
  refine ⟨FnOK.of_bears L.L.f6 rfl, fun w B s hs hB hrx => ?_⟩
  obtain ⟨⟨hxl, hcase⟩, hx1, hfree⟩ := hrx
  simp only at hxl hcase hx1 hfree
  rw [L.cells] at hxl hcase
  obtain ⟨d, e1, e2⟩ := row_elems hr
  have fin : ∀ (w' : World) (ys : List Value), GrowsX w w' H H s.ownBlock → RowX P w' B H ⟨s, ρ.t 24, n, ys⟩ → (∃ m : List T, Row H ys m ∧ m.Perm l ∧ m.Pairwise (fun a b => ¬ cf b a < 0)) →
      ∃ v H' nr ys, Ending.returned (.tuple #[]) = .returned v ∧ Fits ⟨true, []⟩ ((fun ys (H' : Heap) => ∃ m : List T, Row H' ys m ∧ m.Perm l ∧ m.Pairwise (fun a b => ¬ cf b a < 0) : List Value → PostR [] (Heap → Prop)) ys) v H' nr ∧
        GrowsX w w' H H' s.ownBlock ∧ (true = true → RowX P w' B H' ⟨s, ρ.t 24, n, ys⟩) ∧
        (∀ r ∈ nr, RowX P w' B H' r ∧ ∀ g, r.s.ownBlock = some g → w.heap.size ≤ g ∨ (true = false ∧ s.ownBlock = some g)) ∧ apartRows nr := by
    intro w' ys hg hx hm
    exact ⟨_, H, [], ys, rfl, ⟨rfl, rfl, hm⟩, hg, fun _ => hx, by simp, List.Pairwise.nil⟩
  by_cases hn0 : n = 0
  · subst hn0
    obtain rfl : l = [] := List.eq_nil_of_length_eq_zero hl
    have hxs : xs = [] := hr
    subst hxs
    have hsl : ∃ p c, s = .slice p 0 c := by
      rcases hcase with ⟨rfl, -⟩ | ⟨g, c, cur, rfl, _⟩
      · exact ⟨_, _, rfl⟩
      · exact ⟨_, _, rfl⟩
    obtain ⟨p, c, rfl⟩ := hsl
    refine (AnyF.slices_SortFunc_none L.L p c (.func (.func f) #[] ⟨cap⟩) w).mono ?_
    rintro e w' ⟨rfl, rfl⟩
    refine fin _ [] (GrowsX.same hs) ⟨⟨by rw [L.cells]; exact hxl, by rw [L.cells]; exact hcase⟩, hx1, hfree⟩ ⟨[], rfl, List.Perm.refl _, List.Pairwise.nil⟩
  rcases hcase with ⟨-, h0⟩ | ⟨g, c, cur, rfl, hge, hb, hnc, hcm, hcs, htake⟩
  · exact absurd h0 hn0
  have hdl : d.length = n := by rw [← hl, ← e1]; simp
  obtain ⟨d0, -⟩ : ∃ x, x ∈ d := by
    cases d with
    | nil => simp at hdl; omega
    | cons x r => exact ⟨x, by simp⟩
  haveI : Inhabited { x : List Value × T // Rep.rel H x.1 x.2 } := ⟨d0⟩
  have hk : ∀ x : { x : List Value × T // Rep.rel H x.1 x.2 }, x.1.1.length = Rep.sz T := fun x => Rep.len x.2
  have hlt : g < w.heap.size := (Array.getElem?_eq_some_iff.1 hb).1
  have hfl : (flatK (fun x : { x : List Value × T // Rep.rel H x.1 x.2 } => x.1.1) (Rep.sz T) d.toArray).toList = xs := by rw [flatK_cons hk, e2]
  have hds : d.toArray.size = n := by simpa using hdl
  have hns : n * Rep.sz T ≤ c * Rep.sz T := Nat.mul_le_mul_right _ hnc
  have hH : HoldsK (fun x : { x : List Value × T // Rep.rel H x.1 x.2 } => x.1.1) (Rep.sz T) w g 0 d.toArray := by
    intro j hj
    rw [size_flatK, hds] at hj
    have h1 : cur.toList[j]? = xs[j]? := by rw [← htake, List.getElem?_take_of_lt hj]
    have h2 : (flatK (fun x : { x : List Value × T // Rep.rel H x.1 x.2 } => x.1.1) (Rep.sz T) d.toArray)[j]? = xs[j]? := by rw [← hfl]; simp
    refine ⟨?_, by simp [World.frozen?, hb]⟩
    simp only [World.cell?, hb, Nat.zero_add, id]
    rw [getElem!_pos _ j (by rw [size_flatK, hds]; exact hj)]
    rw [Array.getElem?_eq_getElem (by rw [size_flatK, hds]; exact hj)] at h2
    rw [h2, ← h1]
    simp
  have hcl : CmpLays P f ⟨cap⟩ (fun x : { x : List Value × T // Rep.rel H x.1 x.2 } => x.1.1) (Rep.sz T) (fun x y => cf x.1.2 y.1.2) g 0 d.toArray.size w := by
    intro m os dk hdk x y
    obtain ⟨cur1, k1, k2, k3, k4, k5⟩ := sorted_world (n := m) (F := flatK (fun x : { x : List Value × T // Rep.rel H x.1 x.2 } => x.1.1) (Rep.sz T) dk) (os := os) hb (by rw [size_flatK, hdk, hds, hcs]; exact hns)
    have hsn : Snap H (sortWorldK (fun x : { x : List Value × T // Rep.rel H x.1 x.2 } => x.1.1) (Rep.sz T) w g 0 m dk os) := by
      intro b o v hv
      have hbg : b ≠ g := by
        rintro rfl
        rw [hfree b rfl o] at hv; cases hv
      have h1 := hs b o v hv
      refine h1.keep ?_
      have := k4 b h1.lt hbg
      unfold sortWorldK putRowK
      exact this
    have hcon := (hcmp H x.1.1 y.1.1 x.1.2 y.1.2 (hle_refl H) x.2 y.2).2 _ hsn
    have ea : (#[Value.agg x.1.1.toArray, Value.agg y.1.1.toArray] ++ (⟨cap⟩ : Array Value)) = ([Value.agg ⟨x.1.1⟩, .agg ⟨y.1.1⟩] ++ cap).toArray := by
      apply Array.ext'; simp
    refine Calls.mono (by rw [ea]; exact hcon) ?_
    rintro e w' ⟨v, H', nr, rfl, hfit, hgr, -, -⟩
    obtain ⟨r, v', hv', hnr, hv, hr⟩ := hfit
    simp only [mkV, Option.some.injEq] at hv'
    subst hv'
    obtain ⟨hv, hr⟩ : [Value.int .i64 r] = [v] ∧ r = cf x.1.2 y.1.2 := ⟨hv, hr⟩
    simp only [List.cons.injEq, and_true] at hv
    subst hv hr
    refine ⟨rfl, w'.drawn - (sortWorldK (fun x : { x : List Value × T // Rep.rel H x.1 x.2 } => x.1.1) (Rep.sz T) w g 0 m dk os).drawn, w'.heap.extract (sortWorldK (fun x : { x : List Value × T // Rep.rel H x.1 x.2 } => x.1.1) (Rep.sz T) w g 0 m dk os).heap.size w'.heap.size, ?_⟩
    generalize sortWorldK (fun x : { x : List Value × T // Rep.rel H x.1 x.2 } => x.1.1) (Rep.sz T) w g 0 m dk os = W at hgr
    have hd := hgr.drawn
    have e3 : w'.heap = W.heap ++ w'.heap.extract W.heap.size w'.heap.size := by
      apply Array.ext_getElem?
      intro i
      by_cases hi : i < W.heap.size
      · rw [Array.getElem?_append_left hi, hgr.below.block i hi]
      · have := hgr.below.size
        rw [Array.getElem?_append_right (by omega)]
        simp only [Array.getElem?_extract]
        by_cases hi' : i < w'.heap.size
        · rw [if_pos (by simp; omega), show W.heap.size + (i - W.heap.size) = i by omega]
        · rw [if_neg (by simp; omega), Array.getElem?_eq_none (by omega)]
    have e4 : w'.drawn = W.drawn + (w'.drawn - W.drawn) := by omega
    cases w' with
    | mk a b c d e =>
      have o1 := hgr.below.os; have o2 := hgr.below.tape; have o3 := hgr.below.output
      simp only at o1 o2 o3 e3 e4
      unfold grow World.drewN
      simp only
      rw [← e3, ← e4, o1, o2, o3]
  have hOα : SWO (ltOf fun x y : { x : List Value × T // Rep.rel H x.1 x.2 } => cf x.1.2 y.1.2) :=
    ⟨fun x => hO.irrefl x.1.2, fun x y z => hO.trans x.1.2 y.1.2 z.1.2, fun x y z => hO.ntrans x.1.2 y.1.2 z.1.2⟩
  have hcall := AnyQ.slices_SortFunc L.L (Rep.sz T) L.agg L.size (fun x : { x : List Value × T // Rep.rel H x.1 x.2 } => x.1.1) hk (fun x => Rep.one x.2) (fun x y => cf x.1.2 y.1.2) hOα f ⟨cap⟩ g 0 c d.toArray w
    (enters_of_FnOK hf) hcl hH hlt (by rw [hds]; omega)
  rw [hds] at hcall
  refine hcall.mono ?_
  rintro e w' ⟨rfl, d', m, os, hp, hso, rfl⟩
  have hds' : d'.size = n := by rw [hp.1, hds]
  obtain ⟨cur', k1, k2, k3, k4, k5⟩ := sorted_world (n := m) (F := flatK (fun x : { x : List Value × T // Rep.rel H x.1 x.2 } => x.1.1) (Rep.sz T) d') (os := os) hb (by rw [size_flatK, hds', hcs]; exact hns)
  have hys : (flatK (fun x : { x : List Value × T // Rep.rel H x.1 x.2 } => x.1.1) (Rep.sz T) d').toList = d'.toList.flatMap (fun x => x.1.1) := by
    have := flatK_cons hk d'.toList
    simpa using this
  have hrow : Row H (d'.toList.flatMap (fun x => x.1.1)) (d'.toList.map (fun x => x.1.2)) := elems_row _
  have hyl : (d'.toList.flatMap (fun x => x.1.1)).length = n * Rep.sz T := by
    have := hrow.length
    rw [List.length_map] at this
    rw [this]
    congr 1
  refine fin _ (d'.toList.flatMap (fun x => x.1.1)) ⟨⟨rfl, rfl, rfl, k5, fun k hk hne => k4 k hk (fun e => hne (by rw [e]; rfl)), Nat.le_add_right _ _⟩, Heap.le_refl _, fun _ _ _ _ => rfl, ?_⟩ ⟨⟨by rw [L.cells]; exact hyl, .inr ⟨g, c, cur', rfl, hge, k1, hnc, hcm, by rw [k2, L.cells]; exact hcs, ?_⟩⟩, ?_, hfree⟩ ⟨_, hrow, ?_, ?_⟩
  · intro b o v hv
    have hbg : b ≠ g := by
      rintro rfl
      rw [hfree b rfl o] at hv; cases hv
    have h1 := hs b o v hv
    refine h1.keep ?_
    have := k4 b h1.lt hbg
    unfold sortWorldK putRowK
    exact this
  · rw [L.cells, ← hys, ← k3, size_flatK, hds']
  · intro x hx
    obtain ⟨y, _, hy⟩ := List.mem_flatMap.1 hx
    exact Rep.one y.2 x hy
  · have h1 : d'.toList.Perm d := by
      have := hp.2.2
      have a1 : d'.extract 0 n = d' := by rw [← hds']; simp
      have a2 : d.toArray.extract 0 n = d.toArray := by rw [← hds]; simp
      rw [a1, a2] at this
      exact this
    rw [← e1]
    exact h1.map _
  · rw [List.pairwise_map]
    rw [List.pairwise_iff_getElem]
    intro i j hi hj hij
    have := hso i j (Nat.zero_le _) hij (by simp at hj; omega)
    simp only [Array.length_toList] at hi hj
    rw [getElem!_pos d' i hi, getElem!_pos d' j hj] at this
    simp only [ltOf, decide_eq_false_iff_not] at this
    simpa using this
end Go.Vc
/- slices.insertionSortCmpFunc on a row of the caller's own, at structs. -/
namespace Go.Vc
open Go Go.RowKit Go.Shelf Go.Proofs Go.Sort
end Go.Vc

/- slices.Insert and slices.Delete at numbers and at events. -/
import Derived.Test.YteogpcpleokfbaaGJAg17
import Derived.Test.YteogpcpleokfbaaGJAg18
import Derived.Test.YteogpcpleokfbaaGJAg15
set_option linter.unusedSectionVars false
set_option linter.unusedSimpArgs false
set_option linter.unusedVariables false
namespace Go.Vc
open Go Go.Proofs Go.Shelf
def insInt_ren : Go.Shelf.Ren := ⟨fun | 22 => 75 | 29 => 85 | 30 => 86 | n => n, fun | 24 => 44 | 9 => 3 | n => n, fun n => n⟩
theorem insInt_l : PutL Try.prog insInt_ren 1 8 (.int .i64 0) where
  mixed := by kernel_rfl
  f22 := ⟨Try.f75.name, by kernel_rfl, Try.func75.trans (congrArg some (by kernel_rfl))⟩
  ov := fun args w v w' h => by
    show (callFunc 85 args).run Try.prog w = _
    rw [run_callFunc_extern Try.func85 (by kernel_rfl) (by kernel_rfl) (by kernel_rfl) (e := Extern.SlicesOverlaps.overlaps #[44, 44] #[4]) (by kernel_rfl)]
    have h : (Extern.SlicesOverlaps.overlaps #[44, 44] #[4] args).run Try.prog w = .ok v w' := h
    rw [h]; rfl
  t0 := Try.underlying0
  a0 := Try.isAgg0
  z0 := Try.sizeOf0
  v0 := Try.zeroValue0
  t3 := Try.underlying3
  a3 := Try.isAgg3
  z3 := Try.sizeOf3
  v3 := Try.zeroValue3
  t4 := Try.underlying4
  a4 := Try.isAgg4
  z4 := Try.sizeOf4
  v4 := Try.zeroValue4
  t24 := Try.underlying44
  a24 := Try.isAgg44
  z24 := Try.sizeOf44
  v24 := Try.zeroValue44
  z9 := Try.sizeOf3
  v9 := Try.zeroValue3
  i9 := by
    have h : ((Try.prog.info? 3).map fun i => (i.size, i.bytes, i.zero)) = some (1, 8, some (.int .i64 0)) := by kernel_rfl
    cases hi : Try.prog.info? 3 with
    | none => rw [hi] at h; cases h
    | some i =>
      rw [hi] at h
      have h := Option.some.inj h
      simp only [Prod.mk.injEq] at h
      exact ⟨i, hi, h.1, h.2.1, h.2.2⟩
  zc := rfl
  zo := by decide
  pos := by decide
  bpos := by decide
def delInt_ren : Go.Shelf.Ren := ⟨fun | 45 => 74 | n => n, fun | 22 => 44 | 23 => 3 | n => n, fun n => n⟩
theorem delInt_l : DelL Try.prog delInt_ren 1 (.int .i64 0) where
  mixed := by kernel_rfl
  f45 := ⟨Try.f74.name, by kernel_rfl, Try.func74.trans (congrArg some (by kernel_rfl))⟩
  t0 := Try.underlying0
  a0 := Try.isAgg0
  z0 := Try.sizeOf0
  v0 := Try.zeroValue0
  t3 := Try.underlying3
  a3 := Try.isAgg3
  z3 := Try.sizeOf3
  v3 := Try.zeroValue3
  t4 := Try.underlying4
  a4 := Try.isAgg4
  z4 := Try.sizeOf4
  v4 := Try.zeroValue4
  t22 := Try.underlying44
  a22 := Try.isAgg44
  z22 := Try.sizeOf44
  v22 := Try.zeroValue44
  z23 := Try.sizeOf3
  v23 := Try.zeroValue3
  i23 := by
    have h : ((Try.prog.info? 3).map (·.size)) = some 1 := by kernel_rfl
    cases hi : Try.prog.info? 3 with
    | none => rw [hi] at h; cases h
    | some i => rw [hi] at h; exact ⟨i, hi, Option.some.inj h⟩
  zc := rfl
  zo := by decide
  pos := by decide
theorem Delete_Int {H : Heap} {n i j r : Nat} {xs : List Value} (hij : i ≤ j) (hj : j ≤ n) :
    ConM Try.prog 74 [.slice none 0 0, .int .i64 i, .int .i64 j] 0 3 n xs false H ⟨false, [(false, [.row r 3])]⟩ (fun _ m zs _ => m = n - (j - i) ∧ zs = xs.take (i * 1) ++ xs.drop (j * 1)) :=
  delete_con delInt_l (by kernel_rfl) hij hj
theorem Insert_Int {H : Heap} {n i r vc : Nat} {A : Option Addr} {xs vs : List Value} (hi : i ≤ n) (hn : (n + 1) * 8 ≤ 140737488355328) (hvl : vs.length = 1) (hv : Cells H A 0 vs) (hvn : 1 ≤ vc) :
    ConM Try.prog 75 [.slice none 0 0, .int .i64 i, .slice A 1 vc] 0 3 n xs false H ⟨false, [(false, [.row r 3])]⟩ (fun _ m zs _ => m = n + 1 ∧ zs = xs.take (i * 1) ++ vs ++ xs.drop (i * 1)) :=
  put_con insInt_l (by kernel_rfl) hi hn hvl hv hvn
end Go.Vc
/- Timelines: the IDs after an event. -/
namespace Go.Vc
open Go Go.Proofs Go.Shelf
/- the IDs after an event -/
def stepL (l : List Int) (e : Ev) : List Int := if e.fin then l.filter (fun x => decide (x ≠ e.id)) else l.filter (fun x => decide (x < e.id)) ++ e.id :: l.filter (fun x => decide (e.id < x))
abbrev SS (l : List Int) : Prop := l.Pairwise (· < ·)
theorem stepL_mem {l : List Int} {e : Ev} {x : Int} : x ∈ stepL l e ↔ (if e.fin then x ∈ l ∧ x ≠ e.id else x ∈ l ∨ x = e.id) := by
  unfold stepL
  split
  · simp
  · simp only [List.mem_append, List.mem_cons, List.mem_filter, decide_eq_true_eq]
    constructor
    · rintro (h | h | h)
      · exact .inl h.1
      · exact .inr h
      · exact .inl h.1
    · rintro (h | h)
      · rcases Int.lt_trichotomy x e.id with h1 | h1 | h1
        · exact .inl ⟨h, h1⟩
        · exact .inr (.inl h1)
        · exact .inr (.inr ⟨h, h1⟩)
      · exact .inr (.inl h)
theorem stepL_sorted {l : List Int} {e : Ev} (h : SS l) : SS (stepL l e) := by
  unfold stepL
  split
  · exact h.filter _
  · refine List.pairwise_append.2 ⟨h.filter _, List.pairwise_cons.2 ⟨fun x hx => ?_, h.filter _⟩, fun x hx y hy => ?_⟩
    · simpa using (List.mem_filter.1 hx).2
    · have h1 : x < e.id := by simpa using (List.mem_filter.1 hx).2
      rcases List.mem_cons.1 hy with rfl | hy
      · exact h1
      · have h2 : e.id < y := by simpa using (List.mem_filter.1 hy).2
        omega
theorem stepL_len (l : List Int) (e : Ev) : (stepL l e).length ≤ l.length + 1 := by
  unfold stepL
  split
  · have := List.length_filter_le (fun x => decide (x ≠ e.id)) l
    omega
  · rw [List.length_append, List.length_cons]
    have : ∀ l : List Int, (l.filter (fun x => decide (x < e.id))).length + (l.filter (fun x => decide (e.id < x))).length ≤ l.length := by
      intro l
      induction l with
      | nil => simp
      | cons a r ih =>
        simp only [List.filter_cons, List.length_cons]
        split <;> split <;> simp_all <;> omega
    have := this l
    omega
/- what the search finds -/
theorem bst_split {l : List Int} {t : Int} {i : Nat} (hs : SS l) (hi : i ≤ l.length) (h : BSt l t i i) : (∀ x ∈ l.take i, x < t) ∧ (∀ x ∈ l.drop i, t ≤ x) := by
  obtain ⟨h1, h2⟩ := h
  refine ⟨fun x hx => ?_, fun x hx => ?_⟩
  · obtain ⟨j, hj, rfl⟩ := List.getElem_of_mem hx
    rw [List.length_take] at hj
    have hl : i - 1 < l.length := by omega
    have := h1 l[i - 1] (by rw [show ((i : Int)).toNat - 1 = i - 1 by omega]; exact List.getElem?_eq_getElem hl) (by omega)
    rw [List.getElem_take]
    rcases Nat.lt_or_ge j (i - 1) with h3 | h3
    · have := List.pairwise_iff_getElem.1 hs j (i - 1) (by omega) hl h3
      omega
    · have : j = i - 1 := by omega
      subst this
      assumption
  · obtain ⟨j, hj, rfl⟩ := List.getElem_of_mem hx
    rw [List.length_drop] at hj
    have hl : i < l.length := by omega
    have := h2 l[i] (by rw [show ((i : Int)).toNat = i by omega]; exact List.getElem?_eq_getElem hl)
    rw [List.getElem_drop]
    rcases Nat.eq_zero_or_pos j with rfl | h3
    · simpa using this
    · have := List.pairwise_iff_getElem.1 hs i (i + j) hl (by omega) (by omega)
      omega
theorem fltI_all {l : List Int} {p : Int → Bool} (h : ∀ x ∈ l, p x = true) : l.filter p = l := List.filter_eq_self.2 h
theorem fltI_none {l : List Int} {p : Int → Bool} (h : ∀ x ∈ l, p x = false) : l.filter p = [] := List.filter_eq_nil_iff.2 fun x hx => by rw [h x hx]; simp
theorem step_in {l : List Int} {e : Ev} {i : Nat} (hs : SS l) (hi : i ≤ l.length) (h : BSt l e.id i i) (hb : l[i]? = some e.id) : stepL l e = if e.fin then l.take i ++ l.drop (i + 1) else l := by
  obtain ⟨h1, h2⟩ := bst_split hs hi h
  obtain ⟨hl, hg⟩ := List.getElem?_eq_some_iff.1 hb
  have hd : l.drop i = e.id :: l.drop (i + 1) := by rw [List.drop_eq_getElem_cons hl, hg]
  have h3 : ∀ x ∈ l.drop (i + 1), e.id < x := by
    have hp : SS (l.drop i) := hs.sublist (List.drop_sublist _ _)
    rw [hd] at hp
    exact (List.pairwise_cons.1 hp).1
  have hsplit : l = l.take i ++ (e.id :: l.drop (i + 1)) := by rw [← hd, List.take_append_drop]
  generalize l.take i = A at *
  generalize l.drop (i + 1) = B at *
  unfold stepL
  split
  · rw [hsplit, List.filter_append, List.filter_cons_of_neg (by simp), fltI_all fun x hx => by have := h1 x hx; simp; omega, fltI_all fun x hx => by have := h3 x hx; simp; omega]
  · rw [hsplit, List.filter_append, List.filter_append, List.filter_cons_of_neg (by simp), List.filter_cons_of_neg (by simp), fltI_all fun x hx => by have := h1 x hx; simp; omega, fltI_none fun x hx => by have := h3 x hx; simp; omega,
      fltI_none (l := A) (p := fun x => decide (e.id < x)) fun x hx => by have := h1 x hx; simp; omega, fltI_all fun x hx => by have := h3 x hx; simp; omega]
    simp
theorem step_out {l : List Int} {e : Ev} {i : Nat} (hs : SS l) (hi : i ≤ l.length) (h : BSt l e.id i i) (hb : l[i]? ≠ some e.id) : stepL l e = if e.fin then l else l.take i ++ e.id :: l.drop i := by
  obtain ⟨h1, h2⟩ := bst_split hs hi h
  have h3 : ∀ x ∈ l.drop i, e.id < x := by
    intro x hx
    have h4 := h2 x hx
    obtain ⟨j, hj, rfl⟩ := List.getElem_of_mem hx
    rw [List.length_drop] at hj
    rw [List.getElem_drop] at h4 ⊢
    have hl : i < l.length := by omega
    have hne : l[i] ≠ e.id := fun hh => hb (by rw [List.getElem?_eq_getElem hl, hh])
    have h5 := h2 l[i] (by have := List.getElem_mem (l := l.drop i) (n := 0) (by rw [List.length_drop]; omega); simpa using this)
    rcases Nat.eq_zero_or_pos j with rfl | hj0
    · simp only [Nat.add_zero] at h4 ⊢; omega
    · have := List.pairwise_iff_getElem.1 hs i (i + j) hl (by omega) (by omega)
      omega
  have hsplit : l = l.take i ++ l.drop i := by rw [List.take_append_drop]
  generalize l.take i = A at *
  generalize l.drop i = B at *
  unfold stepL
  split
  · rw [hsplit, List.filter_append, fltI_all fun x hx => by have := h1 x hx; simp; omega, fltI_all fun x hx => by have := h3 x hx; simp; omega]
  · rw [hsplit, List.filter_append, List.filter_append, fltI_all fun x hx => by have := h1 x hx; simp; omega, fltI_none fun x hx => by have := h3 x hx; simp; omega,
      fltI_none (l := A) (p := fun x => decide (e.id < x)) fun x hx => by have := h1 x hx; simp; omega, fltI_all fun x hx => by have := h3 x hx; simp; omega]
    simp
theorem rowTake {T : Type} [Rep T] {H : Heap} : ∀ {xs : List Value} {l : List T} (k : Nat), Row H xs l → Row H (xs.take (k * Rep.sz T)) (l.take k)
  | xs, l, 0, _ => by simp [Row]
  | _, [], k + 1, h => by rw [show _ = [] from h]; simp [Row]
  | _, t :: r, k + 1, ⟨vs, us, e, h1, h2⟩ => by
    have hl := Rep.len h1
    subst e
    refine ⟨vs, us.take (k * Rep.sz T), ?_, h1, rowTake k h2⟩
    rw [List.take_append, List.take_of_length_le (by rw [hl, Nat.add_mul, Nat.one_mul]; omega)]
    congr 2
    rw [hl, Nat.add_mul, Nat.one_mul]; omega
theorem rowDrop {T : Type} [Rep T] {H : Heap} : ∀ {xs : List Value} {l : List T} (k : Nat), Row H xs l → Row H (xs.drop (k * Rep.sz T)) (l.drop k)
  | xs, l, 0, h => by simpa using h
  | _, [], k + 1, h => by rw [show _ = [] from h]; simp [Row]
  | _, t :: r, k + 1, ⟨vs, us, e, h1, h2⟩ => by
    have hl := Rep.len h1
    subst e
    rw [List.drop_append, List.drop_of_length_le (by rw [hl, Nat.add_mul, Nat.one_mul]; omega), List.nil_append, List.drop_succ_cons, show (k + 1) * Rep.sz T - vs.length = k * Rep.sz T by rw [hl, Nat.add_mul, Nat.one_mul]; omega]
    exact rowDrop k h2
def an51 : Ann where
  res := fun | 24 => some ⟨false, [(false, [.row 40 3])]⟩ | 38 => some ⟨false, [(false, [.row 41 3])]⟩ | _ => none
  lend := fun | 11 => true | _ => false
  mt := fun | 74 => some false | 75 => some false | _ => none
  sch := fun _ => .done
  lt := fun _ => []
  tup := tups

theorem vc51 (P : Program) (H : Heap) (eAt : Int) (eID : Int) (eEnd : Bool) (rowN : Nat) (rowXs : List Value) (ri0 : Nat) (post : Nat → List Value → Heap → Prop) :
  vcFnM P tab an51 Try.f51 [.slice none 0 0, .agg #[.int .i64 eAt, .int .i64 eID, .bool eEnd]] 0 3 rowN rowXs 2 H ⟨false, [(false, [.row ri0 3])]⟩ post =
  (  ∃ (post0 : Int → Bool → Heap → Prop), (∀ (A1 : Option Addr) (c2 : Nat) (H3 : Heap), Heap.le H H3 → Cells H3 A1 0 rowXs → rowN ≤ c2 → ConT P 59 [.slice A1 rowN c2, .int .i64 eID] H3 ⟨true,
  [(false, [.int .i64]), (false, [.bool])]⟩ post0) ∧ ∀ (H7 : Heap) (n8 : Int) (b9 : Bool), post0 n8 b9 H7 → (eEnd = true → (b9 = true → rng .i64 (n8 + (1 : Int)) ∧ ∃ (post13 : List Value →
  Nat → List Value → Heap → Prop), ConM P 74 [.slice none 0 0, .int .i64 n8, .int .i64 (n8 + (1 : Int))] 0 3 rowN rowXs false H ⟨false, [(false, [.row 40 3])]⟩ post13 ∧ ∀ (H14 : Heap),
  Heap.le H H14 → ∀ (ys16 : List Value) (n17 : Nat) (xs18 : List Value), post13 ys16 n17 xs18 H14 → post n17 xs18 H14) ∧ (b9 = false → ((!eEnd) = true → ((!b9) = true → ∀ (A23 : Option Addr)
  (c24 : Nat) (H25 : Heap), Heap.le H H25 → Cells H25 A23 0 [.int .i64 eID] → 1 ≤ c24 → ∃ (post29 : List Value → Nat → List Value → Heap → Prop), ConM P 75 [.slice none 0 0, .int .i64 n8,
  .slice A23 1 c24] 0 3 rowN rowXs false H25 ⟨false, [(false, [.row 41 3])]⟩ post29 ∧ ∀ (H30 : Heap), Heap.le H25 H30 → ∀ (ys32 : List Value) (n33 : Nat) (xs34 : List Value), post29 ys32 n33
  xs34 H30 → post n33 xs34 H30) ∧ ((!b9) = false → post rowN rowXs H)) ∧ ((!eEnd) = false → post rowN rowXs H))) ∧ (eEnd = false → ((!eEnd) = true → ((!b9) = true → ∀ (A41 : Option Addr) (c42
  : Nat) (H43 : Heap), Heap.le H H43 → Cells H43 A41 0 [.int .i64 eID] → 1 ≤ c42 → ∃ (post47 : List Value → Nat → List Value → Heap → Prop), ConM P 75 [.slice none 0 0, .int .i64 n8, .slice
  A41 1 c42] 0 3 rowN rowXs false H43 ⟨false, [(false, [.row 41 3])]⟩ post47 ∧ ∀ (H48 : Heap), Heap.le H43 H48 → ∀ (ys50 : List Value) (n51 : Nat) (xs52 : List Value), post47 ys50 n51 xs52
  H48 → post n51 xs52 H48) ∧ ((!b9) = false → post rowN rowXs H)) ∧ ((!eEnd) = false → post rowN rowXs H))) := by kernel_rfl
set_option maxHeartbeats 1000000 in
theorem tl_step {H : Heap} {n ri : Nat} {xs : List Value} {l : List Int} {e : Ev} (hr : Row H xs l) (hl : l.length = n) (hb : n ≤ 1000000) (hs : SS l) (he : rng .i64 e.id) :
    ConM Try.prog 51 [.slice none 0 0, .agg #[.int .i64 e.tm, .int .i64 e.id, .bool e.fin]] 0 3 n xs false H ⟨false, [(false, [.row ri 3])]⟩ (fun _ m zs H' => m = (stepL l e).length ∧ Row H' zs (stepL l e)) := by
  refine conM_of_vc (an := an51) (fn := Try.f51) mix tabOK Try.func51 (by kernel_rfl) (extra := 2) (by simp) ?_
  rw [vc51]
  refine ⟨_, fun A1 c2 H3 l3 hc hn => BinarySearch_Int (hr.sl l3 hc hl hn (by show n * 8 ≤ _; omega) (by omega)), ?_⟩
  rintro H7 n8 b9 ⟨h0, h1, hbs, rfl⟩
  obtain ⟨k, rfl⟩ : ∃ k : Nat, n8 = k := ⟨n8.toNat, by omega⟩
  have hk : k ≤ l.length := by omega
  rw [show ((k : Int)).toNat = k by omega]
  have hin : l[k]? = some e.id → stepL l e = if e.fin then l.take k ++ l.drop (k + 1) else l := step_in hs hk hbs
  have hout : l[k]? ≠ some e.id → stepL l e = if e.fin then l else l.take k ++ e.id :: l.drop k := step_out hs hk hbs
  have same : stepL l e = l → n = (stepL l e).length ∧ Row H xs (stepL l e) := fun h => by rw [h]; exact ⟨hl.symm, hr⟩
  have ins : e.fin = false → l[k]? ≠ some e.id → ∀ {A23 : Option Addr} {c24 r : Nat} {H25 : Heap}, Heap.le H H25 → Cells H25 A23 0 [.int .i64 e.id] → 1 ≤ c24 →
      ∃ post29 : List Value → Nat → List Value → Heap → Prop, ConM Try.prog 75 [.slice none 0 0, .int .i64 k, .slice A23 1 c24] 0 3 n xs false H25 ⟨false, [(false, [.row r 3])]⟩ post29 ∧
        ∀ H30, Heap.le H25 H30 → ∀ ys n33 xs34, post29 ys n33 xs34 H30 → n33 = (stepL l e).length ∧ Row H30 xs34 (stepL l e) := by
    intro hf hne A23 c24 r H25 l25 hc hn
    refine ⟨_, Insert_Int (by omega) (by omega) rfl hc hn, ?_⟩
    rintro H30 l30 ys n33 xs34 ⟨rfl, rfl⟩
    rw [hout hne, hf]
    have hr' := hr.mono (hle_trans l25 l30)
    refine ⟨by simp; omega, ?_⟩
    have hone : Row H30 [.int .i64 e.id] [e.id] := Row.one ⟨rfl, he⟩
    have := ((rowTake k hr').append hone).append (rowDrop k hr')
    rw [show Rep.sz Int = 1 from rfl] at this
    simpa using this
  refine ⟨fun hf => ⟨fun hb9 => ?_, fun hb9 => ⟨fun h => ?_, fun h => ?_⟩⟩, fun hf => ⟨fun h => ⟨fun hb9 => ?_, fun hb9 => ?_⟩, fun h => ?_⟩⟩
  · have hb9 := of_decide_eq_true hb9
    have hd := Delete_Int (H := H) (n := n) (i := k) (j := k + 1) (r := 40) (xs := xs) (by omega) (by have := (List.getElem?_eq_some_iff.1 hb9).1; omega)
    rw [show ((k + 1 : Nat) : Int) = (k : Int) + 1 by omega] at hd
    refine ⟨by simp only [rng]; omega, _, hd, ?_⟩
    rintro H14 l14 ys n17 xs18 ⟨rfl, rfl⟩
    have hkl := (List.getElem?_eq_some_iff.1 hb9).1
    rw [hin hb9, hf]
    refine ⟨by simp; omega, ?_⟩
    exact (rowTake k (hr.mono l14)).append (rowDrop (k + 1) (hr.mono l14))
  · rw [hf] at h; cases h
  · have hb9 := of_decide_eq_false hb9
    exact same (by rw [hout hb9, hf]; rfl)
  · have hb9 : l[k]? ≠ some e.id := by simpa using hb9
    exact fun A23 c24 H25 l25 hc hn => ins hf hb9 l25 hc hn
  · have hb9 : l[k]? = some e.id := by simpa using hb9
    exact same (by rw [hin hb9, hf]; rfl)
  · rw [hf] at h; cases h
end Go.Vc
/- Timelines: the index; the state at an instant. -/
namespace Go.Vc
open Go Go.Proofs Go.Shelf
def an50_row : Ann where
  res := fun _ => none
  lend := fun _ => false
  sch := fun _ => .done
  lt := fun _ => []
  tup := tups

theorem vc50_row (P : Program) (H : Heap) (sA : Option Addr) (sN sC : Nat) (ri0 : Nat) (post : Nat → List Value → Heap → Prop) :
  vcFn P tab an50_row Try.f50 [.slice sA sN sC] 0 H ⟨false, [(false, [.row ri0 3])]⟩ post =
  (  (Option.isNone sA = true → post 0 [] H) ∧ (Option.isNone sA = false → ∃ (ys2 : List Value), Cells H sA 0 ys2 ∧ List.length ys2 = sN * 1 ∧ (0 + sN) * 8 ≤ 140737488355328 ∧ post (0 + sN) ([]
  ++ ys2) H)) := by kernel_rfl
theorem CloneR_Int {H : Heap} {A : Option Addr} {n c r : Nat} {l : List Int} (hs : Sl H A n c l) :
    ConT Try.prog 50 [.slice A n c] H ⟨false, [(false, [.row r 3])]⟩ (fun m xs H' => m = l.length ∧ Row H' xs l) := by
  refine con_of_vc (an := an50_row) (fn := Try.f50) mix tabOK Try.func50 (by kernel_rfl) (extra := 0) ?_
  rw [vc50_row]
  refine ⟨fun hA => ?_, fun hA => ?_⟩
  · have : n = 0 := by
      rcases Nat.eq_zero_or_pos n with h | h
      · exact h
      · obtain ⟨b, o, e⟩ := hs.someA h; simp [e] at hA
    subst this
    rw [List.eq_nil_of_length_eq_zero hs.len]; exact ⟨rfl, rfl⟩
  · obtain ⟨ys, h1, h2⟩ := hs.row
    refine ⟨ys, h1, by rw [h2.length, hs.len]; rfl, by have := hs.bnd; rw [Nat.zero_add]; exact this, by rw [hs.len]; omega, by simpa using h2⟩
def an40_row : Ann where
  res := fun _ => none
  lend := fun _ => false
  sch := fun _ => .done
  lt := fun _ => []
  tup := tups

theorem vc40_row (P : Program) (H : Heap) (sA : Option Addr) (sN sC : Nat) (ri0 : Nat) (post : Nat → List Value → Heap → Prop) :
  vcFn P tab an40_row Try.f40 [.slice sA sN sC] 0 H ⟨false, [(false, [.row ri0 33])]⟩ post =
  (  (Option.isNone sA = true → post 0 [] H) ∧ (Option.isNone sA = false → ∃ (ys2 : List Value), Cells H sA 0 ys2 ∧ List.length ys2 = sN * 3 ∧ (0 + sN) * 24 ≤ 140737488355328 ∧ post (0 + sN) ([]
  ++ ys2) H)) := by kernel_rfl
theorem CloneR_Ev {H : Heap} {A : Option Addr} {n c r : Nat} {l : List Ev} (hs : Sl H A n c l) :
    ConT Try.prog 40 [.slice A n c] H ⟨false, [(false, [.row r 33])]⟩ (fun m xs H' => m = l.length ∧ Row H' xs l) := by
  refine con_of_vc (an := an40_row) (fn := Try.f40) mix tabOK Try.func40 (by kernel_rfl) (extra := 0) ?_
  rw [vc40_row]
  refine ⟨fun hA => ?_, fun hA => ?_⟩
  · have : n = 0 := by
      rcases Nat.eq_zero_or_pos n with h | h
      · exact h
      · obtain ⟨b, o, e⟩ := hs.someA h; simp [e] at hA
    subst this
    rw [List.eq_nil_of_length_eq_zero hs.len]; exact ⟨rfl, rfl⟩
  · obtain ⟨ys, h1, h2⟩ := hs.row
    refine ⟨ys, h1, by rw [h2.length, hs.len]; rfl, by have := hs.bnd; rw [Nat.zero_add]; exact this, by rw [hs.len]; omega, by simpa using h2⟩
/- the IDs after events -/
def stF (evs : List Ev) : List Int := evs.foldl stepL []
theorem stF_sorted (evs : List Ev) : SS (stF evs) := by
  unfold stF
  have : ∀ (evs : List Ev) (l : List Int), SS l → SS (evs.foldl stepL l) := by
    intro evs
    induction evs with
    | nil => exact fun l h => h
    | cons e r ih => exact fun l h => ih _ (stepL_sorted h)
  exact this evs [] List.Pairwise.nil
theorem stF_len (evs : List Ev) : (stF evs).length ≤ evs.length := by
  unfold stF
  have : ∀ (evs : List Ev) (l : List Int), (evs.foldl stepL l).length ≤ l.length + evs.length := by
    intro evs
    induction evs with
    | nil => intro l; simp
    | cons e r ih =>
      intro l
      have h1 := ih (stepL l e)
      have h2 := stepL_len l e
      rw [List.foldl_cons, List.length_cons]
      omega
  simpa using this evs []
theorem stF_take {evs : List Ev} {k : Nat} (h : k < evs.length) : stF (evs.take (k + 1)) = stepL (stF (evs.take k)) evs[k] := by
  unfold stF
  rw [List.take_add_one, List.getElem?_eq_getElem h, Option.toList_some, List.foldl_append]
  rfl
/- the checkpoints are right -/
structure CpOK (iv : Nat) (evs : List Ev) (cps : List IL) : Prop where
  len : cps.length = evs.length / iv + 1
  at_ : ∀ k (h : k < cps.length), cps[k].l = stF (evs.take (k * iv))
/- an index of the events -/
structure IxOK (H : Heap) (q0 : Int) (q1N : Nat) (q1Xs : List Value) (q3N : Nat) (q3Xs : List Value) (q4 : Int) (evs : List Ev) : Prop where
  iv : 1 ≤ q0 ∧ rng .i64 q0
  er : Row H q1Xs evs
  el : evs.length = q1N
  eb : q1N ≤ 1000
  cps : ∃ cps : List IL, Row H q3Xs cps ∧ cps.length = q3N ∧ CpOK q0.toNat evs cps
  srt : evs.Pairwise fun a b => a.tm ≤ b.tm
  ex : rng .i64 q4
theorem IxOK.mono {H H' : Heap} {q0 : Int} {q1N : Nat} {q1Xs : List Value} {q3N : Nat} {q3Xs : List Value} {q4 : Int} {evs : List Ev} (h : IxOK H q0 q1N q1Xs q3N q3Xs q4 evs) (hle : Heap.le H H') : IxOK H' q0 q1N q1Xs q3N q3Xs q4 evs :=
  ⟨h.iv, h.er.mono hle, h.el, h.eb, let ⟨c, a, b⟩ := h.cps; ⟨c, a.mono hle, b⟩, h.srt, h.ex⟩
/- the box as it was -/
abbrev SameIx (q0 : Int) (q1N : Nat) (q1Xs : List Value) (q2 : Option Nat) (q3N : Nat) (q3Xs : List Value) (O : OMap) (n0 : Int) (n1 : Nat) (xs1 : List Value) (A2 : Option Nat) (n3 : Nat) (xs3 : List Value) (O' : OMap) : Prop :=
  n0 = q0 ∧ n1 = q1N ∧ xs1 = q1Xs ∧ A2 = q2 ∧ n3 = q3N ∧ xs3 = q3Xs ∧ O' = O
theorem tdiv_nat {a : Nat} {b : Int} (hb : 1 ≤ b) : Int.tdiv (a : Int) b = ((a / b.toNat : Nat) : Int) := by
  obtain ⟨k, rfl⟩ : ∃ k : Nat, b = k := ⟨b.toNat, by omega⟩
  rw [show ((k : Int)).toNat = k by omega]
  rw [Int.tdiv_eq_ediv_of_nonneg (by omega)]
  rfl
section
variable {H : Heap} {O : OMap} {q0 t q4 : Int} {q1N q3N bi1 bi3 : Nat} {q1Xs q3Xs : List Value} {q2 : Option Nat} {evs : List Ev}
def an41 : Ann where
  res := fun | 27 => some ⟨false, [(false, [.row 60 3])]⟩ | 47 => some ⟨false, [(false, [.row 61 3])]⟩ | _ => none
  lend := fun | 13 => true | _ => false
  mt := fun | 51 => some false | _ => none
  sch := fun | 4 => (tk [0, 1, 2, 3, 4, 5, 6, 7, 8, 9, 10, 13] (.alt 11 (.alt 12 .done .fin) .fin)) | 9 => (tk [0, 1, 2, 3, 4, 5, 6, 7, 8, 9, 10] .done) | _ => .done
  opn := true
  bx := fun | some 13, 43 => some [.int .i64, .row 58 33, .mp, .row 59 44, .int .i64] | _, _ => none
  lt := fun | 5 => [.slot 8 false [.row 62 3], .slot 41 false [.int .i64]] | _ => []
  tup := tups

theorem vc41 (P : Program) (H : Heap) (at0 : Int) (q0 : Int) (q1N : Nat) (q1Xs : List Value) (bi1 : Nat) (q2 : Option Nat) (q3N : Nat) (q3Xs : List Value) (bi3 : Nat) (q4 : Int) (O : OMap) (post : Int → Nat → List Value → Option Nat → Nat → List Value → Int → Option Addr → Nat → Nat → Int → Heap → OMap → Prop) :
  vcFnB P tab an41 Try.f41 [BA.me, BA.v (.int .i64 at0)] 0 68 [BC.v (.int .i64 q0), BC.row 33 q1N q1Xs, BC.v (.map q2), BC.row 44 q3N q3Xs, BC.v (.int .i64 q4)] 5 H O [.int .i64, .row bi1 33, .mp, .row bi3 44, .int .i64] ⟨true, [(false, [.sl]), (false, [.int .i64])]⟩ post =
  (  ∀ (a0 : Nat), ∃ (post1 : Int → Nat → List Value → Option Nat → Nat → List Value → Int → Int → Heap → (Nat → Option XO) → Prop), ConB P 43 [BA.me, BA.v (.int .i64 at0)] 68 [BC.v (.int .i64
  q0), BC.row 33 q1N q1Xs, BC.v (Value.map q2), BC.row 44 q3N q3Xs, BC.v (.int .i64 q4)] H O [.int .i64, .row 58 33, .mp, .row 59 44, .int .i64] ⟨false, [(false, [.int .i64])]⟩ post1 ∧ ∀ (H2
  : Heap), Heap.le H H2 → ∀ (O4 : Nat → Option XO) (n5 : Int) (n6 : Nat) (xs7 : List Value) (A8 : Option Nat) (n9 : Nat) (xs10 : List Value) (n11 n12 : Int), post1 n5 n6 xs7 A8 n9 xs10 n11
  n12 H2 O4 → n5 ≠ (0 : Int) ∧ rng .i64 (Int.tdiv n12 n5) ∧ (0 : Int) ≤ Int.tdiv n12 n5 ∧ Int.tdiv n12 n5 < (↑n9 : Int) ∧ ∃ (A14 : Option Addr), ∃ (n15 : Nat), ∃ (c16 : Nat), win xs10
  (Int.toNat (Int.tdiv n12 n5) * 1) 1 = [.slice A14 n15 c16] ∧ ∃ (post17 : Nat → List Value → Heap → Prop), ConT P 50 [.slice A14 n15 c16] H2 ⟨false, [(false, [.row 60 3])]⟩ post17 ∧ ∀ (H18 :
  Heap), Heap.le H2 H18 → ∀ (n20 : Nat) (xs21 : List Value), post17 n20 xs21 H18 → rng .i64 (Int.tdiv n12 n5 * n5) ∧ (0 : Int) ≤ Int.tdiv n12 n5 * n5 ∧ Int.tdiv n12 n5 * n5 ≤ n12 ∧ n12 ≤ (↑n6
  : Int) ∧ ∃ (inv23 : Nat → List Value → Int → Heap → OMap → Prop), ∃ (m24 : Nat → List Value → Int → Nat), inv23 n20 xs21 (0 : Int) H18 O4 ∧ ∀ (H25 : Heap), Heap.le H18 H25 → ∀ (O27 : Nat →
  Option XO) (n28 : Nat) (xs29 : List Value) (n30 : Int), inv23 n28 xs29 n30 H25 O27 → (decide (n30 < (↑(Int.toNat n12 - Int.toNat (Int.tdiv n12 n5 * n5)) : Int)) = true → (0 : Int) ≤ n30 ∧
  n30 < (↑(Int.toNat n12 - Int.toNat (Int.tdiv n12 n5 * n5)) : Int) ∧ ∃ (n33 : Int), ∃ (n34 : Int), ∃ (b35 : Bool), win xs7 (Int.toNat ((↑(Int.toNat (Int.tdiv n12 n5 * n5)) : Int) + n30) * 3)
  3 = [.int .i64 n33, .int .i64 n34, .bool b35] ∧ ∃ (post36 : List Value → Nat → List Value → Heap → Prop), ConM P 51 [.slice none 0 0, .agg ⟨[.int .i64 n33, .int .i64 n34, .bool b35]⟩] 0 3
  n28 xs29 false H25 ⟨false, [(false, [.row 61 3])]⟩ post36 ∧ ∀ (H37 : Heap), Heap.le H25 H37 → ∀ (ys39 : List Value) (n40 : Nat) (xs41 : List Value), post36 ys39 n40 xs41 H37 → rng .i64 (n30
  + (1 : Int)) ∧ inv23 n40 xs41 (n30 + (1 : Int)) H37 O27 ∧ m24 n40 xs41 (n30 + (1 : Int)) < m24 n28 xs29 n30) ∧ (decide (n30 < (↑(Int.toNat n12 - Int.toNat (Int.tdiv n12 n5 * n5)) : Int)) =
  false → rng .i64 (Int.tdiv n12 n5 * n5) ∧ rng .i64 (n12 - Int.tdiv n12 n5 * n5) ∧ ∀ (A44 : Option Addr) (c45 : Nat) (H46 : Heap), Heap.le H25 H46 → Cells H46 A44 0 xs29 → n28 ≤ c45 → a0 =
  a0 ∧ post n5 n6 xs7 A8 n9 xs10 n11 A44 n28 c45 (n12 - Int.tdiv n12 n5 * n5) H46 O27)) := by kernel_rfl
set_option maxHeartbeats 1000000 in
theorem tl_state (h : IxOK H q0 q1N q1Xs q3N q3Xs q4 evs) :
    ConB Try.prog 41 [.me, .v (.int .i64 t)] 68 (ixC q0 q1N q1Xs q2 q3N q3Xs q4) H O (ixL bi1 bi3) ⟨true, [(false, [.sl]), (false, [.int .i64])]⟩
      (fun n0 n1 xs1 A2 n3 xs3 n4 A n c r H' O' => SameIx q0 q1N q1Xs q2 q3N q3Xs O n0 n1 xs1 A2 n3 xs3 O' ∧ n4 = q4 ∧ Sl H' A n c (stF (evs.take (ncur evs t))) ∧ r = ((ncur evs t - ncur evs t / q0.toNat * q0.toNat : Nat) : Int)) := by
  refine conB_of_vc (k := 0) (an := an41) (fn := Try.f41) mix tabOK Try.func41 (by kernel_rfl) (extra := 5) trivial ?_
  rw [vc41]
  obtain ⟨⟨iv1, iv2⟩, er, el, eb, ⟨cps, cr, cl, ck⟩, srt, ex⟩ := h
  intro a0
  refine ⟨_, tl_until (evs := evs) (cps := cps) er el (by omega) cr srt, ?_⟩
  rintro H2 l2 O4 n5 n6 xs7 A8 n9 xs10 n11 n12 ⟨⟨rfl, rfl, rfl, rfl, rfl, rfl, rfl, rfl⟩, rfl⟩
  obtain ⟨m, hm⟩ : ∃ m, m = ncur evs t := ⟨_, rfl⟩
  rw [← hm]
  have hml : m ≤ evs.length := by rw [hm]; exact ncur_le evs t
  obtain ⟨v, rfl⟩ : ∃ v : Nat, n5 = v := ⟨n5.toNat, by omega⟩
  rw [show ((v : Int)).toNat = v by omega] at *
  have hv1 : 1 ≤ v := by omega
  obtain ⟨k, hk⟩ : ∃ k, k = m / v := ⟨_, rfl⟩
  have ht : Int.tdiv (m : Int) (v : Int) = (k : Int) := by rw [tdiv_nat (by omega), hk]; simp
  rw [ht, ← hk]
  have hkm : k * v ≤ m := by rw [hk]; exact Nat.div_mul_le_self m v
  have hkl : k < cps.length := by
    rw [ck.len, hk]
    exact Nat.lt_succ_of_le (Nat.div_le_div_right hml)
  have hkk : k ≤ k * v := Nat.le_mul_of_pos_right _ hv1
  obtain ⟨A, n, c, hw, hsl⟩ := Row.getw (cr.mono l2) hkl
  rw [ck.at_ k hkl] at hsl
  have hmul : (k : Int) * (v : Int) = ((k * v : Nat) : Int) := by simp
  rw [hmul]
  rw [show ((k : Int)).toNat = k by omega, show (((k * v : Nat) : Int)).toNat = k * v by omega, show ((m : Int)).toNat = m by omega]
  refine ⟨by omega, by simp only [rng]; omega, by omega, by omega, A, n, c, hw, _, CloneR_Int hsl, ?_⟩
  rintro H18 l18 n20 xs21 ⟨rfl, hr0⟩
  refine ⟨by simp only [rng]; omega, by omega, by omega, by omega, fun n xs i H' O' => O' = O4 ∧ 0 ≤ i ∧ i ≤ ((m - k * v : Nat) : Int) ∧ n = (stF (evs.take (k * v + i.toNat))).length ∧ Row H' xs (stF (evs.take (k * v + i.toNat))), fun _ _ i => (((m - k * v : Nat) : Int) - i).toNat,
    ⟨rfl, by omega, by omega, by simp, by simpa using hr0⟩, ?_⟩
  rintro H25 l25 O27 n28 xs29 n30 ⟨rfl, i0, i1, rfl, hr⟩
  refine ⟨fun hlt => ?_, fun hge => ?_⟩
  · have hlt := of_decide_eq_true hlt
    obtain ⟨i, rfl⟩ : ∃ i : Nat, n30 = i := ⟨n30.toNat, by omega⟩
    have hidx : k * v + i < evs.length := by omega
    obtain ⟨hw1, r1, r2⟩ := Row.getw (er.mono (hle_trans l2 (hle_trans l18 l25))) hidx
    have hlen := stF_len (evs.take (k * v + i))
    have hlt2 : (evs.take (k * v + i)).length ≤ evs.length := List.length_take_le' _ _
    rw [show ((i : Int)).toNat = i by omega] at hr ⊢
    refine ⟨i0, hlt, evs[k * v + i].tm, evs[k * v + i].id, evs[k * v + i].fin, ?_, _, tl_step (e := evs[k * v + i]) hr rfl (by omega) (stF_sorted _) r2, ?_⟩
    · rw [show (((k * v : Nat) : Int) + (i : Int)).toNat = k * v + i by omega]
      exact hw1
    · rintro H37 l37 ys39 n40 xs41 ⟨rfl, hr2⟩
      rw [← stF_take hidx] at hr2
      refine ⟨by simp only [rng]; omega, ⟨rfl, by omega, by omega, ?_, ?_⟩, by dsimp only; omega⟩
      · rw [show (k * v + ((i : Int) + 1).toNat) = k * v + i + 1 by omega, stF_take hidx]
      · rw [show (k * v + ((i : Int) + 1).toNat) = k * v + i + 1 by omega]; exact hr2
  · have hge := of_decide_eq_false hge
    refine ⟨by simp only [rng]; omega, by simp only [rng]; omega, fun A44 c45 H46 l46 hc hn => ⟨rfl, ⟨rfl, rfl, rfl, rfl, rfl, rfl, rfl⟩, rfl, ?_, by omega⟩⟩
    have hi : k * v + n30.toNat = m := by omega
    rw [hi] at hr hn ⊢
    have hlen := stF_len (evs.take m)
    have hlt2 : (evs.take m).length ≤ evs.length := List.length_take_le' _ _
    exact hr.sl l46 hc rfl hn (by show _ * 8 ≤ _; omega) (by omega)
end
end Go.Vc
/- Timelines: At, Examined, Events, Diff. -/
namespace Go.Vc
open Go Go.Proofs Go.Shelf
section
variable {H : Heap} {O : OMap} {q0 t t2 q4 : Int} {q1N q3N bi1 bi3 : Nat} {q1Xs q3Xs : List Value} {q2 : Option Nat} {evs : List Ev}
def an22 : Ann where
  res := fun _ => none
  lend := fun _ => false
  sch := fun _ => .done
  bx := fun | some 12, 41 => some [.int .i64, .row 20 33, .mp, .row 21 44, .int .i64] | _, _ => none
  lt := fun _ => []
  tup := tups

theorem vc22 (P : Program) (H : Heap) (at0 : Int) (q0 : Int) (q1N : Nat) (q1Xs : List Value) (bi1 : Nat) (q2 : Option Nat) (q3N : Nat) (q3Xs : List Value) (bi3 : Nat) (q4 : Int) (O : OMap) (post : Int → Nat → List Value → Option Nat → Nat → List Value → Int → Option Addr → Nat → Nat → Heap → OMap → Prop) :
  vcFnB P tab an22 Try.f22 [BA.me, BA.v (.int .i64 at0)] 0 68 [BC.v (.int .i64 q0), BC.row 33 q1N q1Xs, BC.v (.map q2), BC.row 44 q3N q3Xs, BC.v (.int .i64 q4)] 2 H O [.int .i64, .row bi1 33, .mp, .row bi3 44, .int .i64] ⟨false, [(false, [.sl])]⟩ post =
  (  ∀ (a0 : Nat), (false = true → a0 = a0 ∧ post q0 q1N q1Xs q2 q3N q3Xs q4 none 0 0 H O) ∧ (false = false → ∃ (post3 : Int → Nat → List Value → Option Nat → Nat → List Value → Int → Option Addr → Nat →
  Nat → Int → Heap → (Nat → Option XO) → Prop), ConB P 41 [BA.me, BA.v (.int .i64 at0)] 68 [BC.v (.int .i64 q0), BC.row 33 q1N q1Xs, BC.v (Value.map q2), BC.row 44 q3N q3Xs, BC.v (.int .i64
  q4)] H O [.int .i64, .row 20 33, .mp, .row 21 44, .int .i64] ⟨true, [(false, [.sl]), (false, [.int .i64])]⟩ post3 ∧ ∀ (H4 : Heap), Heap.le H H4 → ∀ (O6 : Nat → Option XO) (n7 : Int) (n8 :
  Nat) (xs9 : List Value) (A10 : Option Nat) (n11 : Nat) (xs12 : List Value) (n13 : Int) (A14 : Option Addr) (n15 c16 : Nat) (n17 : Int), post3 n7 n8 xs9 A10 n11 xs12 n13 A14 n15 c16 n17 H4
  O6 → a0 = a0 ∧ post n7 n8 xs9 A10 n11 xs12 n17 A14 n15 c16 H4 O6)) := by kernel_rfl
theorem tl_At (h : IxOK H q0 q1N q1Xs q3N q3Xs q4 evs) :
    ConB Try.prog 22 [.me, .v (.int .i64 t)] 68 (ixC q0 q1N q1Xs q2 q3N q3Xs q4) H O (ixL bi1 bi3) shS
      (fun n0 n1 xs1 A2 n3 xs3 n4 A n c H' O' => SameIx q0 q1N q1Xs q2 q3N q3Xs O n0 n1 xs1 A2 n3 xs3 O' ∧ n4 = ((ncur evs t - ncur evs t / q0.toNat * q0.toNat : Nat) : Int) ∧ Sl H' A n c (stF (evs.take (ncur evs t)))) := by
  refine conB_of_vc (k := 0) (an := an22) (fn := Try.f22) mix tabOK Try.func22 (by kernel_rfl) (extra := 2) trivial ?_
  rw [vc22]
  intro a0
  refine ⟨fun h => (by cases h), fun _ => ⟨_, tl_state (q2 := q2) (t := t) h, ?_⟩⟩
  rintro H4 l4 O6 n7 n8 xs9 A10 n11 xs12 n13 A14 n15 c16 n17 ⟨hs, rfl, hsl, hn⟩
  exact ⟨rfl, hs, hn, hsl⟩
theorem Row.evAny {H H' : Heap} : ∀ {xs : List Value} {l : List Ev}, Row H xs l → Row H' xs l
  | _, [], h => h
  | _, _ :: _, ⟨vs, ys, h1, h2, h3⟩ => ⟨vs, ys, h1, h2, h3.evAny⟩
theorem Row.intAny {H H' : Heap} : ∀ {xs : List Value} {l : List Int}, Row H xs l → Row H' xs l
  | _, [], h => h
  | _, _ :: _, ⟨vs, ys, h1, h2, h3⟩ => ⟨vs, ys, h1, h2, h3.intAny⟩
def an18 : Ann where
  res := fun | 9 => some ⟨false, [(false, [.row 10 33])]⟩ | _ => none
  lend := fun | 9 => true | _ => false
  sch := fun _ => .done
  lt := fun _ => []
  tup := tups

theorem vc18 (P : Program) (H : Heap) (q0 : Int) (q1N : Nat) (q1Xs : List Value) (bi1 : Nat) (q2 : Option Nat) (q3N : Nat) (q3Xs : List Value) (bi3 : Nat) (q4 : Int) (O : OMap) (post : Int → Nat → List Value → Option Nat → Nat → List Value → Int → Option Addr → Nat → Nat → Heap → OMap → Prop) :
  vcFnB P tab an18 Try.f18 [BA.me] 0 68 [BC.v (.int .i64 q0), BC.row 33 q1N q1Xs, BC.v (.map q2), BC.row 44 q3N q3Xs, BC.v (.int .i64 q4)] 1 H O [.int .i64, .row bi1 33, .mp, .row bi3 44, .int .i64] ⟨false, [(false, [.sl])]⟩ post =
  (  ∀ (a0 : Nat), (false = true → a0 = a0 ∧ post q0 q1N q1Xs q2 q3N q3Xs q4 none 0 0 H O) ∧ (false = false → ∃ (post3 : Nat → List Value → Heap → Prop), (∀ (A4 : Option Addr) (c5 : Nat) (H6 : Heap),
  Heap.le H H6 → Cells H6 A4 0 q1Xs → q1N ≤ c5 → ConT P 40 [.slice A4 q1N c5] H6 ⟨false, [(false, [.row 10 33])]⟩ post3) ∧ ∀ (H10 : Heap) (n11 : Nat) (xs12 : List Value), post3 n11 xs12 H10 →
  ∀ (A14 : Option Addr) (c15 : Nat) (H16 : Heap), Heap.le H H16 → Cells H16 A14 0 xs12 → n11 ≤ c15 → a0 = a0 ∧ post q0 q1N q1Xs q2 q3N q3Xs q4 A14 n11 c15 H16 O)) := by kernel_rfl
theorem tl_Events (er : Row H q1Xs evs) (el : evs.length = q1N) (eb : q1N ≤ 1000) :
    ConB Try.prog 18 [.me] 68 (ixC q0 q1N q1Xs q2 q3N q3Xs q4) H O (ixL bi1 bi3) shS
      (fun n0 n1 xs1 A2 n3 xs3 n4 A n c H' O' => SameIx q0 q1N q1Xs q2 q3N q3Xs O n0 n1 xs1 A2 n3 xs3 O' ∧ n4 = q4 ∧ Sl H' A n c evs) := by
  refine conB_of_vc (k := 0) (an := an18) (fn := Try.f18) mix tabOK Try.func18 (by kernel_rfl) (extra := 1) trivial ?_
  rw [vc18]
  intro a0
  refine ⟨fun h => (by cases h), fun _ => ⟨_, fun A4 c5 H6 l6 hc hn => CloneR_Ev (er.sl l6 hc el hn (by show _ * 24 ≤ _; omega) (by omega)), ?_⟩⟩
  rintro H10 n11 xs12 ⟨rfl, hr⟩ A14 c15 H16 l16 hc hn
  exact ⟨rfl, ⟨rfl, rfl, rfl, rfl, rfl, rfl, rfl⟩, rfl, (hr.evAny (H' := H)).sl l16 hc rfl hn (by show _ * 24 ≤ _; omega) (by omega)⟩
end
theorem bst_has {l : List Int} {t : Int} {i : Nat} (hs : SS l) (hi : i ≤ l.length) (h : BSt l t i i) : decide (l[i]? = some t) = l.contains t := by
  obtain ⟨h1, h2⟩ := bst_split hs hi h
  rw [Bool.eq_iff_iff, decide_eq_true_eq, List.contains_iff_mem]
  refine ⟨fun h => List.mem_of_getElem? h, fun hm => ?_⟩
  rw [← List.take_append_drop i l] at hm
  rcases List.mem_append.1 hm with hm | hm
  · have := h1 _ hm; omega
  · obtain ⟨j, hj, e⟩ := List.getElem_of_mem hm
    rw [List.length_drop] at hj
    rw [List.getElem_drop] at e
    have hl : i < l.length := by omega
    have h3 := h2 l[i] (by have := List.getElem_mem (l := l.drop i) (n := 0) (by rw [List.length_drop]; omega); simpa using this)
    rcases Nat.eq_zero_or_pos j with rfl | hj0
    · rw [List.getElem?_eq_getElem hl]; simpa using e
    · have := List.pairwise_iff_getElem.1 hs i (i + j) hl (by omega) (by omega)
      omega
/- what is in a and not in b -/
def woL (a b : List Int) : List Int := a.filter fun x => !b.contains x
def an42 : Ann where
  res := fun _ => none
  lend := fun _ => false
  sch := fun _ => .done
  lt := fun | 3 => [.slot 5 false [.row 30 3], .slot 12 false [.int .i64]] | _ => []
  tup := tups

theorem vc42 (P : Program) (H : Heap) (aA : Option Addr) (aN aC : Nat) (bA : Option Addr) (bN bC : Nat) (post : Option Addr → Nat → Nat → Heap → Prop) :
  vcFn P tab an42 Try.f42 [.slice aA aN aC, .slice bA bN bC] 1 H ⟨false, [(false, [.sl])]⟩ post =
  (  ∃ (inv0 : Nat → List Value → Int → Heap → Prop), ∃ (m1 : Nat → List Value → Int → Nat), inv0 0 [] (0 : Int) H ∧ ∀ (H2 : Heap), Heap.le H H2 → ∀ (n4 : Nat) (xs5 : List Value) (n6 : Int),
  inv0 n4 xs5 n6 H2 → (decide (n6 < (↑aN : Int)) = true → someA aA ∧ (0 : Int) ≤ n6 ∧ n6 < (↑aN : Int) ∧ ∃ (n9 : Int), Cells H2 aA (Int.toNat n6 * 1) [.int .i64 n9] ∧ ∃ (post10 : Int → Bool →
  Heap → Prop), ConT P 59 [.slice bA bN bC, .int .i64 n9] H2 ⟨true, [(false, [.int .i64]), (false, [.bool])]⟩ post10 ∧ ∀ (H11 : Heap), Heap.le H2 H11 → ∀ (n13 : Int) (b14 : Bool), post10 n13
  b14 H11 → ((!b14) = true → (n4 + 1) * 8 ≤ 140737488355328 ∧ rng .i64 (n6 + (1 : Int)) ∧ inv0 (n4 + 1) (xs5 ++ [.int .i64 n9]) (n6 + (1 : Int)) H11 ∧ m1 (n4 + 1) (xs5 ++ [.int .i64 n9]) (n6
  + (1 : Int)) < m1 n4 xs5 n6) ∧ ((!b14) = false → rng .i64 (n6 + (1 : Int)) ∧ inv0 n4 xs5 (n6 + (1 : Int)) H11 ∧ m1 n4 xs5 (n6 + (1 : Int)) < m1 n4 xs5 n6)) ∧ (decide (n6 < (↑aN : Int)) =
  false → ∀ (A19 : Option Addr) (c20 : Nat) (H21 : Heap), Heap.le H2 H21 → Cells H21 A19 0 xs5 → n4 ≤ c20 → post A19 n4 c20 H21)) := by kernel_rfl
theorem tl_without {H : Heap} {A B : Option Addr} {n c m d : Nat} {a b : List Int} (ha : Sl H A n c a) (hb : Sl H B m d b) (hs : SS b) :
    ConT Try.prog 42 [.slice A n c, .slice B m d] H shS (fun A' n' c' H' => Sl H' A' n' c' (woL a b)) := by
  refine con_of_vc (an := an42) (fn := Try.f42) mix tabOK Try.func42 (by kernel_rfl) (extra := 1) ?_
  rw [vc42]
  have hl := ha.len; have hbn := ha.bnd; have hbl := hb.len; have hn2 := ha.bn
  have hbn : n * 8 ≤ 140737488355328 := hbn
  refine ⟨fun k xs i H' => 0 ≤ i ∧ i ≤ n ∧ k = (woL (a.take i.toNat) b).length ∧ Row H' xs (woL (a.take i.toNat) b), fun _ _ i => n - i.toNat, ⟨by omega, by omega, rfl, rfl⟩, ?_⟩
  rintro H2 l2 k xs i ⟨i0, i1, rfl, hr⟩
  have hwl : ∀ j, (woL (a.take j) b).length ≤ j := fun j => by
    have h1 : (woL (a.take j) b).length ≤ (a.take j).length := List.length_filter_le _ _
    have h2 : (a.take j).length ≤ j := List.length_take_le _ _
    omega
  refine ⟨fun hlt => ?_, fun hge => ?_⟩
  · have hlt := of_decide_eq_true hlt
    obtain ⟨hi, hA, _, hc, ⟨rfl, r1⟩⟩ := ha.at l2 i0 hlt
    refine ⟨hA, i0, hlt, _, hc, _, BinarySearch_Int (hb.mono l2), ?_⟩
    rintro H11 l11 n13 _ ⟨j0, j1, hbs, rfl⟩
    obtain ⟨j, rfl⟩ : ∃ j : Nat, n13 = j := ⟨n13.toNat, by omega⟩
    rw [show ((j : Int)).toNat = j by omega, bst_has hs (by omega) hbs]
    have e1 : (i + 1).toNat = i.toNat + 1 := by omega
    have e2 : a.take (i + 1).toNat = a.take i.toNat ++ [a[i.toNat]] := by rw [e1, List.take_add_one, List.getElem?_eq_getElem hi, Option.toList_some]
    have hw := hwl i.toNat
    refine ⟨fun hnc => ?_, fun hc => ?_⟩
    · have e3 : woL (a.take (i + 1).toNat) b = woL (a.take i.toNat) b ++ [a[i.toNat]] := by
        have hnc' : a[i.toNat] ∉ b := by simpa using hnc
        unfold woL
        rw [e2, List.filter_append]
        simp [hnc']
      refine ⟨by omega, by simp only [rng]; omega, ⟨by omega, by omega, by rw [e3]; simp, ?_⟩, by dsimp only; omega⟩
      rw [e3]
      exact (hr.mono l11).append (Row.one ⟨rfl, r1⟩)
    · have e3 : woL (a.take (i + 1).toNat) b = woL (a.take i.toNat) b := by
        have hc' : a[i.toNat] ∈ b := by simpa using hc
        unfold woL
        rw [e2, List.filter_append]
        simp [hc']
      refine ⟨by simp only [rng]; omega, ⟨by omega, by omega, by rw [e3], ?_⟩, by dsimp only; omega⟩
      rw [e3]
      exact hr.mono l11
  · have hge := of_decide_eq_false hge
    intro A19 c20 H21 l21 hc hn
    have e : a.take i.toNat = a := List.take_of_length_le (by omega)
    have hw := hwl i.toNat
    rw [e] at hr hw hn ⊢
    exact hr.sl l21 hc rfl hn (by show _ * 8 ≤ _; omega) (by omega)
section
variable {H : Heap} {O : OMap} {q0 t t2 q4 : Int} {q1N q3N bi1 bi3 : Nat} {q1Xs q3Xs : List Value} {q2 : Option Nat} {evs : List Ev}
def an19 : Ann where
  res := fun _ => none
  lend := fun _ => false
  sch := fun _ => .done
  bx := fun | some 17, 41 => some [.int .i64, .row 32 33, .mp, .row 33 44, .int .i64] | some 23, 41 => some [.int .i64, .row 34 33, .mp, .row 35 44, .int .i64] | _, _ => none
  lt := fun _ => []
  tup := tups

theorem vc19 (P : Program) (H : Heap) (from0 : Int) (to0 : Int) (q0 : Int) (q1N : Nat) (q1Xs : List Value) (bi1 : Nat) (q2 : Option Nat) (q3N : Nat) (q3Xs : List Value) (bi3 : Nat) (q4 : Int) (O : OMap) (post : Int → Nat → List Value → Option Nat → Nat → List Value → Int → Option Addr → Nat → Nat → Option Addr → Nat → Nat → Heap → OMap → Prop) :
  vcFnB P tab an19 Try.f19 [BA.me, BA.v (.int .i64 from0), BA.v (.int .i64 to0)] 0 68 [BC.v (.int .i64 q0), BC.row 33 q1N q1Xs, BC.v (.map q2), BC.row 44 q3N q3Xs, BC.v (.int .i64 q4)] 4 H O [.int .i64, .row bi1 33, .mp, .row bi3 44, .int .i64] ⟨true, [(false, [.sl]), (false, [.sl])]⟩ post =
  (  ∀ (a0 : Nat), (false = true → a0 = a0 ∧ post q0 q1N q1Xs q2 q3N q3Xs q4 none 0 0 none 0 0 H O) ∧ (false = false → ∃ (post3 : Int → Nat → List Value → Option Nat → Nat → List Value → Int → Option
  Addr → Nat → Nat → Int → Heap → (Nat → Option XO) → Prop), ConB P 41 [BA.me, BA.v (.int .i64 from0)] 68 [BC.v (.int .i64 q0), BC.row 33 q1N q1Xs, BC.v (Value.map q2), BC.row 44 q3N q3Xs,
  BC.v (.int .i64 q4)] H O [.int .i64, .row 32 33, .mp, .row 33 44, .int .i64] ⟨true, [(false, [.sl]), (false, [.int .i64])]⟩ post3 ∧ ∀ (H4 : Heap), Heap.le H H4 → ∀ (O6 : Nat → Option XO)
  (n7 : Int) (n8 : Nat) (xs9 : List Value) (A10 : Option Nat) (n11 : Nat) (xs12 : List Value) (n13 : Int) (A14 : Option Addr) (n15 c16 : Nat) (n17 : Int), post3 n7 n8 xs9 A10 n11 xs12 n13 A14
  n15 c16 n17 H4 O6 → ∃ (post19 : Int → Nat → List Value → Option Nat → Nat → List Value → Int → Option Addr → Nat → Nat → Int → Heap → (Nat → Option XO) → Prop), ConB P 41 [BA.me, BA.v (.int
  .i64 to0)] 68 [BC.v (.int .i64 n7), BC.row 33 n8 xs9, BC.v (Value.map A10), BC.row 44 n11 xs12, BC.v (.int .i64 n13)] H4 O6 [.int .i64, .row 34 33, .mp, .row 35 44, .int .i64] ⟨true,
  [(false, [.sl]), (false, [.int .i64])]⟩ post19 ∧ ∀ (H20 : Heap), Heap.le H4 H20 → ∀ (O22 : Nat → Option XO) (n23 : Int) (n24 : Nat) (xs25 : List Value) (A26 : Option Nat) (n27 : Nat) (xs28
  : List Value) (n29 : Int) (A30 : Option Addr) (n31 c32 : Nat) (n33 : Int), post19 n23 n24 xs25 A26 n27 xs28 n29 A30 n31 c32 n33 H20 O22 → ∃ (post35 : Option Addr → Nat → Nat → Heap → Prop),
  ConT P 42 [.slice A14 n15 c16, .slice A30 n31 c32] H20 ⟨false, [(false, [.sl])]⟩ post35 ∧ ∀ (H36 : Heap), Heap.le H20 H36 → ∀ (A38 : Option Addr) (n39 c40 : Nat), post35 A38 n39 c40 H36 → ∃
  (post42 : Option Addr → Nat → Nat → Heap → Prop), ConT P 42 [.slice A30 n31 c32, .slice A14 n15 c16] H36 ⟨false, [(false, [.sl])]⟩ post42 ∧ ∀ (H43 : Heap), Heap.le H36 H43 → ∀ (A45 : Option
  Addr) (n46 c47 : Nat), post42 A45 n46 c47 H43 → a0 = a0 ∧ post n23 n24 xs25 A26 n27 xs28 n29 A38 n39 c40 A45 n46 c47 H43 O22)) := by kernel_rfl
theorem tl_Diff (h : IxOK H q0 q1N q1Xs q3N q3Xs q4 evs) :
    ConB Try.prog 19 [.me, .v (.int .i64 t), .v (.int .i64 t2)] 68 (ixC q0 q1N q1Xs q2 q3N q3Xs q4) H O (ixL bi1 bi3) ⟨true, [(false, [.sl]), (false, [.sl])]⟩
      (fun n0 n1 xs1 A2 n3 xs3 n4 A n c B m d H' O' => SameIx q0 q1N q1Xs q2 q3N q3Xs O n0 n1 xs1 A2 n3 xs3 O' ∧ n4 = q4 ∧
        Sl H' A n c (woL (stF (evs.take (ncur evs t))) (stF (evs.take (ncur evs t2)))) ∧ Sl H' B m d (woL (stF (evs.take (ncur evs t2))) (stF (evs.take (ncur evs t))))) := by
  refine conB_of_vc (k := 0) (an := an19) (fn := Try.f19) mix tabOK Try.func19 (by kernel_rfl) (extra := 4) trivial ?_
  rw [vc19]
  intro a0
  refine ⟨fun h => (by cases h), fun _ => ⟨_, tl_state (q2 := q2) (t := t) h, ?_⟩⟩
  rintro H4 l4 O6 n7 n8 xs9 A10 n11 xs12 n13 A14 n15 c16 n17 ⟨⟨rfl, rfl, rfl, rfl, rfl, rfl, rfl⟩, rfl, ha, -⟩
  refine ⟨_, tl_state (q2 := A10) (t := t2) (h.mono l4), ?_⟩
  rintro H20 l20 O22 n23 n24 xs25 A26 n27 xs28 n29 A30 n31 c32 n33 ⟨⟨rfl, rfl, rfl, rfl, rfl, rfl, rfl⟩, rfl, hb, -⟩
  refine ⟨_, tl_without (ha.mono l20) hb (stF_sorted _), ?_⟩
  intro H36 l36 A38 n39 c40 h1
  refine ⟨_, tl_without (hb.mono l36) (ha.mono (hle_trans l20 l36)) (stF_sorted _), ?_⟩
  intro H43 l43 A45 n46 c47 h2
  exact ⟨rfl, ⟨rfl, rfl, rfl, rfl, rfl, rfl, rfl⟩, rfl, h1.mono l43, h2⟩
end
end Go.Vc
/- Timelines: the checkpoints. -/
namespace Go.Vc
open Go Go.Proofs Go.Shelf
def an30 : Ann where
  res := fun | 51 => some ⟨false, [(false, [.row 95 3])]⟩ | 75 => some ⟨false, [(false, [.row 96 3])]⟩ | 90 => some ⟨false, [(false, [.row 97 3])]⟩ | _ => none
  lend := fun | 90 => true | _ => false
  mt := fun | 51 => some false | _ => none
  sch := fun | 0 => (tk [0, 1, 2, 3, 4, 5, 6, 7, 8, 10, 11, 12, 13, 14, 15, 16] (.alt 9 (tk [17] (.alt 18 (tk [19, 20] (.alt 21 .done .fin)) .fin)) .fin)) | 10 => (tk [0, 1, 2, 3, 4, 5] (.alt 6 (.alt 7 (.alt 8 (tk [9, 10] (.alt 11 .done .fin)) .fin) .fin) .fin)) | _ => .done
  opn := true
  tr := fun | 25 => true | _ => false
  lt := fun | 6 => [.slot 5 false [.row 98 3], .slot 6 false [.int .i64], .box 101 68 [.int .i64, .row 99 33, .mp, .row 100 44, .int .i64]] | _ => []
  tup := tups

theorem vc30 (P : Program) (H : Heap) (p1 : Int) (q0 : Int) (q1N : Nat) (q1Xs : List Value) (bi1 : Nat) (q2 : Option Nat) (q3N : Nat) (q3Xs : List Value) (bi3 : Nat) (q4 : Int) (O : OMap) (post : Int → Nat → List Value → Option Nat → Nat → List Value → Int → Heap → OMap → Prop) :
  vcFnB P tab an30 Try.f30 [BA.me, BA.v (.int .i64 p1)] 0 68 [BC.v (.int .i64 q0), BC.row 33 q1N q1Xs, BC.v (.map q2), BC.row 44 q3N q3Xs, BC.v (.int .i64 q4)] 6 H O [.int .i64, .row bi1 33, .mp, .row bi3 44, .int .i64] ⟨true, []⟩ post =
  (  ∀ (a0 : Nat), q0 ≠ (0 : Int) ∧ rng .i64 (Int.tdiv p1 q0) ∧ rng .i64 (Int.tdiv p1 q0 + (1 : Int)) ∧ (0 : Int) ≤ min (↑q3N : Int) (Int.tdiv p1 q0 + (1 : Int)) ∧ min (↑q3N : Int) (Int.tdiv p1
  q0 + (1 : Int)) ≤ (↑q3N : Int) ∧ (decide ((↑(Int.toNat (min (↑q3N : Int) (Int.tdiv p1 q0 + (1 : Int)))) : Int) = (0 : Int)) = true → rng .i64 ((↑1 : Int) - (1 : Int)) ∧ (0 : Int) ≤ (↑1 :
  Int) - (1 : Int) ∧ (↑1 : Int) - (1 : Int) < (↑1 : Int) ∧ ∃ (A2 : Option Addr), ∃ (n3 : Nat), ∃ (c4 : Nat), win [.slice none 0 0] (Int.toNat ((↑1 : Int) - (1 : Int)) * 1) 1 = [.slice A2 n3
  c4] ∧ ∃ (post5 : Nat → List Value → Heap → Prop), ConT P 50 [.slice A2 n3 c4] H ⟨false, [(false, [.row 95 3])]⟩ post5 ∧ ∀ (H6 : Heap), Heap.le H H6 → ∀ (n8 : Nat) (xs9 : List Value), post5
  n8 xs9 H6 → rng .i64 (((↑1 : Int) - (1 : Int)) * q0) ∧ ∃ (inv11 : Nat → List Value → Int → Int → Nat → List Value → Option Nat → Nat → List Value → Int → Heap → OMap → Prop), ∃ (m12 : Nat →
  List Value → Int → Int → Nat → List Value → Option Nat → Nat → List Value → Int → Nat), inv11 n8 xs9 (((↑1 : Int) - (1 : Int)) * q0) q0 q1N q1Xs q2 1 [.slice none 0 0] q4 H6 O ∧ ∀ (H13 :
  Heap), Heap.le H6 H13 → ∀ (O15 : Nat → Option XO) (n16 : Nat) (xs17 : List Value) (n18 n19 : Int) (n20 : Nat) (xs21 : List Value) (A22 : Option Nat) (n23 : Nat) (xs24 : List Value) (n25 :
  Int), inv11 n16 xs17 n18 n19 n20 xs21 A22 n23 xs24 n25 H13 O15 → (decide (n18 < (↑n20 : Int)) = true → (0 : Int) ≤ n18 ∧ n18 < (↑n20 : Int) ∧ ∃ (n28 : Int), ∃ (n29 : Int), ∃ (b30 : Bool),
  win xs21 (Int.toNat n18 * 3) 3 = [.int .i64 n28, .int .i64 n29, .bool b30] ∧ ∃ (post31 : List Value → Nat → List Value → Heap → Prop), ConM P 51 [.slice none 0 0, .agg ⟨[.int .i64 n28, .int
  .i64 n29, .bool b30]⟩] 0 3 n16 xs17 false H13 ⟨false, [(false, [.row 96 3])]⟩ post31 ∧ ∀ (H32 : Heap), Heap.le H13 H32 → ∀ (ys34 : List Value) (n35 : Nat) (xs36 : List Value), post31 ys34
  n35 xs36 H32 → rng .i64 (n18 + (1 : Int)) ∧ n19 ≠ (0 : Int) ∧ (decide (Int.tmod (n18 + (1 : Int)) n19 = (0 : Int)) = true → ∃ (post39 : Nat → List Value → Heap → Prop), (∀ (A40 : Option
  Addr) (c41 : Nat) (H42 : Heap), Heap.le H32 H42 → Cells H42 A40 0 xs36 → n35 ≤ c41 → ConT P 50 [.slice A40 n35 c41] H42 ⟨false, [(false, [.row 97 3])]⟩ post39) ∧ ∀ (H46 : Heap) (n47 : Nat)
  (xs48 : List Value), post39 n47 xs48 H46 → ∀ (A50 : Option Addr) (c51 : Nat) (H52 : Heap), Heap.le H32 H52 → Cells H52 A50 0 xs48 → n47 ≤ c51 → (n23 + 1) * 24 ≤ 140737488355328 ∧ rng .i64
  (n18 + (1 : Int)) ∧ inv11 n35 xs36 (n18 + (1 : Int)) n19 n20 xs21 A22 (n23 + 1) (xs24 ++ [.slice A50 n47 c51]) n25 H52 O15 ∧ m12 n35 xs36 (n18 + (1 : Int)) n19 n20 xs21 A22 (n23 + 1) (xs24
  ++ [.slice A50 n47 c51]) n25 < m12 n16 xs17 n18 n19 n20 xs21 A22 n23 xs24 n25) ∧ (decide (Int.tmod (n18 + (1 : Int)) n19 = (0 : Int)) = false → rng .i64 (n18 + (1 : Int)) ∧ inv11 n35 xs36
  (n18 + (1 : Int)) n19 n20 xs21 A22 n23 xs24 n25 H32 O15 ∧ m12 n35 xs36 (n18 + (1 : Int)) n19 n20 xs21 A22 n23 xs24 n25 < m12 n16 xs17 n18 n19 n20 xs21 A22 n23 xs24 n25)) ∧ (decide (n18 <
  (↑n20 : Int)) = false → a0 = a0 ∧ post n19 n20 xs21 A22 n23 xs24 n25 H13 O15)) ∧ (decide ((↑(Int.toNat (min (↑q3N : Int) (Int.tdiv p1 q0 + (1 : Int)))) : Int) = (0 : Int)) = false → rng
  .i64 ((↑(Int.toNat (min (↑q3N : Int) (Int.tdiv p1 q0 + (1 : Int)))) : Int) - (1 : Int)) ∧ (0 : Int) ≤ (↑(Int.toNat (min (↑q3N : Int) (Int.tdiv p1 q0 + (1 : Int)))) : Int) - (1 : Int) ∧
  (↑(Int.toNat (min (↑q3N : Int) (Int.tdiv p1 q0 + (1 : Int)))) : Int) - (1 : Int) < (↑(Int.toNat (min (↑q3N : Int) (Int.tdiv p1 q0 + (1 : Int)))) : Int) ∧ ∃ (A59 : Option Addr), ∃ (n60 :
  Nat), ∃ (c61 : Nat), win (List.take (List.length q3Xs / q3N * Int.toNat (min (↑q3N : Int) (Int.tdiv p1 q0 + (1 : Int)))) q3Xs) (Int.toNat ((↑(Int.toNat (min (↑q3N : Int) (Int.tdiv p1 q0 +
  (1 : Int)))) : Int) - (1 : Int)) * 1) 1 = [.slice A59 n60 c61] ∧ ∃ (post62 : Nat → List Value → Heap → Prop), ConT P 50 [.slice A59 n60 c61] H ⟨false, [(false, [.row 95 3])]⟩ post62 ∧ ∀
  (H63 : Heap), Heap.le H H63 → ∀ (n65 : Nat) (xs66 : List Value), post62 n65 xs66 H63 → rng .i64 (((↑(Int.toNat (min (↑q3N : Int) (Int.tdiv p1 q0 + (1 : Int)))) : Int) - (1 : Int)) * q0) ∧ ∃
  (inv68 : Nat → List Value → Int → Int → Nat → List Value → Option Nat → Nat → List Value → Int → Heap → OMap → Prop), ∃ (m69 : Nat → List Value → Int → Int → Nat → List Value → Option Nat →
  Nat → List Value → Int → Nat), inv68 n65 xs66 (((↑(Int.toNat (min (↑q3N : Int) (Int.tdiv p1 q0 + (1 : Int)))) : Int) - (1 : Int)) * q0) q0 q1N q1Xs q2 (Int.toNat (min (↑q3N : Int) (Int.tdiv
  p1 q0 + (1 : Int)))) (List.take (List.length q3Xs / q3N * Int.toNat (min (↑q3N : Int) (Int.tdiv p1 q0 + (1 : Int)))) q3Xs) q4 H63 O ∧ ∀ (H70 : Heap), Heap.le H63 H70 → ∀ (O72 : Nat → Option
  XO) (n73 : Nat) (xs74 : List Value) (n75 n76 : Int) (n77 : Nat) (xs78 : List Value) (A79 : Option Nat) (n80 : Nat) (xs81 : List Value) (n82 : Int), inv68 n73 xs74 n75 n76 n77 xs78 A79 n80
  xs81 n82 H70 O72 → (decide (n75 < (↑n77 : Int)) = true → (0 : Int) ≤ n75 ∧ n75 < (↑n77 : Int) ∧ ∃ (n85 : Int), ∃ (n86 : Int), ∃ (b87 : Bool), win xs78 (Int.toNat n75 * 3) 3 = [.int .i64
  n85, .int .i64 n86, .bool b87] ∧ ∃ (post88 : List Value → Nat → List Value → Heap → Prop), ConM P 51 [.slice none 0 0, .agg ⟨[.int .i64 n85, .int .i64 n86, .bool b87]⟩] 0 3 n73 xs74 false
  H70 ⟨false, [(false, [.row 96 3])]⟩ post88 ∧ ∀ (H89 : Heap), Heap.le H70 H89 → ∀ (ys91 : List Value) (n92 : Nat) (xs93 : List Value), post88 ys91 n92 xs93 H89 → rng .i64 (n75 + (1 : Int)) ∧
  n76 ≠ (0 : Int) ∧ (decide (Int.tmod (n75 + (1 : Int)) n76 = (0 : Int)) = true → ∃ (post96 : Nat → List Value → Heap → Prop), (∀ (A97 : Option Addr) (c98 : Nat) (H99 : Heap), Heap.le H89 H99
  → Cells H99 A97 0 xs93 → n92 ≤ c98 → ConT P 50 [.slice A97 n92 c98] H99 ⟨false, [(false, [.row 97 3])]⟩ post96) ∧ ∀ (H103 : Heap) (n104 : Nat) (xs105 : List Value), post96 n104 xs105 H103 →
  ∀ (A107 : Option Addr) (c108 : Nat) (H109 : Heap), Heap.le H89 H109 → Cells H109 A107 0 xs105 → n104 ≤ c108 → (n80 + 1) * 24 ≤ 140737488355328 ∧ rng .i64 (n75 + (1 : Int)) ∧ inv68 n92 xs93
  (n75 + (1 : Int)) n76 n77 xs78 A79 (n80 + 1) (xs81 ++ [.slice A107 n104 c108]) n82 H109 O72 ∧ m69 n92 xs93 (n75 + (1 : Int)) n76 n77 xs78 A79 (n80 + 1) (xs81 ++ [.slice A107 n104 c108]) n82
  < m69 n73 xs74 n75 n76 n77 xs78 A79 n80 xs81 n82) ∧ (decide (Int.tmod (n75 + (1 : Int)) n76 = (0 : Int)) = false → rng .i64 (n75 + (1 : Int)) ∧ inv68 n92 xs93 (n75 + (1 : Int)) n76 n77 xs78
  A79 n80 xs81 n82 H89 O72 ∧ m69 n92 xs93 (n75 + (1 : Int)) n76 n77 xs78 A79 n80 xs81 n82 < m69 n73 xs74 n75 n76 n77 xs78 A79 n80 xs81 n82)) ∧ (decide (n75 < (↑n77 : Int)) = false → a0 = a0 ∧
  post n76 n77 xs78 A79 n80 xs81 n82 H70 O72))) := by kernel_rfl
set_option maxHeartbeats 4000000 in
theorem tl_build {H : Heap} {O : OMap} {q4 : Int} {v f : Nat} {q1N q3N bi1 bi3 : Nat} {q1Xs q3Xs : List Value} {q2 : Option Nat} {evs : List Ev} {cps : List IL}
    (hv1 : 1 ≤ v) (hv2 : rng .i64 (v : Int)) (er : Row H q1Xs evs) (el : evs.length = q1N) (eb : q1N ≤ 1000) (cr : Row H q3Xs cps) (cl : cps.length = q3N) (cok : ∀ k (h : k < cps.length), k ≤ f / v → cps[k].l = stF (evs.take (k * v))) (hf : f ≤ q1N) (cb : q3N ≤ 1001) :
    ConB Try.prog 30 [.me, .v (.int .i64 f)] 68 (ixC v q1N q1Xs q2 q3N q3Xs q4) H O (ixL bi1 bi3) ⟨true, []⟩
      (fun n0 n1 xs1 A2 n3 xs3 n4 H' O' => n0 = v ∧ n1 = q1N ∧ xs1 = q1Xs ∧ A2 = q2 ∧ n4 = q4 ∧ O' = O ∧ ∃ cps' : List IL, Row H' xs3 cps' ∧ cps'.length = n3 ∧ CpOK v evs cps') := by
  refine conB_of_vc (k := 0) (an := an30) (fn := Try.f30) mix tabOK Try.func30 (by kernel_rfl) (extra := 6) trivial ?_
  rw [vc30]
  intro a0
  have hfv : f / v ≤ f := Nat.div_le_self _ _
  have ht : Int.tdiv (f : Int) (v : Int) = ((f / v : Nat) : Int) := by rw [tdiv_nat (by omega)]; simp
  have hfm : f / v * v ≤ f := Nat.div_mul_le_self f v
  rw [ht]
  obtain ⟨M, hM⟩ : ∃ M : Nat, min (q3N : Int) (((f / v : Nat) : Int) + 1) = (M : Int) := ⟨min q3N (f / v + 1), by omega⟩
  have hM1 : M ≤ q3N ∧ M ≤ f / v + 1 := by omega
  rw [hM, show ((M : Int)).toNat = M by omega]
  refine ⟨by omega, by simp only [rng]; omega, by simp only [rng]; omega, by omega, by omega, fun h0 => ?_, fun h0 => ?_⟩
  · have hrow : Row H [.slice none 0 0] [(⟨[]⟩ : IL)] := Row.one ⟨none, 0, 0, rfl, Sl.nil⟩
    obtain ⟨cpsL, hcps⟩ : ∃ cpsL : List IL, cpsL = [(⟨[]⟩ : IL)] := ⟨_, rfl⟩
    rw [← hcps] at hrow
    have hlen : cpsL.length = 1 := by rw [hcps]; rfl
    have hok : ∀ k (h : k < cpsL.length), cpsL[k].l = stF (evs.take (k * v)) := by
      subst hcps
      intro k h
      have : k = 0 := by simp at h; exact h
      subst this
      simp [stF]
    have hLv : (1 - 1) * v ≤ evs.length := by omega
    have hL1 : (1 - 1) * v + v = 1 * v := by
      have := Nat.sub_add_cancel (show 1 ≤ 1 by omega)
      calc (1 - 1) * v + v = (1 - 1 + 1) * v := (Nat.succ_mul _ _).symm
        _ = 1 * v := by rw [this]
    have hmul : ((1 : Int) - 1) * (v : Int) = (((1 - 1) * v : Nat) : Int) := by
      rw [show ((1 : Int) - 1) = (((1 - 1 : Nat)) : Int) by omega, ← Int.natCast_mul]
    have hLL : 1 - 1 ≤ (1 - 1) * v := Nat.le_mul_of_pos_right _ hv1
    refine ⟨by simp only [rng]; omega, by omega, by omega, ?_⟩
    obtain ⟨A, n, c, hw, hsl⟩ := Row.getw hrow (i := 1 - 1) (by omega)
    rw [hok] at hsl
    rw [hmul]
    refine ⟨A, n, c, ?_, _, CloneR_Int hsl, ?_⟩
    · rw [show ((1 : Int) - 1).toNat = 1 - 1 by omega]; exact hw
    rintro H6 l6 n8 xs9 ⟨rfl, hr0⟩
    refine ⟨by simp only [rng]; omega, fun n xs i a b ys A' m zs e H' O' => a = v ∧ b = q1N ∧ ys = q1Xs ∧ A' = q2 ∧ e = q4 ∧ O' = O ∧ 0 ≤ i ∧ i ≤ evs.length ∧ n = (stF (evs.take i.toNat)).length ∧ Row H' xs (stF (evs.take i.toNat)) ∧ Heap.le H H' ∧
        ∃ cps : List IL, Row H' zs cps ∧ cps.length = m ∧ m = i.toNat / v + 1 ∧ ∀ k (h : k < cps.length), cps[k].l = stF (evs.take (k * v)), fun _ _ i _ _ _ _ _ _ _ => evs.length - i.toNat,
      ⟨rfl, rfl, rfl, rfl, rfl, rfl, by omega, by omega, ?_, ?_, l6, cpsL, hrow.mono l6, hlen, ?_, hok⟩, ?_⟩
    · rw [show ((((1 - 1) * v : Nat) : Int)).toNat = (1 - 1) * v by omega]
    · rw [show ((((1 - 1) * v : Nat) : Int)).toNat = (1 - 1) * v by omega]; exact hr0
    · rw [show ((((1 - 1) * v : Nat) : Int)).toNat = (1 - 1) * v by omega, Nat.mul_div_cancel _ hv1]; try omega
    rintro H13 l13 O15 n16 xs17 n18 n19 n20 xs21 A22 n23 xs24 n25 ⟨rfl, rfl, rfl, rfl, rfl, rfl, i0, i1, rfl, hr, hle, cps, hc, hcl, hm, hok'⟩
    refine ⟨fun hlt => ?_, fun hge => ?_⟩
    · have hlt := of_decide_eq_true hlt
      obtain ⟨i, rfl⟩ : ∃ i : Nat, n18 = i := ⟨n18.toNat, by omega⟩
      have hidx : i < evs.length := by omega
      rw [show ((i : Int)).toNat = i by omega] at hr hm ⊢
      obtain ⟨hw1, r1, r2⟩ := Row.getw (er.mono hle) hidx
      have hlen1 := stF_len (evs.take i)
      have hlt2 : (evs.take i).length ≤ evs.length := List.length_take_le' _ _
      refine ⟨i0, hlt, evs[i].tm, evs[i].id, evs[i].fin, hw1, _, tl_step (e := evs[i]) hr rfl (by omega) (stF_sorted _) r2, ?_⟩
      rintro H32 l32 ys34 n35 xs36 ⟨rfl, hr2⟩
      have htk := stF_take hidx
      rw [← htk] at hr2 ⊢
      have hlen2 := stF_len (evs.take (i + 1))
      have hlt3 : (evs.take (i + 1)).length ≤ evs.length := List.length_take_le' _ _
      have e1 : ((i : Int) + 1).toNat = i + 1 := by omega
      have etm : Int.tmod ((i : Int) + 1) (v : Int) = (((i + 1) % v : Nat) : Int) := by
        rw [show ((i : Int) + 1) = ((i + 1 : Nat) : Int) by omega, Int.tmod_eq_emod_of_nonneg (by omega)]; rfl
      have hdiv : i / v ≤ i := Nat.div_le_self _ _
      refine ⟨by simp only [rng]; omega, by omega, fun hmod => ?_, fun hmod => ?_⟩
      · have hmod := of_decide_eq_true hmod
        rw [etm] at hmod
        have hdvd : v ∣ i + 1 := Nat.dvd_of_mod_eq_zero (by omega)
        have hq : (i + 1) / v = i / v + 1 := by rw [Nat.succ_div, if_pos hdvd]
        have hqv : (i / v + 1) * v = i + 1 := by rw [← hq]; exact Nat.div_mul_cancel hdvd
        refine ⟨_, fun A40 c41 H42 l42 hc42 hn42 => CloneR_Int (hr2.sl l42 hc42 rfl hn42 (by show _ * 8 ≤ _; omega) (by omega)), ?_⟩
        rintro H46 n47 xs48 ⟨rfl, hr3⟩ A50 c51 H52 l52 hc52 hn52
        have hsl2 : Sl H52 A50 (stF (evs.take (i + 1))).length c51 (stF (evs.take (i + 1))) := (hr3.intAny (H' := H32)).sl l52 hc52 rfl hn52 (by show _ * 8 ≤ _; omega) (by omega)
        have lall := hle_trans l32 l52
        have hone : Row H52 [.slice A50 (stF (evs.take (i + 1))).length c51] [(⟨stF (evs.take (i + 1))⟩ : IL)] := Row.one ⟨_, _, _, rfl, hsl2⟩
        refine ⟨by omega, by simp only [rng]; omega, ⟨rfl, rfl, rfl, rfl, rfl, rfl, by omega, by omega, by rw [e1], by rw [e1]; exact hr2.mono l52, hle_trans hle lall, cps ++ [⟨stF (evs.take (i + 1))⟩], (hc.mono lall).append hone, by simp [hcl], by rw [e1, hq, hm], fun k hk => ?_⟩, by dsimp only; omega⟩
        rw [List.length_append, List.length_singleton] at hk
        rcases Nat.lt_or_ge k cps.length with h1 | h1
        · rw [List.getElem_append_left h1]; exact hok' k h1
        · have : k = i / v + 1 := by omega
          subst this
          rw [List.getElem_append_right h1]
          simp only [hcl, hm, Nat.sub_self, List.getElem_singleton]
          rw [hqv]
      · have hmod := of_decide_eq_false hmod
        rw [etm] at hmod
        have hdvd : ¬ v ∣ i + 1 := fun h => hmod (by rw [Nat.mod_eq_zero_of_dvd h]; rfl)
        have hq : (i + 1) / v = i / v := by rw [Nat.succ_div, if_neg hdvd]; rfl
        exact ⟨by simp only [rng]; omega, ⟨rfl, rfl, rfl, rfl, rfl, rfl, by omega, by omega, by rw [e1], by rw [e1]; exact hr2, hle_trans hle l32, cps, hc.mono l32, hcl, by rw [e1, hq, hm], hok'⟩, by dsimp only; omega⟩
    · have hge := of_decide_eq_false hge
      have hi : n18.toNat = evs.length := by omega
      rw [hi] at hm
      exact ⟨rfl, rfl, rfl, rfl, rfl, rfl, rfl, cps, hc, hcl, ⟨by omega, hok'⟩⟩
  · have h0 := of_decide_eq_false h0
    have hM0 : 1 ≤ M := by omega
    have hcut : List.length q3Xs / q3N * M = M * 1 := by
      rw [cr.length, cl, show Rep.sz IL = 1 from rfl, Nat.mul_one, Nat.mul_one, Nat.div_self (by omega), Nat.one_mul]
    rw [hcut]
    obtain ⟨cpsL, hcps⟩ : ∃ cpsL : List IL, cpsL = cps.take M := ⟨_, rfl⟩
    have hrow : Row H (List.take (M * 1) q3Xs) cpsL := by rw [hcps]; exact rowTake M cr
    have hlen : cpsL.length = M := by rw [hcps, List.length_take]; omega
    have hok : ∀ k (h : k < cpsL.length), cpsL[k].l = stF (evs.take (k * v)) := by
      subst hcps
      intro k h
      have hk : k < M := by omega
      rw [List.getElem_take]
      exact cok k (by omega) (by omega)
    have hLv : (M - 1) * v ≤ evs.length := by
      have : (M - 1) * v ≤ f / v * v := Nat.mul_le_mul_right _ (by omega)
      omega
    have hL1 : (M - 1) * v + v = M * v := by
      have := Nat.sub_add_cancel (show 1 ≤ M by omega)
      calc (M - 1) * v + v = (M - 1 + 1) * v := (Nat.succ_mul _ _).symm
        _ = M * v := by rw [this]
    have hmul : ((M : Int) - 1) * (v : Int) = (((M - 1) * v : Nat) : Int) := by
      rw [show ((M : Int) - 1) = (((M - 1 : Nat)) : Int) by omega, ← Int.natCast_mul]
    have hLL : M - 1 ≤ (M - 1) * v := Nat.le_mul_of_pos_right _ hv1
    refine ⟨by simp only [rng]; omega, by omega, by omega, ?_⟩
    obtain ⟨A, n, c, hw, hsl⟩ := Row.getw hrow (i := M - 1) (by omega)
    rw [hok] at hsl
    rw [hmul]
    refine ⟨A, n, c, ?_, _, CloneR_Int hsl, ?_⟩
    · rw [show ((M : Int) - 1).toNat = M - 1 by omega]; exact hw
    rintro H6 l6 n8 xs9 ⟨rfl, hr0⟩
    refine ⟨by simp only [rng]; omega, fun n xs i a b ys A' m zs e H' O' => a = v ∧ b = q1N ∧ ys = q1Xs ∧ A' = q2 ∧ e = q4 ∧ O' = O ∧ 0 ≤ i ∧ i ≤ evs.length ∧ n = (stF (evs.take i.toNat)).length ∧ Row H' xs (stF (evs.take i.toNat)) ∧ Heap.le H H' ∧
        ∃ cps : List IL, Row H' zs cps ∧ cps.length = m ∧ m = i.toNat / v + 1 ∧ ∀ k (h : k < cps.length), cps[k].l = stF (evs.take (k * v)), fun _ _ i _ _ _ _ _ _ _ => evs.length - i.toNat,
      ⟨rfl, rfl, rfl, rfl, rfl, rfl, by omega, by omega, ?_, ?_, l6, cpsL, hrow.mono l6, hlen, ?_, hok⟩, ?_⟩
    · rw [show ((((M - 1) * v : Nat) : Int)).toNat = (M - 1) * v by omega]
    · rw [show ((((M - 1) * v : Nat) : Int)).toNat = (M - 1) * v by omega]; exact hr0
    · rw [show ((((M - 1) * v : Nat) : Int)).toNat = (M - 1) * v by omega, Nat.mul_div_cancel _ hv1]; try omega
    rintro H13 l13 O15 n16 xs17 n18 n19 n20 xs21 A22 n23 xs24 n25 ⟨rfl, rfl, rfl, rfl, rfl, rfl, i0, i1, rfl, hr, hle, cps, hc, hcl, hm, hok'⟩
    refine ⟨fun hlt => ?_, fun hge => ?_⟩
    · have hlt := of_decide_eq_true hlt
      obtain ⟨i, rfl⟩ : ∃ i : Nat, n18 = i := ⟨n18.toNat, by omega⟩
      have hidx : i < evs.length := by omega
      rw [show ((i : Int)).toNat = i by omega] at hr hm ⊢
      obtain ⟨hw1, r1, r2⟩ := Row.getw (er.mono hle) hidx
      have hlen1 := stF_len (evs.take i)
      have hlt2 : (evs.take i).length ≤ evs.length := List.length_take_le' _ _
      refine ⟨i0, hlt, evs[i].tm, evs[i].id, evs[i].fin, hw1, _, tl_step (e := evs[i]) hr rfl (by omega) (stF_sorted _) r2, ?_⟩
      rintro H32 l32 ys34 n35 xs36 ⟨rfl, hr2⟩
      have htk := stF_take hidx
      rw [← htk] at hr2 ⊢
      have hlen2 := stF_len (evs.take (i + 1))
      have hlt3 : (evs.take (i + 1)).length ≤ evs.length := List.length_take_le' _ _
      have e1 : ((i : Int) + 1).toNat = i + 1 := by omega
      have etm : Int.tmod ((i : Int) + 1) (v : Int) = (((i + 1) % v : Nat) : Int) := by
        rw [show ((i : Int) + 1) = ((i + 1 : Nat) : Int) by omega, Int.tmod_eq_emod_of_nonneg (by omega)]; rfl
      have hdiv : i / v ≤ i := Nat.div_le_self _ _
      refine ⟨by simp only [rng]; omega, by omega, fun hmod => ?_, fun hmod => ?_⟩
      · have hmod := of_decide_eq_true hmod
        rw [etm] at hmod
        have hdvd : v ∣ i + 1 := Nat.dvd_of_mod_eq_zero (by omega)
        have hq : (i + 1) / v = i / v + 1 := by rw [Nat.succ_div, if_pos hdvd]
        have hqv : (i / v + 1) * v = i + 1 := by rw [← hq]; exact Nat.div_mul_cancel hdvd
        refine ⟨_, fun A40 c41 H42 l42 hc42 hn42 => CloneR_Int (hr2.sl l42 hc42 rfl hn42 (by show _ * 8 ≤ _; omega) (by omega)), ?_⟩
        rintro H46 n47 xs48 ⟨rfl, hr3⟩ A50 c51 H52 l52 hc52 hn52
        have hsl2 : Sl H52 A50 (stF (evs.take (i + 1))).length c51 (stF (evs.take (i + 1))) := (hr3.intAny (H' := H32)).sl l52 hc52 rfl hn52 (by show _ * 8 ≤ _; omega) (by omega)
        have lall := hle_trans l32 l52
        have hone : Row H52 [.slice A50 (stF (evs.take (i + 1))).length c51] [(⟨stF (evs.take (i + 1))⟩ : IL)] := Row.one ⟨_, _, _, rfl, hsl2⟩
        refine ⟨by omega, by simp only [rng]; omega, ⟨rfl, rfl, rfl, rfl, rfl, rfl, by omega, by omega, by rw [e1], by rw [e1]; exact hr2.mono l52, hle_trans hle lall, cps ++ [⟨stF (evs.take (i + 1))⟩], (hc.mono lall).append hone, by simp [hcl], by rw [e1, hq, hm], fun k hk => ?_⟩, by dsimp only; omega⟩
        rw [List.length_append, List.length_singleton] at hk
        rcases Nat.lt_or_ge k cps.length with h1 | h1
        · rw [List.getElem_append_left h1]; exact hok' k h1
        · have : k = i / v + 1 := by omega
          subst this
          rw [List.getElem_append_right h1]
          simp only [hcl, hm, Nat.sub_self, List.getElem_singleton]
          rw [hqv]
      · have hmod := of_decide_eq_false hmod
        rw [etm] at hmod
        have hdvd : ¬ v ∣ i + 1 := fun h => hmod (by rw [Nat.mod_eq_zero_of_dvd h]; rfl)
        have hq : (i + 1) / v = i / v := by rw [Nat.succ_div, if_neg hdvd]; rfl
        exact ⟨by simp only [rng]; omega, ⟨rfl, rfl, rfl, rfl, rfl, rfl, by omega, by omega, by rw [e1], by rw [e1]; exact hr2, hle_trans hle l32, cps, hc.mono l32, hcl, by rw [e1, hq, hm], hok'⟩, by dsimp only; omega⟩
    · have hge := of_decide_eq_false hge
      have hi : n18.toNat = evs.length := by omega
      rw [hi] at hm
      exact ⟨rfl, rfl, rfl, rfl, rfl, rfl, rfl, cps, hc, hcl, ⟨by omega, hok'⟩⟩
end Go.Vc
/- Timelines: the order of events; maps with numbers as keys; the events of versions. -/
namespace Go.Vc
open Go Go.Proofs Go.Shelf
def evCmp (a b : Ev) : Int := if a.tm ≠ b.tm then cmpI a.tm b.tm else if a.fin ≠ b.fin then (if a.fin then -1 else 1) else cmpI a.id b.id
def evLt (a b : Ev) : Prop := a.tm < b.tm ∨ (a.tm = b.tm ∧ ((a.fin = true ∧ b.fin = false) ∨ (a.fin = b.fin ∧ a.id < b.id)))
theorem evCmp_lt {a b : Ev} : evCmp a b < 0 ↔ evLt a b := by
  unfold evCmp evLt
  by_cases h : a.tm = b.tm
  · rw [if_neg (by simpa using h)]
    cases ha : a.fin <;> cases hb : b.fin <;> simp [cmpI_lt, h]
  · rw [if_pos h, cmpI_lt]
    constructor
    · exact .inl
    · rintro (h1 | h1)
      · exact h1
      · exact absurd h1.1 h
theorem evLt_irrefl (a : Ev) : ¬ evLt a a := by
  rintro (h | ⟨_, h | h⟩)
  · omega
  · rw [h.1] at h; cases h.2
  · omega
theorem evLt_trans {a b c : Ev} (h : evLt a b) (k : evLt b c) : evLt a c := by
  unfold evLt at *
  cases ha : a.fin <;> cases hb : b.fin <;> cases hc : c.fin <;> simp [ha, hb, hc] at h k ⊢ <;> omega
theorem evLt_ntrans {a b c : Ev} (h : ¬ evLt a b) (k : ¬ evLt b c) : ¬ evLt a c := by
  unfold evLt at *
  cases ha : a.fin <;> cases hb : b.fin <;> cases hc : c.fin <;> simp [ha, hb, hc] at h k ⊢ <;> omega
theorem evLt_tri (a b : Ev) : evLt a b ∨ a = b ∨ evLt b a := by
  unfold evLt
  obtain ⟨t, i, f⟩ := a
  obtain ⟨t', i', f'⟩ := b
  cases f <;> cases f' <;> simp only [Ev.mk.injEq] <;> simp <;> omega
theorem swo_evCmp : Sort.SWO (ltOf evCmp) where
  irrefl x := by simp only [ltOf, decide_eq_false_iff_not, evCmp_lt]; exact evLt_irrefl x
  trans x y z h1 h2 := by simp only [ltOf, decide_eq_true_eq, evCmp_lt] at *; exact evLt_trans h1 h2
  ntrans x y z h1 h2 := by simp only [ltOf, decide_eq_false_iff_not, evCmp_lt] at *; exact evLt_ntrans h1 h2
def an29 : Ann where
  res := fun _ => none
  lend := fun | 14 => true | 26 => true | _ => false
  sch := fun _ => .done
  lt := fun _ => []
  tup := tups

theorem vc29 (P : Program) (H : Heap) (aAt : Int) (aID : Int) (aEnd : Bool) (bAt : Int) (bID : Int) (bEnd : Bool) (post : Int → Heap → Prop) :
  vcFn P tab an29 Try.f29 [.agg #[.int .i64 aAt, .int .i64 aID, .bool aEnd], .agg #[.int .i64 bAt, .int .i64 bID, .bool bEnd]] 0 H ⟨false, [(false, [.int .i64])]⟩ post =
  (  ((!decide (aAt = bAt)) = true → ∃ (post1 : Int → Heap → Prop), ConT P 49 [.int .i64 aAt, .int .i64 bAt] H ⟨false, [(false, [.int .i64])]⟩ post1 ∧ ∀ (H2 : Heap), Heap.le H H2 → ∀ (n4 : Int),
  post1 n4 H2 → post n4 H2) ∧ ((!decide (aAt = bAt)) = false → ((!aEnd == bEnd) = true → (aEnd = true → post (-1 : Int) H) ∧ (aEnd = false → post (1 : Int) H)) ∧ ((!aEnd == bEnd) = false → ∃
  (post11 : Int → Heap → Prop), ConT P 49 [.int .i64 aID, .int .i64 bID] H ⟨false, [(false, [.int .i64])]⟩ post11 ∧ ∀ (H12 : Heap), Heap.le H H12 → ∀ (n14 : Int), post11 n14 H12 → post n14
  H12))) := by kernel_rfl
theorem tl_order {H : Heap} {a b : Ev} : ConT Try.prog 29 [.agg #[.int .i64 a.tm, .int .i64 a.id, .bool a.fin], .agg #[.int .i64 b.tm, .int .i64 b.id, .bool b.fin]] H shI (fun r _ => r = evCmp a b) := by
  refine con_of_vc (an := an29) (fn := Try.f29) mix tabOK Try.func29 (by kernel_rfl) (extra := 0) ?_
  rw [vc29]
  unfold evCmp
  refine ⟨fun h => ⟨_, cmp_Compare, fun H2 l2 n4 h4 => ?_⟩, fun h => ⟨fun h2 => ⟨fun h3 => ?_, fun h3 => ?_⟩, fun h2 => ⟨_, cmp_Compare, fun H12 l12 n14 h14 => ?_⟩⟩⟩
  · rw [if_pos (by simpa using h)]; exact h4
  · rw [if_neg (by simpa using h), if_pos (by simpa using h2), h3]; rfl
  · rw [if_neg (by simpa using h), if_pos (by simpa using h2), h3]; rfl
  · rw [if_neg (by simpa using h), if_neg (by simpa using h2)]; exact h14
def sortLay_Ev_ren : Go.Shelf.Ren := ⟨fun | 6 => 28 | 15 => 48 | 14 => 47 | 28 => 71 | 29 => 72 | 20 => 63 | 21 => 64 | 22 => 65 | 23 => 66 | 24 => 67 | 25 => 68 | 26 => 69 | 27 => 70 | 46 => 80 | 47 => 81 | 48 => 82 | 49 => 83 | 50 => 84 | 57 => 89 | n => n, fun | 22 => 27 | 24 => 33 | 25 => 76 | 3 => 3 | 39 => 97 | 0 => 0 | 53 => 119 | 55 => 121 | 4 => 4 | 46 => 113 | 45 => 112 | 50 => 81 | 5 => 5 | 9 => 9 | 66 => 126 | 70 => 130 | 76 => 136 | 77 => 137 | n => n, fun n => n⟩
theorem sortLay_Ev : SlLaysF0.n6 Try.prog sortLay_Ev_ren where
  mixed := by kernel_rfl
  f6 := ⟨Try.f28.name, by kernel_rfl, Try.func28.trans (congrArg some (by kernel_rfl))⟩
  f14 := ⟨Try.f47.name, by kernel_rfl, Try.func47.trans (congrArg some (by kernel_rfl))⟩
  f15 := Try.func48.trans (congrArg some (by kernel_rfl))
  f20 := ⟨Try.f63.name, by kernel_rfl, Try.func63.trans (congrArg some (by kernel_rfl))⟩
  f21 := ⟨Try.f64.name, by kernel_rfl, Try.func64.trans (congrArg some (by kernel_rfl))⟩
  f22 := ⟨Try.f65.name, by kernel_rfl, Try.func65.trans (congrArg some (by kernel_rfl))⟩
  f23 := ⟨Try.f66.name, by kernel_rfl, Try.func66.trans (congrArg some (by kernel_rfl))⟩
  f24 := ⟨Try.f67.name, by kernel_rfl, Try.func67.trans (congrArg some (by kernel_rfl))⟩
  f25 := ⟨Try.f68.name, by kernel_rfl, Try.func68.trans (congrArg some (by kernel_rfl))⟩
  f26 := ⟨Try.f69.name, by kernel_rfl, Try.func69.trans (congrArg some (by kernel_rfl))⟩
  f27 := ⟨Try.f70.name, by kernel_rfl, Try.func70.trans (congrArg some (by kernel_rfl))⟩
  f28 := Try.func71.trans (congrArg some (by kernel_rfl))
  f29 := Try.func72.trans (congrArg some (by kernel_rfl))
  f46 := ⟨Try.f80.name, by kernel_rfl, Try.func80.trans (congrArg some (by kernel_rfl))⟩
  f47 := Try.func81.trans (congrArg some (by kernel_rfl))
  f48 := Try.func82.trans (congrArg some (by kernel_rfl))
  f49 := ⟨Try.f83.name, by kernel_rfl, Try.func83.trans (congrArg some (by kernel_rfl))⟩
  f50 := ⟨Try.f84.name, by kernel_rfl, Try.func84.trans (congrArg some (by kernel_rfl))⟩
  f57 := ⟨Try.f89.name, by kernel_rfl, Try.func89.trans (congrArg some (by kernel_rfl))⟩
  t0 := Try.underlying0
  a0 := Try.isAgg0
  z0 := Try.sizeOf0
  v0 := Try.zeroValue0
  t3 := Try.underlying3
  a3 := Try.isAgg3
  z3 := Try.sizeOf3
  v3 := Try.zeroValue3
  t4 := Try.underlying4
  a4 := Try.isAgg4
  z4 := Try.sizeOf4
  v4 := Try.zeroValue4
  t5 := Try.underlying5
  a5 := Try.isAgg5
  z5 := Try.sizeOf5
  v5 := Try.zeroValue5
  t9 := Try.underlying9
  a9 := Try.isAgg9
  z9 := Try.sizeOf9
  v9 := Try.zeroValue9
  t22 := Try.underlying27
  a22 := Try.isAgg27
  z22 := Try.sizeOf27
  v22 := Try.zeroValue27
  t25 := Try.underlying76
  a25 := Try.isAgg76
  z25 := Try.sizeOf76
  v25 := Try.zeroValue76
  t39 := Try.underlying97
  a39 := Try.isAgg97
  z39 := Try.sizeOf97
  v39 := Try.zeroValue97
  t45 := Try.underlying112
  a45 := Try.isAgg112
  z45 := Try.sizeOf112
  v45 := Try.zeroValue112
  t46 := Try.underlying113
  a46 := Try.isAgg113
  z46 := Try.sizeOf113
  v46 := Try.zeroValue113
  t50 := Try.underlying81
  a50 := Try.isAgg81
  z50 := Try.sizeOf81
  v50 := Try.zeroValue81
  t53 := Try.underlying119
  a53 := Try.isAgg119
  z53 := Try.sizeOf119
  v53 := Try.zeroValue119
  t55 := Try.underlying121
  a55 := Try.isAgg121
  z55 := Try.sizeOf121
  v55 := Try.zeroValue121
  t66 := Try.underlying126
  a66 := Try.isAgg126
  z66 := Try.sizeOf126
  v66 := Try.zeroValue126
  t70 := Try.underlying130
  a70 := Try.isAgg130
  z70 := Try.sizeOf130
  v70 := Try.zeroValue130
  t76 := Try.underlying136
  a76 := Try.isAgg136
  z76 := Try.sizeOf136
  v76 := Try.zeroValue136
  t77 := Try.underlying137
  a77 := Try.isAgg137
  z77 := Try.sizeOf137
  v77 := Try.zeroValue137
theorem sortL_Ev : SrtL Try.prog sortLay_Ev_ren 3 := ⟨sortLay_Ev, Try.isAgg33, Try.sizeOf33, by kernel_rfl⟩
theorem SortFunc_Ev {H : Heap} {n : Nat} {xs : List Value} {l : List Ev} (hr : Row H xs l) (hl : l.length = n) (hn : n ≤ 140737488355328) :
    ConM Try.prog 28 [.slice none 0 0, .func (.func 29) #[] #[]] 0 33 n xs true H ⟨true, []⟩ (fun ys (H' : Heap) => ∃ m : List Ev, Row H' ys m ∧ m.Perm l ∧ m.Pairwise (fun a b => ¬ evLt b a)) := by
  have h := sort_con sortL_Ev hr hl hn (f := 29) (cap := []) (cf := evCmp) ⟨_, Try.func29, rfl, by kernel_rfl⟩ swo_evCmp
    (fun H' vs us s t _ h1 h2 => by
      obtain ⟨rfl, -, -⟩ := h1
      obtain ⟨rfl, -, -⟩ := h2
      exact tl_order)
  have e : (fun ys (H' : Heap) => ∃ m : List Ev, Row H' ys m ∧ m.Perm l ∧ m.Pairwise (fun a b => ¬ evCmp b a < 0)) = (fun ys (H' : Heap) => ∃ m : List Ev, Row H' ys m ∧ m.Perm l ∧ m.Pairwise (fun a b => ¬ evLt b a)) := by
    funext ys H'
    simp only [evCmp_lt]
  rw [e] at h
  exact h
/- maps with numbers as keys -/
theorem keyEq_int {k k' : IntKind} {a b : Int} : keyEq (.int k a) (.int k' b) = decide (a = b) := rfl
theorem keyEq_of_int {k : IntKind} {a : Int} {v : Value} (h : keyEq (.int k a) v = true) : ∃ k', v = .int k' a := by
  cases v <;> simp_all [keyEq]
theorem mfindI_same {k : IntKind} {a : Int} {x : Value} : ∀ es : List (Value × Value), mfind (mput es (.int k a) x) (.int k a) = some x
  | [] => by simp [mfind, mput, keyEq_int]
  | p :: r => by
    have ih := mfindI_same (k := k) (a := a) (x := x) r
    unfold mfind at ih ⊢
    rw [mput]
    split
    · rw [List.find?_cons, show keyEq (.int k a) (.int k a) = true from decide_eq_true rfl]; rfl
    · rename_i h
      rw [List.find?_cons, show keyEq (.int k a) p.1 = false by simpa using h]
      exact ih
theorem mfindI_ne {k : IntKind} {a b : Int} {x : Value} (hne : b ≠ a) : ∀ es : List (Value × Value), mfind (mput es (.int k a) x) (.int k b) = mfind es (.int k b)
  | [] => by
    have : keyEq (.int k b) (.int k a) = false := decide_eq_false hne
    simp [mfind, mput, this]
  | p :: r => by
    have ih := mfindI_ne (k := k) (x := x) hne r
    unfold mfind at ih ⊢
    rw [mput]
    split
    · rename_i h
      obtain ⟨k', hp⟩ := keyEq_of_int h
      have h1 : keyEq (.int k b) (.int k a) = false := decide_eq_false hne
      have h2 : keyEq (.int k b) (.int k' a) = false := decide_eq_false hne
      rw [List.find?_cons, List.find?_cons, hp]
      simp only [h1, h2]
    · rw [List.find?_cons, List.find?_cons]
      split
      · rfl
      · exact ih
theorem mhas_find {es : List (Value × Value)} {k : Value} : mhas es k = (mfind es k).isSome := by
  unfold mhas mfind
  rw [Option.isSome_map, Bool.eq_iff_iff, List.any_eq_true, List.find?_isSome]
/- the lives of the events -/
structure LvOK (es : List (Value × Value)) (evs : List Ev) : Prop where
  non : ∀ x, mfind es (.int .i64 x) = none ↔ ∀ s ∈ evs, s.fin = false → s.id ≠ x
  val : ∀ s ∈ evs, s.fin = false → mfind es (.int .i64 s.id) = some (.agg #[.int .i64 s.tm, .bool (evs.any fun f => f.fin && decide (f.id = s.id))])
theorem LvOK.perm {es : List (Value × Value)} {a b : List Ev} (h : LvOK es a) (p : b.Perm a) : LvOK es b := by
  refine ⟨fun x => ?_, fun s hs hf => ?_⟩
  · rw [h.non x]
    exact ⟨fun hh s hs => hh s (p.mem_iff.1 hs), fun hh s hs => hh s (p.mem_iff.2 hs)⟩
  · rw [h.val s (p.mem_iff.1 hs) hf]
    have : (b.any fun f => f.fin && decide (f.id = s.id)) = (a.any fun f => f.fin && decide (f.id = s.id)) := by
      rw [Bool.eq_iff_iff, List.any_eq_true, List.any_eq_true]
      exact ⟨fun ⟨f, h1, h2⟩ => ⟨f, p.mem_iff.1 h1, h2⟩, fun ⟨f, h1, h2⟩ => ⟨f, p.mem_iff.2 h1, h2⟩⟩
    rw [this]
/- versions -/
structure Vsn where
  id : Int
  vals : List Val
  vd : Per
  rc : Per
deriving DecidableEq
instance : Rep Vsn where
  sz := 6
  byt := 64
  rel H vs v := ∃ A n c, vs = [.int .i64 v.id, .slice A n c, .int .i64 v.vd.lo, .int .i64 v.vd.hi, .int .i64 v.rc.lo, .int .i64 v.rc.hi] ∧ rng .i64 v.id ∧ Sl H A n c v.vals ∧ rng .i64 v.vd.lo ∧ rng .i64 v.vd.hi ∧ rng .i64 v.rc.lo ∧ rng .i64 v.rc.hi
  mono := fun hle ⟨A, n, c, h1, h2, h3, h4⟩ => ⟨A, n, c, h1, h2, h3.mono hle, h4⟩
  len := fun ⟨A, n, c, h1, _⟩ => by simp [h1]
  pos := by decide
  bpos := by decide
  one := fun ⟨A, n, c, h1, _⟩ => by rw [h1]; simp [Value.oneCell']
/- the events of a version -/
def evOf (v : Vsn) : List Ev := if v.rc.hi < 1099511627776 then [⟨v.rc.lo, v.id, false⟩, ⟨v.rc.hi, v.id, true⟩] else [⟨v.rc.lo, v.id, false⟩]
def okV (v : Vsn) : Bool := decide (1 ≤ v.id) && pOk v.rc
def newGo : List Vsn → List Int → List Ev
  | [], _ => []
  | v :: r, seen => if seen.contains v.id then newGo r seen else (if okV v then evOf v else []) ++ newGo r (seen ++ [v.id])
theorem evOf_id {v : Vsn} {e : Ev} (h : e ∈ evOf v) : e.id = v.id := by
  unfold evOf at h
  split at h <;> simp at h
  · rcases h with rfl | rfl <;> rfl
  · rw [h]
theorem newGo_ids : ∀ (vs : List Vsn) (seen : List Int) (e : Ev), e ∈ newGo vs seen → e.id ∉ seen ∧ 1 ≤ e.id
  | [], _, _, h => by cases h
  | v :: r, seen, e, h => by
    rw [newGo] at h
    split at h
    · exact newGo_ids r seen e h
    · rename_i hn
      rcases List.mem_append.1 h with h | h
      · split at h
        · rename_i hk
          have hi := evOf_id h
          unfold okV at hk
          rw [Bool.and_eq_true, decide_eq_true_eq] at hk
          rw [hi]
          exact ⟨by simpa using hn, hk.1⟩
        · cases h
      · have := newGo_ids r _ e h
        exact ⟨fun hh => this.1 (List.mem_append.2 (.inl hh)), this.2⟩
end Go.Vc
/- Timelines: a new index. -/
namespace Go.Vc
open Go Go.Proofs Go.Shelf
theorem evOf_start (v : Vsn) : (⟨v.rc.lo, v.id, false⟩ : Ev) ∈ evOf v := by unfold evOf; split <;> simp
theorem evOf_start_eq {v : Vsn} {s : Ev} (h : s ∈ evOf v) (hf : s.fin = false) : s = ⟨v.rc.lo, v.id, false⟩ := by
  unfold evOf at h
  split at h <;> simp at h
  · rcases h with rfl | rfl
    · rfl
    · cases hf
  · exact h
theorem evOf_any (v : Vsn) : ((evOf v).any fun f => f.fin && decide (f.id = v.id)) = decide (v.rc.hi < 1099511627776) := by
  unfold evOf
  split <;> rename_i h <;> simp [h]
theorem LvOK.add {es : List (Value × Value)} {L : List Ev} {v : Vsn} (h : LvOK es L) (hn : ∀ e ∈ L, e.id ≠ v.id) : LvOK (mput es (.int .i64 v.id) (.agg #[.int .i64 v.rc.lo, .bool (decide (v.rc.hi < 1099511627776))])) (L ++ evOf v) := by
  refine ⟨fun x => ?_, fun s hs hf => ?_⟩
  · by_cases hx : x = v.id
    · subst hx
      rw [mfindI_same]
      refine ⟨fun hh => (by cases hh), fun hh => ?_⟩
      exact absurd rfl (hh _ (List.mem_append.2 (.inr (evOf_start v))) rfl)
    · rw [mfindI_ne hx, h.non x]
      refine ⟨fun hh s hs hf => ?_, fun hh s hs hf => hh s (List.mem_append.2 (.inl hs)) hf⟩
      rcases List.mem_append.1 hs with hs | hs
      · exact hh s hs hf
      · rw [evOf_id hs]; exact fun e => hx e.symm
  · rw [List.any_append]
    rcases List.mem_append.1 hs with hs | hs
    · rw [mfindI_ne (hn s hs), h.val s hs hf]
      have : ((evOf v).any fun f => f.fin && decide (f.id = s.id)) = false := by
        rw [List.any_eq_false]
        intro f hf2
        rw [evOf_id hf2]
        have := hn s hs
        simp
        exact fun _ e => this e.symm
      rw [this, Bool.or_false]
    · obtain rfl := evOf_start_eq hs hf
      rw [mfindI_same]
      have : (L.any fun f => f.fin && decide (f.id = v.id)) = false := by
        rw [List.any_eq_false]
        intro f hf2
        have := hn f hf2
        simp
        exact fun _ => this
      rw [this, Bool.false_or, evOf_any]
theorem LvOK.nil : LvOK [] [] := ⟨fun x => ⟨fun _ s hs => (by cases hs), fun _ => rfl⟩, fun s hs => (by cases hs)⟩
def SeenOK (es : List (Value × Value)) (seen : List Int) : Prop := ∀ x, mfind es (.int .i64 x) = if seen.contains x then some (.agg ⟨[]⟩) else none
theorem SeenOK.has {es : List (Value × Value)} {seen : List Int} (h : SeenOK es seen) (x : Int) : mhas es (.int .i64 x) = seen.contains x := by
  rw [mhas_find, h x]
  split <;> rename_i hc
  · rw [hc]; rfl
  · simp only [Option.isSome_none]; simpa using hc
theorem SeenOK.lk {es : List (Value × Value)} {seen : List Int} (h : SeenOK es seen) (x : Int) : lkIs es (.int .i64 x) true [] [] := by
  unfold lkIs
  rw [h x]
  split
  · rename_i v hv
    split at hv
    · cases hv; rfl
    · cases hv
  · rfl
theorem SeenOK.put {es : List (Value × Value)} {seen : List Int} (h : SeenOK es seen) (x : Int) : SeenOK (mput es (.int .i64 x) (.agg #[])) (seen ++ [x]) := by
  intro y
  by_cases hy : y = x
  · subst hy
    rw [mfindI_same, if_pos (by simp)]
  · rw [mfindI_ne hy, h y]
    by_cases hc : seen.contains y = true
    · rw [if_pos hc, if_pos (by simp at hc ⊢; exact .inl hc)]
    · rw [if_neg hc, if_neg (by simp at hc ⊢; exact ⟨hc, hy⟩)]
theorem notLt_tm {a b : Ev} (h : ¬ evLt b a) : a.tm ≤ b.tm := by
  rcases Int.lt_or_le b.tm a.tm with h1 | h1
  · exact absurd (.inl h1) h
  · exact h1
/- what a new index holds -/
def NewIx (vs : List Vsn) (iv : Int) (n0 : Int) (n1 : Nat) (xs1 : List Value) (A2 : Option Nat) (n3 : Nat) (xs3 : List Value) (n4 : Int) (H' : Heap) (O' : OMap) : Prop :=
  n0 = max iv 1 ∧ n4 = 0 ∧ ∃ evs : List Ev, IxOK H' n0 n1 xs1 n3 xs3 n4 evs ∧ evs.Perm (newGo vs []) ∧ (evs.Pairwise fun a b => ¬ evLt b a) ∧ ∃ es, hasM O' A2 65 es ∧ LvOK es evs
def an11 : Ann where
  res := fun _ => none
  lend := fun | 42 => true | _ => false
  mt := fun | 28 => some true | _ => none
  sch := fun | 11 => (tk [0, 1, 2, 3, 4, 5, 6, 7, 8, 9, 10] (.alt 11 .done .fin)) | 12 => (tk [0, 1, 2, 3, 4, 5, 6, 7, 8, 9, 10] (.alt 11 (.alt 12 (tk [13, 14] (.alt 15 .done .fin)) .fin) .fin)) | 14 => (tk [0, 1, 2, 3, 4, 5, 6, 7, 8, 9, 10] (.alt 11 (.alt 12 (tk [13, 14] (.alt 15 .done .fin)) .fin) .fin)) | _ => .done
  opn := true
  bx := fun | some 98, 30 => some [.int .i64, .row 100 33, .mp, .row 101 44, .int .i64] | _, _ => none
  lt := fun | 4 => [.slot 20 false [.int .i64], .box 16 68 [.int .i64, .row 102 33, .mp, .row 103 44, .int .i64]] | _ => []
  tup := tups

theorem vc11 (P : Program) (H : Heap) (versionsA : Option Addr) (versionsN versionsC : Nat) (p1 : Int) (bi1 : Nat) (bi3 : Nat) (O : OMap) (post : Int → Nat → List Value → Option Nat → Nat → List Value → Int → Heap → OMap → Prop) :
  vcFnN P tab an11 Try.f11 [.slice versionsA versionsN versionsC, .int .i64 p1] 68 4 H O [.int .i64, .row bi1 33, .mp, .row bi3 44, .int .i64] post =
  (  ∀ (b0 : Nat) (O1 : Nat → Option XO), newM O O1 b0 65 → ∀ (b3 : Nat) (O4 : Nat → Option XO), newM O1 O4 b3 69 → ∃ (inv6 : Int → Int → Nat → List Value → Option Nat → Nat → List Value → Int →
  Heap → OMap → Prop), ∃ (m7 : Int → Int → Nat → List Value → Option Nat → Nat → List Value → Int → Nat), inv6 (0 : Int) (max p1 (1 : Int)) 0 [] (some b0) 0 [] (0 : Int) H O4 ∧ ∀ (H8 : Heap),
  Heap.le H H8 → ∀ (O10 : Nat → Option XO) (n11 n12 : Int) (n13 : Nat) (xs14 : List Value) (A15 : Option Nat) (n16 : Nat) (xs17 : List Value) (n18 : Int), inv6 n11 n12 n13 xs14 A15 n16 xs17
  n18 H8 O10 → (decide (n11 < (↑versionsN : Int)) = true → someA versionsA ∧ (0 : Int) ≤ n11 ∧ n11 < (↑versionsN : Int) ∧ ∃ (n21 : Int), ∃ (A22 : Option Addr), ∃ (n23 : Nat), ∃ (c24 : Nat), ∃
  (n25 : Int), ∃ (n26 : Int), ∃ (n27 : Int), ∃ (n28 : Int), Cells H8 versionsA (Int.toNat n11 * 6) [.int .i64 n21, .slice A22 n23 c24, .int .i64 n25, .int .i64 n26, .int .i64 n27, .int .i64
  n28] ∧ ∃ (es29 : List (Value × Value)), isMap O10 (some b3) 69 es29 ∧ lkIs es29 (.int .i64 n21) true [] [] ∧ (mhas es29 (.int .i64 n21) = true → rng .i64 (n11 + (1 : Int)) ∧ inv6 (n11 + (1
  : Int)) n12 n13 xs14 A15 n16 xs17 n18 H8 O10 ∧ m7 (n11 + (1 : Int)) n12 n13 xs14 A15 n16 xs17 n18 < m7 n11 n12 n13 xs14 A15 n16 xs17 n18) ∧ (mhas es29 (.int .i64 n21) = false → ∃ (es32 :
  List (Value × Value)), hasM O10 (some b3) 69 es32 ∧ ∀ (O33 : Nat → Option XO), putM O10 O33 (some b3) 69 (mput es32 (.int .i64 n21) (.agg ⟨[]⟩)) → (decide (n21 < (1 : Int)) = true → rng
  .i64 (n11 + (1 : Int)) ∧ inv6 (n11 + (1 : Int)) n12 n13 xs14 A15 n16 xs17 n18 H8 O33 ∧ m7 (n11 + (1 : Int)) n12 n13 xs14 A15 n16 xs17 n18 < m7 n11 n12 n13 xs14 A15 n16 xs17 n18) ∧ (decide
  (n21 < (1 : Int)) = false → ∃ (post37 : Bool → Heap → Prop), ConT P 27 [.agg ⟨[.int .i64 n27, .int .i64 n28]⟩] H8 ⟨false, [(false, [.bool])]⟩ post37 ∧ ∀ (H38 : Heap), Heap.le H8 H38 → ∀
  (b40 : Bool), post37 b40 H38 → ((!b40) = true → rng .i64 (n11 + (1 : Int)) ∧ inv6 (n11 + (1 : Int)) n12 n13 xs14 A15 n16 xs17 n18 H38 O33 ∧ m7 (n11 + (1 : Int)) n12 n13 xs14 A15 n16 xs17
  n18 < m7 n11 n12 n13 xs14 A15 n16 xs17 n18) ∧ ((!b40) = false → ∃ (es44 : List (Value × Value)), hasM O33 A15 65 es44 ∧ ∀ (O45 : Nat → Option XO), putM O33 O45 A15 65 (mput es44 (.int .i64
  n21) (.agg ⟨[.int .i64 n27, .bool (decide (n28 < (1099511627776 : Int)))]⟩)) → (n13 + 1) * 24 ≤ 140737488355328 ∧ (decide (n28 < (1099511627776 : Int)) = true → (n13 + 1 + 1) * 24 ≤
  140737488355328 ∧ rng .i64 (n11 + (1 : Int)) ∧ inv6 (n11 + (1 : Int)) n12 (n13 + 1 + 1) (xs14 ++ [.int .i64 n27, .int .i64 n21, .bool false] ++ [.int .i64 n28, .int .i64 n21, .bool true])
  A15 n16 xs17 n18 H38 O45 ∧ m7 (n11 + (1 : Int)) n12 (n13 + 1 + 1) (xs14 ++ [.int .i64 n27, .int .i64 n21, .bool false] ++ [.int .i64 n28, .int .i64 n21, .bool true]) A15 n16 xs17 n18 < m7
  n11 n12 n13 xs14 A15 n16 xs17 n18) ∧ (decide (n28 < (1099511627776 : Int)) = false → rng .i64 (n11 + (1 : Int)) ∧ inv6 (n11 + (1 : Int)) n12 (n13 + 1) (xs14 ++ [.int .i64 n27, .int .i64
  n21, .bool false]) A15 n16 xs17 n18 H38 O45 ∧ m7 (n11 + (1 : Int)) n12 (n13 + 1) (xs14 ++ [.int .i64 n27, .int .i64 n21, .bool false]) A15 n16 xs17 n18 < m7 n11 n12 n13 xs14 A15 n16 xs17
  n18))))) ∧ (decide (n11 < (↑versionsN : Int)) = false → ∃ (post50 : List Value → Heap → Prop), ConM P 28 [.slice none 0 0, .func (.func 29) ⟨[]⟩ ⟨[]⟩] 0 33 n13 xs14 true H8 ⟨true, []⟩
  post50 ∧ ∀ (H51 : Heap), Heap.le H8 H51 → ∀ (ys53 : List Value), post50 ys53 H51 → ∃ (post55 : Int → Nat → List Value → Option Nat → Nat → List Value → Int → Heap → (Nat → Option XO) →
  Prop), ConB P 30 [BA.me, BA.v (.int .i64 (0 : Int))] 68 [BC.v (.int .i64 n12), BC.row 33 n13 ys53, BC.v (Value.map A15), BC.row 44 n16 xs17, BC.v (.int .i64 n18)] H51 O10 [.int .i64, .row
  100 33, .mp, .row 101 44, .int .i64] ⟨true, []⟩ post55 ∧ ∀ (H56 : Heap), Heap.le H51 H56 → ∀ (O58 : Nat → Option XO) (n59 : Int) (n60 : Nat) (xs61 : List Value) (A62 : Option Nat) (n63 :
  Nat) (xs64 : List Value) (n65 : Int), post55 n59 n60 xs61 A62 n63 xs64 n65 H56 O58 → post n59 n60 xs61 A62 n63 xs64 n65 H56 O58)) := by kernel_rfl
set_option maxHeartbeats 2000000 in
theorem tl_New {H : Heap} {O : OMap} {A : Option Addr} {n c : Nat} {vs : List Vsn} {iv : Int} {bi1 bi3 : Nat} (hs : Sl H A n c vs) (hi : rng .i64 iv) (hn : n ≤ 100) :
    ConN Try.prog 11 [.slice A n c, .int .i64 iv] 68 H O (ixL bi1 bi3) (NewIx vs iv) := by
  refine conN_of_vc (an := an11) (fn := Try.f11) mix tabOK Try.func11 (by kernel_rfl) (extra := 4) ?_
  rw [vc11]
  have hl := hs.len
  obtain ⟨v, hv⟩ : ∃ v : Nat, max iv 1 = (v : Int) := ⟨(max iv 1).toNat, by omega⟩
  have hv1 : 1 ≤ v := by omega
  have hvr : rng .i64 (v : Int) := by simp only [rng] at hi ⊢; omega
  rw [hv]
  rintro b0 O1 ⟨p1, p2, p3⟩ b3 O4 ⟨q1, q2, q3⟩
  have hne : b3 ≠ b0 := by rintro rfl; rw [p2] at q1; cases q1
  refine ⟨fun i w k xs A' m zs e H' O' => w = v ∧ A' = some b0 ∧ m = 0 ∧ zs = [] ∧ e = 0 ∧ 0 ≤ i ∧ i ≤ n ∧ ∃ (L : List Ev) (seen : List Int) (es es2 : List (Value × Value)), k = L.length ∧ Row H' xs L ∧ O' b0 = some (.mp 65 es2) ∧ O' b3 = some (.mp 69 es) ∧
      SeenOK es seen ∧ LvOK es2 L ∧ L ++ newGo (vs.drop i.toNat) seen = newGo vs [] ∧ (∀ e ∈ L, e.id ∈ seen) ∧ L.length ≤ 2 * i.toNat, fun i _ _ _ _ _ _ _ => n - i.toNat,
    ⟨rfl, rfl, rfl, rfl, rfl, by omega, by omega, [], [], [], [], rfl, rfl, by rw [q3 b0 (Ne.symm hne)]; exact p2, q2, fun x => rfl, LvOK.nil, by simp, fun e he => (by cases he), by simp⟩, ?_⟩
  rintro H8 l8 O10 i w k xs A' m zs e ⟨rfl, rfl, rfl, rfl, rfl, i0, i1, L, seen, es, es2, rfl, hr, ho0, ho3, hse, hlv, heq, hid, hlb⟩
  refine ⟨fun hlt => ?_, fun hge => ?_⟩
  · have hlt := of_decide_eq_true hlt
    obtain ⟨hi', hA, _, hc, ⟨A2, n2, c2, rfl, r1, -, r3, r4, r5, r6⟩⟩ := hs.at l8 i0 hlt
    rw [List.drop_eq_getElem_cons hi', newGo, show i.toNat + 1 = (i + 1).toNat by omega] at heq
    generalize vs[i.toNat] = x at *
    refine ⟨hA, i0, hlt, _, _, _, _, _, _, _, _, hc, es, .inr ⟨b3, rfl, ho3⟩, hse.lk _, fun hh => ?_, fun hh => ?_⟩
    · rw [hse.has] at hh
      rw [if_pos hh] at heq
      exact ⟨by simp only [rng]; omega, ⟨rfl, rfl, rfl, rfl, rfl, by omega, by omega, L, seen, es, es2, rfl, hr, ho0, ho3, hse, hlv, heq, hid, by omega⟩, by dsimp only; omega⟩
    · rw [hse.has] at hh
      rw [if_neg (by rw [hh]; simp)] at heq
      refine ⟨es, ⟨b3, rfl, ho3⟩, ?_⟩
      rintro O33 ⟨_, e33, k1, k2⟩
      cases e33
      have ho0' : O33 b0 = some (.mp 65 es2) := by rw [k2 b0 (Ne.symm hne)]; exact ho0
      have hse' := hse.put x.id
      have hid' : ∀ e ∈ L, e.id ∈ seen ++ [x.id] := fun e he => List.mem_append.2 (.inl (hid e he))
      refine ⟨fun h1 => ?_, fun h1 => ⟨_, period_Valid (a := x.rc.lo) (b := x.rc.hi), ?_⟩⟩
      · have h1 := of_decide_eq_true h1
        have hk : okV x = false := by unfold okV; rw [show decide (1 ≤ x.id) = false from decide_eq_false (by omega)]; rfl
        rw [hk, if_neg (by simp), List.nil_append] at heq
        exact ⟨by simp only [rng]; omega, ⟨rfl, rfl, rfl, rfl, rfl, by omega, by omega, L, _, _, es2, rfl, hr, ho0', k1, hse', hlv, heq, hid', by omega⟩, by dsimp only; omega⟩
      · rintro H38 l38 _ rfl
        have h1 := of_decide_eq_false h1
        refine ⟨fun h2 => ?_, fun h2 => ⟨es2, ⟨b0, rfl, ho0'⟩, ?_⟩⟩
        · have h2 : pOk x.rc = false := by simpa using h2
          have hk : okV x = false := by unfold okV; rw [h2, Bool.and_false]
          rw [hk, if_neg (by simp), List.nil_append] at heq
          exact ⟨by simp only [rng]; omega, ⟨rfl, rfl, rfl, rfl, rfl, by omega, by omega, L, _, _, es2, rfl, hr.mono l38, ho0', k1, hse', hlv, heq, hid', by omega⟩, by dsimp only; omega⟩
        · have h2 : pOk x.rc = true := by simpa using h2
          rintro O45 ⟨_, e45, j1, j2⟩
          cases e45
          have hk : okV x = true := by unfold okV; rw [h2, show decide (1 ≤ x.id) = true from decide_eq_true (by omega)]; rfl
          rw [hk, if_pos rfl, ← List.append_assoc] at heq
          have hns : x.id ∉ seen := by simpa using hh
          have hlv' := hlv.add (v := x) (fun e he hx => hns (hx ▸ hid e he))
          have ho3' := k1
          rw [← j2 b3 hne] at ho3'
          have hid2 : ∀ e ∈ L ++ evOf x, e.id ∈ seen ++ [x.id] := fun e he => by
            rcases List.mem_append.1 he with he | he
            · exact hid' e he
            · rw [evOf_id he]; simp
          have hs1 : Row H38 [.int .i64 x.rc.lo, .int .i64 x.id, .bool false] [(⟨x.rc.lo, x.id, false⟩ : Ev)] := Row.one ⟨rfl, r5, r1⟩
          have hs2 : Row H38 [.int .i64 x.rc.hi, .int .i64 x.id, .bool true] [(⟨x.rc.hi, x.id, true⟩ : Ev)] := Row.one ⟨rfl, r6, r1⟩
          refine ⟨by omega, fun h3 => ?_, fun h3 => ?_⟩
          · have he : evOf x = [⟨x.rc.lo, x.id, false⟩] ++ [⟨x.rc.hi, x.id, true⟩] := by unfold evOf; rw [if_pos (of_decide_eq_true h3)]; rfl
            rw [he, ← List.append_assoc] at heq hid2 hlv'
            exact ⟨by omega, by simp only [rng]; omega, ⟨rfl, rfl, rfl, rfl, rfl, by omega, by omega, L ++ [⟨x.rc.lo, x.id, false⟩] ++ [⟨x.rc.hi, x.id, true⟩], _, _, _, by simp, ((hr.mono l38).append hs1).append hs2, j1, ho3', hse', hlv', heq, hid2, by simp; omega⟩, by dsimp only; omega⟩
          · have he : evOf x = [⟨x.rc.lo, x.id, false⟩] := by unfold evOf; rw [if_neg (of_decide_eq_false h3)]
            rw [he] at heq hid2 hlv'
            exact ⟨by simp only [rng]; omega, ⟨rfl, rfl, rfl, rfl, rfl, by omega, by omega, L ++ [⟨x.rc.lo, x.id, false⟩], _, _, _, by simp, (hr.mono l38).append hs1, j1, ho3', hse', hlv', heq, hid2, by simp; omega⟩, by dsimp only; omega⟩
  · have hge := of_decide_eq_false hge
    rw [List.drop_eq_nil_of_le (by omega), newGo, List.append_nil] at heq
    refine ⟨_, SortFunc_Ev hr rfl (by omega), ?_⟩
    rintro H51 l51 ys53 ⟨m, hm, hp, hsd⟩
    have hml := hp.length_eq
    refine ⟨_, tl_build (f := 0) (cps := []) hv1 hvr hm hml (by omega) rfl rfl (fun k hk => (by cases hk)) (by omega) (by omega), ?_⟩
    rintro H56 l56 O58 n59 n60 xs61 A62 n63 xs64 n65 ⟨rfl, rfl, rfl, rfl, rfl, rfl, cps, hcr, hcl, hck⟩
    refine ⟨hv.symm, rfl, m, ⟨⟨by omega, hvr⟩, hm.mono l56, hml, by omega, ⟨cps, hcr, hcl, by simpa using hck⟩, hsd.imp fun h => notLt_tm h, by decide⟩, by rw [← heq]; exact hp, hsd, es2, ⟨b0, rfl, ho0⟩, hlv.perm hp⟩
end Go.Vc
/- Timelines: proper events; Count. -/
namespace Go.Vc
open Go Go.Proofs Go.Shelf
/- proper events: one start and one end per ID at most, every end behind its start -/
structure WfE (evs : List Ev) : Prop where
  srt : evs.Pairwise fun a b => a.tm ≤ b.tm
  uniq : evs.Pairwise fun a b => a.id = b.id → a.fin ≠ b.fin
  par : ∀ f ∈ evs, f.fin = true → ∃ s ∈ evs, s.fin = false ∧ s.id = f.id ∧ s.tm < f.tm
theorem WfE.same {evs : List Ev} (h : WfE evs) {i j : Nat} (hi : i < evs.length) (hj : j < evs.length) (e1 : evs[i].id = evs[j].id) (e2 : evs[i].fin = evs[j].fin) : i = j := by
  rcases Nat.lt_trichotomy i j with h1 | h1 | h1
  · exact absurd e2 (List.pairwise_iff_getElem.1 h.uniq i j hi hj h1 e1)
  · exact h1
  · exact absurd e2.symm (List.pairwise_iff_getElem.1 h.uniq j i hj hi h1 e1.symm)
theorem WfE.le {evs : List Ev} (h : WfE evs) {i j : Nat} (hi : i < evs.length) (hj : j < evs.length) (hij : i ≤ j) : evs[i].tm ≤ evs[j].tm := by
  rcases Nat.eq_or_lt_of_le hij with rfl | h1
  · exact Int.le_refl _
  · exact List.pairwise_iff_getElem.1 h.srt i j hi hj h1
theorem mem_take {evs : List Ev} {j : Nat} {e : Ev} : e ∈ evs.take j ↔ ∃ i, ∃ h : i < evs.length, i < j ∧ evs[i] = e := by
  constructor
  · intro h
    obtain ⟨i, hi, e1⟩ := List.getElem_of_mem h
    rw [List.length_take] at hi
    exact ⟨i, by omega, by omega, by rw [← e1, List.getElem_take]⟩
  · rintro ⟨i, hi, hij, rfl⟩
    have : i < (evs.take j).length := by rw [List.length_take]; omega
    have h2 := List.getElem_mem this
    rwa [List.getElem_take] at h2
theorem stF_mem {evs : List Ev} (h : WfE evs) {x : Int} : ∀ {j : Nat}, j ≤ evs.length → (x ∈ stF (evs.take j) ↔ (∃ s ∈ evs.take j, s.fin = false ∧ s.id = x) ∧ ¬ ∃ f ∈ evs.take j, f.fin = true ∧ f.id = x)
  | 0, _ => by simp [stF]
  | j + 1, hj => by
    have ih := stF_mem h (x := x) (j := j) (by omega)
    have hjl : j < evs.length := by omega
    have hmem : ∀ e, e ∈ evs.take (j + 1) ↔ e ∈ evs.take j ∨ e = evs[j] := fun e => by
      rw [List.take_add_one, List.getElem?_eq_getElem hjl, Option.toList_some, List.mem_append, List.mem_singleton]
    rw [stF_take hjl, stepL_mem]
    cases hf : evs[j].fin with
    | true =>
      rw [if_pos rfl, ih]
      constructor
      · rintro ⟨⟨⟨s, h1, h2, h3⟩, h4⟩, h5⟩
        refine ⟨⟨s, (hmem s).2 (.inl h1), h2, h3⟩, ?_⟩
        rintro ⟨f, k1, k2, k3⟩
        rcases (hmem f).1 k1 with k1 | rfl
        · exact h4 ⟨f, k1, k2, k3⟩
        · exact h5 k3.symm
      · rintro ⟨⟨s, h1, h2, h3⟩, h4⟩
        refine ⟨⟨?_, fun ⟨f, k1, k2, k3⟩ => h4 ⟨f, (hmem f).2 (.inl k1), k2, k3⟩⟩, fun hx => h4 ⟨evs[j], (hmem _).2 (.inr rfl), hf, hx.symm⟩⟩
        rcases (hmem s).1 h1 with h1 | rfl
        · exact ⟨s, h1, h2, h3⟩
        · rw [hf] at h2; cases h2
    | false =>
      rw [if_neg (by simp), ih]
      constructor
      · rintro (⟨⟨s, h1, h2, h3⟩, h4⟩ | rfl)
        · refine ⟨⟨s, (hmem s).2 (.inl h1), h2, h3⟩, ?_⟩
          rintro ⟨f, k1, k2, k3⟩
          rcases (hmem f).1 k1 with k1 | rfl
          · exact h4 ⟨f, k1, k2, k3⟩
          · rw [hf] at k2; cases k2
        · refine ⟨⟨evs[j], (hmem _).2 (.inr rfl), hf, rfl⟩, ?_⟩
          rintro ⟨f, k1, k2, k3⟩
          rcases (hmem f).1 k1 with k1 | rfl
          · obtain ⟨i, hi, hij, rfl⟩ := mem_take.1 k1
            obtain ⟨s, s1, s2, s3, s4⟩ := h.par _ (List.getElem_mem hi) k2
            obtain ⟨p, hp, rfl⟩ := List.getElem_of_mem s1
            have := h.same hp hjl (s3.trans k3) (s2.trans hf.symm)
            subst this
            have := h.le hi hp (by omega)
            omega
          · rw [hf] at k2; cases k2
      · rintro ⟨⟨s, h1, h2, h3⟩, h4⟩
        rcases (hmem s).1 h1 with h1 | rfl
        · exact .inl ⟨⟨s, h1, h2, h3⟩, fun ⟨f, k1, k2, k3⟩ => h4 ⟨f, (hmem f).2 (.inl k1), k2, k3⟩⟩
        · exact .inr h3.symm
theorem stepL_end {l : List Int} {e : Ev} (hs : SS l) (hf : e.fin = true) (hm : e.id ∈ l) : (stepL l e).length + 1 = l.length := by
  unfold stepL
  rw [if_pos hf]
  have hnd : l.Nodup := hs.imp fun h => by omega
  have h1 := hnd.erase_eq_filter e.id
  have h2 := List.length_erase_of_mem hm
  have h3 : (l.filter fun x => decide (x ≠ e.id)) = l.filter (· != e.id) := by
    congr 1
    funext x
    by_cases hx : x = e.id <;> simp [hx]
  have h4 : 0 < l.length := List.length_pos_of_mem hm
  rw [h3, ← h1, h2]; omega
theorem stepL_start {l : List Int} {e : Ev} (hf : e.fin = false) (hm : e.id ∉ l) : (stepL l e).length = l.length + 1 := by
  unfold stepL
  rw [hf, if_neg (by simp), List.length_append, List.length_cons]
  have : ∀ l : List Int, e.id ∉ l → (l.filter (fun x => decide (x < e.id))).length + (l.filter (fun x => decide (e.id < x))).length = l.length := by
    intro l
    induction l with
    | nil => simp
    | cons a r ih =>
      intro hn
      have h1 := ih (fun hh => hn (List.mem_cons_of_mem _ hh))
      have h2 : e.id ≠ a := fun hh => hn (by rw [hh]; exact List.mem_cons_self ..)
      simp only [List.filter_cons, List.length_cons]
      rcases Int.lt_or_gt_of_ne h2 with h3 | h3
      · rw [if_neg (by simp; omega), if_pos (by simpa using h3), List.length_cons]; omega
      · rw [if_pos (by simpa using h3), if_neg (by simp; omega), List.length_cons]; omega
  have := this l hm
  omega
theorem WfE.step {evs : List Ev} (h : WfE evs) {j : Nat} (hj : j < evs.length) : ((stF (evs.take (j + 1))).length : Int) = (stF (evs.take j)).length + (if evs[j].fin then -1 else 1) := by
  rw [stF_take hj]
  cases hf : evs[j].fin with
  | true =>
    have hm : evs[j].id ∈ stF (evs.take j) := by
      refine (stF_mem h (by omega)).2 ⟨?_, ?_⟩
      · obtain ⟨s, s1, s2, s3, s4⟩ := h.par _ (List.getElem_mem hj) hf
        obtain ⟨p, hp, rfl⟩ := List.getElem_of_mem s1
        refine ⟨_, mem_take.2 ⟨p, hp, ?_, rfl⟩, s2, s3⟩
        rcases Nat.lt_or_ge p j with h1 | h1
        · exact h1
        · have := h.le hj hp h1
          omega
      · rintro ⟨f, k1, k2, k3⟩
        obtain ⟨i, hi, hij, rfl⟩ := mem_take.1 k1
        have := h.same hi hj k3 (k2.trans hf.symm)
        omega
    have := stepL_end (stF_sorted (evs.take j)) hf hm
    rw [if_pos rfl]
    omega
  | false =>
    have hm : evs[j].id ∉ stF (evs.take j) := by
      intro hh
      obtain ⟨⟨s, h1, h2, h3⟩, -⟩ := (stF_mem h (by omega)).1 hh
      obtain ⟨i, hi, hij, rfl⟩ := mem_take.1 h1
      have := h.same hi hj h3 (h2.trans hf.symm)
      omega
    have := stepL_start hf hm
    rw [if_neg (by simp)]
    omega
theorem uniq_perm {a b : List Ev} (h : a.Pairwise fun a b : Ev => a.id = b.id → a.fin ≠ b.fin) (p : b.Perm a) : b.Pairwise fun a b : Ev => a.id = b.id → a.fin ≠ b.fin :=
  (p.pairwise_iff (fun h e => fun e2 => h e.symm e2.symm)).2 h
theorem newGo_uniq : ∀ (vs : List Vsn) (seen : List Int), (newGo vs seen).Pairwise fun a b : Ev => a.id = b.id → a.fin ≠ b.fin
  | [], _ => List.Pairwise.nil
  | v :: r, seen => by
    rw [newGo]
    split
    · exact newGo_uniq r seen
    · refine List.pairwise_append.2 ⟨?_, newGo_uniq r _, fun a ha b hb e => ?_⟩
      · split
        · unfold evOf
          split
          · simp
          · simp
        · exact List.Pairwise.nil
      · have h1 := (newGo_ids r _ b hb).1
        split at ha
        · rw [evOf_id ha] at e
          exact absurd (by rw [← e]; simp) h1
        · cases ha
theorem newGo_par : ∀ (vs : List Vsn) (seen : List Int), ∀ f ∈ newGo vs seen, f.fin = true → ∃ s ∈ newGo vs seen, s.fin = false ∧ s.id = f.id ∧ s.tm < f.tm
  | [], _, f, h, _ => by cases h
  | v :: r, seen, f, h, hf => by
    rw [newGo] at h ⊢
    split at h
    · rename_i hc
      rw [if_pos hc]
      exact newGo_par r seen f h hf
    · rename_i hc
      rw [if_neg hc]
      rcases List.mem_append.1 h with h | h
      · split at h
        · rename_i hk
          rw [if_pos hk]
          refine ⟨⟨v.rc.lo, v.id, false⟩, List.mem_append.2 (.inl (evOf_start v)), rfl, (evOf_id h).symm, ?_⟩
          unfold okV at hk
          rw [Bool.and_eq_true] at hk
          have hp := (pOk_iff.1 hk.2)
          unfold evOf at h
          split at h <;> simp at h
          · rcases h with rfl | rfl
            · cases hf
            · show v.rc.lo < v.rc.hi
              omega
          · rw [h] at hf; cases hf
        · cases h
      · obtain ⟨s, s1, s2⟩ := newGo_par r _ f h hf
        exact ⟨s, List.mem_append.2 (.inr s1), s2⟩
theorem new_wf {evs : List Ev} {vs : List Vsn} (p : evs.Perm (newGo vs [])) (hs : evs.Pairwise fun a b => ¬ evLt b a) : WfE evs :=
  ⟨hs.imp fun h => notLt_tm h, uniq_perm (newGo_uniq vs []) p, fun f hf h => by
    obtain ⟨s, s1, s2⟩ := newGo_par vs [] f (p.mem_iff.1 hf) h
    exact ⟨s, p.mem_iff.2 s1, s2⟩⟩
section
variable {H : Heap} {O : OMap} {q0 t t2 q4 : Int} {q1N q3N bi1 bi3 : Nat} {q1Xs q3Xs : List Value} {q2 : Option Nat} {evs : List Ev}
def an24 : Ann where
  res := fun _ => none
  lend := fun | 14 => true | _ => false
  sch := fun | 6 => (tk [0, 1, 2, 3, 4, 5, 6, 7, 8, 9, 10, 13] (.alt 11 (.alt 12 .done .fin) .fin)) | _ => .done
  opn := true
  bx := fun | some 14, 43 => some [.int .i64, .row 65 33, .mp, .row 66 44, .int .i64] | _, _ => none
  lt := fun | 7 => [.slot 7 false [.int .i64], .slot 42 false [.int .i64]] | _ => []
  tup := tups

theorem vc24 (P : Program) (H : Heap) (p1 : Int) (q0 : Int) (q1N : Nat) (q1Xs : List Value) (bi1 : Nat) (q2 : Option Nat) (q3N : Nat) (q3Xs : List Value) (bi3 : Nat) (q4 : Int) (O : OMap) (post : Int → Nat → List Value → Option Nat → Nat → List Value → Int → Int → Heap → OMap → Prop) :
  vcFnB P tab an24 Try.f24 [BA.me, BA.v (.int .i64 p1)] 0 68 [BC.v (.int .i64 q0), BC.row 33 q1N q1Xs, BC.v (.map q2), BC.row 44 q3N q3Xs, BC.v (.int .i64 q4)] 2 H O [.int .i64, .row bi1 33, .mp, .row bi3 44, .int .i64] ⟨false, [(false, [.int .i64])]⟩ post =
  (  ∀ (a0 : Nat), (false = true → a0 = a0 ∧ post q0 q1N q1Xs q2 q3N q3Xs q4 (0 : Int) H O) ∧ (false = false → ∃ (post3 : Int → Nat → List Value → Option Nat → Nat → List Value → Int → Int → Heap → (Nat
  → Option XO) → Prop), ConB P 43 [BA.me, BA.v (.int .i64 p1)] 68 [BC.v (.int .i64 q0), BC.row 33 q1N q1Xs, BC.v (Value.map q2), BC.row 44 q3N q3Xs, BC.v (.int .i64 q4)] H O [.int .i64, .row
  65 33, .mp, .row 66 44, .int .i64] ⟨false, [(false, [.int .i64])]⟩ post3 ∧ ∀ (H4 : Heap), Heap.le H H4 → ∀ (O6 : Nat → Option XO) (n7 : Int) (n8 : Nat) (xs9 : List Value) (A10 : Option Nat)
  (n11 : Nat) (xs12 : List Value) (n13 n14 : Int), post3 n7 n8 xs9 A10 n11 xs12 n13 n14 H4 O6 → n7 ≠ (0 : Int) ∧ rng .i64 (Int.tdiv n14 n7) ∧ (0 : Int) ≤ Int.tdiv n14 n7 ∧ Int.tdiv n14 n7 <
  (↑n11 : Int) ∧ ∃ (A16 : Option Addr), ∃ (n17 : Nat), ∃ (c18 : Nat), win xs12 (Int.toNat (Int.tdiv n14 n7) * 1) 1 = [.slice A16 n17 c18] ∧ rng .i64 (Int.tdiv n14 n7 * n7) ∧ (0 : Int) ≤
  Int.tdiv n14 n7 * n7 ∧ Int.tdiv n14 n7 * n7 ≤ n14 ∧ n14 ≤ (↑n8 : Int) ∧ ∃ (inv19 : Int → Int → Heap → OMap → Prop), ∃ (m20 : Int → Int → Nat), inv19 (↑n17 : Int) (0 : Int) H4 O6 ∧ ∀ (H21 :
  Heap), Heap.le H4 H21 → ∀ (O23 : Nat → Option XO) (n24 n25 : Int), inv19 n24 n25 H21 O23 → (decide (n25 < (↑(Int.toNat n14 - Int.toNat (Int.tdiv n14 n7 * n7)) : Int)) = true → (0 : Int) ≤
  n25 ∧ n25 < (↑(Int.toNat n14 - Int.toNat (Int.tdiv n14 n7 * n7)) : Int) ∧ ∃ (n28 : Int), ∃ (n29 : Int), ∃ (b30 : Bool), win xs9 (Int.toNat ((↑(Int.toNat (Int.tdiv n14 n7 * n7)) : Int) +
  n25) * 3) 3 = [.int .i64 n28, .int .i64 n29, .bool b30] ∧ (b30 = true → rng .i64 (n24 - (1 : Int)) ∧ rng .i64 (n25 + (1 : Int)) ∧ inv19 (n24 - (1 : Int)) (n25 + (1 : Int)) H21 O23 ∧ m20
  (n24 - (1 : Int)) (n25 + (1 : Int)) < m20 n24 n25) ∧ (b30 = false → rng .i64 (n24 + (1 : Int)) ∧ rng .i64 (n25 + (1 : Int)) ∧ inv19 (n24 + (1 : Int)) (n25 + (1 : Int)) H21 O23 ∧ m20 (n24 +
  (1 : Int)) (n25 + (1 : Int)) < m20 n24 n25)) ∧ (decide (n25 < (↑(Int.toNat n14 - Int.toNat (Int.tdiv n14 n7 * n7)) : Int)) = false → rng .i64 (Int.tdiv n14 n7 * n7) ∧ rng .i64 (n14 -
  Int.tdiv n14 n7 * n7) ∧ a0 = a0 ∧ post n7 n8 xs9 A10 n11 xs12 (n14 - Int.tdiv n14 n7 * n7) n24 H21 O23))) := by kernel_rfl
set_option maxHeartbeats 1000000 in
theorem tl_Count (h : IxOK H q0 q1N q1Xs q3N q3Xs q4 evs) (hwf : WfE evs) :
    ConB Try.prog 24 [.me, .v (.int .i64 t)] 68 (ixC q0 q1N q1Xs q2 q3N q3Xs q4) H O (ixL bi1 bi3) shI
      (fun n0 n1 xs1 A2 n3 xs3 n4 r H' O' => SameIx q0 q1N q1Xs q2 q3N q3Xs O n0 n1 xs1 A2 n3 xs3 O' ∧ n4 = ((ncur evs t - ncur evs t / q0.toNat * q0.toNat : Nat) : Int) ∧ r = (stF (evs.take (ncur evs t))).length) := by
  refine conB_of_vc (k := 0) (an := an24) (fn := Try.f24) mix tabOK Try.func24 (by kernel_rfl) (extra := 2) trivial ?_
  rw [vc24]
  obtain ⟨⟨iv1, iv2⟩, er, el, eb, ⟨cps, cr, cl, ck⟩, srt, ex⟩ := h
  intro a0
  refine ⟨fun h => (by cases h), fun _ => ⟨_, tl_until (evs := evs) (cps := cps) er el (by omega) cr srt, ?_⟩⟩
  rintro H2 l2 O4 n5 n6 xs7 A8 n9 xs10 n11 n12 ⟨⟨rfl, rfl, rfl, rfl, rfl, rfl, rfl, rfl⟩, rfl⟩
  obtain ⟨m, hm⟩ : ∃ m, m = ncur evs t := ⟨_, rfl⟩
  rw [← hm]
  have hml : m ≤ evs.length := by rw [hm]; exact ncur_le evs t
  obtain ⟨v, rfl⟩ : ∃ v : Nat, n5 = v := ⟨n5.toNat, by omega⟩
  rw [show ((v : Int)).toNat = v by omega] at *
  have hv1 : 1 ≤ v := by omega
  obtain ⟨k, hk⟩ : ∃ k, k = m / v := ⟨_, rfl⟩
  have ht : Int.tdiv (m : Int) (v : Int) = (k : Int) := by rw [tdiv_nat (by omega), hk]; simp
  rw [ht, ← hk]
  have hkm : k * v ≤ m := by rw [hk]; exact Nat.div_mul_le_self m v
  have hkl : k < cps.length := by
    rw [ck.len, hk]
    exact Nat.lt_succ_of_le (Nat.div_le_div_right hml)
  have hkk : k ≤ k * v := Nat.le_mul_of_pos_right _ hv1
  obtain ⟨A, n, c, hw, hsl⟩ := Row.getw (cr.mono l2) hkl
  rw [ck.at_ k hkl] at hsl
  have hmul : (k : Int) * (v : Int) = ((k * v : Nat) : Int) := by simp
  rw [hmul]
  rw [show ((k : Int)).toNat = k by omega, show (((k * v : Nat) : Int)).toNat = k * v by omega, show ((m : Int)).toNat = m by omega]
  have hnl := hsl.len
  refine ⟨by omega, by simp only [rng]; omega, by omega, by omega, A, n, c, hw, by simp only [rng]; omega, by omega, by omega, by omega, fun cn i H' O' => O' = O4 ∧ 0 ≤ i ∧ i ≤ ((m - k * v : Nat) : Int) ∧ cn = ((stF (evs.take (k * v + i.toNat))).length : Int), fun _ i => (((m - k * v : Nat) : Int) - i).toNat,
    ⟨rfl, by omega, by omega, by simp [← hnl]⟩, ?_⟩
  rintro H25 l25 O27 cn n30 ⟨rfl, i0, i1, rfl⟩
  refine ⟨fun hlt => ?_, fun hge => ?_⟩
  · have hlt := of_decide_eq_true hlt
    obtain ⟨i, rfl⟩ : ∃ i : Nat, n30 = i := ⟨n30.toNat, by omega⟩
    have hidx : k * v + i < evs.length := by omega
    obtain ⟨hw1, r1, r2⟩ := Row.getw er hidx
    have hlen := stF_len (evs.take (k * v + i))
    have hlt2 : (evs.take (k * v + i)).length ≤ evs.length := List.length_take_le' _ _
    have hst := hwf.step hidx
    rw [show ((i : Int)).toNat = i by omega]
    refine ⟨i0, hlt, evs[k * v + i].tm, evs[k * v + i].id, evs[k * v + i].fin, ?_, fun hf => ?_, fun hf => ?_⟩
    · rw [show (((k * v : Nat) : Int) + (i : Int)).toNat = k * v + i by omega]
      exact hw1
    · rw [if_pos hf] at hst
      refine ⟨by simp only [rng]; omega, by simp only [rng]; omega, ⟨rfl, by omega, by omega, ?_⟩, by dsimp only; omega⟩
      rw [show (k * v + ((i : Int) + 1).toNat) = k * v + i + 1 by omega, hst]; omega
    · rw [if_neg (by rw [hf]; simp)] at hst
      refine ⟨by simp only [rng]; omega, by simp only [rng]; omega, ⟨rfl, by omega, by omega, ?_⟩, by dsimp only; omega⟩
      rw [show (k * v + ((i : Int) + 1).toNat) = k * v + i + 1 by omega, hst]
  · have hge := of_decide_eq_false hge
    have hi : k * v + n30.toNat = m := by omega
    rw [hi]
    exact ⟨by simp only [rng]; omega, by simp only [rng]; omega, rfl, ⟨rfl, rfl, rfl, rfl, rfl, rfl, rfl⟩, by omega, rfl⟩
end
end Go.Vc
/- Timelines: when an event is refused; the nil index. -/
namespace Go.Vc
open Go Go.Proofs Go.Shelf
def lifeOf (evs : List Ev) (x : Int) : Option (Int × Bool) := (evs.find? fun s => !s.fin && decide (s.id = x)).map fun s => (s.tm, evs.any fun f => f.fin && decide (f.id = x))
theorem LvOK.look {es : List (Value × Value)} {evs : List Ev} (h : LvOK es evs) (x : Int) : mfind es (.int .i64 x) = (lifeOf evs x).map fun y => .agg #[.int .i64 y.1, .bool y.2] := by
  unfold lifeOf
  cases hf : evs.find? fun s => !s.fin && decide (s.id = x) with
  | none =>
    rw [List.find?_eq_none] at hf
    refine (h.non x).2 fun s hs h1 h2 => hf s hs ?_
    simp [h1, h2]
  | some s =>
    have h1 := List.mem_of_find?_eq_some hf
    have h2 := List.find?_some hf
    simp only [Bool.and_eq_true, Bool.not_eq_true', decide_eq_true_eq] at h2
    obtain ⟨h2, rfl⟩ := h2
    exact h.val s h1 h2
def refuseM (l : Option (Int × Bool)) (e : Ev) : Int :=
  if e.fin then (if l.isNone || (l.getD (0, false)).2 then 11 else if (l.getD (0, false)).1 = e.tm then 18 else 0) else if l.isSome then 9 else 0
def refuse (evs : List Ev) (e : Ev) : Int :=
  if e.id < 1 then 1 else if decide (e.tm < 0) || decide (1099511627776 ≤ e.tm) || evs.getLast?.any fun z => decide (e.tm < z.tm) then 10 else refuseM (lifeOf evs e.id) e
section
variable {H : Heap} {O : OMap} {q0 t t2 q4 : Int} {q1N q3N bi1 bi3 : Nat} {q1Xs q3Xs : List Value} {q2 : Option Nat} {evs : List Ev}
def an36 : Ann where
  res := fun _ => none
  lend := fun _ => false
  sch := fun | 3 => (tk [0, 1, 2, 3, 4, 5, 6, 7, 8, 9, 10, 11, 12] (.alt 13 (tk [14, 15, 16, 17, 18, 19, 20, 21, 22, 23, 24, 25] (.alt 26 (tk [27] (.alt 28 (tk [29] (.alt 30 (tk [31, 32, 33] .done) .fin)) .fin)) .fin)) .fin)) | 5 => (tk [0, 1, 2, 3, 4, 5] (.alt 6 (tk [7, 8, 9] (.alt 10 (.alt 11 (tk [12] .done) .fin) .fin)) (.alt 10 (.alt 6 (tk [7, 8, 9] (.alt 11 (tk [12] .done) .fin)) .fin) .fin))) | _ => .done
  lt := fun _ => []
  tup := tups

theorem vc36 (P : Program) (H : Heap) (p1At : Int) (p1ID : Int) (p1End : Bool) (q0 : Int) (q1N : Nat) (q1Xs : List Value) (bi1 : Nat) (q2 : Option Nat) (q3N : Nat) (q3Xs : List Value) (bi3 : Nat) (q4 : Int) (O : OMap) (post : Int → Nat → List Value → Option Nat → Nat → List Value → Int → Int → Heap → OMap → Prop) :
  vcFnB P tab an36 Try.f36 [BA.me, BA.v (.agg #[.int .i64 p1At, .int .i64 p1ID, .bool p1End])] 0 68 [BC.v (.int .i64 q0), BC.row 33 q1N q1Xs, BC.v (.map q2), BC.row 44 q3N q3Xs, BC.v (.int .i64 q4)] 0 H O [.int .i64, .row bi1 33, .mp, .row bi3 44, .int .i64] ⟨false, [(false, [.int .i64])]⟩ post =
  (  ∀ (a0 : Nat), (false = true → a0 = a0 ∧ post q0 q1N q1Xs q2 q3N q3Xs q4 (1 : Int) H O) ∧ (false = false → (decide (p1ID < (1 : Int)) = true → a0 = a0 ∧ post q0 q1N q1Xs q2 q3N q3Xs q4 (1 : Int) H O)
  ∧ (decide (p1ID < (1 : Int)) = false → (decide (p1At < (0 : Int)) = true → a0 = a0 ∧ post q0 q1N q1Xs q2 q3N q3Xs q4 (10 : Int) H O) ∧ (decide (p1At < (0 : Int)) = false → (decide
  ((1099511627776 : Int) ≤ p1At) = true → a0 = a0 ∧ post q0 q1N q1Xs q2 q3N q3Xs q4 (10 : Int) H O) ∧ (decide ((1099511627776 : Int) ≤ p1At) = false → (decide ((0 : Int) < (↑q1N : Int)) =
  true → rng .i64 ((↑q1N : Int) - (1 : Int)) ∧ (0 : Int) ≤ (↑q1N : Int) - (1 : Int) ∧ (↑q1N : Int) - (1 : Int) < (↑q1N : Int) ∧ ∃ (n10 : Int), win q1Xs (Int.toNat ((↑q1N : Int) - (1 : Int)) *
  3 + 0) 1 = [.int .i64 n10] ∧ (decide (p1At < n10) = true → a0 = a0 ∧ post q0 q1N q1Xs q2 q3N q3Xs q4 (10 : Int) H O) ∧ (decide (p1At < n10) = false → (∃ (es13 : List (Value × Value)), isMap
  O q2 65 es13 ∧ ∃ (n14 : Int), ∃ (b15 : Bool), lkIs es13 (.int .i64 p1ID) true [.int .i64 (0 : Int), .bool false] [.int .i64 n14, .bool b15] ∧ ((!p1End) = true → (mhas es13 (.int .i64 p1ID)
  = true → a0 = a0 ∧ post q0 q1N q1Xs q2 q3N q3Xs q4 (9 : Int) H O) ∧ (mhas es13 (.int .i64 p1ID) = false → (p1End = true → ((!mhas es13 (.int .i64 p1ID)) = true → a0 = a0 ∧ post q0 q1N q1Xs
  q2 q3N q3Xs q4 (11 : Int) H O) ∧ ((!mhas es13 (.int .i64 p1ID)) = false → (b15 = true → a0 = a0 ∧ post q0 q1N q1Xs q2 q3N q3Xs q4 (11 : Int) H O) ∧ (b15 = false → (p1End = true → (decide
  (n14 = p1At) = true → a0 = a0 ∧ post q0 q1N q1Xs q2 q3N q3Xs q4 (18 : Int) H O) ∧ (decide (n14 = p1At) = false → a0 = a0 ∧ post q0 q1N q1Xs q2 q3N q3Xs q4 (0 : Int) H O)) ∧ (p1End = false →
  a0 = a0 ∧ post q0 q1N q1Xs q2 q3N q3Xs q4 (0 : Int) H O)))) ∧ (p1End = false → (p1End = true → (decide (n14 = p1At) = true → a0 = a0 ∧ post q0 q1N q1Xs q2 q3N q3Xs q4 (18 : Int) H O) ∧
  (decide (n14 = p1At) = false → a0 = a0 ∧ post q0 q1N q1Xs q2 q3N q3Xs q4 (0 : Int) H O)) ∧ (p1End = false → a0 = a0 ∧ post q0 q1N q1Xs q2 q3N q3Xs q4 (0 : Int) H O)))) ∧ ((!p1End) = false →
  (p1End = true → ((!mhas es13 (.int .i64 p1ID)) = true → a0 = a0 ∧ post q0 q1N q1Xs q2 q3N q3Xs q4 (11 : Int) H O) ∧ ((!mhas es13 (.int .i64 p1ID)) = false → (b15 = true → a0 = a0 ∧ post q0
  q1N q1Xs q2 q3N q3Xs q4 (11 : Int) H O) ∧ (b15 = false → (p1End = true → (decide (n14 = p1At) = true → a0 = a0 ∧ post q0 q1N q1Xs q2 q3N q3Xs q4 (18 : Int) H O) ∧ (decide (n14 = p1At) =
  false → a0 = a0 ∧ post q0 q1N q1Xs q2 q3N q3Xs q4 (0 : Int) H O)) ∧ (p1End = false → a0 = a0 ∧ post q0 q1N q1Xs q2 q3N q3Xs q4 (0 : Int) H O)))) ∧ (p1End = false → (p1End = true → (decide
  (n14 = p1At) = true → a0 = a0 ∧ post q0 q1N q1Xs q2 q3N q3Xs q4 (18 : Int) H O) ∧ (decide (n14 = p1At) = false → a0 = a0 ∧ post q0 q1N q1Xs q2 q3N q3Xs q4 (0 : Int) H O)) ∧ (p1End = false →
  a0 = a0 ∧ post q0 q1N q1Xs q2 q3N q3Xs q4 (0 : Int) H O)))) ∧ ∃ (es48 : List (Value × Value)), isMap O q2 65 es48 ∧ ∃ (n49 : Int), ∃ (b50 : Bool), lkIs es48 (.int .i64 p1ID) true [.int .i64
  (0 : Int), .bool false] [.int .i64 n49, .bool b50] ∧ ((!p1End) = true → (mhas es48 (.int .i64 p1ID) = true → a0 = a0 ∧ post q0 q1N q1Xs q2 q3N q3Xs q4 (9 : Int) H O) ∧ (mhas es48 (.int .i64
  p1ID) = false → (p1End = true → ((!mhas es48 (.int .i64 p1ID)) = true → a0 = a0 ∧ post q0 q1N q1Xs q2 q3N q3Xs q4 (11 : Int) H O) ∧ ((!mhas es48 (.int .i64 p1ID)) = false → (b50 = true → a0
  = a0 ∧ post q0 q1N q1Xs q2 q3N q3Xs q4 (11 : Int) H O) ∧ (b50 = false → (p1End = true → (decide (n49 = p1At) = true → a0 = a0 ∧ post q0 q1N q1Xs q2 q3N q3Xs q4 (18 : Int) H O) ∧ (decide
  (n49 = p1At) = false → a0 = a0 ∧ post q0 q1N q1Xs q2 q3N q3Xs q4 (0 : Int) H O)) ∧ (p1End = false → a0 = a0 ∧ post q0 q1N q1Xs q2 q3N q3Xs q4 (0 : Int) H O)))) ∧ (p1End = false → (p1End =
  true → (decide (n49 = p1At) = true → a0 = a0 ∧ post q0 q1N q1Xs q2 q3N q3Xs q4 (18 : Int) H O) ∧ (decide (n49 = p1At) = false → a0 = a0 ∧ post q0 q1N q1Xs q2 q3N q3Xs q4 (0 : Int) H O)) ∧
  (p1End = false → a0 = a0 ∧ post q0 q1N q1Xs q2 q3N q3Xs q4 (0 : Int) H O)))) ∧ ((!p1End) = false → (p1End = true → ((!mhas es48 (.int .i64 p1ID)) = true → a0 = a0 ∧ post q0 q1N q1Xs q2 q3N
  q3Xs q4 (11 : Int) H O) ∧ ((!mhas es48 (.int .i64 p1ID)) = false → (b50 = true → a0 = a0 ∧ post q0 q1N q1Xs q2 q3N q3Xs q4 (11 : Int) H O) ∧ (b50 = false → (p1End = true → (decide (n49 =
  p1At) = true → a0 = a0 ∧ post q0 q1N q1Xs q2 q3N q3Xs q4 (18 : Int) H O) ∧ (decide (n49 = p1At) = false → a0 = a0 ∧ post q0 q1N q1Xs q2 q3N q3Xs q4 (0 : Int) H O)) ∧ (p1End = false → a0 =
  a0 ∧ post q0 q1N q1Xs q2 q3N q3Xs q4 (0 : Int) H O)))) ∧ (p1End = false → (p1End = true → (decide (n49 = p1At) = true → a0 = a0 ∧ post q0 q1N q1Xs q2 q3N q3Xs q4 (18 : Int) H O) ∧ (decide
  (n49 = p1At) = false → a0 = a0 ∧ post q0 q1N q1Xs q2 q3N q3Xs q4 (0 : Int) H O)) ∧ (p1End = false → a0 = a0 ∧ post q0 q1N q1Xs q2 q3N q3Xs q4 (0 : Int) H O))))) ∧ (decide ((0 : Int) < (↑q1N
  : Int)) = false → (∃ (es84 : List (Value × Value)), isMap O q2 65 es84 ∧ ∃ (n85 : Int), ∃ (b86 : Bool), lkIs es84 (.int .i64 p1ID) true [.int .i64 (0 : Int), .bool false] [.int .i64 n85,
  .bool b86] ∧ ((!p1End) = true → (mhas es84 (.int .i64 p1ID) = true → a0 = a0 ∧ post q0 q1N q1Xs q2 q3N q3Xs q4 (9 : Int) H O) ∧ (mhas es84 (.int .i64 p1ID) = false → (p1End = true → ((!mhas
  es84 (.int .i64 p1ID)) = true → a0 = a0 ∧ post q0 q1N q1Xs q2 q3N q3Xs q4 (11 : Int) H O) ∧ ((!mhas es84 (.int .i64 p1ID)) = false → (b86 = true → a0 = a0 ∧ post q0 q1N q1Xs q2 q3N q3Xs q4
  (11 : Int) H O) ∧ (b86 = false → (p1End = true → (decide (n85 = p1At) = true → a0 = a0 ∧ post q0 q1N q1Xs q2 q3N q3Xs q4 (18 : Int) H O) ∧ (decide (n85 = p1At) = false → a0 = a0 ∧ post q0
  q1N q1Xs q2 q3N q3Xs q4 (0 : Int) H O)) ∧ (p1End = false → a0 = a0 ∧ post q0 q1N q1Xs q2 q3N q3Xs q4 (0 : Int) H O)))) ∧ (p1End = false → (p1End = true → (decide (n85 = p1At) = true → a0 =
  a0 ∧ post q0 q1N q1Xs q2 q3N q3Xs q4 (18 : Int) H O) ∧ (decide (n85 = p1At) = false → a0 = a0 ∧ post q0 q1N q1Xs q2 q3N q3Xs q4 (0 : Int) H O)) ∧ (p1End = false → a0 = a0 ∧ post q0 q1N q1Xs
  q2 q3N q3Xs q4 (0 : Int) H O)))) ∧ ((!p1End) = false → (p1End = true → ((!mhas es84 (.int .i64 p1ID)) = true → a0 = a0 ∧ post q0 q1N q1Xs q2 q3N q3Xs q4 (11 : Int) H O) ∧ ((!mhas es84 (.int
  .i64 p1ID)) = false → (b86 = true → a0 = a0 ∧ post q0 q1N q1Xs q2 q3N q3Xs q4 (11 : Int) H O) ∧ (b86 = false → (p1End = true → (decide (n85 = p1At) = true → a0 = a0 ∧ post q0 q1N q1Xs q2
  q3N q3Xs q4 (18 : Int) H O) ∧ (decide (n85 = p1At) = false → a0 = a0 ∧ post q0 q1N q1Xs q2 q3N q3Xs q4 (0 : Int) H O)) ∧ (p1End = false → a0 = a0 ∧ post q0 q1N q1Xs q2 q3N q3Xs q4 (0 : Int)
  H O)))) ∧ (p1End = false → (p1End = true → (decide (n85 = p1At) = true → a0 = a0 ∧ post q0 q1N q1Xs q2 q3N q3Xs q4 (18 : Int) H O) ∧ (decide (n85 = p1At) = false → a0 = a0 ∧ post q0 q1N
  q1Xs q2 q3N q3Xs q4 (0 : Int) H O)) ∧ (p1End = false → a0 = a0 ∧ post q0 q1N q1Xs q2 q3N q3Xs q4 (0 : Int) H O)))) ∧ ∃ (es119 : List (Value × Value)), isMap O q2 65 es119 ∧ ∃ (n120 : Int),
  ∃ (b121 : Bool), lkIs es119 (.int .i64 p1ID) true [.int .i64 (0 : Int), .bool false] [.int .i64 n120, .bool b121] ∧ ((!p1End) = true → (mhas es119 (.int .i64 p1ID) = true → a0 = a0 ∧ post
  q0 q1N q1Xs q2 q3N q3Xs q4 (9 : Int) H O) ∧ (mhas es119 (.int .i64 p1ID) = false → (p1End = true → ((!mhas es119 (.int .i64 p1ID)) = true → a0 = a0 ∧ post q0 q1N q1Xs q2 q3N q3Xs q4 (11 :
  Int) H O) ∧ ((!mhas es119 (.int .i64 p1ID)) = false → (b121 = true → a0 = a0 ∧ post q0 q1N q1Xs q2 q3N q3Xs q4 (11 : Int) H O) ∧ (b121 = false → (p1End = true → (decide (n120 = p1At) = true
  → a0 = a0 ∧ post q0 q1N q1Xs q2 q3N q3Xs q4 (18 : Int) H O) ∧ (decide (n120 = p1At) = false → a0 = a0 ∧ post q0 q1N q1Xs q2 q3N q3Xs q4 (0 : Int) H O)) ∧ (p1End = false → a0 = a0 ∧ post q0
  q1N q1Xs q2 q3N q3Xs q4 (0 : Int) H O)))) ∧ (p1End = false → (p1End = true → (decide (n120 = p1At) = true → a0 = a0 ∧ post q0 q1N q1Xs q2 q3N q3Xs q4 (18 : Int) H O) ∧ (decide (n120 = p1At)
  = false → a0 = a0 ∧ post q0 q1N q1Xs q2 q3N q3Xs q4 (0 : Int) H O)) ∧ (p1End = false → a0 = a0 ∧ post q0 q1N q1Xs q2 q3N q3Xs q4 (0 : Int) H O)))) ∧ ((!p1End) = false → (p1End = true →
  ((!mhas es119 (.int .i64 p1ID)) = true → a0 = a0 ∧ post q0 q1N q1Xs q2 q3N q3Xs q4 (11 : Int) H O) ∧ ((!mhas es119 (.int .i64 p1ID)) = false → (b121 = true → a0 = a0 ∧ post q0 q1N q1Xs q2
  q3N q3Xs q4 (11 : Int) H O) ∧ (b121 = false → (p1End = true → (decide (n120 = p1At) = true → a0 = a0 ∧ post q0 q1N q1Xs q2 q3N q3Xs q4 (18 : Int) H O) ∧ (decide (n120 = p1At) = false → a0 =
  a0 ∧ post q0 q1N q1Xs q2 q3N q3Xs q4 (0 : Int) H O)) ∧ (p1End = false → a0 = a0 ∧ post q0 q1N q1Xs q2 q3N q3Xs q4 (0 : Int) H O)))) ∧ (p1End = false → (p1End = true → (decide (n120 = p1At)
  = true → a0 = a0 ∧ post q0 q1N q1Xs q2 q3N q3Xs q4 (18 : Int) H O) ∧ (decide (n120 = p1At) = false → a0 = a0 ∧ post q0 q1N q1Xs q2 q3N q3Xs q4 (0 : Int) H O)) ∧ (p1End = false → a0 = a0 ∧
  post q0 q1N q1Xs q2 q3N q3Xs q4 (0 : Int) H O))))))))) := by kernel_rfl
set_option maxHeartbeats 4000000 in
theorem tl_refusal {e : Ev} {es : List (Value × Value)} (er : Row H q1Xs evs) (el : evs.length = q1N) (eb : q1N ≤ 1000) (hm : hasM O q2 65 es) (hlv : LvOK es evs) :
    ConB Try.prog 36 [.me, .v (.agg #[.int .i64 e.tm, .int .i64 e.id, .bool e.fin])] 68 (ixC q0 q1N q1Xs q2 q3N q3Xs q4) H O (ixL bi1 bi3) shI
      (fun n0 n1 xs1 A2 n3 xs3 n4 r H' O' => SameIx q0 q1N q1Xs q2 q3N q3Xs O n0 n1 xs1 A2 n3 xs3 O' ∧ n4 = q4 ∧ r = refuse evs e) := by
  refine conB_of_vc (k := 0) (an := an36) (fn := Try.f36) mix tabOK Try.func36 (by kernel_rfl) (extra := 0) trivial ?_
  rw [vc36]
  intro a0
  have lk : lkIs es (.int .i64 e.id) true [.int .i64 0, .bool false] [.int .i64 ((lifeOf evs e.id).getD (0, false)).1, .bool ((lifeOf evs e.id).getD (0, false)).2] := by
    unfold lkIs
    rw [hlv.look]
    cases lifeOf evs e.id <;> rfl
  have hh : mhas es (.int .i64 e.id) = (lifeOf evs e.id).isSome := by rw [mhas_find, hlv.look, Option.isSome_map]
  have hmap : isMap O q2 65 es := .inr hm
  have same : ∀ r : Int, r = refuse evs e → a0 = a0 ∧ SameIx q0 q1N q1Xs q2 q3N q3Xs O q0 q1N q1Xs q2 q3N q3Xs O ∧ q4 = q4 ∧ r = refuse evs e := fun r h => ⟨rfl, ⟨rfl, rfl, rfl, rfl, rfl, rfl, rfl⟩, rfl, h⟩
  refine ⟨fun h => (by cases h), fun _ => ⟨fun h1 => same _ ?_, fun h1 => ⟨fun h2 => same _ ?_, fun h2 => ⟨fun h3 => same _ ?_, fun h3 => ⟨fun h4 => ?_, fun h4 => ?_⟩⟩⟩⟩⟩
  · unfold refuse; rw [if_pos (of_decide_eq_true h1)]
  · unfold refuse; rw [if_neg (of_decide_eq_false h1), h2]; simp
  · unfold refuse; rw [if_neg (of_decide_eq_false h1), h3]; simp
  · have h4 := of_decide_eq_true h4
    have hi : q1N - 1 < evs.length := by omega
    obtain ⟨vs, ⟨rfl, r1, r2⟩, hg, -⟩ := er.getf hi
    have hlast : evs.getLast? = some evs[q1N - 1] := by
      rw [List.getLast?_eq_getElem?, List.getElem?_eq_getElem (by omega)]
      congr 2; omega
    have hw := hg 0 1 (by decide)
    refine ⟨by simp only [rng]; omega, by omega, by omega, evs[q1N - 1].tm, ?_, fun h5 => same _ ?_, fun h5 => ?_⟩
    · rw [show ((q1N : Int) - 1).toNat = q1N - 1 by omega]; exact hw
    · unfold refuse; rw [if_neg (of_decide_eq_false h1), hlast]; simp [of_decide_eq_true h5]
    · have hr : refuse evs e = refuseM (lifeOf evs e.id) e := by
        unfold refuse; rw [if_neg (of_decide_eq_false h1), hlast, h2, h3, if_neg (by simp [of_decide_eq_false h5])]
      rw [hr]
      refine ⟨⟨es, hmap, _, _, lk, ?_⟩, ⟨es, hmap, _, _, lk, ?_⟩⟩ <;> rw [hh] <;> rcases lifeOf evs e.id with _ | ⟨fr, _ | _⟩ <;> cases hf : e.fin
      all_goals (simp +contextual [refuseM, hf, SameIx])
  · have h4 := of_decide_eq_false h4
    have hn : evs = [] := List.eq_nil_of_length_eq_zero (by omega)
    have hr : refuse evs e = refuseM (lifeOf evs e.id) e := by
      unfold refuse; rw [if_neg (of_decide_eq_false h1), h2, h3, hn]; simp
    rw [hr]
    refine ⟨⟨es, hmap, _, _, lk, ?_⟩, ⟨es, hmap, _, _, lk, ?_⟩⟩ <;> rw [hh] <;> rcases lifeOf evs e.id with _ | ⟨fr, _ | _⟩ <;> cases hf : e.fin
    all_goals (simp +contextual [refuseM, hf, SameIx])
end
end Go.Vc
/- Timelines: refused events; the nil index; awake. -/
namespace Go.Vc
open Go Go.Proofs Go.Shelf
theorem ev_sorted_eq : ∀ {a b : List Ev}, a.Perm b → (a.Pairwise fun x y => ¬ evLt y x) → (b.Pairwise fun x y => ¬ evLt y x) → a = b
  | [], b, p, _, _ => (List.nil_perm.1 p).symm ▸ rfl
  | x :: a, [], p, _, _ => by have := p.length_eq; simp at this
  | x :: a, y :: b, p, h1, h2 => by
    have hxy : x = y := by
      have hx : x ∈ y :: b := p.mem_iff.1 (List.mem_cons_self ..)
      have hy : y ∈ x :: a := p.mem_iff.2 (List.mem_cons_self ..)
      rcases List.mem_cons.1 hx with h | hx
      · exact h
      rcases List.mem_cons.1 hy with h | hy
      · exact h.symm
      have k1 := (List.pairwise_cons.1 h2).1 x hx
      have k2 := (List.pairwise_cons.1 h1).1 y hy
      rcases evLt_tri x y with h | h | h
      · exact absurd h k1
      · exact h
      · exact absurd h k2
    subst hxy
    rw [ev_sorted_eq (p.cons_inv) (List.pairwise_cons.1 h1).2 (List.pairwise_cons.1 h2).2]
section
variable {H : Heap} {O : OMap} {q0 t t2 q4 : Int} {q1N q3N bi1 bi3 : Nat} {q1Xs q3Xs : List Value} {q2 : Option Nat} {evs : List Ev}
def an15 : Ann where
  res := fun | 57 => some ⟨false, [(false, [.row 67 33])]⟩ | _ => none
  lend := fun | 10 => true | 46 => true | _ => false
  mt := fun | 38 => some false | _ => none
  sch := fun | 5 => (tk [0, 1, 2, 3, 4, 5, 6, 7, 8, 9, 10, 11] (.alt 12 (tk [13, 14] (.alt 15 .done .fin)) .fin)) | 6 => (tk [0, 1, 2, 3, 4, 5, 6, 7, 8] (.alt 9 .done .fin)) | 7 => (tk [0, 1, 2, 3, 4] (.alt 5 (tk [6, 7, 8, 9, 10] .done) .fin)) | 8 => (tk [0, 1, 2, 3, 4, 5, 6] (.alt 7 (.alt 8 (tk [9, 10] (.alt 11 .done .fin)) .fin) .fin)) | _ => .done
  bx := fun | some 10, 36 => some [.int .i64, .row 63 33, .mp, .row 64 44, .int .i64] | some 62, 30 => some [.int .i64, .row 65 33, .mp, .row 66 44, .int .i64] | _, _ => none
  lt := fun _ => []
  tup := tups

theorem vc15 (P : Program) (H : Heap) (eAt : Int) (eID : Int) (eEnd : Bool) (q0 : Int) (q1N : Nat) (q1Xs : List Value) (bi1 : Nat) (q2 : Option Nat) (q3N : Nat) (q3Xs : List Value) (bi3 : Nat) (q4 : Int) (O : OMap) (post : Int → Nat → List Value → Option Nat → Nat → List Value → Int → Int → Heap → OMap → Prop) :
  vcFnB P tab an15 Try.f15 [BA.me, BA.v (.agg #[.int .i64 eAt, .int .i64 eID, .bool eEnd])] 0 68 [BC.v (.int .i64 q0), BC.row 33 q1N q1Xs, BC.v (.map q2), BC.row 44 q3N q3Xs, BC.v (.int .i64 q4)] 5 H O [.int .i64, .row bi1 33, .mp, .row bi3 44, .int .i64] ⟨false, [(false, [.int .i64])]⟩ post =
  (  ∀ (a0 : Nat), ∃ (post1 : Int → Nat → List Value → Option Nat → Nat → List Value → Int → Int → Heap → (Nat → Option XO) → Prop), ConB P 36 [BA.me, BA.v (.agg ⟨[.int .i64 eAt, .int .i64 eID,
  .bool eEnd]⟩)] 68 [BC.v (.int .i64 q0), BC.row 33 q1N q1Xs, BC.v (Value.map q2), BC.row 44 q3N q3Xs, BC.v (.int .i64 q4)] H O [.int .i64, .row 63 33, .mp, .row 64 44, .int .i64] ⟨false,
  [(false, [.int .i64])]⟩ post1 ∧ ∀ (H2 : Heap), Heap.le H H2 → ∀ (O4 : Nat → Option XO) (n5 : Int) (n6 : Nat) (xs7 : List Value) (A8 : Option Nat) (n9 : Nat) (xs10 : List Value) (n11 n12 :
  Int), post1 n5 n6 xs7 A8 n9 xs10 n11 n12 H2 O4 → ((!decide (n12 = (0 : Int))) = true → a0 = a0 ∧ post n5 n6 xs7 A8 n9 xs10 n11 n12 H2 O4) ∧ ((!decide (n12 = (0 : Int))) = false → (eEnd =
  true → ∃ (es17 : List (Value × Value)), isMap O4 A8 65 es17 ∧ ∃ (n18 : Int), ∃ (b19 : Bool), lkIs es17 (.int .i64 eID) true [.int .i64 (0 : Int), .bool false] [.int .i64 n18, .bool b19] ∧ ∃
  (es20 : List (Value × Value)), hasM O4 A8 65 es20 ∧ ∀ (O21 : Nat → Option XO), putM O4 O21 A8 65 (mput es20 (.int .i64 eID) (.agg ⟨[.int .i64 n18, .bool true]⟩)) → ∃ (post23 : Int → Bool →
  Heap → Prop), (∀ (A24 : Option Addr) (c25 : Nat) (H26 : Heap), Heap.le H2 H26 → Cells H26 A24 0 xs7 → n6 ≤ c25 → ConT P 37 [.slice A24 n6 c25, .agg ⟨[.int .i64 eAt, .int .i64 eID, .bool
  eEnd]⟩, .func (.func 29) ⟨[]⟩ ⟨[]⟩] H26 ⟨true, [(false, [.int .i64]), (false, [.bool])]⟩ post23) ∧ ∀ (H30 : Heap) (n31 : Int) (b32 : Bool), post23 n31 b32 H30 → ∀ (A34 : Option Addr) (c35 :
  Nat) (H36 : Heap), Heap.le H2 H36 → Cells H36 A34 0 [.int .i64 eAt, .int .i64 eID, .bool eEnd] → 1 ≤ c35 → ∃ (post40 : List Value → Nat → List Value → Heap → Prop), ConM P 38 [.slice none 0
  0, .int .i64 n31, .slice A34 1 c35] 0 33 n6 xs7 false H36 ⟨false, [(false, [.row 67 33])]⟩ post40 ∧ ∀ (H41 : Heap), Heap.le H36 H41 → ∀ (ys43 : List Value) (n44 : Nat) (xs45 : List Value),
  post40 ys43 n44 xs45 H41 → ∃ (post47 : Int → Nat → List Value → Option Nat → Nat → List Value → Int → Heap → (Nat → Option XO) → Prop), ConB P 30 [BA.me, BA.v (.int .i64 n31)] 68 [BC.v
  (.int .i64 n5), BC.row 33 n44 xs45, BC.v (Value.map A8), BC.row 44 n9 xs10, BC.v (.int .i64 n11)] H41 O21 [.int .i64, .row 65 33, .mp, .row 66 44, .int .i64] ⟨true, []⟩ post47 ∧ ∀ (H48 :
  Heap), Heap.le H41 H48 → ∀ (O50 : Nat → Option XO) (n51 : Int) (n52 : Nat) (xs53 : List Value) (A54 : Option Nat) (n55 : Nat) (xs56 : List Value) (n57 : Int), post47 n51 n52 xs53 A54 n55
  xs56 n57 H48 O50 → a0 = a0 ∧ post n51 n52 xs53 A54 n55 xs56 n57 (0 : Int) H48 O50) ∧ (eEnd = false → ∃ (es60 : List (Value × Value)), hasM O4 A8 65 es60 ∧ ∀ (O61 : Nat → Option XO), putM O4
  O61 A8 65 (mput es60 (.int .i64 eID) (.agg ⟨[.int .i64 eAt, .bool false]⟩)) → ∃ (post63 : Int → Bool → Heap → Prop), (∀ (A64 : Option Addr) (c65 : Nat) (H66 : Heap), Heap.le H2 H66 → Cells
  H66 A64 0 xs7 → n6 ≤ c65 → ConT P 37 [.slice A64 n6 c65, .agg ⟨[.int .i64 eAt, .int .i64 eID, .bool eEnd]⟩, .func (.func 29) ⟨[]⟩ ⟨[]⟩] H66 ⟨true, [(false, [.int .i64]), (false, [.bool])]⟩
  post63) ∧ ∀ (H70 : Heap) (n71 : Int) (b72 : Bool), post63 n71 b72 H70 → ∀ (A74 : Option Addr) (c75 : Nat) (H76 : Heap), Heap.le H2 H76 → Cells H76 A74 0 [.int .i64 eAt, .int .i64 eID, .bool
  eEnd] → 1 ≤ c75 → ∃ (post80 : List Value → Nat → List Value → Heap → Prop), ConM P 38 [.slice none 0 0, .int .i64 n71, .slice A74 1 c75] 0 33 n6 xs7 false H76 ⟨false, [(false, [.row 67
  33])]⟩ post80 ∧ ∀ (H81 : Heap), Heap.le H76 H81 → ∀ (ys83 : List Value) (n84 : Nat) (xs85 : List Value), post80 ys83 n84 xs85 H81 → ∃ (post87 : Int → Nat → List Value → Option Nat → Nat →
  List Value → Int → Heap → (Nat → Option XO) → Prop), ConB P 30 [BA.me, BA.v (.int .i64 n71)] 68 [BC.v (.int .i64 n5), BC.row 33 n84 xs85, BC.v (Value.map A8), BC.row 44 n9 xs10, BC.v (.int
  .i64 n11)] H81 O61 [.int .i64, .row 65 33, .mp, .row 66 44, .int .i64] ⟨true, []⟩ post87 ∧ ∀ (H88 : Heap), Heap.le H81 H88 → ∀ (O90 : Nat → Option XO) (n91 : Int) (n92 : Nat) (xs93 : List
  Value) (A94 : Option Nat) (n95 : Nat) (xs96 : List Value) (n97 : Int), post87 n91 n92 xs93 A94 n95 xs96 n97 H88 O90 → a0 = a0 ∧ post n91 n92 xs93 A94 n95 xs96 n97 (0 : Int) H88 O90))) := by kernel_rfl
theorem tl_Append_ref {e : Ev} {es : List (Value × Value)} (er : Row H q1Xs evs) (el : evs.length = q1N) (eb : q1N ≤ 1000) (hm : hasM O q2 65 es) (hlv : LvOK es evs) (hr : refuse evs e ≠ 0) :
    ConB Try.prog 15 [.me, .v (.agg #[.int .i64 e.tm, .int .i64 e.id, .bool e.fin])] 68 (ixC q0 q1N q1Xs q2 q3N q3Xs q4) H O (ixL bi1 bi3) shI
      (fun n0 n1 xs1 A2 n3 xs3 n4 r H' O' => SameIx q0 q1N q1Xs q2 q3N q3Xs O n0 n1 xs1 A2 n3 xs3 O' ∧ n4 = q4 ∧ r = refuse evs e) := by
  refine conB_of_vc (k := 0) (an := an15) (fn := Try.f15) mix tabOK Try.func15 (by kernel_rfl) (extra := 5) trivial ?_
  rw [vc15]
  intro a0
  refine ⟨_, tl_refusal (q0 := q0) (q4 := q4) (q3N := q3N) (q3Xs := q3Xs) er el eb hm hlv, ?_⟩
  rintro H2 l2 O4 n5 n6 xs7 A8 n9 xs10 n11 n12 ⟨hs, hn, rfl⟩
  refine ⟨fun _ => ⟨rfl, hs, hn, rfl⟩, fun h => ?_⟩
  simp [hr] at h
end
def vsA : List Vsn := [⟨1, [], ⟨0, 0⟩, ⟨1, 3⟩⟩, ⟨2, [], ⟨0, 0⟩, ⟨2, 1099511627776⟩⟩]
def evA : List Ev := [⟨1, 1, false⟩, ⟨2, 2, false⟩, ⟨3, 1, true⟩]
theorem evA_eq {evs : List Ev} (p : evs.Perm (newGo vsA [])) (hs : evs.Pairwise fun a b => ¬ evLt b a) : evs = evA := by
  refine ev_sorted_eq (p.trans ?_) hs ?_
  · have e : newGo vsA [] = [⟨1, 1, false⟩, ⟨3, 1, true⟩, ⟨2, 2, false⟩] := by decide
    rw [e]
    exact (List.Perm.swap _ _ _).cons _
  · unfold evA evLt
    simp
def an10 : Ann where
  res := fun _ => none
  lend := fun | 23 => true | 57 => true | _ => false
  sch := fun _ => .done
  bx := fun | some 14, 19 => some [.int .i64, .row 62 33, .mp, .row 63 44, .int .i64] | some 18, 22 => some [.int .i64, .row 64 33, .mp, .row 65 44, .int .i64] | some 23, 24 => some [.int .i64, .row 66 33, .mp, .row 67 44, .int .i64] | some 50, 18 => some [.int .i64, .row 68 33, .mp, .row 69 44, .int .i64] | some 57, 15 => some [.int .i64, .row 70 33, .mp, .row 71 44, .int .i64] | _, _ => none
  nb := fun | 9 => some (68, [.int .i64, .row 60 33, .mp, .row 61 44, .int .i64]) | _ => none
  lt := fun _ => []
  tup := tups

theorem vc10 (P : Program) (H : Heap)  (post : Bool → Heap → Prop) :
  vcFn P tab an10 Try.f10 [] 12 H ⟨false, [(false, [.bool])]⟩ post =
  (  ∀ (A0 : Option Addr) (c1 : Nat) (H2 : Heap), Heap.le H H2 → Cells H2 A0 0 [.int .i64 (1 : Int), .slice none 0 0, .int .i64 (0 : Int), .int .i64 (0 : Int), .int .i64 (1 : Int), .int .i64 (3
  : Int), .int .i64 (2 : Int), .slice none 0 0, .int .i64 (0 : Int), .int .i64 (0 : Int), .int .i64 (2 : Int), .int .i64 (1099511627776 : Int)] → 2 ≤ c1 → ∃ (post6 : Int → Nat → List Value →
  Option Nat → Nat → List Value → Int → Heap → (Nat → Option XO) → Prop), ConN P 11 [.slice A0 2 c1, .int .i64 (4 : Int)] 68 H2 noO [.int .i64, .row 60 33, .mp, .row 61 44, .int .i64] post6 ∧
  ∀ (H7 : Heap), Heap.le H2 H7 → ∀ (O9 : Nat → Option XO) (n10 : Int) (n11 : Nat) (xs12 : List Value) (A13 : Option Nat) (n14 : Nat) (xs15 : List Value) (n16 : Int), post6 n10 n11 xs12 A13
  n14 xs15 n16 H7 O9 → (false = true → post false H7) ∧ (false = false → ∃ (post20 : Int → Nat → List Value → Option Nat → Nat → List Value → Int → Option Addr → Nat → Nat → Option Addr → Nat → Nat →
  Heap → (Nat → Option XO) → Prop), ConB P 19 [BA.me, BA.v (.int .i64 (1 : Int)), BA.v (.int .i64 (3 : Int))] 68 [BC.v (.int .i64 n10), BC.row 33 n11 xs12, BC.v (Value.map A13), BC.row 44 n14
  xs15, BC.v (.int .i64 n16)] H7 O9 [.int .i64, .row 62 33, .mp, .row 63 44, .int .i64] ⟨true, [(false, [.sl]), (false, [.sl])]⟩ post20 ∧ ∀ (H21 : Heap), Heap.le H7 H21 → ∀ (O23 : Nat →
  Option XO) (n24 : Int) (n25 : Nat) (xs26 : List Value) (A27 : Option Nat) (n28 : Nat) (xs29 : List Value) (n30 : Int) (A31 : Option Addr) (n32 c33 : Nat) (A34 : Option Addr) (n35 c36 :
  Nat), post20 n24 n25 xs26 A27 n28 xs29 n30 A31 n32 c33 A34 n35 c36 H21 O23 → ∃ (post38 : Int → Nat → List Value → Option Nat → Nat → List Value → Int → Option Addr → Nat → Nat → Heap → (Nat
  → Option XO) → Prop), ConB P 22 [BA.me, BA.v (.int .i64 (2 : Int))] 68 [BC.v (.int .i64 n24), BC.row 33 n25 xs26, BC.v (Value.map A27), BC.row 44 n28 xs29, BC.v (.int .i64 n30)] H21 O23
  [.int .i64, .row 64 33, .mp, .row 65 44, .int .i64] ⟨false, [(false, [.sl])]⟩ post38 ∧ ∀ (H39 : Heap), Heap.le H21 H39 → ∀ (O41 : Nat → Option XO) (n42 : Int) (n43 : Nat) (xs44 : List
  Value) (A45 : Option Nat) (n46 : Nat) (xs47 : List Value) (n48 : Int) (A49 : Option Addr) (n50 c51 : Nat), post38 n42 n43 xs44 A45 n46 xs47 n48 A49 n50 c51 H39 O41 → (decide ((↑n50 : Int) =
  (2 : Int)) = true → ∃ (post54 : Int → Nat → List Value → Option Nat → Nat → List Value → Int → Int → Heap → (Nat → Option XO) → Prop), ConB P 24 [BA.me, BA.v (.int .i64 (3 : Int))] 68 [BC.v
  (.int .i64 n42), BC.row 33 n43 xs44, BC.v (Value.map A45), BC.row 44 n46 xs47, BC.v (.int .i64 n48)] H39 O41 [.int .i64, .row 66 33, .mp, .row 67 44, .int .i64] ⟨false, [(false, [.int
  .i64])]⟩ post54 ∧ ∀ (H55 : Heap), Heap.le H39 H55 → ∀ (O57 : Nat → Option XO) (n58 : Int) (n59 : Nat) (xs60 : List Value) (A61 : Option Nat) (n62 : Nat) (xs63 : List Value) (n64 n65 : Int),
  post54 n58 n59 xs60 A61 n62 xs63 n64 n65 H55 O57 → (decide (n65 = (1 : Int)) = true → (decide ((↑n32 : Int) = (1 : Int)) = true → someA A31 ∧ (0 : Int) ≤ (0 : Int) ∧ (0 : Int) < (↑n32 :
  Int) ∧ ∃ (n69 : Int), Cells H55 A31 (Int.toNat (0 : Int) * 1) [.int .i64 n69] ∧ (decide (n69 = (1 : Int)) = true → (decide ((↑n35 : Int) = (1 : Int)) = true → someA A34 ∧ (0 : Int) ≤ (0 :
  Int) ∧ (0 : Int) < (↑n35 : Int) ∧ ∃ (n72 : Int), Cells H55 A34 (Int.toNat (0 : Int) * 1) [.int .i64 n72] ∧ (decide (n72 = (2 : Int)) = true → ∃ (post74 : Int → Nat → List Value → Option Nat
  → Nat → List Value → Int → Option Addr → Nat → Nat → Heap → (Nat → Option XO) → Prop), ConB P 18 [BA.me] 68 [BC.v (.int .i64 n58), BC.row 33 n59 xs60, BC.v (Value.map A61), BC.row 44 n62
  xs63, BC.v (.int .i64 n64)] H55 O57 [.int .i64, .row 68 33, .mp, .row 69 44, .int .i64] ⟨false, [(false, [.sl])]⟩ post74 ∧ ∀ (H75 : Heap), Heap.le H55 H75 → ∀ (O77 : Nat → Option XO) (n78 :
  Int) (n79 : Nat) (xs80 : List Value) (A81 : Option Nat) (n82 : Nat) (xs83 : List Value) (n84 : Int) (A85 : Option Addr) (n86 c87 : Nat), post74 n78 n79 xs80 A81 n82 xs83 n84 A85 n86 c87 H75
  O77 → (decide ((↑n86 : Int) = (3 : Int)) = true → ∃ (post90 : Int → Nat → List Value → Option Nat → Nat → List Value → Int → Int → Heap → (Nat → Option XO) → Prop), ConB P 15 [BA.me, BA.v
  (.agg ⟨[.int .i64 (3 : Int), .int .i64 (2 : Int), .bool false]⟩)] 68 [BC.v (.int .i64 n78), BC.row 33 n79 xs80, BC.v (Value.map A81), BC.row 44 n82 xs83, BC.v (.int .i64 n84)] H75 O77 [.int
  .i64, .row 70 33, .mp, .row 71 44, .int .i64] ⟨false, [(false, [.int .i64])]⟩ post90 ∧ ∀ (H91 : Heap), Heap.le H75 H91 → ∀ (O93 : Nat → Option XO) (n94 : Int) (n95 : Nat) (xs96 : List
  Value) (A97 : Option Nat) (n98 : Nat) (xs99 : List Value) (n100 n101 : Int), post90 n94 n95 xs96 A97 n98 xs99 n100 n101 H91 O93 → post (decide (n101 = (9 : Int))) H91) ∧ (decide ((↑n86 :
  Int) = (3 : Int)) = false → post false H75)) ∧ (decide (n72 = (2 : Int)) = false → post false H55)) ∧ (decide ((↑n35 : Int) = (1 : Int)) = false → post false H55)) ∧ (decide (n69 = (1 :
  Int)) = false → post false H55)) ∧ (decide ((↑n32 : Int) = (1 : Int)) = false → post false H55)) ∧ (decide (n65 = (1 : Int)) = false → post false H55)) ∧ (decide ((↑n50 : Int) = (2 : Int))
  = false → post false H39))) := by kernel_rfl
set_option maxHeartbeats 1000000 in
theorem law26_awake {H : Heap} : ConT Try.prog 10 [] H shB (fun r _ => r = true) := by
  refine con_of_vc (an := an10) (fn := Try.f10) mix tabOK Try.func10 (by kernel_rfl) (extra := 12) ?_
  rw [vc10]
  intro A0 c1 H2 l2 hc hn
  have hrow : Row H2 [.int .i64 1, .slice none 0 0, .int .i64 0, .int .i64 0, .int .i64 1, .int .i64 3, .int .i64 2, .slice none 0 0, .int .i64 0, .int .i64 0, .int .i64 2, .int .i64 1099511627776] vsA :=
    ⟨[_, _, _, _, _, _], [_, _, _, _, _, _], rfl, ⟨none, 0, 0, rfl, by decide, Sl.nil, by decide, by decide, by decide, by decide⟩,
      [_, _, _, _, _, _], [], rfl, ⟨none, 0, 0, rfl, by decide, Sl.nil, by decide, by decide, by decide, by decide⟩, rfl⟩
  refine ⟨_, tl_New (vs := vsA) (iv := 4) (hrow.sl (hle_refl _) hc rfl hn (by decide) (by decide)) (by decide) (by decide), ?_⟩
  rintro H7 l7 O9 n10 n11 xs12 A13 n14 xs15 n16 ⟨h0, h4, evs, hix, hp, hsd, es, hm, hlv⟩
  have hwf := new_wf hp hsd
  obtain rfl := evA_eq hp hsd
  refine ⟨fun h => (by cases h), fun _ => ?_⟩
  refine ⟨_, tl_Diff (q2 := A13) (t := 1) (t2 := 3) hix, ?_⟩
  rintro H21 l21 O23 n24 n25 xs26 A27 n28 xs29 n30 A31 n32 c33 A34 n35 c36 ⟨⟨rfl, rfl, rfl, rfl, rfl, rfl, rfl⟩, rfl, hd1, hd2⟩
  have e1 : woL (stF (evA.take (ncur evA 1))) (stF (evA.take (ncur evA 3))) = [1] := by decide
  have e2 : woL (stF (evA.take (ncur evA 3))) (stF (evA.take (ncur evA 1))) = [2] := by decide
  rw [e1] at hd1
  rw [e2] at hd2
  have hix := hix.mono l21
  refine ⟨_, tl_At (q2 := A27) (t := 2) hix, ?_⟩
  rintro H39 l39 O41 n42 n43 xs44 A45 n46 xs47 n48 A49 n50 c51 ⟨⟨rfl, rfl, rfl, rfl, rfl, rfl, rfl⟩, hn48, ha⟩
  have e3 : (stF (evA.take (ncur evA 2))).length = 2 := by decide
  have h50 := ha.len
  rw [e3] at h50
  have hn42 : n42.toNat = 4 := by rw [h0]; rfl
  have hr48 : rng .i64 n48 := by
    rw [hn48]
    have : ncur evA 2 ≤ 3 := ncur_le evA 2
    simp only [rng]; omega
  have hix : IxOK H39 n42 n43 xs44 n46 xs47 n48 evA := ⟨hix.iv, hix.er.mono l39, hix.el, hix.eb, (hix.mono l39).cps, hix.srt, hr48⟩
  refine ⟨fun _ => ?_, fun h => absurd (of_decide_eq_false h) (by omega)⟩
  refine ⟨_, tl_Count (q2 := A45) (t := 3) hix hwf, ?_⟩
  rintro H55 l55 O57 n58 n59 xs60 A61 n62 xs63 n64 n65 ⟨⟨rfl, rfl, rfl, rfl, rfl, rfl, rfl⟩, hn64, rfl⟩
  have e4 : (stF (evA.take (ncur evA 3))).length = 1 := by decide
  have hl1 := hd1.len
  have hl2 := hd2.len
  have l2155 := hle_trans l39 l55
  refine ⟨fun _ => ⟨fun _ => ?_, fun h => absurd (of_decide_eq_false h) (by simp at hl1; omega)⟩, fun h => absurd (of_decide_eq_false h) (by rw [e4]; simp)⟩
  obtain ⟨_, hA1, _, hc1, ⟨rfl, _⟩⟩ := hd1.at l2155 (i := 0) (by omega) (by simp at hl1; omega)
  refine ⟨hA1, by omega, by simp at hl1; omega, _, hc1, fun _ => ⟨fun _ => ?_, fun h => absurd (of_decide_eq_false h) (by simp at hl2; omega)⟩, fun h => absurd (of_decide_eq_false h) (by simp)⟩
  obtain ⟨_, hA2, _, hc2, ⟨rfl, _⟩⟩ := hd2.at l2155 (i := 0) (by omega) (by simp at hl2; omega)
  refine ⟨hA2, by omega, by simp at hl2; omega, _, hc2, fun _ => ?_, fun h => absurd (of_decide_eq_false h) (by simp)⟩
  refine ⟨_, tl_Events (q0 := n58) (q2 := A61) (q3N := n62) (q3Xs := xs63) (q4 := n64) (O := O57) (hix.er.mono l55) hix.el hix.eb, ?_⟩
  rintro H75 l75 O77 n78 n79 xs80 A81 n82 xs83 n84 A85 n86 c87 ⟨⟨rfl, rfl, rfl, rfl, rfl, rfl, rfl⟩, rfl, he⟩
  have hel := he.len
  refine ⟨fun _ => ?_, fun h => absurd (of_decide_eq_false h) (by simp [evA] at hel; omega)⟩
  have hrf : refuse evA ⟨3, 2, false⟩ = 9 := by decide
  refine ⟨_, tl_Append_ref (e := ⟨3, 2, false⟩) (q0 := n78) (q3N := n82) (q3Xs := xs83) (q4 := n84) (hix.er.mono (hle_trans l55 l75)) hix.el hix.eb hm hlv (by rw [hrf]; decide), ?_⟩
  rintro H91 l91 O93 n94 n95 xs96 A97 n98 xs99 n100 n101 ⟨-, -, rfl⟩
  rw [hrf]; rfl
end Go.Vc
/- Timelines: the versions of a law; TimelineExamined. -/
namespace Go.Vc
open Go Go.Proofs Go.Shelf
structure U6 where
  a : Int
  b : Int
  c : Int
  d : Int
  e : Int
  f : Int
instance : Rep U6 where
  sz := 6
  byt := 12
  rel _ vs v := vs = [.int .u16 v.a, .int .u16 v.b, .int .u16 v.c, .int .u16 v.d, .int .u16 v.e, .int .u16 v.f] ∧ rng .u16 v.a ∧ rng .u16 v.b ∧ rng .u16 v.c ∧ rng .u16 v.d ∧ rng .u16 v.e ∧ rng .u16 v.f
  mono _ h := h
  len h := by simp [h.1]
  pos := by decide
  bpos := by decide
  one h := by rw [h.1]; simp [Value.oneCell']
def lRec (a b : Int) : Per := if (lPer a b).hi = 1000000 then ⟨(lPer a b).lo, 1099511627776⟩ else lPer a b
theorem lPer_bd {a b : Int} (ha : 0 ≤ a) (hb : 0 ≤ b) : 0 ≤ (lPer a b).lo ∧ (lPer a b).lo < 40 ∧ (lPer a b).lo < (lPer a b).hi ∧ (lPer a b).hi ≤ 1000000 := by
  have h1 := tmod_bd ha (m := 40) (by decide)
  have h2 := tmod_bd hb (m := 15) (by decide)
  unfold lPer
  refine ⟨h1.1, h1.2, ?_, ?_⟩ <;> dsimp only <;> split <;> omega
theorem lRec_bd {a b : Int} (ha : 0 ≤ a) (hb : 0 ≤ b) : 0 ≤ (lRec a b).lo ∧ (lRec a b).lo < (lRec a b).hi ∧ (lRec a b).hi ≤ 1099511627776 := by
  have h := lPer_bd ha hb
  unfold lRec
  split
  · exact ⟨h.1, by dsimp only; omega, Int.le_refl _⟩
  · exact ⟨h.1, h.2.2.1, by omega⟩
def an58 : Ann where
  res := fun _ => none
  lend := fun _ => false
  sch := fun _ => .done
  lt := fun _ => []
  tup := tups

theorem vc58 (P : Program) (H : Heap) (from0 : Int) (length : Int) (post : Int → Int → Heap → Prop) :
  vcFn P tab an58 Try.f58 [.int .u16 from0, .int .u16 length] 0 H ⟨false, [(true, [.int .i64, .int .i64])]⟩ post =
  (  ∃ (post0 : Int → Int → Heap → Prop), ConT P 57 [.int .u16 from0, .int .u16 length] H ⟨false, [(true, [.int .i64, .int .i64])]⟩ post0 ∧ ∀ (H1 : Heap), Heap.le H H1 → ∀ (n3 n4 : Int), post0
  n3 n4 H1 → (decide (n4 = (1000000 : Int)) = true → post n3 (1099511627776 : Int) H1) ∧ (decide (n4 = (1000000 : Int)) = false → post n3 n4 H1)) := by kernel_rfl
theorem law0_Recorded {a b : Int} {H : Heap} (ha : 0 ≤ a) (hb : 0 ≤ b) : ConT Try.prog 58 [.int .u16 a, .int .u16 b] H ⟨false, [(true, [.int .i64, .int .i64])]⟩ (fun x y _ => (⟨x, y⟩ : Per) = lRec a b) := by
  refine con_of_vc (an := an58) (fn := Try.f58) mix tabOK Try.func58 (by kernel_rfl) (extra := 0) ?_
  rw [vc58]
  refine ⟨_, law0_Period ha hb, ?_⟩
  intro H1 l1 n3 n4 h
  unfold lRec
  rw [← h]
  refine ⟨fun hh => ?_, fun hh => ?_⟩
  · rw [if_pos (of_decide_eq_true hh)]
  · rw [if_neg (of_decide_eq_false hh)]
def lVsn (first : Int) (i : Nat) (x : U6) : Vsn := ⟨first + i, [lv0 x.c, lv1 x.d], lPer x.a x.b, lRec x.e x.f⟩
def lVers (l : List U6) (first : Int) : List Vsn := l.mapIdx fun i x => lVsn first i x
theorem lVers_len (l : List U6) (first : Int) : (lVers l first).length = l.length := List.length_mapIdx
theorem lVers_snoc (l : List U6) (first : Int) (x : U6) : lVers (l ++ [x]) first = lVers l first ++ [lVsn first l.length x] := by
  unfold lVers
  rw [List.mapIdx_append]
  simp
def an39 : Ann where
  res := fun _ => none
  lend := fun _ => false
  sch := fun | 6 => (tk [0, 1, 2, 3, 4, 5, 6, 7, 9, 10, 11, 12, 14, 15, 16, 17] (.alt 8 (.alt 13 (.alt 18 (tk [19] (.alt 20 (.alt 21 (tk [22] .done) .fin) .fin)) .fin) .fin) .fin)) | _ => .done
  lt := fun | 3 => [.slot 7 false [.row 48 64], .slot 8 false [.int .i64]] | _ => []
  tup := tups

theorem vc39 (P : Program) (H : Heap) (lA : Option Addr) (lN lC : Nat) (most : Int) (first : Int) (post : Option Addr → Nat → Nat → Heap → Prop) :
  vcFn P tab an39 Try.f39 [.slice lA lN lC, .int .i64 most, .int .i64 first] 1 H ⟨false, [(false, [.sl])]⟩ post =
  (  ∃ (inv0 : Nat → List Value → Int → Heap → Prop), ∃ (m1 : Nat → List Value → Int → Nat), inv0 0 [] (0 : Int) H ∧ ∀ (H2 : Heap), Heap.le H H2 → ∀ (n4 : Nat) (xs5 : List Value) (n6 : Int),
  inv0 n4 xs5 n6 H2 → (decide (n6 < (↑lN : Int)) = true → (decide (n6 < most) = true → someA lA ∧ (0 : Int) ≤ n6 ∧ n6 < (↑lN : Int) ∧ ∃ (n10 : Int), ∃ (n11 : Int), ∃ (n12 : Int), ∃ (n13 :
  Int), ∃ (n14 : Int), ∃ (n15 : Int), Cells H2 lA (Int.toNat n6 * 6) [.int .u16 n10, .int .u16 n11, .int .u16 n12, .int .u16 n13, .int .u16 n14, .int .u16 n15] ∧ List.length [Value.int .u16
  (0 : Int), .int .u16 (0 : Int), .int .u16 (0 : Int), .int .u16 (0 : Int), .int .u16 (0 : Int), .int .u16 (0 : Int)] = 6 ∧ rng .i64 (first + n6) ∧ (0 : Int) ≤ (2 : Int) ∧ (2 : Int) < (↑6 :
  Int) ∧ ∃ (n16 : Int), win [.int .u16 n10, .int .u16 n11, .int .u16 n12, .int .u16 n13, .int .u16 n14, .int .u16 n15] (Int.toNat (2 : Int) * 1) 1 = [.int .u16 n16] ∧ (0 : Int) ≤ (3 : Int) ∧
  (3 : Int) < (↑6 : Int) ∧ ∃ (n17 : Int), win [.int .u16 n10, .int .u16 n11, .int .u16 n12, .int .u16 n13, .int .u16 n14, .int .u16 n15] (Int.toNat (3 : Int) * 1) 1 = [.int .u16 n17] ∧ (0 :
  Int) ≤ (0 : Int) ∧ (0 : Int) < (↑6 : Int) ∧ ∃ (n18 : Int), win [.int .u16 n10, .int .u16 n11, .int .u16 n12, .int .u16 n13, .int .u16 n14, .int .u16 n15] (Int.toNat (0 : Int) * 1) 1 = [.int
  .u16 n18] ∧ (0 : Int) ≤ (1 : Int) ∧ (1 : Int) < (↑6 : Int) ∧ ∃ (n19 : Int), win [.int .u16 n10, .int .u16 n11, .int .u16 n12, .int .u16 n13, .int .u16 n14, .int .u16 n15] (Int.toNat (1 :
  Int) * 1) 1 = [.int .u16 n19] ∧ (0 : Int) ≤ (4 : Int) ∧ (4 : Int) < (↑6 : Int) ∧ ∃ (n20 : Int), win [.int .u16 n10, .int .u16 n11, .int .u16 n12, .int .u16 n13, .int .u16 n14, .int .u16
  n15] (Int.toNat (4 : Int) * 1) 1 = [.int .u16 n20] ∧ (0 : Int) ≤ (5 : Int) ∧ (5 : Int) < (↑6 : Int) ∧ ∃ (n21 : Int), win [.int .u16 n10, .int .u16 n11, .int .u16 n12, .int .u16 n13, .int
  .u16 n14, .int .u16 n15] (Int.toNat (5 : Int) * 1) 1 = [.int .u16 n21] ∧ ∃ (post22 : Option Addr → Nat → Nat → Heap → Prop), ConT P 56 [.int .u16 n16, .int .u16 n17] H2 ⟨false, [(false,
  [.sl])]⟩ post22 ∧ ∀ (H23 : Heap), Heap.le H2 H23 → ∀ (A25 : Option Addr) (n26 c27 : Nat), post22 A25 n26 c27 H23 → ∃ (post29 : Int → Int → Heap → Prop), ConT P 57 [.int .u16 n18, .int .u16
  n19] H23 ⟨false, [(true, [.int .i64, .int .i64])]⟩ post29 ∧ ∀ (H30 : Heap), Heap.le H23 H30 → ∀ (n32 n33 : Int), post29 n32 n33 H30 → ∃ (post35 : Int → Int → Heap → Prop), ConT P 58 [.int
  .u16 n20, .int .u16 n21] H30 ⟨false, [(true, [.int .i64, .int .i64])]⟩ post35 ∧ ∀ (H36 : Heap), Heap.le H30 H36 → ∀ (n38 n39 : Int), post35 n38 n39 H36 → (n4 + 1) * 64 ≤ 140737488355328 ∧
  rng .i64 (n6 + (1 : Int)) ∧ inv0 (n4 + 1) (xs5 ++ [.int .i64 (first + n6), .slice A25 n26 c27, .int .i64 n32, .int .i64 n33, .int .i64 n38, .int .i64 n39]) (n6 + (1 : Int)) H36 ∧ m1 (n4 +
  1) (xs5 ++ [.int .i64 (first + n6), .slice A25 n26 c27, .int .i64 n32, .int .i64 n33, .int .i64 n38, .int .i64 n39]) (n6 + (1 : Int)) < m1 n4 xs5 n6) ∧ (decide (n6 < most) = false → ∀ (A42
  : Option Addr) (c43 : Nat) (H44 : Heap), Heap.le H2 H44 → Cells H44 A42 0 xs5 → n4 ≤ c43 → post A42 n4 c43 H44)) ∧ (decide (n6 < (↑lN : Int)) = false → ∀ (A49 : Option Addr) (c50 : Nat)
  (H51 : Heap), Heap.le H2 H51 → Cells H51 A49 0 xs5 → n4 ≤ c50 → post A49 n4 c50 H51)) := by kernel_rfl
set_option maxHeartbeats 1000000 in
theorem law0_Versions {H : Heap} {A : Option Addr} {n c most : Nat} {l : List U6} {first : Int} (hs : Sl H A n c l) (hm : most ≤ 1000) (hf : 0 ≤ first ∧ first ≤ 1000) :
    ConT Try.prog 39 [.slice A n c, .int .i64 most, .int .i64 first] H shS (fun A' n' c' H' => Sl H' A' n' c' (lVers (l.take most) first)) := by
  refine con_of_vc (an := an39) (fn := Try.f39) mix tabOK Try.func39 (by kernel_rfl) (extra := 1) ?_
  rw [vc39]
  have hl := hs.len
  have fin : ∀ {H1 : Heap} {i : Int} {xs : List Value}, 0 ≤ i → i ≤ n → i ≤ most → (i = n ∨ i = most) → Row H1 xs (lVers (l.take i.toNat) first) → ∀ (A' : Option Addr) (c' : Nat) (H2 : Heap), Heap.le H1 H2 → Cells H2 A' 0 xs → i.toNat ≤ c' → Sl H2 A' i.toNat c' (lVers (l.take most) first) := by
    intro H1 i xs i0 i1 i2 hi hr A' c' H2 hle hc hn
    have e : l.take i.toNat = l.take most := by
      rcases hi with hi | hi
      · rw [List.take_of_length_le (by omega), List.take_of_length_le (by omega)]
      · rw [hi]; simp
    rw [e] at hr
    exact hr.sl hle hc (by rw [lVers_len, List.length_take]; omega) hn (by show _ * 64 ≤ _; omega) (by omega)
  refine ⟨fun k xs i H' => 0 ≤ i ∧ i ≤ n ∧ i ≤ most ∧ k = i.toNat ∧ Row H' xs (lVers (l.take i.toNat) first), fun _ _ i => n - i.toNat, ⟨by omega, by omega, by omega, rfl, rfl⟩, ?_⟩
  rintro H2 l2 k xs i ⟨i0, i1, i2, rfl, hr⟩
  refine ⟨fun hlt => ⟨fun hlt2 => ?_, fun hge => ?_⟩, fun hge => ?_⟩
  · have hlt := of_decide_eq_true hlt
    have hlt2 := of_decide_eq_true hlt2
    obtain ⟨hi, hA, _, hc, ⟨rfl, r1, r2, r3, r4, r5, r6⟩⟩ := hs.at l2 i0 hlt
    have e1 : (i + 1).toNat = i.toNat + 1 := by omega
    have e2 : lVers (l.take (i + 1).toNat) first = lVers (l.take i.toNat) first ++ [lVsn first i.toNat l[i.toNat]] := by
      rw [e1, List.take_add_one, List.getElem?_eq_getElem hi, Option.toList_some, lVers_snoc, List.length_take, Nat.min_eq_left (by omega)]
    generalize l[i.toNat] = x at *
    refine ⟨hA, i0, hlt, _, _, _, _, _, _, hc, rfl, by simp only [rng]; omega, by decide, by decide, _, rfl, by decide, by decide, _, rfl, by decide, by decide, _, rfl, by decide, by decide, _, rfl, by decide, by decide, _, rfl, by decide, by decide, _, rfl, _, law0_Vals r3.1 r4.1, ?_⟩
    intro H23 l23 A25 n26 c27 hv
    refine ⟨_, law0_Period r1.1 r2.1, ?_⟩
    intro H30 l30 n32 n33 hp
    refine ⟨_, law0_Recorded r5.1 r6.1, ?_⟩
    intro H36 l36 n38 n39 hq
    have b1 := lPer_bd r1.1 r2.1
    have b2 := lRec_bd r5.1 r6.1
    rw [← hp] at b1
    rw [← hq] at b2
    simp only at b1 b2
    have hone : Row H36 [.int .i64 (first + i), .slice A25 n26 c27, .int .i64 n32, .int .i64 n33, .int .i64 n38, .int .i64 n39] [lVsn first i.toNat x] := by
      refine Row.one ⟨A25, n26, c27, ?_, ?_, hv.mono (hle_trans l30 l36), ?_⟩
      · unfold lVsn
        rw [← hp, ← hq, show ((i.toNat : Nat) : Int) = i by omega]
      · show rng .i64 (first + (i.toNat : Int))
        simp only [rng]; omega
      · unfold lVsn
        rw [← hp, ← hq]
        simp only [rng]
        omega
    refine ⟨by omega, by simp only [rng]; omega, ⟨by omega, by omega, by omega, by omega, ?_⟩, by dsimp only; omega⟩
    rw [e2]
    exact (hr.mono (hle_trans l23 (hle_trans l30 l36))).append hone
  · have hge := of_decide_eq_false hge
    exact fin i0 i1 i2 (.inr (by omega)) hr
  · have hge := of_decide_eq_false hge
    exact fin i0 i1 i2 (.inl (by omega)) hr
def an17 : Ann where
  res := fun _ => none
  lend := fun _ => false
  sch := fun _ => .done
  lt := fun _ => []
  tup := tups

theorem vc17 (P : Program) (H : Heap) (lA : Option Addr) (lN lC : Nat) (post : Option Addr → Nat → Nat → Heap → Prop) :
  vcFn P tab an17 Try.f17 [.slice lA lN lC] 0 H ⟨false, [(false, [.sl])]⟩ post =
  (  ∃ (post0 : Option Addr → Nat → Nat → Heap → Prop), ConT P 39 [.slice lA lN lC, .int .i64 (40 : Int), .int .i64 (1 : Int)] H ⟨false, [(false, [.sl])]⟩ post0 ∧ ∀ (H1 : Heap), Heap.le H H1 → ∀
  (A3 : Option Addr) (n4 c5 : Nat), post0 A3 n4 c5 H1 → post A3 n4 c5 H1) := by kernel_rfl
theorem law26_versions {H : Heap} {A : Option Addr} {n c : Nat} {l : List U6} (hs : Sl H A n c l) :
    ConT Try.prog 17 [.slice A n c] H shS (fun A' n' c' H' => Sl H' A' n' c' (lVers (l.take 40) 1)) := by
  refine con_of_vc (an := an17) (fn := Try.f17) mix tabOK Try.func17 (by kernel_rfl) (extra := 0) ?_
  rw [vc17]
  exact ⟨_, law0_Versions (most := 40) (first := 1) hs (by decide) (by decide), fun H1 l1 A3 n4 c5 h => h⟩
end Go.Vc
/- Timelines: the reference's small functions. -/
namespace Go.Vc
open Go Go.Proofs Go.Shelf
instance decEvLt (a b : Ev) : Decidable (evLt a b) := by unfold evLt; infer_instance
end Go.Vc
/- Timelines: the reference's events of versions. -/
namespace Go.Vc
open Go Go.Proofs Go.Shelf
/- an event put where it belongs -/
structure PutAt (l : List Ev) (e : Ev) (k : Nat) : Prop where
  le : k ≤ l.length
  hi : ∀ j (h : j < l.length), k ≤ j → evLt e l[j]
  lo : ∀ j (h : j < l.length), j + 1 = k → ¬ evLt e l[j]
theorem PutAt.perm {l : List Ev} {e : Ev} {k : Nat} (h : PutAt l e k) : (l.take k ++ e :: l.drop k).Perm (l ++ [e]) := by
  have h1 : (l.take k ++ e :: l.drop k).Perm (e :: (l.take k ++ l.drop k)) := List.perm_middle
  rw [List.take_append_drop] at h1
  exact h1.trans (List.perm_append_comm (l₁ := [e]) (l₂ := l))
theorem PutAt.sorted {l : List Ev} {e : Ev} {k : Nat} (h : PutAt l e k) (hs : l.Pairwise fun a b => ¬ evLt b a) : (l.take k ++ e :: l.drop k).Pairwise fun a b => ¬ evLt b a := by
  refine List.pairwise_append.2 ⟨hs.sublist (List.take_sublist _ _), List.pairwise_cons.2 ⟨fun x hx => ?_, hs.sublist (List.drop_sublist _ _)⟩, fun a ha b hb => ?_⟩
  · obtain ⟨j, hj, rfl⟩ := List.getElem_of_mem hx
    rw [List.length_drop] at hj
    rw [List.getElem_drop]
    have := h.hi (k + j) (by omega) (by omega)
    exact fun hh => evLt_irrefl _ (evLt_trans this hh)
  · obtain ⟨i, hi, hik, rfl⟩ := mem_take.1 ha
    rcases List.mem_cons.1 hb with rfl | hb
    · have hlo := h.lo (k - 1) (by have := h.le; omega) (by omega)
      rcases Nat.lt_or_ge i (k - 1) with h1 | h1
      · have := List.pairwise_iff_getElem.1 hs i (k - 1) hi (by have := h.le; omega) h1
        exact evLt_ntrans hlo this
      · have : i = k - 1 := by omega
        subst this
        exact hlo
    · obtain ⟨j, hj, rfl⟩ := List.getElem_of_mem hb
      rw [List.length_drop] at hj
      rw [List.getElem_drop]
      exact List.pairwise_iff_getElem.1 hs i (k + j) hi (by omega) (by omega)
end Go.Vc
/- Timelines: the reference's IDs at an instant. -/
namespace Go.Vc
open Go Go.Proofs Go.Shelf
theorem ss_ext {l m : List Int} (hl : SS l) (hm : SS m) (h : ∀ x, x ∈ l ↔ x ∈ m) : l = m :=
  List.Perm.eq_of_pairwise (le := fun a b : Int => a < b) (fun a b _ _ h h' => by omega) hl hm ((List.perm_ext_iff_of_nodup (hl.imp fun h => by omega) (hm.imp fun h => by omega)).2 h)
theorem mem_ncur {t : Int} : ∀ {l : List Ev}, (l.Pairwise fun a b => a.tm ≤ b.tm) → ∀ e : Ev, e ∈ l.take (ncur l t) ↔ e ∈ l ∧ e.tm ≤ t
  | [], _, e => by simp
  | x :: l, h, e => by
    obtain ⟨h1, h2⟩ := List.pairwise_cons.1 h
    have ih := mem_ncur (t := t) h2 e
    unfold ncur at ih ⊢
    rw [List.takeWhile_cons]
    by_cases hx : x.tm ≤ t
    · rw [if_pos (by simpa using hx), List.length_cons, List.take_succ_cons, List.mem_cons, List.mem_cons, ih]
      constructor
      · rintro (rfl | h)
        · exact ⟨.inl rfl, hx⟩
        · exact ⟨.inr h.1, h.2⟩
      · rintro ⟨rfl | h, k⟩
        · exact .inl rfl
        · exact .inr ⟨h, k⟩
    · rw [if_neg (by simpa using hx), List.length_nil, List.take_zero, List.mem_cons]
      constructor
      · intro h; cases h
      · rintro ⟨rfl | h, k⟩
        · exact absurd k hx
        · have := h1 e h; omega
end Go.Vc
/- Timelines: an index agrees with the definition; TimelineBuilds. -/
namespace Go.Vc
open Go Go.Proofs Go.Shelf
section
variable {H : Heap} {O : OMap} {q0 t t2 q4 : Int} {q1N q3N bi1 bi3 : Nat} {q1Xs q3Xs : List Value} {q2 : Option Nat} {evs : List Ev}
end
end Go.Vc
/- Timelines: appending an event. -/
namespace Go.Vc
open Go Go.Proofs Go.Shelf
end Go.Vc
/- Timelines: Append. -/
namespace Go.Vc
open Go Go.Proofs Go.Shelf
section
variable {H : Heap} {O : OMap} {q0 q4 : Int} {q1N q3N bi1 bi3 : Nat} {q1Xs q3Xs : List Value} {q2 : Option Nat} {evs : List Ev}
end
end Go.Vc
/- Timelines: events stay proper when one is appended. -/
namespace Go.Vc
open Go Go.Proofs Go.Shelf
end Go.Vc
/- Timelines: the reference's Append. -/
namespace Go.Vc
open Go Go.Proofs Go.Shelf
end Go.Vc
/- Timelines: TimelineAppends. -/
namespace Go.Vc
open Go Go.Proofs Go.Shelf
end Go.Vc
/- Timelines: appending the events of an index, one after the other; plain. -/
namespace Go.Vc
open Go Go.Proofs Go.Shelf
theorem newGo_mem : ∀ {vs : List Vsn} {seen : List Int} {e : Ev}, (vs.Pairwise fun a b => a.id ≠ b.id) → (∀ v ∈ vs, v.id ∉ seen) → (∀ v ∈ vs, okV v = true) → (e ∈ newGo vs seen ↔ ∃ v ∈ vs, e ∈ evOf v)
  | [], _, _, _, _, _ => by simp [newGo]
  | v :: r, seen, e, hp, hn, hk => by
    rw [List.pairwise_cons] at hp
    have ih := newGo_mem (vs := r) (seen := seen ++ [v.id]) (e := e) hp.2 (fun v' hv' hm => by
      rcases List.mem_append.1 hm with hm | hm
      · exact hn v' (List.mem_cons_of_mem _ hv') hm
      · exact hp.1 v' hv' (List.mem_singleton.1 hm).symm) (fun v' hv' => hk v' (List.mem_cons_of_mem _ hv'))
    rw [newGo, if_neg (by simpa using hn v List.mem_cons_self), if_pos (hk v List.mem_cons_self), List.mem_append, ih]
    simp
end Go.Vc
/- Timelines: which versions an index of versions lists as current; plain. -/
namespace Go.Vc
open Go Go.Proofs Go.Shelf
theorem evOf_fin {v : Vsn} {f : Ev} (hf : f.fin = true) : f ∈ evOf v ↔ v.rc.hi < 1099511627776 ∧ f = ⟨v.rc.hi, v.id, true⟩ := by
  unfold evOf
  split
  · rename_i h
    simp only [List.mem_cons, List.not_mem_nil, or_false]
    constructor
    · rintro (rfl | rfl)
      · cases hf
      · exact ⟨h, rfl⟩
    · rintro ⟨_, rfl⟩
      exact .inr rfl
  · rename_i h
    simp only [List.mem_cons, List.not_mem_nil, or_false]
    constructor
    · rintro rfl
      cases hf
    · rintro ⟨h', _⟩
      exact absurd h' h
def curV (vs : List Vsn) (t : Int) : List Vsn := vs.filter fun v => decide (v.rc.lo ≤ t) && decide (t < v.rc.hi)
theorem cur_vers {vs : List Vsn} {evs : List Ev} {t : Int} (hp : evs.Perm (newGo vs [])) (hw : WfE evs) (ha : vs.Pairwise fun a b => a.id < b.id) (hk : ∀ v ∈ vs, okV v = true) (ht : t < 1099511627776) :
    stF (evs.take (ncur evs t)) = (curV vs t).map (·.id) := by
  refine ss_ext (stF_sorted _) ?_ fun x => ?_
  · exact List.pairwise_map.2 ((ha.sublist List.filter_sublist).imp fun h => h)
  have hne : vs.Pairwise fun a b => a.id ≠ b.id := ha.imp fun h => by omega
  have hm : ∀ e : Ev, e ∈ evs.take (ncur evs t) ↔ (∃ v ∈ vs, e ∈ evOf v) ∧ e.tm ≤ t := fun e => by
    rw [mem_ncur hw.srt e, hp.mem_iff, newGo_mem hne (fun v _ h => by cases h) hk]
  have huniq : ∀ v ∈ vs, ∀ u ∈ vs, v.id = u.id → v = u := by
    intro v hv u hu e
    obtain ⟨i, hi, rfl⟩ := List.getElem_of_mem hv
    obtain ⟨j, hj, rfl⟩ := List.getElem_of_mem hu
    rcases Nat.lt_trichotomy i j with h | h | h
    · exact absurd e (List.pairwise_iff_getElem.1 hne i j hi hj h)
    · subst h; rfl
    · exact absurd e.symm (List.pairwise_iff_getElem.1 hne j i hj hi h)
  rw [stF_mem hw (ncur_le evs t)]
  simp only [hm, curV, List.mem_map, List.mem_filter, Bool.and_eq_true, decide_eq_true_eq]
  constructor
  · rintro ⟨⟨s, ⟨⟨v, hv, hs⟩, h1⟩, h2, rfl⟩, h3⟩
    have hs' := evOf_start_eq hs h2
    subst hs'
    refine ⟨v, ⟨hv, h1, ?_⟩, rfl⟩
    rcases Int.lt_or_le t v.rc.hi with h | h
    · exact h
    · exact absurd ⟨⟨v.rc.hi, v.id, true⟩, ⟨⟨v, hv, (evOf_fin rfl).2 ⟨by omega, rfl⟩⟩, h⟩, rfl, rfl⟩ h3
  · rintro ⟨v, ⟨hv, h1, h2⟩, rfl⟩
    refine ⟨⟨_, ⟨⟨v, hv, evOf_start v⟩, h1⟩, rfl, rfl⟩, ?_⟩
    rintro ⟨f, ⟨⟨u, hu, hf⟩, h3⟩, h4, h5⟩
    obtain ⟨_, rfl⟩ := (evOf_fin h4).1 hf
    obtain rfl := huniq u hu v hv h5
    simp only at h3
    omega
theorem mergeLin_snoc {l : List Int} {x : Int} (h : (l ++ [x]).Pairwise fun a b => a < b) : mergeLin l [x] = l ++ [x] := by
  unfold mergeLin
  have h1 : sortI (l ++ [x]) = l ++ [x] := sortI_eq (List.Perm.refl _) (h.imp fun h => by omega)
  rw [h1]
  refine ss_ext (compact_asc _ (h.imp fun h => by omega)) h fun y => compact_mem _ y
end Go.Vc
/- Timelines: the versions recorded at an instant; TimelineAgrees. -/
namespace Go.Vc
open Go Go.Proofs Go.Shelf
def pDays (p : Per) : Bool := pOk p && decide (p.hi ≤ 1000000)
def an62 : Ann where
  res := fun _ => none
  lend := fun | 4 => true | _ => false
  sch := fun _ => .done
  lt := fun _ => []
  tup := tups

theorem vc62 (P : Program) (H : Heap) (pFrom : Int) (pTo : Int) (post : Bool → Heap → Prop) :
  vcFn P tab an62 Try.f62 [.agg #[.int .i64 pFrom, .int .i64 pTo]] 0 H ⟨false, [(false, [.bool])]⟩ post =
  (  ∃ (post0 : Bool → Heap → Prop), ConT P 27 [.agg ⟨[.int .i64 pFrom, .int .i64 pTo]⟩] H ⟨false, [(false, [.bool])]⟩ post0 ∧ ∀ (H1 : Heap), Heap.le H H1 → ∀ (b3 : Bool), post0 b3 H1 → (b3 =
  true → post (decide (pTo ≤ (1000000 : Int))) H1) ∧ (b3 = false → post false H1)) := by kernel_rfl
theorem period_ValidDays {a b : Int} {H : Heap} : ConT Try.prog 62 [.agg ⟨[.int .i64 a, .int .i64 b]⟩] H shB (fun r _ => r = pDays ⟨a, b⟩) := by
  refine con_of_vc (an := an62) (fn := Try.f62) mix tabOK Try.func62 (by kernel_rfl) (extra := 0) ?_
  rw [vc62]
  refine ⟨_, period_Valid, fun H1 l1 r h => ?_⟩
  subst h
  unfold pDays
  exact ⟨fun h => (by rw [h]; simp), fun h => (by rw [h]; simp)⟩
def properV (v : Vsn) : Bool := pDays v.vd && pOk v.rc
def an44 : Ann where
  res := fun _ => none
  lend := fun | 5 => true | 9 => true | _ => false
  sch := fun _ => .done
  lt := fun _ => []
  tup := tups

theorem vc44 (P : Program) (H : Heap) (vID : Int) (vValsA : Option Addr) (vValsN vValsC : Nat) (vValidFrom : Int) (vValidTo : Int) (vRecordedFrom : Int) (vRecordedTo : Int) (post : Bool → Heap → Prop) :
  vcFn P tab an44 Try.f44 [.agg #[.int .i64 vID, .slice vValsA vValsN vValsC, .int .i64 vValidFrom, .int .i64 vValidTo, .int .i64 vRecordedFrom, .int .i64 vRecordedTo]] 0 H ⟨false, [(false, [.bool])]⟩ post =
  (  ∃ (post0 : Bool → Heap → Prop), ConT P 62 [.agg ⟨[.int .i64 vValidFrom, .int .i64 vValidTo]⟩] H ⟨false, [(false, [.bool])]⟩ post0 ∧ ∀ (H1 : Heap), Heap.le H H1 → ∀ (b3 : Bool), post0 b3 H1
  → (b3 = true → ∃ (post6 : Bool → Heap → Prop), ConT P 27 [.agg ⟨[.int .i64 vRecordedFrom, .int .i64 vRecordedTo]⟩] H1 ⟨false, [(false, [.bool])]⟩ post6 ∧ ∀ (H7 : Heap), Heap.le H1 H7 → ∀
  (b9 : Bool), post6 b9 H7 → post b9 H7) ∧ (b3 = false → post false H1)) := by kernel_rfl
theorem bt_proper {v : Vsn} {A : Option Addr} {n c : Nat} {H : Heap} : ConT Try.prog 44 [.agg #[.int .i64 v.id, .slice A n c, .int .i64 v.vd.lo, .int .i64 v.vd.hi, .int .i64 v.rc.lo, .int .i64 v.rc.hi]] H shB (fun r _ => r = properV v) := by
  refine con_of_vc (an := an44) (fn := Try.f44) mix tabOK Try.func44 (by kernel_rfl) (extra := 0) ?_
  rw [vc44]
  refine ⟨_, period_ValidDays, fun H1 l1 r h => ⟨fun hr => ⟨_, period_Valid, fun H2 l2 q h2 => ?_⟩, fun hr => ?_⟩⟩
  · rw [h2]; unfold properV; rw [← h, hr]; simp
  · unfold properV; rw [← h, hr]; simp
def asTup (v : Vsn) : Tup := ⟨v.vals, v.vd, [v.id]⟩
def asOfL (vs : List Vsn) (t : Int) : List Tup := (vs.filter fun v => properV v && pIn v.rc t).map asTup
theorem asOfL_snoc (l : List Vsn) (v : Vsn) (t : Int) : asOfL (l ++ [v]) t = asOfL l t ++ (if (properV v && pIn v.rc t) = true then [asTup v] else []) := by
  unfold asOfL
  rw [List.filter_append, List.map_append]
  congr 1
  rw [List.filter_cons]
  split <;> simp
theorem asOfL_len (l : List Vsn) (t : Int) : (asOfL l t).length ≤ l.length := by
  unfold asOfL
  rw [List.length_map]
  exact List.length_filter_le _ _
def an25 : Ann where
  res := fun _ => none
  lend := fun | 15 => true | 20 => true | _ => false
  sch := fun | 6 => (tk [0, 1, 2, 4, 5, 6, 7] (.alt 3 (.alt 8 (tk [9] (.alt 10 (.alt 11 (tk [12] .done) .fin) .fin)) .fin) (.alt 8 (.alt 3 (tk [9] (.alt 10 (.alt 11 (tk [12] .done) .fin) .fin)) .fin) .fin))) | _ => .done
  lt := fun | 3 => [.slot 5 false [.row 36 61], .slot 10 false [.int .i64]] | _ => []
  tup := tups

theorem vc25 (P : Program) (H : Heap) (versionsA : Option Addr) (versionsN versionsC : Nat) (at0 : Int) (post : Option Addr → Nat → Nat → Heap → Prop) :
  vcFn P tab an25 Try.f25 [.slice versionsA versionsN versionsC, .int .i64 at0] 1 H ⟨false, [(false, [.sl])]⟩ post =
  (  ∃ (inv0 : Nat → List Value → Int → Heap → Prop), ∃ (m1 : Nat → List Value → Int → Nat), inv0 0 [] (0 : Int) H ∧ ∀ (H2 : Heap), Heap.le H H2 → ∀ (n4 : Nat) (xs5 : List Value) (n6 : Int),
  inv0 n4 xs5 n6 H2 → (decide (n6 < (↑versionsN : Int)) = true → someA versionsA ∧ (0 : Int) ≤ n6 ∧ n6 < (↑versionsN : Int) ∧ ∃ (n9 : Int), ∃ (A10 : Option Addr), ∃ (n11 : Nat), ∃ (c12 :
  Nat), ∃ (n13 : Int), ∃ (n14 : Int), ∃ (n15 : Int), ∃ (n16 : Int), Cells H2 versionsA (Int.toNat n6 * 6) [.int .i64 n9, .slice A10 n11 c12, .int .i64 n13, .int .i64 n14, .int .i64 n15, .int
  .i64 n16] ∧ ∃ (post17 : Bool → Heap → Prop), ConT P 44 [.agg ⟨[.int .i64 n9, .slice A10 n11 c12, .int .i64 n13, .int .i64 n14, .int .i64 n15, .int .i64 n16]⟩] H2 ⟨false, [(false, [.bool])]⟩
  post17 ∧ ∀ (H18 : Heap), Heap.le H2 H18 → ∀ (b20 : Bool), post17 b20 H18 → (b20 = true → ∃ (post23 : Bool → Heap → Prop), ConT P 45 [.agg ⟨[.int .i64 n15, .int .i64 n16]⟩, .int .i64 at0]
  H18 ⟨false, [(false, [.bool])]⟩ post23 ∧ ∀ (H24 : Heap), Heap.le H18 H24 → ∀ (b26 : Bool), post23 b26 H24 → (b26 = true → (∃ (post29 : Option Addr → Nat → Nat → Heap → Prop), ConT P 46
  [.slice A10 n11 c12] H24 ⟨false, [(false, [.sl])]⟩ post29 ∧ ∀ (H30 : Heap), Heap.le H24 H30 → ∀ (A32 : Option Addr) (n33 c34 : Nat), post29 A32 n33 c34 H30 → ∀ (A36 : Option Addr) (c37 :
  Nat) (H38 : Heap), Heap.le H30 H38 → Cells H38 A36 0 [.int .i64 n9] → 1 ≤ c37 → (n4 + 1) * 64 ≤ 140737488355328 ∧ rng .i64 (n6 + (1 : Int)) ∧ inv0 (n4 + 1) (xs5 ++ [.slice A32 n33 c34, .int
  .i64 n13, .int .i64 n14, .slice A36 1 c37]) (n6 + (1 : Int)) H38 ∧ m1 (n4 + 1) (xs5 ++ [.slice A32 n33 c34, .int .i64 n13, .int .i64 n14, .slice A36 1 c37]) (n6 + (1 : Int)) < m1 n4 xs5 n6)
  ∧ ∃ (post42 : Option Addr → Nat → Nat → Heap → Prop), ConT P 46 [.slice A10 n11 c12] H24 ⟨false, [(false, [.sl])]⟩ post42 ∧ ∀ (H43 : Heap), Heap.le H24 H43 → ∀ (A45 : Option Addr) (n46 c47
  : Nat), post42 A45 n46 c47 H43 → ∀ (A49 : Option Addr) (c50 : Nat) (H51 : Heap), Heap.le H43 H51 → Cells H51 A49 0 [.int .i64 n9] → 1 ≤ c50 → (n4 + 1) * 64 ≤ 140737488355328 ∧ rng .i64 (n6
  + (1 : Int)) ∧ inv0 (n4 + 1) (xs5 ++ [.slice A45 n46 c47, .int .i64 n13, .int .i64 n14, .slice A49 1 c50]) (n6 + (1 : Int)) H51 ∧ m1 (n4 + 1) (xs5 ++ [.slice A45 n46 c47, .int .i64 n13,
  .int .i64 n14, .slice A49 1 c50]) (n6 + (1 : Int)) < m1 n4 xs5 n6) ∧ (b26 = false → rng .i64 (n6 + (1 : Int)) ∧ inv0 n4 xs5 (n6 + (1 : Int)) H24 ∧ m1 n4 xs5 (n6 + (1 : Int)) < m1 n4 xs5
  n6)) ∧ (b20 = false → rng .i64 (n6 + (1 : Int)) ∧ inv0 n4 xs5 (n6 + (1 : Int)) H18 ∧ m1 n4 xs5 (n6 + (1 : Int)) < m1 n4 xs5 n6)) ∧ (decide (n6 < (↑versionsN : Int)) = false → ∀ (A58 :
  Option Addr) (c59 : Nat) (H60 : Heap), Heap.le H2 H60 → Cells H60 A58 0 xs5 → n4 ≤ c59 → post A58 n4 c59 H60)) := by kernel_rfl
set_option maxHeartbeats 1000000 in
theorem bt_AsOf {H : Heap} {A : Option Addr} {n c : Nat} {vs : List Vsn} {t : Int} (hs : Sl H A n c vs) (hn : n ≤ 1000000000) :
    ConT Try.prog 25 [.slice A n c, .int .i64 t] H shS (fun A' n' c' H' => Sl H' A' n' c' (asOfL vs t)) := by
  refine con_of_vc (an := an25) (fn := Try.f25) mix tabOK Try.func25 (by kernel_rfl) (extra := 1) ?_
  rw [vc25]
  have hl := hs.len
  refine ⟨fun k xs i H' => 0 ≤ i ∧ i ≤ n ∧ k = (asOfL (vs.take i.toNat) t).length ∧ Row H' xs (asOfL (vs.take i.toNat) t), fun _ _ i => n - i.toNat, ⟨by omega, by omega, by simp [asOfL], by simp [asOfL, Row]⟩, ?_⟩
  rintro H2 l2 k xs i ⟨i0, i1, rfl, hr⟩
  refine ⟨fun hlt => ?_, fun hge => ?_⟩
  · have hlt := of_decide_eq_true hlt
    obtain ⟨hi, hA, _, hc, A', n', c', rfl, r1, hv, r2, r3, r4, r5⟩ := hs.at l2 i0 hlt
    have e1 : (i + 1).toNat = i.toNat + 1 := by omega
    have e2 : asOfL (vs.take (i + 1).toNat) t = asOfL (vs.take i.toNat) t ++ (if (properV vs[i.toNat] && pIn vs[i.toNat].rc t) = true then [asTup vs[i.toNat]] else []) := by
      rw [e1, List.take_add_one, List.getElem?_eq_getElem hi, Option.toList_some, asOfL_snoc]
    have hlen := asOfL_len (vs.take i.toNat) t
    rw [List.length_take] at hlen
    have skip : (properV vs[i.toNat] && pIn vs[i.toNat].rc t) = false → ∀ {H' : Heap}, Heap.le H2 H' → rng .i64 (i + 1) ∧ (0 ≤ i + 1 ∧ i + 1 ≤ n ∧ (asOfL (vs.take i.toNat) t).length = (asOfL (vs.take (i + 1).toNat) t).length ∧ Row H' xs (asOfL (vs.take (i + 1).toNat) t)) ∧ n - (i + 1).toNat < n - i.toNat := by
      intro h H' hle
      rw [e2, h]
      exact ⟨by simp only [rng]; omega, ⟨by omega, by omega, by simp, by simpa using hr.mono hle⟩, by omega⟩
    have add : (properV vs[i.toNat] && pIn vs[i.toNat].rc t) = true → ∀ {H' : Heap} {B : Option Addr} {m d : Nat} {E : Option Addr} {e : Nat}, Heap.le H2 H' → Sl H' B m d vs[i.toNat].vals → Cells H' E 0 [.int .i64 vs[i.toNat].id] → 1 ≤ e → ((asOfL (vs.take i.toNat) t).length + 1) * 64 ≤ 140737488355328 ∧ rng .i64 (i + 1) ∧ (0 ≤ i + 1 ∧ i + 1 ≤ n ∧ (asOfL (vs.take i.toNat) t).length + 1 = (asOfL (vs.take (i + 1).toNat) t).length ∧ Row H' (xs ++ [.slice B m d, .int .i64 vs[i.toNat].vd.lo, .int .i64 vs[i.toNat].vd.hi, .slice E 1 e]) (asOfL (vs.take (i + 1).toNat) t)) ∧ n - (i + 1).toNat < n - i.toNat := by
      intro h H' B m d E e hle hb he1 he2
      rw [e2, h, if_pos rfl]
      refine ⟨by omega, by simp only [rng]; omega, ⟨by omega, by omega, by simp, (hr.mono hle).append (Row.one ⟨B, m, d, E, 1, e, rfl, hb, r2, r3, ?_⟩)⟩, by omega⟩
      exact (Row.one (show Rep.rel H' [.int .i64 vs[i.toNat].id] vs[i.toNat].id from ⟨rfl, r1⟩)).sl (hle_refl _) he1 rfl he2 (by decide) (by decide)
    generalize vs[i.toNat] = v at *
    refine ⟨hA, i0, hlt, _, _, _, _, _, _, _, _, hc, _, bt_proper (v := v), fun H18 l18 b20 hb => ⟨fun h20 => ⟨_, period_Includes, fun H24 l24 b26 hb2 => ⟨fun h26 => ?_, fun h26 => ?_⟩⟩, fun h20 => ?_⟩⟩
    · have hh : (properV v && pIn v.rc t) = true := by rw [← hb, h20]; rw [← show b26 = pIn v.rc t from hb2, h26]; rfl
      have l024 := hle_trans l18 l24
      refine ⟨⟨_, Clone_Val (hv.mono l024), fun H30 l30 A32 n33 c34 hcl A36 c37 H38 l38 hc1 hc2 => ?_⟩, _, Clone_Val (hv.mono l024), fun H30 l30 A32 n33 c34 hcl A36 c37 H38 l38 hc1 hc2 => ?_⟩
      · exact add hh (hle_trans l024 (hle_trans l30 l38)) (hcl.mono l38) hc1 hc2
      · exact add hh (hle_trans l024 (hle_trans l30 l38)) (hcl.mono l38) hc1 hc2
    · exact skip (by rw [← show b26 = pIn v.rc t from hb2, h26]; simp) (hle_trans l18 l24)
    · exact skip (by rw [← hb, h20]; rfl) l18
  · have hge := of_decide_eq_false hge
    intro A58 c59 H60 l60 hc hn2
    have hlen := asOfL_len vs t
    rw [show vs.take i.toNat = vs from List.take_of_length_le (by omega)] at hr hn2 ⊢
    exact hr.sl l60 hc rfl hn2 (by show _ * 64 ≤ _; omega) (by omega)
theorem asOf_cur {vs : List Vsn} {t : Int} (h : ∀ v ∈ vs, properV v = true) : asOfL vs t = (curV vs t).map asTup := by
  unfold asOfL curV
  congr 1
  refine List.filter_congr fun v hv => ?_
  have hp := h v hv
  rw [hp, Bool.true_and]
  unfold properV at hp
  rw [Bool.and_eq_true] at hp
  unfold pIn
  rw [hp.2, Bool.true_and]
theorem lVers_id (l : List U6) (first : Int) : (lVers l first).Pairwise fun a b => a.id < b.id := by
  refine List.pairwise_iff_getElem.2 fun i j hi hj hij => ?_
  unfold lVers at *
  simp only [List.getElem_mapIdx, lVsn]
  omega
theorem lVers_mem {l : List U6} {first : Int} {v : Vsn} (h : v ∈ lVers l first) : ∃ i x, x ∈ l ∧ v = lVsn first i x := by
  obtain ⟨i, hi, rfl⟩ := List.getElem_of_mem h
  unfold lVers at *
  exact ⟨i, _, List.getElem_mem (by simpa using hi), by simp only [List.getElem_mapIdx]⟩
theorem u6_bd {H : Heap} {A : Option Addr} {n c : Nat} {l : List U6} (hs : Sl H A n c l) : ∀ x ∈ l, 0 ≤ x.a ∧ 0 ≤ x.b ∧ 0 ≤ x.e ∧ 0 ≤ x.f := by
  intro x hx
  obtain ⟨i, hi, rfl⟩ := List.getElem_of_mem hx
  obtain ⟨vs, _, _, r1, r2, r3, r4, r5, r6⟩ := hs.get i hi
  exact ⟨r1.1, r2.1, r5.1, r6.1⟩
theorem lVers_ok {l : List U6} {first : Int} (hf : 1 ≤ first) (hl : ∀ x ∈ l, 0 ≤ x.a ∧ 0 ≤ x.b ∧ 0 ≤ x.e ∧ 0 ≤ x.f) : ∀ v ∈ lVers l first, properV v = true ∧ okV v = true ∧ 0 ≤ v.rc.lo ∧ v.rc.lo < 1099511627776 := by
  intro v hv
  obtain ⟨i, x, hx, rfl⟩ := lVers_mem hv
  obtain ⟨ha, hb, he, hg⟩ := hl x hx
  have b1 := lPer_bd ha hb
  have b2 := lRec_bd he hg
  have p1 : pOk (lPer x.a x.b) = true := pOk_iff.2 ⟨b1.1, b1.2.2.1, by have := b1.2.2.2; unfold maxT; omega⟩
  have p2 : pOk (lRec x.e x.f) = true := pOk_iff.2 ⟨b2.1, b2.2.1, by unfold maxT; omega⟩
  refine ⟨?_, ?_, b2.1, ?_⟩
  · unfold properV pDays lVsn
    simp only [p1, p2, Bool.true_and, Bool.and_true, decide_eq_true_eq]
    exact b1.2.2.2
  · unfold okV lVsn
    simp only [p2, Bool.and_true, decide_eq_true_eq]
    omega
  · show (lRec x.e x.f).lo < _
    omega
def an9 : Ann where
  res := fun _ => none
  lend := fun | 38 => true | 44 => true | 49 => true | _ => false
  sch := fun _ => .done
  bx := fun | some 42, 22 => some [.int .i64, .row 56 33, .mp, .row 57 44, .int .i64] | some 49, 24 => some [.int .i64, .row 58 33, .mp, .row 59 44, .int .i64] | _, _ => none
  nb := fun | 22 => some (68, [.int .i64, .row 54 33, .mp, .row 55 44, .int .i64]) | _ => none
  lt := fun | 7 => [.slot 10 false [.sl], .slot 29 false [.int .i64]] | _ => []
  tup := tups

theorem vc9 (P : Program) (H : Heap) (lA : Option Addr) (lN lC : Nat) (interval : Int) (at0 : Int) (post : Bool → Heap → Prop) :
  vcFn P tab an9 Try.f9 [.slice lA lN lC, .int .u16 interval, .int .u16 at0] 6 H ⟨false, [(false, [.bool])]⟩ post =
  (  ∃ (post0 : Option Addr → Nat → Nat → Heap → Prop), ConT P 17 [.slice lA lN lC] H ⟨false, [(false, [.sl])]⟩ post0 ∧ ∀ (H1 : Heap), Heap.le H H1 → ∀ (A3 : Option Addr) (n4 c5 : Nat), post0 A3
  n4 c5 H1 → (60 : Int) ≠ (0 : Int) ∧ ∃ (e7 : Int), IntKind.wrap IntKind.i64 (Int.tmod at0 (60 : Int)) = e7 ∧ (8 : Int) ≠ (0 : Int) ∧ ∃ (e8 : Int), IntKind.wrap IntKind.i64 (Int.tmod interval
  (8 : Int)) = e8 ∧ ∃ (post9 : Int → Nat → List Value → Option Nat → Nat → List Value → Int → Heap → (Nat → Option XO) → Prop), ConN P 11 [.slice A3 n4 c5, .int .i64 e8] 68 H1 noO [.int .i64,
  .row 54 33, .mp, .row 55 44, .int .i64] post9 ∧ ∀ (H10 : Heap), Heap.le H1 H10 → ∀ (O12 : Nat → Option XO) (n13 : Int) (n14 : Nat) (xs15 : List Value) (A16 : Option Nat) (n17 : Nat) (xs18 :
  List Value) (n19 : Int), post9 n13 n14 xs15 A16 n17 xs18 n19 H10 O12 → (false = true → post false H10) ∧ (false = false → ∃ (post23 : Option Addr → Nat → Nat → Heap → Prop), ConT P 25 [.slice A3 n4
  c5, .int .i64 e7] H10 ⟨false, [(false, [.sl])]⟩ post23 ∧ ∀ (H24 : Heap), Heap.le H10 H24 → ∀ (A26 : Option Addr) (n27 c28 : Nat), post23 A26 n27 c28 H24 → ∃ (inv30 : Option Addr → Nat → Nat
  → Int → Heap → Prop), ∃ (m31 : Option Addr → Nat → Nat → Int → Nat), inv30 none 0 0 (0 : Int) H24 ∧ ∀ (H32 : Heap), Heap.le H24 H32 → ∀ (A34 : Option Addr) (n35 c36 : Nat) (n37 : Int),
  inv30 A34 n35 c36 n37 H32 → (decide (n37 < (↑n27 : Int)) = true → someA A26 ∧ (0 : Int) ≤ n37 ∧ n37 < (↑n27 : Int) ∧ ∃ (A40 : Option Addr), ∃ (n41 : Nat), ∃ (c42 : Nat), ∃ (n43 : Int), ∃
  (n44 : Int), ∃ (A45 : Option Addr), ∃ (n46 : Nat), ∃ (c47 : Nat), Cells H32 A26 (Int.toNat n37 * 4) [.slice A40 n41 c42, .int .i64 n43, .int .i64 n44, .slice A45 n46 c47] ∧ ∃ (post48 :
  Option Addr → Nat → Nat → Heap → Prop), ConT P 26 [.slice A34 n35 c36, .slice A45 n46 c47] H32 ⟨false, [(false, [.sl])]⟩ post48 ∧ ∀ (H49 : Heap), Heap.le H32 H49 → ∀ (A51 : Option Addr)
  (n52 c53 : Nat), post48 A51 n52 c53 H49 → rng .i64 (n37 + (1 : Int)) ∧ inv30 A51 n52 c53 (n37 + (1 : Int)) H49 ∧ m31 A51 n52 c53 (n37 + (1 : Int)) < m31 A34 n35 c36 n37) ∧ (decide (n37 <
  (↑n27 : Int)) = false → ∃ (post56 : Bool → Heap → Prop), ConT P 10 [] H32 ⟨false, [(false, [.bool])]⟩ post56 ∧ ∀ (H57 : Heap), Heap.le H32 H57 → ∀ (b59 : Bool), post56 b59 H57 → (b59 = true
  → ∃ (post62 : Int → Nat → List Value → Option Nat → Nat → List Value → Int → Option Addr → Nat → Nat → Heap → (Nat → Option XO) → Prop), ConB P 22 [BA.me, BA.v (.int .i64 e7)] 68 [BC.v
  (.int .i64 n13), BC.row 33 n14 xs15, BC.v (Value.map A16), BC.row 44 n17 xs18, BC.v (.int .i64 n19)] H57 noO [.int .i64, .row 56 33, .mp, .row 57 44, .int .i64] ⟨false, [(false, [.sl])]⟩
  post62 ∧ ∀ (H63 : Heap), Heap.le H57 H63 → ∀ (O65 : Nat → Option XO) (n66 : Int) (n67 : Nat) (xs68 : List Value) (A69 : Option Nat) (n70 : Nat) (xs71 : List Value) (n72 : Int) (A73 : Option
  Addr) (n74 c75 : Nat), post62 n66 n67 xs68 A69 n70 xs71 n72 A73 n74 c75 H63 O65 → ∃ (post77 : Bool → Heap → Prop), ConT P 21 [.slice A73 n74 c75, .slice A34 n35 c36] H63 ⟨false, [(false,
  [.bool])]⟩ post77 ∧ ∀ (H78 : Heap), Heap.le H63 H78 → ∀ (b80 : Bool), post77 b80 H78 → (b80 = true → ∃ (post83 : Int → Nat → List Value → Option Nat → Nat → List Value → Int → Int → Heap →
  (Nat → Option XO) → Prop), ConB P 24 [BA.me, BA.v (.int .i64 e7)] 68 [BC.v (.int .i64 n66), BC.row 33 n67 xs68, BC.v (Value.map A69), BC.row 44 n70 xs71, BC.v (.int .i64 n72)] H78 O65 [.int
  .i64, .row 58 33, .mp, .row 59 44, .int .i64] ⟨false, [(false, [.int .i64])]⟩ post83 ∧ ∀ (H84 : Heap), Heap.le H78 H84 → ∀ (O86 : Nat → Option XO) (n87 : Int) (n88 : Nat) (xs89 : List
  Value) (A90 : Option Nat) (n91 : Nat) (xs92 : List Value) (n93 n94 : Int), post83 n87 n88 xs89 A90 n91 xs92 n93 n94 H84 O86 → post (decide (n94 = (↑n35 : Int))) H84) ∧ (b80 = false → post
  false H78)) ∧ (b59 = false → post false H57)))) := by kernel_rfl
set_option maxHeartbeats 1000000 in
theorem law26_TimelineAgrees {H : Heap} {A : Option Addr} {n c : Nat} {l : List U6} {iv p : Int} (hs : Sl H A n c l) (h1 : rng .u16 iv) (h2 : rng .u16 p) :
    ConT Try.prog 9 [.slice A n c, .int .u16 iv, .int .u16 p] H shB (fun r _ => r = true) := by
  refine con_of_vc (an := an9) (fn := Try.f9) mix tabOK Try.func9 (by kernel_rfl) (extra := 6) ?_
  rw [vc9]
  have t1 := tmod_bd h1.1 (m := 8) (by decide)
  have t2 := tmod_bd h2.1 (m := 60) (by decide)
  obtain ⟨u, hu⟩ : ∃ u, u = iv.tmod 8 := ⟨_, rfl⟩
  obtain ⟨v, hv⟩ : ∃ v, v = p.tmod 60 := ⟨_, rfl⟩
  rw [← hu] at t1 ⊢
  rw [← hv] at t2 ⊢
  refine ⟨_, law26_versions hs, ?_⟩
  intro H1 l1 A3 n4 c5 hvs
  have hbd := lVers_ok (first := 1) (by decide) (l := l.take 40) fun x hx => u6_bd hs x (List.mem_of_mem_take hx)
  have hasc := lVers_id (l.take 40) 1
  have hlen := hvs.len
  rw [lVers_len, List.length_take] at hlen
  generalize lVers (l.take 40) 1 = vs at *
  refine ⟨by decide, v, wrap_i64 t2.1 (by omega), by decide, u, wrap_i64 t1.1 (by omega), _, tl_New (iv := u) hvs (by simp only [rng]; omega) (by omega), ?_⟩
  rintro H9 l9 O11 n12 n13 xs14 A15 n16 xs17 n18 ⟨h0, h4, evs, hix, hp, hsd, es, hm, hlv⟩
  have hwf := new_wf hp hsd
  have hcur := cur_vers (t := v) hp hwf hasc (fun x hx => (hbd x hx).2.1) (by omega)
  refine ⟨fun h => (by cases h), fun _ => ⟨_, bt_AsOf (t := v) (hvs.mono l9) (by omega), ?_⟩⟩
  intro H24 l24 A26 n27 c28 has
  rw [asOf_cur fun x hx => (hbd x hx).1] at has
  have hal := has.len
  rw [List.length_map] at hal
  have hcl : (curV vs v).length ≤ vs.length := List.length_filter_le _ _
  have hvl := hvs.len
  have hasc2 : ((curV vs v).map (·.id)).Pairwise fun a b => a < b := List.pairwise_map.2 ((hasc.sublist List.filter_sublist).imp fun h => h)
  refine ⟨fun A' k c' i H' => 0 ≤ i ∧ i ≤ n27 ∧ Sl H' A' k c' (((curV vs v).map (·.id)).take i.toNat), fun _ _ _ i => n27 - i.toNat, ⟨by omega, by omega, by simpa using Sl.nil⟩, ?_⟩
  rintro H32 l32 A34 n35 c36 i ⟨i0, i1, hsl⟩
  refine ⟨fun hlt => ?_, fun hge => ?_⟩
  · have hlt := of_decide_eq_true hlt
    obtain ⟨hi, hA, _, hc, A', n', c', B, m, d, rfl, q1, q2, q3, q4⟩ := has.at l32 i0 hlt
    rw [List.length_map] at hi
    simp only [List.getElem_map, asTup] at hc q1 q2 q3 q4
    have hsll := hsl.len
    rw [List.length_take, List.length_map] at hsll
    have q4l := q4.len
    simp only [List.length_singleton] at q4l
    refine ⟨hA, i0, hlt, _, _, _, _, _, _, _, _, hc, _, ref6_MergeLineage hsl q4 (by omega), ?_⟩
    intro H49 l49 A51 n52 c53 hml
    have e1 : (i + 1).toNat = i.toNat + 1 := by omega
    have e2 : ((curV vs v).map (·.id)).take (i + 1).toNat = ((curV vs v).map (·.id)).take i.toNat ++ [(curV vs v)[i.toNat].id] := by
      rw [e1, List.take_add_one, List.getElem?_eq_getElem (by simpa using hi), List.getElem_map]
      rfl
    have hs3 := hasc2.sublist (List.take_sublist (i + 1).toNat _)
    rw [e2] at hs3
    rw [mergeLin_snoc hs3, ← e2] at hml
    exact ⟨by simp only [rng]; omega, ⟨by omega, by omega, hml⟩, by dsimp only; omega⟩
  · have hge := of_decide_eq_false hge
    rw [List.take_of_length_le (by rw [List.length_map]; omega)] at hsl
    refine ⟨_, law26_awake, ?_⟩
    rintro H57 l57 _ rfl
    refine ⟨fun _ => ?_, fun h => (by cases h)⟩
    have l957 := hle_trans l24 (hle_trans l32 l57)
    refine ⟨_, tl_At (q2 := A15) (t := v) (hix.mono l957), ?_⟩
    rintro H63 l63 O65 n66 n67 xs68 A69 n70 xs71 n72 A73 n74 c75 ⟨⟨rfl, rfl, rfl, rfl, rfl, rfl, rfl⟩, hn72, hat⟩
    have hr72 : rng .i64 n72 := by
      rw [hn72]
      have := ncur_le evs v
      have := hix.eb; have := hix.el
      simp only [rng]; omega
    have hix2 : IxOK H63 n66 n67 xs68 n70 xs71 n72 evs := ⟨hix.iv, hix.er.mono (hle_trans l957 l63), hix.el, hix.eb, (hix.mono (hle_trans l957 l63)).cps, hix.srt, hr72⟩
    rw [hcur] at hat
    refine ⟨_, ref1_SameInts hat (hsl.mono (hle_trans l57 l63)), ?_⟩
    rintro H78 l78 _ rfl
    refine ⟨fun _ => ⟨_, tl_Count (q2 := A69) (t := v) (hix2.mono l78) hwf, ?_⟩, fun h => (by simp at h)⟩
    rintro H84 l84 O86 n87 n88 xs89 A90 n91 xs92 n93 n94 ⟨-, -, rfl⟩
    have hsl2 := hsl.len
    rw [hcur]
    simp only [decide_eq_true_eq]
    omega
end Go.Vc

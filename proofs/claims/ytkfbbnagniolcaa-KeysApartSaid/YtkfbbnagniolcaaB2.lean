/- The order of tuples with key values; sorting them (fewer than twenty). -/
import Derived.Test.YtkfbbnagniolcaaB1
import Derived.Test.YtkfbbnagniolcaaVcN
set_option linter.unusedSectionVars false
set_option linter.unusedSimpArgs false
set_option linter.unusedVariables false
namespace Go.Vc
open Go Go.Proofs Go.Shelf
theorem swo_of {A T : Type} {g : A → A → Int} (h : Ord3 g) (φ : T → A) : Sort.SWO (ltOf fun x y : T => g (φ x) (φ y)) where
  irrefl x := by simp [ltOf, h.refl]
  trans x y z h1 h2 := by
    simp only [ltOf, decide_eq_true_eq] at *
    have a1 := h.sign (φ x) (φ y); have a2 := h.sign (φ y) (φ z)
    have := h.trans _ _ _ (by omega : g (φ x) (φ y) = -1) (by omega : g (φ y) (φ z) = -1)
    omega
  ntrans x y z h1 h2 := by
    simp only [ltOf, decide_eq_false_iff_not] at *
    intro h3
    have a1 := h.anti (φ x) (φ y); have a2 := h.anti (φ y) (φ z); have a3 := h.anti (φ x) (φ z)
    have b1 := h.sign (φ x) (φ y); have b2 := h.sign (φ y) (φ z); have b3 := h.sign (φ x) (φ z)
    by_cases e1 : g (φ x) (φ y) = 0
    · rw [h.eq _ _ e1] at h3; exact h2 h3
    · by_cases e2 : g (φ y) (φ z) = 0
      · rw [← h.eq _ _ e2] at h3; exact h1 h3
      · have := h.trans (φ z) (φ y) (φ x) (by omega) (by omega)
        omega
def cmpKd (a b : Kd) : Int := orI [cmpVs a.key b.key, cmpI a.t.p.lo b.t.p.lo]
def kdKey (a : Kd) : List Val × Int := (a.key, a.t.p.lo)
def cmpKL (a b : List Val × Int) : Int := if cmpVs a.1 b.1 ≠ 0 then cmpVs a.1 b.1 else cmpI a.2 b.2
theorem cmpKL_ord : Ord3 cmpKL := cmpVs_ord.pair cmpI_ord
theorem cmpKd_eq (a b : Kd) : cmpKd a b = cmpKL (kdKey a) (kdKey b) := by
  simp only [cmpKd, orI, cmpKL, kdKey]
  by_cases h : cmpVs a.key b.key = 0
  · by_cases h2 : cmpI a.t.p.lo b.t.p.lo = 0 <;> simp [h, h2]
  · simp [h]
theorem cmpKd_swo : Sort.SWO (ltOf cmpKd) := by
  have h := swo_of cmpKL_ord kdKey
  have e : (fun x y : Kd => cmpKL (kdKey x) (kdKey y)) = cmpKd := by funext x y; exact (cmpKd_eq x y).symm
  rwa [e] at h
def an49 : Ann where
  res := fun _ => none
  lend := fun | 9 => true | 18 => true | 20 => true | _ => false
  sch := fun | 1 => (tk [0, 1, 2, 3, 5, 6, 7, 8, 9, 10, 11, 12] (.alt 4 (.alt 13 (.alt 14 (.alt 15 (tk [16] .done) .fin) .fin) .fin) .fin)) | _ => .done
  lt := fun _ => []
  tup := tups

theorem vc49 (P : Program) (H : Heap) (akeyA : Option Addr) (akeyN akeyC : Nat) (atupleValsA : Option Addr) (atupleValsN atupleValsC : Nat) (atupleValidFrom : Int) (atupleValidTo : Int) (atupleLineageA : Option Addr) (atupleLineageN atupleLineageC : Nat) (bkeyA : Option Addr) (bkeyN bkeyC : Nat) (btupleValsA : Option Addr) (btupleValsN btupleValsC : Nat) (btupleValidFrom : Int) (btupleValidTo : Int) (btupleLineageA : Option Addr) (btupleLineageN btupleLineageC : Nat) (post : Int → Heap → Prop) :
  vcFn P tab an49 Try.f49 [.agg #[.slice akeyA akeyN akeyC, .slice atupleValsA atupleValsN atupleValsC, .int .i64 atupleValidFrom, .int .i64 atupleValidTo, .slice atupleLineageA atupleLineageN atupleLineageC], .agg #[.slice bkeyA bkeyN bkeyC, .slice btupleValsA btupleValsN btupleValsC, .int .i64 btupleValidFrom, .int .i64 btupleValidTo, .slice btupleLineageA btupleLineageN btupleLineageC]] 0 H ⟨false, [(false, [.int .i64])]⟩ post =
  (  ∃ (post0 : Int → Heap → Prop), ConT P 32 [.slice akeyA akeyN akeyC, .slice bkeyA bkeyN bkeyC] H ⟨false, [(false, [.int .i64])]⟩ post0 ∧ ∀ (H1 : Heap), Heap.le H H1 → ∀ (n3 : Int), post0 n3
  H1 → ∃ (post5 : Int → Heap → Prop), ConT P 51 [.int .i64 atupleValidFrom, .int .i64 btupleValidFrom] H1 ⟨false, [(false, [.int .i64])]⟩ post5 ∧ ∀ (H6 : Heap), Heap.le H1 H6 → ∀ (n8 : Int),
  post5 n8 H6 → ∃ (post10 : Int → Heap → Prop), (∀ (A11 : Option Addr) (c12 : Nat) (H13 : Heap), Heap.le H6 H13 → Cells H13 A11 0 [.int .i64 n3, .int .i64 n8] → 2 ≤ c12 → ConT P 50 [.slice
  A11 2 c12] H13 ⟨false, [(false, [.int .i64])]⟩ post10) ∧ ∀ (H17 : Heap) (n18 : Int), post10 n18 H17 → post n18 H6) := by kernel_rfl
theorem keys_byKey1 {H : Heap} : CmpT Try.prog Kd H 49 cmpKd := by
  rintro H' vs us s t _ ⟨E, k, e, A, n, c, B, m, d, rfl, h1, h2, h3, h4, h5⟩ ⟨E', k', e', A', n', c', B', m', d', rfl, h1', h2', h3', h4', h5'⟩
  refine con_of_vc (an := an49) (fn := Try.f49) mix tabOK Try.func49 (by kernel_rfl) (extra := 0) ?_
  rw [vc49]
  refine ⟨_, value_CompareRows h1 h1', ?_⟩
  rintro H1 l1 _ rfl
  refine ⟨_, cmp_Compare, ?_⟩
  rintro H2 l2 _ rfl
  refine ⟨_, fun A c H3 l3 hc hn => cmp_Or (l := [cmpVs s.key t.key, cmpI s.t.p.lo t.t.p.lo]) (Row.sl (T := Int) (ints_row ?_) (hle_refl H3) hc rfl hn (by decide) (by decide)), ?_⟩
  · have := cmpVs_ord.bd s.key t.key; have := cmpI_ord.bd s.t.p.lo t.t.p.lo
    simp [*]
  · rintro H5 _ rfl
    rfl
def insLay_Kd_ren : Go.Shelf.Ren := ⟨fun | 20 => 86 | n => n, fun | 24 => 68 | 22 => 65 | 3 => 3 | 25 => 89 | 4 => 4 | 0 => 0 | n => n, fun n => n⟩
theorem insLay_Kd : SlLaysF0.n20 Try.prog insLay_Kd_ren where
  mixed := by kernel_rfl
  f20 := ⟨Try.f86.name, by kernel_rfl, Try.func86.trans (congrArg some (by kernel_rfl))⟩
  t0 := Try.underlying0
  a0 := Try.isAgg0
  z0 := Try.sizeOf0
  v0 := Try.zeroValue0
  t3 := Try.underlying3
  a3 := Try.isAgg3
  z3 := Try.sizeOf3
  v3 := Try.zeroValue3
  t4 := Try.underlying4
  a4 := Try.isAgg4
  z4 := Try.sizeOf4
  v4 := Try.zeroValue4
  t22 := Try.underlying65
  a22 := Try.isAgg65
  z22 := Try.sizeOf65
  v22 := Try.zeroValue65
  t25 := Try.underlying89
  a25 := Try.isAgg89
  z25 := Try.sizeOf89
  v25 := Try.zeroValue89
theorem insL_Kd : InsL Try.prog insLay_Kd_ren 5 := ⟨insLay_Kd, Try.isAgg68, Try.sizeOf68, by kernel_rfl⟩
set_option maxRecDepth 100000 in
theorem ins_Kd {H : Heap} {n i j : Nat} (hij : i ≤ j) {xs : List Value} {l : List Kd} (hr : Row H xs l) (hl : l.length = n) (hj : j ≤ n) (hn : n ≤ 140737488355328) {g : FuncId} (hg : FnOK Try.prog g) {cf : Kd → Kd → Int} (hO : Sort.SWO (ltOf cf)) (hc : CmpT Try.prog Kd H g cf) :
    ConM Try.prog 86 [.slice none 0 0, .int .i64 i, .int .i64 j, .func (.func g) #[] #[]] 0 68 n xs true H ⟨true, []⟩
      (fun ys (H' : Heap) => ∃ m : List Kd, Row H' ys (l.take i ++ m ++ l.drop j) ∧ m.Perm ((l.take j).drop i) ∧ m.Pairwise (fun a b => ¬ cf b a < 0)) :=
  by
    have h := ins_con (cap := []) insL_Kd hij hr hl hj hn hg hO (fun H' vs us s t h1 h2 h3 => hc H' vs us s t h1 h2 h3)
    exact h
def an70 : Ann where
  res := fun _ => none
  lend := fun _ => false
  mt := fun | 86 => some true | 87 => some true | _ => none
  sch := fun _ => .done
  lt := fun | 2 => [.rowc 63 68, .slot 7 false [.int .i64], .slot 8 false [.int .i64]] | 7 => [.rowc 63 68, .slot 6 false [.int .i64]] | 9 => [.rowc 63 68, .slot 7 false [.int .i64], .slot 8 false [.int .i64]] | _ => []
  tup := tups

theorem vc70 (P : Program) (H : Heap) (n : Int) (cmpF : FuncId) (rowN : Nat) (rowXs : List Value) (post : List Value → Heap → Prop) :
  vcFnK P tab an70 Try.f70 [.slice none 0 0, .int .i64 n, .func (.func cmpF) #[] #[]] 0 68 rowN rowXs 0 H post =
  (  ∀ (s0 : Value), ∃ (inv1 : Nat → List Value → Int → Int → Heap → Prop), ∃ (m2 : Nat → List Value → Int → Int → Nat), inv1 rowN rowXs (0 : Int) (20 : Int) H ∧ ∀ (H3 : Heap), Heap.le H H3 → ∀
  (n5 : Nat) (xs6 : List Value) (n7 n8 : Int), inv1 n5 xs6 n7 n8 H3 → (decide (n8 ≤ n) = true → ∃ (post11 : List Value → Heap → Prop), ConM P 86 [.slice none 0 0, .int .i64 n7, .int .i64 n8,
  .func (.func cmpF) ⟨[]⟩ ⟨[]⟩] 0 68 n5 xs6 true H3 ⟨true, []⟩ post11 ∧ ∀ (H12 : Heap), Heap.le H3 H12 → ∀ (ys14 : List Value), post11 ys14 H12 → rng .i64 (n8 + (20 : Int)) ∧ inv1 n5 ys14 n8
  (n8 + (20 : Int)) H12 ∧ m2 n5 ys14 n8 (n8 + (20 : Int)) < m2 n5 xs6 n7 n8) ∧ (decide (n8 ≤ n) = false → ∃ (post17 : List Value → Heap → Prop), ConM P 86 [.slice none 0 0, .int .i64 n7, .int
  .i64 n, .func (.func cmpF) ⟨[]⟩ ⟨[]⟩] 0 68 n5 xs6 true H3 ⟨true, []⟩ post17 ∧ ∀ (H18 : Heap), Heap.le H3 H18 → ∀ (ys20 : List Value), post17 ys20 H18 → ∃ (inv22 : Nat → List Value → Int →
  Heap → Prop), ∃ (m23 : Nat → List Value → Int → Nat), inv22 n5 ys20 (20 : Int) H18 ∧ ∀ (H24 : Heap), Heap.le H18 H24 → ∀ (n26 : Nat) (xs27 : List Value) (n28 : Int), inv22 n26 xs27 n28 H24
  → (decide (n28 < n) = true → rng .i64 ((2 : Int) * n28) ∧ ∃ (inv31 : Nat → List Value → Int → Int → Heap → Prop), ∃ (m32 : Nat → List Value → Int → Int → Nat), inv31 n26 xs27 (0 : Int) ((2
  : Int) * n28) H24 ∧ ∀ (H33 : Heap), Heap.le H24 H33 → ∀ (n35 : Nat) (xs36 : List Value) (n37 n38 : Int), inv31 n35 xs36 n37 n38 H33 → (decide (n38 ≤ n) = true → rng .i64 (n37 + n28) ∧ ∃
  (post41 : List Value → Heap → Prop), ConM P 87 [.slice none 0 0, .int .i64 n37, .int .i64 (n37 + n28), .int .i64 n38, .func (.func cmpF) ⟨[]⟩ ⟨[]⟩] 0 68 n35 xs36 true H33 ⟨true, []⟩ post41
  ∧ ∀ (H42 : Heap), Heap.le H33 H42 → ∀ (ys44 : List Value), post41 ys44 H42 → rng .i64 ((2 : Int) * n28) ∧ rng .i64 (n38 + (2 : Int) * n28) ∧ inv31 n35 ys44 n38 (n38 + (2 : Int) * n28) H42 ∧
  m32 n35 ys44 n38 (n38 + (2 : Int) * n28) < m32 n35 xs36 n37 n38) ∧ (decide (n38 ≤ n) = false → rng .i64 (n37 + n28) ∧ (decide (n37 + n28 < n) = true → ∃ (post48 : List Value → Heap → Prop),
  ConM P 87 [.slice none 0 0, .int .i64 n37, .int .i64 (n37 + n28), .int .i64 n, .func (.func cmpF) ⟨[]⟩ ⟨[]⟩] 0 68 n35 xs36 true H33 ⟨true, []⟩ post48 ∧ ∀ (H49 : Heap), Heap.le H33 H49 → ∀
  (ys51 : List Value), post48 ys51 H49 → rng .i64 (n28 * (2 : Int)) ∧ inv22 n35 ys51 (n28 * (2 : Int)) H49 ∧ m23 n35 ys51 (n28 * (2 : Int)) < m23 n26 xs27 n28) ∧ (decide (n37 + n28 < n) =
  false → rng .i64 (n28 * (2 : Int)) ∧ inv22 n35 xs36 (n28 * (2 : Int)) H33 ∧ m23 n35 xs36 (n28 * (2 : Int)) < m23 n26 xs27 n28))) ∧ (decide (n28 < n) = false → s0 = s0 ∧ n26 = rowN ∧ post
  xs27 H24))) := by kernel_rfl
theorem stable_Kd {H : Heap} {n : Nat} {xs : List Value} {l : List Kd} (hr : Row H xs l) (hl : l.length = n) (hn : n < 20) {g : FuncId} (hg : FnOK Try.prog g) {cf : Kd → Kd → Int} (hO : Sort.SWO (ltOf cf)) (hc : CmpT Try.prog Kd H g cf) :
    ConM Try.prog 70 [.slice none 0 0, .int .i64 n, .func (.func g) #[] #[]] 0 68 n xs true H ⟨true, []⟩
      (fun ys (H' : Heap) => ∃ m : List Kd, Row H' ys m ∧ m.Perm l ∧ m.Pairwise (fun a b => ¬ cf b a < 0)) := by
  refine conK_of_vc (an := an70) (fn := Try.f70) mix tabOK Try.func70 (by kernel_rfl) (extra := 0) (by simp) ?_
  rw [vc70]
  intro s0
  refine ⟨fun k xs i j H' => k = n ∧ i = 0 ∧ j = 20 ∧ Row H' xs l, fun _ _ _ _ => 0, ⟨rfl, rfl, rfl, hr⟩, ?_⟩
  rintro H2 l2 k ys i j ⟨rfl, rfl, rfl, hr2⟩
  refine ⟨fun h => ?_, fun _ => ?_⟩
  · have := of_decide_eq_true h; omega
  refine ⟨_, ins_Kd (i := 0) (j := k) (Nat.zero_le _) hr2 hl (Nat.le_refl _) (by omega) hg hO (fun H' vs us s t h1 h2 h3 => hc H' vs us s t (hle_trans l2 h1) h2 h3), ?_⟩
  rintro H3 l3 ys' ⟨m, h1, h2, h3⟩
  have e1 : l.take k = l := List.take_of_length_le (by omega)
  have e2 : l.drop k = [] := List.drop_eq_nil_of_le (by omega)
  simp only [List.take_zero, List.nil_append, e1, e2, List.append_nil, List.drop_zero] at h1 h2
  refine ⟨fun k' xs b H' => k' = k ∧ b = 20 ∧ Row H' xs m, fun _ _ _ => 0, ⟨rfl, rfl, h1⟩, ?_⟩
  rintro H4 l4 _ zs b ⟨rfl, rfl, hr4⟩
  refine ⟨fun h => ?_, fun _ => ⟨rfl, rfl, m, hr4, h2, h3⟩⟩
  have := of_decide_eq_true h; omega
def an48 : Ann where
  res := fun _ => none
  lend := fun _ => false
  mt := fun | 70 => some true | _ => none
  sch := fun _ => .done
  lt := fun _ => []
  tup := tups

theorem vc48 (P : Program) (H : Heap) (cmpF : FuncId) (rowN : Nat) (rowXs : List Value) (post : List Value → Heap → Prop) :
  vcFnK P tab an48 Try.f48 [.slice none 0 0, .func (.func cmpF) #[] #[]] 0 68 rowN rowXs 0 H post =
  (  ∀ (s0 : Value), ∃ (post1 : List Value → Heap → Prop), ConM P 70 [.slice none 0 0, .int .i64 (↑rowN : Int), .func (.func cmpF) ⟨[]⟩ ⟨[]⟩] 0 68 rowN rowXs true H ⟨true, []⟩ post1 ∧ ∀ (H2 :
  Heap), Heap.le H H2 → ∀ (ys4 : List Value), post1 ys4 H2 → s0 = s0 ∧ rowN = rowN ∧ post ys4 H2) := by kernel_rfl
theorem SortStable_Kd {H : Heap} {n : Nat} {xs : List Value} {l : List Kd} (hr : Row H xs l) (hl : l.length = n) (hn : n < 20) {g : FuncId} (hg : FnOK Try.prog g) {cf : Kd → Kd → Int} (hO : Sort.SWO (ltOf cf)) (hc : CmpT Try.prog Kd H g cf) :
    ConM Try.prog 48 [.slice none 0 0, .func (.func g) #[] #[]] 0 68 n xs true H ⟨true, []⟩
      (fun ys (H' : Heap) => ∃ m : List Kd, Row H' ys m ∧ m.Perm l ∧ m.Pairwise (fun a b => ¬ cf b a < 0)) := by
  refine conK_of_vc (an := an48) (fn := Try.f48) mix tabOK Try.func48 (by kernel_rfl) (extra := 0) (by simp) ?_
  rw [vc48]
  intro s0
  exact ⟨_, stable_Kd hr hl hn hg hO hc, fun H2 l2 ys h => ⟨rfl, rfl, h⟩⟩
end Go.Vc

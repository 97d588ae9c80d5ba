/- The library's contracts at this program: strings.Compare, slices.Sort and slices.Compact on ints; comparing values. -/
import Derived.Test.YtkfbbnagniolcaaD0
import Derived.Test.YtkfbbnagniolcaaVcI
import Derived.Test.YtkfbbnagniolcaaCmp
import Derived.Shelf.Small.Strs
set_option linter.unusedSectionVars false
set_option linter.unusedSimpArgs false
set_option linter.unusedVariables false
namespace Go.Vc
open Go Go.Proofs Go.Shelf
def strCmpL_ren : Go.Shelf.Ren := ⟨fun | 106 => 73 | 213 => 89 | 265 => 111 | n => n, fun | 9 => 9 | 3 => 3 | n => n, fun n => n⟩
theorem strCmpL : Lays.n106 Try.prog strCmpL_ren where
  mixed := by kernel_rfl
  f106 := Try.func73.trans (congrArg some (by kernel_rfl))
  f213 := Try.func89.trans (congrArg some (by kernel_rfl))
  f265 := Try.func111.trans (congrArg some (by kernel_rfl))
  t3 := Try.underlying3
  a3 := Try.isAgg3
  z3 := Try.sizeOf3
  v3 := Try.zeroValue3
  t9 := Try.underlying9
  a9 := Try.isAgg9
  z9 := Try.sizeOf9
  v9 := Try.zeroValue9
def srtIL_ren : Go.Shelf.Ren := ⟨fun | 189 => 61 | 125 => 80 | 257 => 79 | 128 => 99 | 129 => 100 | 294 => 91 | 295 => 92 | 296 => 93 | 297 => 94 | 298 => 95 | 299 => 96 | 216 => 63 | 300 => 97 | 301 => 98 | 328 => 113 | 329 => 114 | 330 => 115 | 331 => 116 | 332 => 117 | 215 => 71 | 343 => 122 | n => n, fun | 28 => 23 | 3 => 3 | 46 => 98 | 0 => 0 | 51 => 132 | 53 => 134 | 4 => 4 | 183 => 126 | 182 => 125 | 131 => 78 | 5 => 5 | 9 => 9 | 218 => 142 | 222 => 146 | 228 => 150 | 229 => 151 | n => n, fun n => n⟩
theorem srtIL : Lays.n189 Try.prog srtIL_ren where
  mixed := by kernel_rfl
  f125 := Try.func80.trans (congrArg some (by kernel_rfl))
  f128 := Try.func99.trans (congrArg some (by kernel_rfl))
  f129 := Try.func100.trans (congrArg some (by kernel_rfl))
  f189 := Try.func61.trans (congrArg some (by kernel_rfl))
  f215 := Try.func71.trans (congrArg some (by kernel_rfl))
  f216 := Try.func63.trans (congrArg some (by kernel_rfl))
  f257 := Try.func79.trans (congrArg some (by kernel_rfl))
  f294 := Try.func91.trans (congrArg some (by kernel_rfl))
  f295 := Try.func92.trans (congrArg some (by kernel_rfl))
  f296 := Try.func93.trans (congrArg some (by kernel_rfl))
  f297 := Try.func94.trans (congrArg some (by kernel_rfl))
  f298 := Try.func95.trans (congrArg some (by kernel_rfl))
  f299 := Try.func96.trans (congrArg some (by kernel_rfl))
  f300 := Try.func97.trans (congrArg some (by kernel_rfl))
  f301 := Try.func98.trans (congrArg some (by kernel_rfl))
  f328 := Try.func113.trans (congrArg some (by kernel_rfl))
  f329 := Try.func114.trans (congrArg some (by kernel_rfl))
  f330 := Try.func115.trans (congrArg some (by kernel_rfl))
  f331 := Try.func116.trans (congrArg some (by kernel_rfl))
  f332 := Try.func117.trans (congrArg some (by kernel_rfl))
  f343 := Try.func122.trans (congrArg some (by kernel_rfl))
  t0 := Try.underlying0
  a0 := Try.isAgg0
  z0 := Try.sizeOf0
  v0 := Try.zeroValue0
  t3 := Try.underlying3
  a3 := Try.isAgg3
  z3 := Try.sizeOf3
  v3 := Try.zeroValue3
  t4 := Try.underlying4
  a4 := Try.isAgg4
  z4 := Try.sizeOf4
  v4 := Try.zeroValue4
  t5 := Try.underlying5
  a5 := Try.isAgg5
  z5 := Try.sizeOf5
  v5 := Try.zeroValue5
  t9 := Try.underlying9
  a9 := Try.isAgg9
  z9 := Try.sizeOf9
  v9 := Try.zeroValue9
  t28 := Try.underlying23
  a28 := Try.isAgg23
  z28 := Try.sizeOf23
  v28 := Try.zeroValue23
  t46 := Try.underlying98
  a46 := Try.isAgg98
  z46 := Try.sizeOf98
  v46 := Try.zeroValue98
  t51 := Try.underlying132
  a51 := Try.isAgg132
  z51 := Try.sizeOf132
  v51 := Try.zeroValue132
  t53 := Try.underlying134
  a53 := Try.isAgg134
  z53 := Try.sizeOf134
  v53 := Try.zeroValue134
  t131 := Try.underlying78
  a131 := Try.isAgg78
  z131 := Try.sizeOf78
  v131 := Try.zeroValue78
  t182 := Try.underlying125
  a182 := Try.isAgg125
  z182 := Try.sizeOf125
  v182 := Try.zeroValue125
  t183 := Try.underlying126
  a183 := Try.isAgg126
  z183 := Try.sizeOf126
  v183 := Try.zeroValue126
  t218 := Try.underlying142
  a218 := Try.isAgg142
  z218 := Try.sizeOf142
  v218 := Try.zeroValue142
  t222 := Try.underlying146
  a222 := Try.isAgg146
  z222 := Try.sizeOf146
  v222 := Try.zeroValue146
  t228 := Try.underlying150
  a228 := Try.isAgg150
  z228 := Try.sizeOf150
  v228 := Try.zeroValue150
  t229 := Try.underlying151
  a229 := Try.isAgg151
  z229 := Try.sizeOf151
  v229 := Try.zeroValue151
def cmpIL_ren : Go.Shelf.Ren := ⟨fun | 20 => 74 | n => n, fun | 22 => 23 | 3 => 3 | 4 => 4 | 0 => 0 | n => n, fun n => n⟩
theorem cmpIL : Lays2.n20 Try.prog cmpIL_ren where
  mixed := by kernel_rfl
  f20 := Try.func74.trans (congrArg some (by kernel_rfl))
  t0 := Try.underlying0
  a0 := Try.isAgg0
  z0 := Try.sizeOf0
  v0 := Try.zeroValue0
  t3 := Try.underlying3
  a3 := Try.isAgg3
  z3 := Try.sizeOf3
  v3 := Try.zeroValue3
  t4 := Try.underlying4
  a4 := Try.isAgg4
  z4 := Try.sizeOf4
  v4 := Try.zeroValue4
  t22 := Try.underlying23
  a22 := Try.isAgg23
  z22 := Try.sizeOf23
  v22 := Try.zeroValue23
  i3 := by kernel_rfl
theorem con_pureI {P : Program} {f : FuncId} {args : List Value} {H : Heap} {x : Int} (hf : FnOK P f) (h : ∀ w, Calls P f args.toArray w fun e w' => e = .returned (.int .i64 x) ∧ w' = w) : ConT P f args H shI (fun r _ => r = x) := by
  refine ⟨hf, fun w hs => (h w).mono ?_⟩
  rintro e w' ⟨rfl, rfl⟩
  exact ⟨_, H, [], rfl, ⟨x, _, rfl, rfl, rfl, rfl⟩, ⟨⟨rfl, rfl, rfl, Nat.le_refl _, fun _ _ => rfl⟩, hle_refl H, fun _ _ _ => rfl, hs, Nat.le_refl _⟩, by simp, List.Pairwise.nil⟩
theorem strings_Compare {H : Heap} {a b : ByteArray} : ConT Try.prog 73 [.string a, .string b] H shI (fun r _ => r = cmpB a b) :=
  con_pureI (FnOK.of_body strCmpL.f106 rfl (by kernel_rfl)) fun w => Any.strings_Compare strCmpL a b w
theorem Sort_Int {H : Heap} {n : Nat} {xs : List Value} {l : List Int} (hr : Row H xs l) (hl : l.length = n) (hn : n ≤ 140737488355328) :
    ConM Try.prog 61 [.slice none 0 0] 0 3 n xs true H ⟨true, []⟩ (fun ys (H' : Heap) => Row H' ys (l.mergeSort fun x y => decide (x ≤ y))) :=
  sortI_con srtIL (by kernel_rfl) hr hl hn
theorem Compact_Int {H : Heap} {n r : Nat} {xs : List Value} {l : List Int} (hr : Row H xs l) (hl : l.length = n) (hn : n ≤ 140737488355328) :
    ConM Try.prog 74 [.slice none 0 0] 0 3 n xs false H ⟨false, [(false, [.row r 3])]⟩ (fun _ => fun m (ys : List Value) (H' : Heap) => m = (Lib.compact l).length ∧ Row H' ys (Lib.compact l)) :=
  compactI_con cmpIL (by kernel_rfl) hr hl hn
def an71 : Ann where
  res := fun _ => none
  lend := fun _ => false
  sch := fun _ => .done
  lt := fun _ => []
  tup := tups

theorem vc71 (P : Program) (H : Heap) (x : Int) (post : Bool → Heap → Prop) :
  vcFn P tab an71 Try.f71 [.int .i64 x] 0 H ⟨false, [(false, [.bool])]⟩ post =
  (  post (!decide (x = x)) H) := by kernel_rfl
theorem cmp_isNaN {x : Int} {H : Heap} : ConT Try.prog 71 [.int .i64 x] H shB (fun r _ => r = false) := by
  refine con_of_vc (an := an71) (fn := Try.f71) mix tabOK Try.func71 (by kernel_rfl) (extra := 0) ?_
  rw [vc71]
  simp
def an51 : Ann where
  res := fun _ => none
  lend := fun | 8 => true | 10 => true | _ => false
  sch := fun _ => .done
  lt := fun _ => []
  tup := tups

theorem vc51 (P : Program) (H : Heap) (x : Int) (y : Int) (post : Int → Heap → Prop) :
  vcFn P tab an51 Try.f51 [.int .i64 x, .int .i64 y] 0 H ⟨false, [(false, [.int .i64])]⟩ post =
  (  ∃ (post0 : Bool → Heap → Prop), ConT P 71 [.int .i64 x] H ⟨false, [(false, [.bool])]⟩ post0 ∧ ∀ (H1 : Heap), Heap.le H H1 → ∀ (b3 : Bool), post0 b3 H1 → ∃ (post5 : Bool → Heap → Prop), ConT
  P 71 [.int .i64 y] H1 ⟨false, [(false, [.bool])]⟩ post5 ∧ ∀ (H6 : Heap), Heap.le H1 H6 → ∀ (b8 : Bool), post5 b8 H6 → (b3 = true → (b8 = true → post (0 : Int) H6) ∧ (b8 = false → post (-1 :
  Int) H6)) ∧ (b3 = false → (b8 = true → post (1 : Int) H6) ∧ (b8 = false → (decide (x < y) = true → post (-1 : Int) H6) ∧ (decide (x < y) = false → (decide (y < x) = true → post (1 : Int)
  H6) ∧ (decide (y < x) = false → post (0 : Int) H6))))) := by kernel_rfl
theorem cmp_Compare {x y : Int} {H : Heap} : ConT Try.prog 51 [.int .i64 x, .int .i64 y] H shI (fun r _ => r = cmpI x y) := by
  refine con_of_vc (an := an51) (fn := Try.f51) mix tabOK Try.func51 (by kernel_rfl) (extra := 0) ?_
  rw [vc51]
  refine ⟨_, cmp_isNaN, ?_⟩
  rintro H1 _ _ rfl
  refine ⟨_, cmp_isNaN, ?_⟩
  rintro H2 _ _ rfl
  grind [cmpI]
def an88 : Ann where
  res := fun _ => none
  lend := fun _ => false
  sch := fun _ => .done
  lt := fun _ => []
  tup := tups

theorem vc88 (P : Program) (H : Heap) (x : Int) (post : Bool → Heap → Prop) :
  vcFn P tab an88 Try.f88 [.int .i64 x] 0 H ⟨false, [(false, [.bool])]⟩ post =
  (  post (!decide (x = x)) H) := by kernel_rfl
theorem cmp_isNaN64 {x : Int} {H : Heap} : ConT Try.prog 88 [.int .i64 x] H shB (fun r _ => r = false) := by
  refine con_of_vc (an := an88) (fn := Try.f88) mix tabOK Try.func88 (by kernel_rfl) (extra := 0) ?_
  rw [vc88]
  simp
def an72 : Ann where
  res := fun _ => none
  lend := fun | 8 => true | 10 => true | _ => false
  sch := fun _ => .done
  lt := fun _ => []
  tup := tups

theorem vc72 (P : Program) (H : Heap) (x : Int) (y : Int) (post : Int → Heap → Prop) :
  vcFn P tab an72 Try.f72 [.int .i64 x, .int .i64 y] 0 H ⟨false, [(false, [.int .i64])]⟩ post =
  (  ∃ (post0 : Bool → Heap → Prop), ConT P 88 [.int .i64 x] H ⟨false, [(false, [.bool])]⟩ post0 ∧ ∀ (H1 : Heap), Heap.le H H1 → ∀ (b3 : Bool), post0 b3 H1 → ∃ (post5 : Bool → Heap → Prop), ConT
  P 88 [.int .i64 y] H1 ⟨false, [(false, [.bool])]⟩ post5 ∧ ∀ (H6 : Heap), Heap.le H1 H6 → ∀ (b8 : Bool), post5 b8 H6 → (b3 = true → (b8 = true → post (0 : Int) H6) ∧ (b8 = false → post (-1 :
  Int) H6)) ∧ (b3 = false → (b8 = true → post (1 : Int) H6) ∧ (b8 = false → (decide (x < y) = true → post (-1 : Int) H6) ∧ (decide (x < y) = false → (decide (y < x) = true → post (1 : Int)
  H6) ∧ (decide (y < x) = false → post (0 : Int) H6))))) := by kernel_rfl
theorem cmp_Compare64 {x y : Int} {H : Heap} : ConT Try.prog 72 [.int .i64 x, .int .i64 y] H shI (fun r _ => r = cmpI x y) := by
  refine con_of_vc (an := an72) (fn := Try.f72) mix tabOK Try.func72 (by kernel_rfl) (extra := 0) ?_
  rw [vc72]
  refine ⟨_, cmp_isNaN64, ?_⟩
  rintro H1 _ _ rfl
  refine ⟨_, cmp_isNaN64, ?_⟩
  rintro H2 _ _ rfl
  grind [cmpI]
def an50 : Ann where
  res := fun _ => none
  lend := fun _ => false
  sch := fun _ => .done
  lt := fun | 3 => [.slot 8 false [.int .i64]] | _ => []
  tup := tups

theorem vc50 (P : Program) (H : Heap) (valsA : Option Addr) (valsN valsC : Nat) (post : Int → Heap → Prop) :
  vcFn P tab an50 Try.f50 [.slice valsA valsN valsC] 0 H ⟨false, [(false, [.int .i64])]⟩ post =
  (  ∃ (inv0 : Int → Heap → Prop), ∃ (m1 : Int → Nat), inv0 (0 : Int) H ∧ ∀ (H2 : Heap), Heap.le H H2 → ∀ (n4 : Int), inv0 n4 H2 → (decide (n4 < (↑valsN : Int)) = true → someA valsA ∧ (0 : Int)
  ≤ n4 ∧ n4 < (↑valsN : Int) ∧ ∃ (n7 : Int), Cells H2 valsA (Int.toNat n4 * 1) [.int .i64 n7] ∧ ((!decide (n7 = (0 : Int))) = true → post n7 H2) ∧ ((!decide (n7 = (0 : Int))) = false → rng
  .i64 (n4 + (1 : Int)) ∧ inv0 (n4 + (1 : Int)) H2 ∧ m1 (n4 + (1 : Int)) < m1 n4)) ∧ (decide (n4 < (↑valsN : Int)) = false → post (0 : Int) H2)) := by kernel_rfl
theorem cmp_Or {H : Heap} {A : Option Addr} {n c : Nat} {l : List Int} (hs : Sl H A n c l) : ConT Try.prog 50 [.slice A n c] H shI (fun r _ => r = orI l) := by
  refine con_of_vc (an := an50) (fn := Try.f50) mix tabOK Try.func50 (by kernel_rfl) (extra := 0) ?_
  rw [vc50]
  refine ⟨fun i _ => 0 ≤ i ∧ i ≤ n ∧ orI l = orI (l.drop i.toNat), fun i => n - i.toNat, ⟨by omega, by omega, rfl⟩, ?_⟩
  rintro H2 hle i ⟨h0, h1, h2⟩
  have hb := hs.bn; have hl := hs.len
  refine ⟨fun hlt => ?_, fun hge => ?_⟩
  · have hlt := of_decide_eq_true hlt
    obtain ⟨hi, hA, _, hc, ⟨rfl, hr⟩⟩ := hs.at hle h0 hlt
    rw [drop_at h0 hi, orI] at h2
    refine ⟨hA, h0, hlt, _, hc, fun hne => ?_, fun he => ⟨by simp only [rng]; omega, ⟨by omega, by omega, ?_⟩, by dsimp only; omega⟩⟩
    · rw [h2, if_pos (by simpa using hne)]
    · rw [h2, if_neg (by simpa using he)]
  · have hge := of_decide_eq_false hge
    rw [drop_end hge hl, orI] at h2
    exact h2.symm
theorem cmpI_b {x y : Int} : -1 ≤ cmpI x y ∧ cmpI x y ≤ 1 := by unfold cmpI; split <;> (try split) <;> omega
theorem ints_row {H : Heap} {l : List Int} (h : ∀ x ∈ l, rng .i64 x) : Row H (l.map (Value.int .i64)) l := int_row h
theorem Ord3.bd {T : Type} {f : T → T → Int} (h : Ord3 f) (a b : T) : rng .i64 (f a b) := by
  rcases h.sign a b with e | e | e <;> rw [e] <;> decide
def an53 : Ann where
  res := fun _ => none
  lend := fun | 9 => true | 14 => true | 19 => true | 21 => true | _ => false
  sch := fun | 1 => (tk [0, 1, 2, 3, 5, 6, 7, 8, 10, 11, 12, 13] (.alt 4 (.alt 9 (.alt 14 (.alt 15 (.alt 16 (tk [17] .done) .fin) .fin) .fin) .fin) .fin)) | _ => .done
  lt := fun _ => []
  tup := tups

theorem vc53 (P : Program) (H : Heap) (aKind : Int) (aN : Int) (aS : ByteArray) (bKind : Int) (bN : Int) (bS : ByteArray) (post : Int → Heap → Prop) :
  vcFn P tab an53 Try.f53 [.agg #[.int .i64 aKind, .int .i64 aN, .string aS], .agg #[.int .i64 bKind, .int .i64 bN, .string bS]] 0 H ⟨false, [(false, [.int .i64])]⟩ post =
  (  ∃ (post0 : Int → Heap → Prop), ConT P 51 [.int .i64 aKind, .int .i64 bKind] H ⟨false, [(false, [.int .i64])]⟩ post0 ∧ ∀ (H1 : Heap), Heap.le H H1 → ∀ (n3 : Int), post0 n3 H1 → ∃ (post5 :
  Int → Heap → Prop), ConT P 72 [.int .i64 aN, .int .i64 bN] H1 ⟨false, [(false, [.int .i64])]⟩ post5 ∧ ∀ (H6 : Heap), Heap.le H1 H6 → ∀ (n8 : Int), post5 n8 H6 → ∃ (post10 : Int → Heap →
  Prop), ConT P 73 [.string aS, .string bS] H6 ⟨false, [(false, [.int .i64])]⟩ post10 ∧ ∀ (H11 : Heap), Heap.le H6 H11 → ∀ (n13 : Int), post10 n13 H11 → ∃ (post15 : Int → Heap → Prop), (∀
  (A16 : Option Addr) (c17 : Nat) (H18 : Heap), Heap.le H11 H18 → Cells H18 A16 0 [.int .i64 n3, .int .i64 n8, .int .i64 n13] → 3 ≤ c17 → ConT P 50 [.slice A16 3 c17] H18 ⟨false, [(false,
  [.int .i64])]⟩ post15) ∧ ∀ (H22 : Heap) (n23 : Int), post15 n23 H22 → post n23 H11) := by kernel_rfl
theorem value_Compare {a b : Val} {H : Heap} : ConT Try.prog 53 [.agg ⟨[.int .i64 a.kind, .int .i64 a.n, .string a.s]⟩, .agg ⟨[.int .i64 b.kind, .int .i64 b.n, .string b.s]⟩] H shI (fun r _ => r = cmpV a b) := by
  refine con_of_vc (an := an53) (fn := Try.f53) mix tabOK Try.func53 (by kernel_rfl) (extra := 0) ?_
  rw [vc53]
  refine ⟨_, cmp_Compare, ?_⟩
  rintro H1 l1 _ rfl
  refine ⟨_, cmp_Compare64, ?_⟩
  rintro H2 l2 _ rfl
  refine ⟨_, strings_Compare, ?_⟩
  rintro H3 l3 _ rfl
  refine ⟨_, fun A c H4 l4 hc hn => cmp_Or (l := [cmpI a.kind b.kind, cmpI a.n b.n, cmpB a.s b.s]) (Row.sl (T := Int) (ints_row ?_) (hle_refl H4) hc rfl hn (by decide) (by decide)), ?_⟩
  · have := cmpI_ord.bd a.kind b.kind; have := cmpI_ord.bd a.n b.n; have := cmpB_ord.bd a.s b.s
    simp [*]
  · rintro H5 _ rfl
    rfl
/- a comparison of elements that a function computes in every grown heap -/
def CmpT (P : Program) (T : Type) [Rep T] (H : Heap) (f : FuncId) (cf : T → T → Int) : Prop :=
  ∀ (H' : Heap) (vs us : List Value) (s t : T), Heap.le H H' → Rep.rel H' vs s → Rep.rel H' us t → ConT P f [.agg ⟨vs⟩, .agg ⟨us⟩] H' shI (fun r _ => r = cf s t)
theorem value_Compare_T (H : Heap) : CmpT Try.prog Val H 53 cmpV := by
  rintro H' vs us s t _ ⟨rfl, -⟩ ⟨rfl, -⟩
  exact value_Compare
end Go.Vc

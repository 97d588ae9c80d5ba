/- The library's contracts at this program: strings.Compare, slices.Sort and slices.Compact on ints; comparing values. -/
import Derived.Test.YtdgcjfnpfpbcfaaGreatDoorGJT8
import Derived.Test.YtdgcjfnpfpbcfaaGreatDoorGJT11
import Derived.Test.YtdgcjfnpfpbcfaaGreatDoorGJT12
import Derived.Shelf.Small.Strs
import Derived.Test.YtdgcjfnpfpbcfaaGreatDoorGJT2
import Derived.Test.YtdgcjfnpfpbcfaaGreatDoorGJT10
set_option linter.unusedSectionVars false
set_option linter.unusedSimpArgs false
set_option linter.unusedVariables false
namespace Go.Vc
open Go Go.Proofs Go.Shelf
def strCmpL_ren : Go.Shelf.Ren := ⟨fun | 106 => 86 | 213 => 110 | 265 => 154 | n => n, fun | 9 => 9 | 3 => 3 | n => n, fun n => n⟩
theorem strCmpL : Lays.n106 Tryz.prog strCmpL_ren where
  mixed := by kernel_rfl
  f106 := Tryz.func86.trans (congrArg some (by kernel_rfl))
  f213 := Tryz.func110.trans (congrArg some (by kernel_rfl))
  f265 := Tryz.func154.trans (congrArg some (by kernel_rfl))
  t3 := Tryz.underlying3
  a3 := Tryz.isAgg3
  z3 := Tryz.sizeOf3
  v3 := Tryz.zeroValue3
  t9 := Tryz.underlying9
  a9 := Tryz.isAgg9
  z9 := Tryz.sizeOf9
  v9 := Tryz.zeroValue9
def srtIL_ren : Go.Shelf.Ren := ⟨fun | 189 => 79 | 125 => 88 | 257 => 107 | 128 => 119 | 129 => 120 | 294 => 145 | 295 => 146 | 296 => 147 | 297 => 148 | 298 => 149 | 299 => 150 | 216 => 81 | 300 => 151 | 301 => 152 | 328 => 173 | 329 => 156 | 330 => 157 | 331 => 174 | 332 => 175 | 215 => 89 | 343 => 184 | n => n, fun | 28 => 23 | 3 => 3 | 46 => 124 | 0 => 0 | 51 => 160 | 53 => 162 | 4 => 4 | 183 => 154 | 182 => 153 | 131 => 91 | 5 => 5 | 9 => 9 | 218 => 187 | 222 => 191 | 228 => 206 | 229 => 207 | n => n, fun n => n⟩
theorem srtIL : Lays.n189 Tryz.prog srtIL_ren where
  mixed := by kernel_rfl
  f125 := Tryz.func88.trans (congrArg some (by kernel_rfl))
  f128 := Tryz.func119.trans (congrArg some (by kernel_rfl))
  f129 := Tryz.func120.trans (congrArg some (by kernel_rfl))
  f189 := Tryz.func79.trans (congrArg some (by kernel_rfl))
  f215 := Tryz.func89.trans (congrArg some (by kernel_rfl))
  f216 := Tryz.func81.trans (congrArg some (by kernel_rfl))
  f257 := Tryz.func107.trans (congrArg some (by kernel_rfl))
  f294 := Tryz.func145.trans (congrArg some (by kernel_rfl))
  f295 := Tryz.func146.trans (congrArg some (by kernel_rfl))
  f296 := Tryz.func147.trans (congrArg some (by kernel_rfl))
  f297 := Tryz.func148.trans (congrArg some (by kernel_rfl))
  f298 := Tryz.func149.trans (congrArg some (by kernel_rfl))
  f299 := Tryz.func150.trans (congrArg some (by kernel_rfl))
  f300 := Tryz.func151.trans (congrArg some (by kernel_rfl))
  f301 := Tryz.func152.trans (congrArg some (by kernel_rfl))
  f328 := Tryz.func173.trans (congrArg some (by kernel_rfl))
  f329 := Tryz.func156.trans (congrArg some (by kernel_rfl))
  f330 := Tryz.func157.trans (congrArg some (by kernel_rfl))
  f331 := Tryz.func174.trans (congrArg some (by kernel_rfl))
  f332 := Tryz.func175.trans (congrArg some (by kernel_rfl))
  f343 := Tryz.func184.trans (congrArg some (by kernel_rfl))
  t0 := Tryz.underlying0
  a0 := Tryz.isAgg0
  z0 := Tryz.sizeOf0
  v0 := Tryz.zeroValue0
  t3 := Tryz.underlying3
  a3 := Tryz.isAgg3
  z3 := Tryz.sizeOf3
  v3 := Tryz.zeroValue3
  t4 := Tryz.underlying4
  a4 := Tryz.isAgg4
  z4 := Tryz.sizeOf4
  v4 := Tryz.zeroValue4
  t5 := Tryz.underlying5
  a5 := Tryz.isAgg5
  z5 := Tryz.sizeOf5
  v5 := Tryz.zeroValue5
  t9 := Tryz.underlying9
  a9 := Tryz.isAgg9
  z9 := Tryz.sizeOf9
  v9 := Tryz.zeroValue9
  t28 := Tryz.underlying23
  a28 := Tryz.isAgg23
  z28 := Tryz.sizeOf23
  v28 := Tryz.zeroValue23
  t46 := Tryz.underlying124
  a46 := Tryz.isAgg124
  z46 := Tryz.sizeOf124
  v46 := Tryz.zeroValue124
  t51 := Tryz.underlying160
  a51 := Tryz.isAgg160
  z51 := Tryz.sizeOf160
  v51 := Tryz.zeroValue160
  t53 := Tryz.underlying162
  a53 := Tryz.isAgg162
  z53 := Tryz.sizeOf162
  v53 := Tryz.zeroValue162
  t131 := Tryz.underlying91
  a131 := Tryz.isAgg91
  z131 := Tryz.sizeOf91
  v131 := Tryz.zeroValue91
  t182 := Tryz.underlying153
  a182 := Tryz.isAgg153
  z182 := Tryz.sizeOf153
  v182 := Tryz.zeroValue153
  t183 := Tryz.underlying154
  a183 := Tryz.isAgg154
  z183 := Tryz.sizeOf154
  v183 := Tryz.zeroValue154
  t218 := Tryz.underlying187
  a218 := Tryz.isAgg187
  z218 := Tryz.sizeOf187
  v218 := Tryz.zeroValue187
  t222 := Tryz.underlying191
  a222 := Tryz.isAgg191
  z222 := Tryz.sizeOf191
  v222 := Tryz.zeroValue191
  t228 := Tryz.underlying206
  a228 := Tryz.isAgg206
  z228 := Tryz.sizeOf206
  v228 := Tryz.zeroValue206
  t229 := Tryz.underlying207
  a229 := Tryz.isAgg207
  z229 := Tryz.sizeOf207
  v229 := Tryz.zeroValue207
def cmpIL_ren : Go.Shelf.Ren := ⟨fun | 20 => 98 | n => n, fun | 22 => 23 | 3 => 3 | 4 => 4 | 0 => 0 | n => n, fun n => n⟩
theorem cmpIL : Lays2.n20 Tryz.prog cmpIL_ren where
  mixed := by kernel_rfl
  f20 := Tryz.func98.trans (congrArg some (by kernel_rfl))
  t0 := Tryz.underlying0
  a0 := Tryz.isAgg0
  z0 := Tryz.sizeOf0
  v0 := Tryz.zeroValue0
  t3 := Tryz.underlying3
  a3 := Tryz.isAgg3
  z3 := Tryz.sizeOf3
  v3 := Tryz.zeroValue3
  t4 := Tryz.underlying4
  a4 := Tryz.isAgg4
  z4 := Tryz.sizeOf4
  v4 := Tryz.zeroValue4
  t22 := Tryz.underlying23
  a22 := Tryz.isAgg23
  z22 := Tryz.sizeOf23
  v22 := Tryz.zeroValue23
  i3 := by kernel_rfl
theorem con_pureI {P : Program} {f : FuncId} {args : List Value} {H : Heap} {x : Int} (hf : FnOK P f) (h : ∀ w, Calls P f args.toArray w fun e w' => e = .returned (.int .i64 x) ∧ w' = w) : ConT P f args H shI (fun r _ => r = x) := by
  refine ⟨hf, fun w hs => (h w).mono ?_⟩
  rintro e w' ⟨rfl, rfl⟩
  exact ⟨_, H, [], rfl, ⟨x, _, rfl, rfl, rfl, rfl⟩, ⟨⟨rfl, rfl, rfl, Nat.le_refl _, fun _ _ => rfl⟩, hle_refl H, fun _ _ _ => rfl, hs, Nat.le_refl _⟩, by simp, List.Pairwise.nil⟩
theorem strings_Compare {H : Heap} {a b : ByteArray} : ConT Tryz.prog 86 [.string a, .string b] H shI (fun r _ => r = cmpB a b) :=
  con_pureI (FnOK.of_body strCmpL.f106 rfl (by kernel_rfl)) fun w => Any.strings_Compare strCmpL a b w
theorem Sort_Int {H : Heap} {n : Nat} {xs : List Value} {l : List Int} (hr : Row H xs l) (hl : l.length = n) (hn : n ≤ 140737488355328) :
    ConM Tryz.prog 79 [.slice none 0 0] 0 3 n xs true H ⟨true, []⟩ (fun ys (H' : Heap) => Row H' ys (l.mergeSort fun x y => decide (x ≤ y))) :=
  sortI_con srtIL (by kernel_rfl) hr hl hn
theorem Compact_Int {H : Heap} {n r : Nat} {xs : List Value} {l : List Int} (hr : Row H xs l) (hl : l.length = n) (hn : n ≤ 140737488355328) :
    ConM Tryz.prog 98 [.slice none 0 0] 0 3 n xs false H ⟨false, [(false, [.row r 3])]⟩ (fun _ => fun m (ys : List Value) (H' : Heap) => m = (Lib.compact l).length ∧ Row H' ys (Lib.compact l)) :=
  compactI_con cmpIL (by kernel_rfl) hr hl hn
def an89 : Ann where
  res := fun _ => none
  lend := fun _ => false
  sch := fun _ => .done
  lt := fun _ => []
  tup := tups

theorem vc89 (P : Program) (H : Heap) (x : Int) (post : Bool → Heap → Prop) :
  vcFn P tab an89 Tryz.f89 [.int .i64 x] 0 H ⟨false, [(false, [.bool])]⟩ post =
  (  post (!decide (x = x)) H) := by kernel_rfl
theorem cmp_isNaN {x : Int} {H : Heap} : ConT Tryz.prog 89 [.int .i64 x] H shB (fun r _ => r = false) := by
  refine con_of_vc (an := an89) (fn := Tryz.f89) mix tabOK Tryz.func89 (by kernel_rfl) (extra := 0) ?_
  rw [vc89]
  simp
def an60 : Ann where
  res := fun _ => none
  lend := fun | 8 => true | 10 => true | _ => false
  sch := fun _ => .done
  lt := fun _ => []
  tup := tups

theorem vc60 (P : Program) (H : Heap) (x : Int) (y : Int) (post : Int → Heap → Prop) :
  vcFn P tab an60 Tryz.f60 [.int .i64 x, .int .i64 y] 0 H ⟨false, [(false, [.int .i64])]⟩ post =
  (  ∃ (post0 : Bool → Heap → Prop), ConT P 89 [.int .i64 x] H ⟨false, [(false, [.bool])]⟩ post0 ∧ ∀ (H1 : Heap), Heap.le H H1 → ∀ (b3 : Bool), post0 b3 H1 → ∃ (post5 : Bool → Heap → Prop), ConT
  P 89 [.int .i64 y] H1 ⟨false, [(false, [.bool])]⟩ post5 ∧ ∀ (H6 : Heap), Heap.le H1 H6 → ∀ (b8 : Bool), post5 b8 H6 → (b3 = true → (b8 = true → post (0 : Int) H6) ∧ (b8 = false → post (-1 :
  Int) H6)) ∧ (b3 = false → (b8 = true → post (1 : Int) H6) ∧ (b8 = false → (decide (x < y) = true → post (-1 : Int) H6) ∧ (decide (x < y) = false → (decide (y < x) = true → post (1 : Int)
  H6) ∧ (decide (y < x) = false → post (0 : Int) H6))))) := by kernel_rfl
theorem cmp_Compare {x y : Int} {H : Heap} : ConT Tryz.prog 60 [.int .i64 x, .int .i64 y] H shI (fun r _ => r = cmpI x y) := by
  refine con_of_vc (an := an60) (fn := Tryz.f60) mix tabOK Tryz.func60 (by kernel_rfl) (extra := 0) ?_
  rw [vc60]
  refine ⟨_, cmp_isNaN, ?_⟩
  rintro H1 _ _ rfl
  refine ⟨_, cmp_isNaN, ?_⟩
  rintro H2 _ _ rfl
  grind [cmpI]
def an109 : Ann where
  res := fun _ => none
  lend := fun _ => false
  sch := fun _ => .done
  lt := fun _ => []
  tup := tups

theorem vc109 (P : Program) (H : Heap) (x : Int) (post : Bool → Heap → Prop) :
  vcFn P tab an109 Tryz.f109 [.int .i64 x] 0 H ⟨false, [(false, [.bool])]⟩ post =
  (  post (!decide (x = x)) H) := by kernel_rfl
theorem cmp_isNaN64 {x : Int} {H : Heap} : ConT Tryz.prog 109 [.int .i64 x] H shB (fun r _ => r = false) := by
  refine con_of_vc (an := an109) (fn := Tryz.f109) mix tabOK Tryz.func109 (by kernel_rfl) (extra := 0) ?_
  rw [vc109]
  simp
def an85 : Ann where
  res := fun _ => none
  lend := fun | 8 => true | 10 => true | _ => false
  sch := fun _ => .done
  lt := fun _ => []
  tup := tups

theorem vc85 (P : Program) (H : Heap) (x : Int) (y : Int) (post : Int → Heap → Prop) :
  vcFn P tab an85 Tryz.f85 [.int .i64 x, .int .i64 y] 0 H ⟨false, [(false, [.int .i64])]⟩ post =
  (  ∃ (post0 : Bool → Heap → Prop), ConT P 109 [.int .i64 x] H ⟨false, [(false, [.bool])]⟩ post0 ∧ ∀ (H1 : Heap), Heap.le H H1 → ∀ (b3 : Bool), post0 b3 H1 → ∃ (post5 : Bool → Heap → Prop),
  ConT P 109 [.int .i64 y] H1 ⟨false, [(false, [.bool])]⟩ post5 ∧ ∀ (H6 : Heap), Heap.le H1 H6 → ∀ (b8 : Bool), post5 b8 H6 → (b3 = true → (b8 = true → post (0 : Int) H6) ∧ (b8 = false → post
  (-1 : Int) H6)) ∧ (b3 = false → (b8 = true → post (1 : Int) H6) ∧ (b8 = false → (decide (x < y) = true → post (-1 : Int) H6) ∧ (decide (x < y) = false → (decide (y < x) = true → post (1 :
  Int) H6) ∧ (decide (y < x) = false → post (0 : Int) H6))))) := by kernel_rfl
theorem cmp_Compare64 {x y : Int} {H : Heap} : ConT Tryz.prog 85 [.int .i64 x, .int .i64 y] H shI (fun r _ => r = cmpI x y) := by
  refine con_of_vc (an := an85) (fn := Tryz.f85) mix tabOK Tryz.func85 (by kernel_rfl) (extra := 0) ?_
  rw [vc85]
  refine ⟨_, cmp_isNaN64, ?_⟩
  rintro H1 _ _ rfl
  refine ⟨_, cmp_isNaN64, ?_⟩
  rintro H2 _ _ rfl
  grind [cmpI]
def an84 : Ann where
  res := fun _ => none
  lend := fun _ => false
  sch := fun _ => .done
  lt := fun | 3 => [.slot 8 false [.int .i64]] | _ => []
  tup := tups

theorem vc84 (P : Program) (H : Heap) (valsA : Option Addr) (valsN valsC : Nat) (post : Int → Heap → Prop) :
  vcFn P tab an84 Tryz.f84 [.slice valsA valsN valsC] 0 H ⟨false, [(false, [.int .i64])]⟩ post =
  (  ∃ (inv0 : Int → Heap → Prop), ∃ (m1 : Int → Nat), inv0 (0 : Int) H ∧ ∀ (H2 : Heap), Heap.le H H2 → ∀ (n4 : Int), inv0 n4 H2 → (decide (n4 < (↑valsN : Int)) = true → someA valsA ∧ (0 : Int)
  ≤ n4 ∧ n4 < (↑valsN : Int) ∧ ∃ (n7 : Int), Cells H2 valsA (Int.toNat n4 * 1) [.int .i64 n7] ∧ ((!decide (n7 = (0 : Int))) = true → post n7 H2) ∧ ((!decide (n7 = (0 : Int))) = false → rng
  .i64 (n4 + (1 : Int)) ∧ inv0 (n4 + (1 : Int)) H2 ∧ m1 (n4 + (1 : Int)) < m1 n4)) ∧ (decide (n4 < (↑valsN : Int)) = false → post (0 : Int) H2)) := by kernel_rfl
theorem cmp_Or {H : Heap} {A : Option Addr} {n c : Nat} {l : List Int} (hs : Sl H A n c l) : ConT Tryz.prog 84 [.slice A n c] H shI (fun r _ => r = orI l) := by
  refine con_of_vc (an := an84) (fn := Tryz.f84) mix tabOK Tryz.func84 (by kernel_rfl) (extra := 0) ?_
  rw [vc84]
  refine ⟨fun i _ => 0 ≤ i ∧ i ≤ n ∧ orI l = orI (l.drop i.toNat), fun i => n - i.toNat, ⟨by omega, by omega, rfl⟩, ?_⟩
  rintro H2 hle i ⟨h0, h1, h2⟩
  have hb := hs.bn; have hl := hs.len
  refine ⟨fun hlt => ?_, fun hge => ?_⟩
  · have hlt := of_decide_eq_true hlt
    obtain ⟨hi, hA, _, hc, ⟨rfl, hr⟩⟩ := hs.at hle h0 hlt
    rw [drop_at h0 hi, orI] at h2
    refine ⟨hA, h0, hlt, _, hc, fun hne => ?_, fun he => ⟨by simp only [rng]; omega, ⟨by omega, by omega, ?_⟩, by dsimp only; omega⟩⟩
    · rw [h2, if_pos (by simpa using hne)]
    · rw [h2, if_neg (by simpa using he)]
  · have hge := of_decide_eq_false hge
    rw [drop_end hge hl, orI] at h2
    exact h2.symm
theorem ints_row {H : Heap} {l : List Int} (h : ∀ x ∈ l, rng .i64 x) : Row H (l.map (Value.int .i64)) l := int_row h
theorem Ord3.bd {T : Type} {f : T → T → Int} (h : Ord3 f) (a b : T) : rng .i64 (f a b) := by
  rcases h.sign a b with e | e | e <;> rw [e] <;> decide
def an57 : Ann where
  res := fun _ => none
  lend := fun | 9 => true | 14 => true | 19 => true | 21 => true | _ => false
  sch := fun | 1 => (tk [0, 1, 2, 3, 5, 6, 7, 8, 10, 11, 12, 13] (.alt 4 (.alt 9 (.alt 14 (.alt 15 (.alt 16 (tk [17] .done) .fin) .fin) .fin) .fin) .fin)) | _ => .done
  lt := fun _ => []
  tup := tups

theorem vc57 (P : Program) (H : Heap) (aKind : Int) (aN : Int) (aS : ByteArray) (bKind : Int) (bN : Int) (bS : ByteArray) (post : Int → Heap → Prop) :
  vcFn P tab an57 Tryz.f57 [.agg #[.int .i64 aKind, .int .i64 aN, .string aS], .agg #[.int .i64 bKind, .int .i64 bN, .string bS]] 0 H ⟨false, [(false, [.int .i64])]⟩ post =
  (  ∃ (post0 : Int → Heap → Prop), ConT P 60 [.int .i64 aKind, .int .i64 bKind] H ⟨false, [(false, [.int .i64])]⟩ post0 ∧ ∀ (H1 : Heap), Heap.le H H1 → ∀ (n3 : Int), post0 n3 H1 → ∃ (post5 :
  Int → Heap → Prop), ConT P 85 [.int .i64 aN, .int .i64 bN] H1 ⟨false, [(false, [.int .i64])]⟩ post5 ∧ ∀ (H6 : Heap), Heap.le H1 H6 → ∀ (n8 : Int), post5 n8 H6 → ∃ (post10 : Int → Heap →
  Prop), ConT P 86 [.string aS, .string bS] H6 ⟨false, [(false, [.int .i64])]⟩ post10 ∧ ∀ (H11 : Heap), Heap.le H6 H11 → ∀ (n13 : Int), post10 n13 H11 → ∃ (post15 : Int → Heap → Prop), (∀
  (A16 : Option Addr) (c17 : Nat) (H18 : Heap), Heap.le H11 H18 → Cells H18 A16 0 [.int .i64 n3, .int .i64 n8, .int .i64 n13] → 3 ≤ c17 → ConT P 84 [.slice A16 3 c17] H18 ⟨false, [(false,
  [.int .i64])]⟩ post15) ∧ ∀ (H22 : Heap) (n23 : Int), post15 n23 H22 → post n23 H11) := by kernel_rfl
theorem value_Compare {a b : Val} {H : Heap} : ConT Tryz.prog 57 [.agg ⟨[.int .i64 a.kind, .int .i64 a.n, .string a.s]⟩, .agg ⟨[.int .i64 b.kind, .int .i64 b.n, .string b.s]⟩] H shI (fun r _ => r = cmpV a b) := by
  refine con_of_vc (an := an57) (fn := Tryz.f57) mix tabOK Tryz.func57 (by kernel_rfl) (extra := 0) ?_
  rw [vc57]
  refine ⟨_, cmp_Compare, ?_⟩
  rintro H1 l1 _ rfl
  refine ⟨_, cmp_Compare64, ?_⟩
  rintro H2 l2 _ rfl
  refine ⟨_, strings_Compare, ?_⟩
  rintro H3 l3 _ rfl
  refine ⟨_, fun A c H4 l4 hc hn => cmp_Or (l := [cmpI a.kind b.kind, cmpI a.n b.n, cmpB a.s b.s]) (Row.sl (T := Int) (ints_row ?_) (hle_refl H4) hc rfl hn (by decide) (by decide)), ?_⟩
  · have := cmpI_ord.bd a.kind b.kind; have := cmpI_ord.bd a.n b.n; have := cmpB_ord.bd a.s b.s
    simp [*]
  · rintro H5 _ rfl
    rfl
/- a comparison of elements that a function computes in every grown heap -/
def CmpT (P : Program) (T : Type) [Rep T] (H : Heap) (f : FuncId) (cf : T → T → Int) : Prop :=
  ∀ (H' : Heap) (vs us : List Value) (s t : T), Heap.le H H' → Rep.rel H' vs s → Rep.rel H' us t → ConT P f [.agg ⟨vs⟩, .agg ⟨us⟩] H' shI (fun r _ => r = cf s t)
theorem value_Compare_T (H : Heap) : CmpT Tryz.prog Val H 57 cmpV := by
  rintro H' vs us s t _ ⟨rfl, -⟩ ⟨rfl, -⟩
  exact value_Compare
end Go.Vc
/- Comparing lists of values; the values at columns; periods. -/
namespace Go.Vc
open Go Go.Proofs Go.Shelf
theorem lexI_step {T : Type} {f : T → T → Int} {a b : List T} {i : Nat} (ha : i < a.length) (hb : i < b.length) : lexI f (a.drop i) (b.drop i) = if f a[i] b[i] ≠ 0 then f a[i] b[i] else lexI f (a.drop (i + 1)) (b.drop (i + 1)) := by
  rw [List.drop_eq_getElem_cons ha, List.drop_eq_getElem_cons hb, lexI]
theorem lexI_enda {T : Type} {f : T → T → Int} {a b : List T} {i : Nat} (ha : a.length ≤ i) : lexI f (a.drop i) (b.drop i) = if i < b.length then -1 else 0 := by
  rw [List.drop_eq_nil_of_le ha]
  split
  · rename_i hb; rw [List.drop_eq_getElem_cons hb]; rfl
  · rename_i hb; rw [List.drop_eq_nil_of_le (by omega)]; rfl
theorem lexI_endb {T : Type} {f : T → T → Int} {a b : List T} {i : Nat} (ha : i < a.length) (hb : b.length ≤ i) : lexI f (a.drop i) (b.drop i) = 1 := by
  rw [List.drop_eq_getElem_cons ha, List.drop_eq_nil_of_le hb]; rfl
def an56 : Ann where
  res := fun _ => none
  lend := fun | 29 => true | _ => false
  sch := fun _ => .done
  lt := fun | 2 => [.slot 13 false [.int .i64]] | _ => []
  tup := tups

theorem vc56 (P : Program) (H : Heap) (s1A : Option Addr) (s1N s1C : Nat) (s2A : Option Addr) (s2N s2C : Nat) (cmpF : FuncId) (post : Int → Heap → Prop) :
  vcFn P tab an56 Tryz.f56 [.slice s1A s1N s1C, .slice s2A s2N s2C, .func (.func cmpF) #[] #[]] 0 H ⟨false, [(false, [.int .i64])]⟩ post =
  (  ∃ (inv0 : Int → Heap → Prop), ∃ (m1 : Int → Nat), inv0 (0 : Int) H ∧ ∀ (H2 : Heap), Heap.le H H2 → ∀ (n4 : Int), inv0 n4 H2 → (decide (n4 < (↑s1N : Int)) = true → someA s1A ∧ (0 : Int) ≤ n4
  ∧ n4 < (↑s1N : Int) ∧ ∃ (n7 : Int), ∃ (n8 : Int), ∃ (s9 : ByteArray), Cells H2 s1A (Int.toNat n4 * 3) [.int .i64 n7, .int .i64 n8, .string s9] ∧ (decide ((↑s2N : Int) ≤ n4) = true → post (1
  : Int) H2) ∧ (decide ((↑s2N : Int) ≤ n4) = false → someA s2A ∧ (0 : Int) ≤ n4 ∧ n4 < (↑s2N : Int) ∧ ∃ (n12 : Int), ∃ (n13 : Int), ∃ (s14 : ByteArray), Cells H2 s2A (Int.toNat n4 * 3) [.int
  .i64 n12, .int .i64 n13, .string s14] ∧ ∃ (post15 : Int → Heap → Prop), ConT P cmpF [.agg ⟨[.int .i64 n7, .int .i64 n8, .string s9]⟩, .agg ⟨[.int .i64 n12, .int .i64 n13, .string s14]⟩] H2
  ⟨false, [(false, [.int .i64])]⟩ post15 ∧ ∀ (H16 : Heap), Heap.le H2 H16 → ∀ (n18 : Int), post15 n18 H16 → ((!decide (n18 = (0 : Int))) = true → post n18 H16) ∧ ((!decide (n18 = (0 : Int)))
  = false → rng .i64 (n4 + (1 : Int)) ∧ inv0 (n4 + (1 : Int)) H16 ∧ m1 (n4 + (1 : Int)) < m1 n4))) ∧ (decide (n4 < (↑s1N : Int)) = false → (decide ((↑s1N : Int) < (↑s2N : Int)) = true → post
  (-1 : Int) H2) ∧ (decide ((↑s1N : Int) < (↑s2N : Int)) = false → post (0 : Int) H2))) := by kernel_rfl
theorem CompareFunc_Val {H : Heap} {A B : Option Addr} {n c m d : Nat} {a b : List Val} {g : FuncId} {f : Val → Val → Int} (hs : Sl H A n c a) (ht : Sl H B m d b) (hf : CmpT Tryz.prog Val H g f) :
    ConT Tryz.prog 56 [.slice A n c, .slice B m d, .func (.func g) #[] #[]] H shI (fun r _ => r = lexI f a b) := by
  refine con_of_vc (an := an56) (fn := Tryz.f56) mix tabOK Tryz.func56 (by kernel_rfl) (extra := 0) ?_
  rw [vc56]
  refine ⟨fun i _ => 0 ≤ i ∧ i ≤ n ∧ lexI f a b = lexI f (a.drop i.toNat) (b.drop i.toNat), fun i => n - i.toNat, ⟨by omega, by omega, rfl⟩, ?_⟩
  rintro H2 hle i ⟨h0, h1, h2⟩
  have hb := hs.bn; have hl := hs.len; have hm := ht.len
  refine ⟨fun hlt => ?_, fun hge => ?_⟩
  · have hlt := of_decide_eq_true hlt
    obtain ⟨hi, hA, _, hc, hr⟩ := hs.at hle h0 hlt
    obtain ⟨rfl, q1, q2, q3⟩ := id hr
    refine ⟨hA, h0, hlt, _, _, _, hc, fun hmb => ?_, fun hmb => ?_⟩
    · have hmb := of_decide_eq_true hmb
      rw [h2, lexI_endb hi (by omega)]
    · have hmb := of_decide_eq_false hmb
      obtain ⟨hj, hB, _, hd, hr'⟩ := ht.at hle h0 (by omega)
      obtain ⟨rfl, p1, p2, p3⟩ := id hr'
      refine ⟨hB, h0, by omega, _, _, _, hd, _, hf H2 _ _ _ _ hle hr hr', ?_⟩
      rintro H3 l3 _ rfl
      rw [lexI_step hi hj] at h2
      refine ⟨fun hne => ?_, fun he => ⟨by simp only [rng]; omega, ⟨by omega, by omega, ?_⟩, by dsimp only; omega⟩⟩
      · rw [h2, if_pos (by simpa using hne)]
      · rw [h2, if_neg (by simpa using he), show (i + 1).toNat = i.toNat + 1 by omega]
  · have hge := of_decide_eq_false hge
    rw [lexI_enda (by omega)] at h2
    refine ⟨fun h => ?_, fun h => ?_⟩
    · have := of_decide_eq_true h
      rw [h2, if_pos (by omega)]
    · have := of_decide_eq_false h
      rw [h2, if_neg (by omega)]
def an32 : Ann where
  res := fun _ => none
  lend := fun | 7 => true | _ => false
  sch := fun _ => .done
  lt := fun _ => []
  tup := tups

theorem vc32 (P : Program) (H : Heap) (aA : Option Addr) (aN aC : Nat) (bA : Option Addr) (bN bC : Nat) (post : Int → Heap → Prop) :
  vcFn P tab an32 Tryz.f32 [.slice aA aN aC, .slice bA bN bC] 0 H ⟨false, [(false, [.int .i64])]⟩ post =
  (  ∃ (post0 : Int → Heap → Prop), ConT P 56 [.slice aA aN aC, .slice bA bN bC, .func (.func 57) ⟨[]⟩ ⟨[]⟩] H ⟨false, [(false, [.int .i64])]⟩ post0 ∧ ∀ (H1 : Heap), Heap.le H H1 → ∀ (n3 : Int),
  post0 n3 H1 → post n3 H1) := by kernel_rfl
theorem value_CompareRows {H : Heap} {A B : Option Addr} {n c m d : Nat} {a b : List Val} (hs : Sl H A n c a) (ht : Sl H B m d b) :
    ConT Tryz.prog 32 [.slice A n c, .slice B m d] H shI (fun r _ => r = cmpVs a b) := by
  refine con_of_vc (an := an32) (fn := Tryz.f32) mix tabOK Tryz.func32 (by kernel_rfl) (extra := 0) ?_
  rw [vc32]
  exact ⟨_, CompareFunc_Val hs ht (value_Compare_T H), fun _ _ _ h => h⟩
def val0 : Val := ⟨0, 0, ⟨#[]⟩⟩
def keyVal (vals : List Val) (c : Int) : Val := if 0 ≤ c then vals.getD c.toNat val0 else val0
def keyVals (vals : List Val) (cols : List Int) : List Val := cols.map (keyVal vals)
theorem kv_skip {vals : List Val} {cols : List Int} {m i : Nat} (hi : i < cols.length) (hm : cols.length = m) (hv : keyVal vals cols[i] = val0) :
    keyVals vals (cols.take i) ++ List.replicate (m - i) val0 = keyVals vals (cols.take (i + 1)) ++ List.replicate (m - (i + 1)) val0 := by
  rw [List.take_succ_eq_append_getElem hi, keyVals, keyVals, List.map_append, show m - i = (m - (i + 1)) + 1 by omega, List.replicate_succ]
  simp [hv]
theorem kv_set {vals : List Val} {cols : List Int} {m i : Nat} (hi : i < cols.length) (hm : cols.length = m) {v : Val} (hv : keyVal vals cols[i] = v) :
    (keyVals vals (cols.take i) ++ List.replicate (m - i) val0).set i v = keyVals vals (cols.take (i + 1)) ++ List.replicate (m - (i + 1)) val0 := by
  rw [List.take_succ_eq_append_getElem hi, keyVals, keyVals, List.map_append, show m - i = (m - (i + 1)) + 1 by omega, List.replicate_succ]
  have hl : ((cols.take i).map (keyVal vals)).length = i := by simp; omega
  rw [List.set_append_right _ _ (by omega), hl, Nat.sub_self]
  simp [hv]
def an19 : Ann where
  res := fun _ => none
  lend := fun _ => false
  sch := fun _ => .done
  lt := fun | 3 => [.slot 5 false [.row 35 80], .slot 13 false [.int .i64]] | _ => []
  tup := tups

theorem vc19 (P : Program) (H : Heap) (valsA : Option Addr) (valsN valsC : Nat) (colsA : Option Addr) (colsN colsC : Nat) (post : Option Addr → Nat → Nat → Heap → Prop) :
  vcFn P tab an19 Tryz.f19 [.slice valsA valsN valsC, .slice colsA colsN colsC] 1 H ⟨false, [(false, [.sl])]⟩ post =
  (  (↑colsN : Int) = (↑colsN : Int) ∧ (0 : Int) ≤ (↑colsN : Int) ∧ (↑colsN : Int) * (↑32 : Int) ≤ (140737488355328 : Int) ∧ ∀ (xs0 : List Value), xs0 = repl [.int .i64 (0 : Int), .int .i64 (0 :
  Int), .string ⟨⟨[]⟩⟩] (Int.toNat (↑colsN : Int)) → ∃ (inv2 : Nat → List Value → Int → Heap → Prop), ∃ (m3 : Nat → List Value → Int → Nat), inv2 (Int.toNat (↑colsN : Int)) xs0 (0 : Int) H ∧
  ∀ (H4 : Heap), Heap.le H H4 → ∀ (n6 : Nat) (xs7 : List Value) (n8 : Int), inv2 n6 xs7 n8 H4 → (decide (n8 < (↑colsN : Int)) = true → someA colsA ∧ (0 : Int) ≤ n8 ∧ n8 < (↑colsN : Int) ∧ ∃
  (n11 : Int), Cells H4 colsA (Int.toNat n8 * 1) [.int .i64 n11] ∧ (decide ((0 : Int) ≤ n11) = true → (decide (n11 < (↑valsN : Int)) = true → someA valsA ∧ (0 : Int) ≤ n11 ∧ n11 < (↑valsN :
  Int) ∧ ∃ (n14 : Int), ∃ (n15 : Int), ∃ (s16 : ByteArray), Cells H4 valsA (Int.toNat n11 * 3) [.int .i64 n14, .int .i64 n15, .string s16] ∧ (0 : Int) ≤ n8 ∧ n8 < (↑n6 : Int) ∧ Int.toNat n8 *
  3 + 3 ≤ List.length xs7 ∧ rng .i64 (n8 + (1 : Int)) ∧ inv2 n6 (splice xs7 (Int.toNat n8 * 3) [.int .i64 n14, .int .i64 n15, .string s16]) (n8 + (1 : Int)) H4 ∧ m3 n6 (splice xs7 (Int.toNat
  n8 * 3) [.int .i64 n14, .int .i64 n15, .string s16]) (n8 + (1 : Int)) < m3 n6 xs7 n8) ∧ (decide (n11 < (↑valsN : Int)) = false → rng .i64 (n8 + (1 : Int)) ∧ inv2 n6 xs7 (n8 + (1 : Int)) H4
  ∧ m3 n6 xs7 (n8 + (1 : Int)) < m3 n6 xs7 n8)) ∧ (decide ((0 : Int) ≤ n11) = false → rng .i64 (n8 + (1 : Int)) ∧ inv2 n6 xs7 (n8 + (1 : Int)) H4 ∧ m3 n6 xs7 (n8 + (1 : Int)) < m3 n6 xs7 n8))
  ∧ (decide (n8 < (↑colsN : Int)) = false → ∀ (A20 : Option Addr) (c21 : Nat) (H22 : Heap), Heap.le H4 H22 → Cells H22 A20 0 xs7 → n6 ≤ c21 → post A20 n6 c21 H22)) := by kernel_rfl
theorem keys_Values {H : Heap} {A B : Option Addr} {n c m d : Nat} {vals : List Val} {cols : List Int} (hs : Sl H A n c vals) (ht : Sl H B m d cols) (hb : m * 32 ≤ 140737488355328) :
    ConT Tryz.prog 19 [.slice A n c, .slice B m d] H shS (fun A' n' c' H' => Sl H' A' n' c' (keyVals vals cols)) := by
  refine con_of_vc (an := an19) (fn := Tryz.f19) mix tabOK Tryz.func19 (by kernel_rfl) (extra := 1) ?_
  rw [vc19]
  have hbn := ht.bn; have hl := hs.len; have hm := ht.len
  refine ⟨rfl, by omega, by simpa using (by omega : (m : Int) * 32 ≤ 140737488355328), ?_⟩
  rintro xs rfl
  refine ⟨fun k xs i H' => 0 ≤ i ∧ i ≤ m ∧ k = m ∧ Row H' xs (keyVals vals (cols.take i.toNat) ++ List.replicate (m - i.toNat) val0), fun _ _ i => m - i.toNat, ⟨by omega, by omega, by omega, ?_⟩, ?_⟩
  · simp only [Int.toNat_natCast, List.take_zero, keyVals, List.map_nil, List.nil_append, Int.toNat_zero, Nat.sub_zero]
    exact Row.zeros (H := H) (T := Val) (t := val0) (show Rep.rel H _ val0 from ⟨rfl, by decide, by decide, by unfold str val0; decide⟩) m
  rintro H2 hle k xs i ⟨h0, h1, rfl, hr⟩
  have hrl := hr.length
  have hlen : (keyVals vals (cols.take i.toNat) ++ List.replicate (k - i.toNat) val0).length = k := by simp [keyVals]; omega
  have e1 : (i + 1).toNat = i.toNat + 1 := by omega
  refine ⟨fun hlt => ?_, fun hge => ?_⟩
  · have hlt := of_decide_eq_true hlt
    obtain ⟨hi, hA, _, hc, ⟨rfl, -⟩⟩ := ht.at hle h0 hlt
    have skip : keyVal vals cols[i.toNat] = val0 → rng .i64 (i + 1) ∧ (0 ≤ i + 1 ∧ i + 1 ≤ k ∧ k = k ∧ Row H2 xs (keyVals vals (cols.take (i + 1).toNat) ++ List.replicate (k - (i + 1).toNat) val0)) ∧ k - (i + 1).toNat < k - i.toNat := fun hv =>
      ⟨by simp only [rng]; omega, ⟨by omega, by omega, rfl, by rw [e1, ← kv_skip hi hm hv]; exact hr⟩, by omega⟩
    refine ⟨hA, h0, hlt, _, hc, fun hp => ⟨fun hq => ?_, fun hq => ?_⟩, fun hp => ?_⟩
    · have hp := of_decide_eq_true hp; have hq := of_decide_eq_true hq
      obtain ⟨hj, hB, _, hd, hv⟩ := hs.at hle hp hq
      have hset := hr.setw (i := i.toNat) (by omega) hv
      obtain ⟨rfl, q1, q2, q3⟩ := hv
      refine ⟨hB, hp, hq, _, _, _, hd, h0, by omega, ?_, by simp only [rng]; omega, ⟨by omega, by omega, rfl, ?_⟩, by dsimp only; omega⟩
      · rw [hrl, hlen]
        show i.toNat * 3 + 3 ≤ k * 3
        omega
      · rw [kv_set hi hm (v := vals[cols[i.toNat].toNat]) (by unfold keyVal; rw [if_pos hp, List.getD_eq_getElem?_getD, List.getElem?_eq_getElem hj]; rfl), ← e1] at hset
        exact hset
    · have hp := of_decide_eq_true hp; have hq := of_decide_eq_false hq
      exact skip (by unfold keyVal; rw [if_pos hp, List.getD_eq_getElem?_getD, List.getElem?_eq_none (by omega)]; rfl)
    · have hp := of_decide_eq_false hp
      exact skip (by unfold keyVal; rw [if_neg hp])
  · have hge := of_decide_eq_false hge
    intro A2 c2 H3 l3 hc2 hn2
    have : keyVals vals (cols.take i.toNat) ++ List.replicate (k - i.toNat) val0 = keyVals vals cols := by
      rw [show k - i.toNat = 0 by omega, List.take_of_length_le (by omega)]; simp
    rw [this] at hr
    exact hr.sl l3 hc2 (by simp [keyVals]; omega) hn2 hb hbn
def an50 : Ann where
  res := fun _ => none
  lend := fun _ => false
  sch := fun _ => .done
  lt := fun _ => []
  tup := tups

theorem vc50 (P : Program) (H : Heap) (pFrom : Int) (pTo : Int) (post : Bool → Heap → Prop) :
  vcFn P tab an50 Tryz.f50 [.agg #[.int .i64 pFrom, .int .i64 pTo]] 0 H ⟨false, [(false, [.bool])]⟩ post =
  (  (decide ((0 : Int) ≤ pFrom) = true → (decide (pFrom < pTo) = true → post (decide (pTo ≤ (1099511627776 : Int))) H) ∧ (decide (pFrom < pTo) = false → post false H)) ∧ (decide ((0 : Int) ≤
  pFrom) = false → post false H)) := by kernel_rfl
theorem period_Valid {a b : Int} {H : Heap} : ConT Tryz.prog 50 [.agg ⟨[.int .i64 a, .int .i64 b]⟩] H shB (fun r _ => r = pOk ⟨a, b⟩) := by
  refine con_of_vc (an := an50) (fn := Tryz.f50) mix tabOK Tryz.func50 (by kernel_rfl) (extra := 0) ?_
  rw [vc50]
  grind [pOk]
end Go.Vc
/- Merging in place: plain law. -/
namespace Go.Vc
open Go Go.RowKit Go.Shelf Go.Proofs Go.Sort
section
variable {T : Type}
theorem set2 {A B C : List T} {x y : T} {a b : Nat} (ha : a = A.length) (hb : b = A.length + 1 + B.length) : ∃ (h1 : a < (A ++ x :: (B ++ y :: C)).length) (h2 : b < (A ++ x :: (B ++ y :: C)).length),
    ((A ++ x :: (B ++ y :: C)).set a (A ++ x :: (B ++ y :: C))[b]).set b (A ++ x :: (B ++ y :: C))[a] = A ++ y :: (B ++ x :: C) := by
  subst ha hb
  refine ⟨by simp, by simp; omega, ?_⟩
  have e1 : (A ++ x :: (B ++ y :: C))[A.length]'(by simp) = x := by simp
  have e2 : (A ++ x :: (B ++ y :: C))[A.length + 1 + B.length]'(by simp; omega) = y := by
    rw [List.getElem_append_right (by omega)]
    have : A.length + 1 + B.length - A.length = B.length + 1 := by omega
    simp only [this, List.getElem_cons_succ]
    simp
  rw [e1, e2]
  rw [List.set_append_right _ _ (by omega), Nat.sub_self, List.set_cons_zero, List.set_append_right _ _ (by omega)]
  have : A.length + 1 + B.length - A.length = B.length + 1 := by omega
  rw [this, List.set_cons_succ, List.set_append_right _ _ (by omega), Nat.sub_self, List.set_cons_zero]
def swapL (X p r q Y : List T) (i : Nat) : List T := X ++ (q.take i ++ p.drop i) ++ r ++ (p.take i ++ q.drop i) ++ Y
theorem swapL_zero (X p r q Y : List T) : swapL X p r q Y 0 = X ++ p ++ r ++ q ++ Y := by simp [swapL]
theorem swapL_end {X p r q Y : List T} (h : p.length = q.length) : swapL X p r q Y p.length = X ++ q ++ r ++ p ++ Y := by
  unfold swapL
  have h1 : q.take p.length = q := List.take_of_length_le (by omega)
  have h2 : p.drop p.length = [] := List.drop_eq_nil_of_le (Nat.le_refl _)
  have h3 : p.take p.length = p := List.take_of_length_le (Nat.le_refl _)
  have h4 : q.drop p.length = [] := List.drop_eq_nil_of_le (by omega)
  rw [h1, h2, h3, h4, List.append_nil, List.append_nil]
theorem swapL_step {X p r q Y : List T} {i : Nat} (h : p.length = q.length) (hi : i < p.length) {a b : Nat} (ha : a = X.length + i) (hb : b = X.length + p.length + r.length + i) :
    ∃ (h1 : a < (swapL X p r q Y i).length) (h2 : b < (swapL X p r q Y i).length), ((swapL X p r q Y i).set a (swapL X p r q Y i)[b]).set b (swapL X p r q Y i)[a] = swapL X p r q Y (i + 1) := by
  have hq : i < q.length := by omega
  have e : swapL X p r q Y i = (X ++ q.take i) ++ p[i] :: ((p.drop (i + 1) ++ r ++ p.take i) ++ q[i] :: (q.drop (i + 1) ++ Y)) := by
    unfold swapL
    rw [List.drop_eq_getElem_cons hi, List.drop_eq_getElem_cons hq]
    simp only [List.append_assoc, List.cons_append, List.nil_append]
  have e2 : swapL X p r q Y (i + 1) = (X ++ q.take i) ++ q[i] :: ((p.drop (i + 1) ++ r ++ p.take i) ++ p[i] :: (q.drop (i + 1) ++ Y)) := by
    unfold swapL
    rw [List.take_succ_eq_append_getElem hi, List.take_succ_eq_append_getElem hq]
    simp only [List.append_assoc, List.cons_append, List.nil_append]
  rw [e2]
  simp only [e]
  exact set2 (by simp; omega) (by simp; omega)
/- one element that goes through a block -/
def moveL (X q : List T) (x : T) (Y : List T) (t : Nat) : List T := X ++ (q.take t ++ x :: q.drop t) ++ Y
theorem moveL_up {X q : List T} {x : T} {Y : List T} {t : Nat} (ht : t < q.length) {a b : Nat} (ha : a = X.length + t) (hb : b = a + 1) :
    ∃ (h1 : a < (moveL X q x Y t).length) (h2 : b < (moveL X q x Y t).length), ((moveL X q x Y t).set a (moveL X q x Y t)[b]).set b (moveL X q x Y t)[a] = moveL X q x Y (t + 1) := by
  have e : moveL X q x Y t = (X ++ q.take t) ++ x :: ([] ++ q[t] :: (q.drop (t + 1) ++ Y)) := by
    unfold moveL
    rw [List.drop_eq_getElem_cons ht]
    simp only [List.append_assoc, List.cons_append, List.nil_append]
  have e2 : moveL X q x Y (t + 1) = (X ++ q.take t) ++ q[t] :: ([] ++ x :: (q.drop (t + 1) ++ Y)) := by
    unfold moveL
    rw [List.take_succ_eq_append_getElem ht]
    simp only [List.append_assoc, List.cons_append, List.nil_append]
  rw [e2]
  simp only [e]
  exact set2 (by simp; omega) (by simp; omega)
theorem set_comm2 {l : List T} {a b : Nat} {x y : T} (h : a ≠ b) : (l.set a x).set b y = (l.set b y).set a x := List.set_comm _ _ h
theorem moveL_down {X q : List T} {x : T} {Y : List T} {t : Nat} (h0 : 0 < t) (ht : t ≤ q.length) {a b : Nat} (ha : a = X.length + t) (hb : b + 1 = a) :
    ∃ (h1 : a < (moveL X q x Y t).length) (h2 : b < (moveL X q x Y t).length), ((moveL X q x Y t).set a (moveL X q x Y t)[b]).set b (moveL X q x Y t)[a] = moveL X q x Y (t - 1) := by
  have htl : t - 1 < q.length := by omega
  have e : moveL X q x Y t = (X ++ q.take (t - 1)) ++ q[t - 1] :: ([] ++ x :: (q.drop t ++ Y)) := by
    have h1 : q.take t = q.take (t - 1) ++ [q[t - 1]] := by
      have := List.take_succ_eq_append_getElem htl
      rwa [show t - 1 + 1 = t by omega] at this
    unfold moveL
    rw [h1]
    simp only [List.append_assoc, List.cons_append, List.nil_append]
  have e2 : moveL X q x Y (t - 1) = (X ++ q.take (t - 1)) ++ x :: ([] ++ q[t - 1] :: (q.drop t ++ Y)) := by
    have h1 : q.drop (t - 1) = q[t - 1] :: q.drop t := by
      have := List.drop_eq_getElem_cons htl
      rwa [show t - 1 + 1 = t by omega] at this
    unfold moveL
    rw [h1]
    simp only [List.append_assoc, List.cons_append, List.nil_append]
  rw [e2]
  simp only [e]
  obtain ⟨h1, h2, h3⟩ := set2 (A := X ++ q.take (t - 1)) (B := []) (C := q.drop t ++ Y) (x := q[t - 1]) (y := x) (a := b) (b := a) (by simp; omega) (by simp; omega)
  exact ⟨h2, h1, by rw [set_comm2 (by omega)]; exact h3⟩
theorem moveL_len {X q : List T} {x : T} {Y : List T} (t : Nat) : (moveL X q x Y t).length = X.length + 1 + q.length + Y.length := by
  have := congrArg List.length (List.take_append_drop t q)
  simp only [List.length_append] at this
  simp only [moveL, List.length_append, List.length_cons]; omega
theorem swapL_len {X p r q Y : List T} (t : Nat) : (swapL X p r q Y t).length = (X ++ p ++ r ++ q ++ Y).length := by
  have := congrArg List.length (List.take_append_drop t q)
  have := congrArg List.length (List.take_append_drop t p)
  simp only [List.length_append] at *
  simp only [swapL, List.length_append]; omega
def srt (cf : T → T → Int) (l : List T) : Prop := l.Pairwise (fun a b => ¬ cf b a < 0)
variable {cf : T → T → Int} (hO : Sort.SWO (ltOf cf))
include hO
theorem lt_irr (x : T) : ¬ cf x x < 0 := by have := hO.irrefl x; simpa [ltOf] using this
theorem lt_trn {x y z : T} (h1 : cf x y < 0) (h2 : cf y z < 0) : cf x z < 0 := by
  have := hO.trans (x := x) (y := y) (z := z)
  simpa [ltOf, h1, h2] using this
theorem lt_ntr {x y z : T} (h1 : ¬ cf x y < 0) (h2 : ¬ cf y z < 0) : ¬ cf x z < 0 := by
  have := hO.ntrans (x := x) (y := y) (z := z)
  simpa [ltOf, h1, h2] using this
theorem lt_asm {x y : T} (h1 : cf x y < 0) : ¬ cf y x < 0 := fun h2 => lt_irr hO x (lt_trn hO h1 h2)
/- in a sorted list: what holds at the border holds on the whole side -/
theorem srt_low {l : List T} (hs : srt cf l) {x : T} {i : Nat} (hi : i < l.length) (h : ¬ cf x l[i] < 0) : ∀ y ∈ l.take (i + 1), ¬ cf x y < 0 := by
  intro y hy
  obtain ⟨j, hj, rfl⟩ := List.getElem_of_mem hy
  rw [List.length_take] at hj
  rw [List.getElem_take]
  rcases Nat.lt_or_ge j i with h1 | h1
  · exact lt_ntr hO h (List.pairwise_iff_getElem.1 hs j i (by omega) hi h1)
  · have : j = i := by omega
    subst this; exact h
theorem srt_high {l : List T} (hs : srt cf l) {x : T} {i : Nat} (hi : i < l.length) (h : ¬ cf l[i] x < 0) : ∀ y ∈ l.drop i, ¬ cf y x < 0 := by
  intro y hy
  obtain ⟨j, hj, rfl⟩ := List.getElem_of_mem hy
  rw [List.length_drop] at hj
  rw [List.getElem_drop]
  rcases Nat.eq_zero_or_pos j with h1 | h1
  · subst h1; exact h
  · exact lt_ntr hO (List.pairwise_iff_getElem.1 hs i (i + j) hi (by omega) (by omega)) h
omit hO in
theorem srt_app {a b : List T} (ha : srt cf a) (hb : srt cf b) (h : ∀ x ∈ a, ∀ y ∈ b, ¬ cf y x < 0) : srt cf (a ++ b) := List.pairwise_append.2 ⟨ha, hb, h⟩
omit hO in
theorem srt_split {a b : List T} (h : srt cf (a ++ b)) : srt cf a ∧ srt cf b ∧ ∀ x ∈ a, ∀ y ∈ b, ¬ cf y x < 0 := List.pairwise_append.1 h
/- an element put in between -/
theorem srt_ins {l : List T} (hs : srt cf l) {x : T} {i : Nat} (hi : i ≤ l.length) (h1 : ∀ y ∈ l.take i, ¬ cf x y < 0) (h2 : ∀ y ∈ l.drop i, ¬ cf y x < 0) : srt cf (l.take i ++ x :: l.drop i) := by
  have := hs
  rw [← List.take_append_drop i l] at this
  obtain ⟨a, b, c⟩ := srt_split this
  refine srt_app a (List.pairwise_cons.2 ⟨h2, b⟩) fun y hy z hz => ?_
  rcases List.mem_cons.1 hz with rfl | hz
  · exact h1 y hy
  · exact c y hy z hz
theorem srt_insL {l : List T} (hs : srt cf l) {x : T} {i : Nat} (hi : i ≤ l.length) (h1 : ∀ j, j + 1 = i → ∀ h : j < l.length, cf l[j] x < 0) (h2 : ∀ h : i < l.length, ¬ cf l[i] x < 0) : srt cf (l.take i ++ x :: l.drop i) := by
  refine srt_ins hO hs hi ?_ ?_
  · cases i with
    | zero => intro y hy; simp at hy
    | succ j => exact srt_low hO hs (by omega) (lt_asm hO (h1 j rfl (by omega)))
  · rcases Nat.lt_or_ge i l.length with h | h
    · exact srt_high hO hs h (h2 h)
    · intro y hy; rw [List.drop_eq_nil_of_le h] at hy; cases hy
theorem srt_insR {l : List T} (hs : srt cf l) {x : T} {i : Nat} (hi : i ≤ l.length) (h1 : ∀ j, j + 1 = i → ∀ h : j < l.length, ¬ cf x l[j] < 0) (h2 : ∀ h : i < l.length, cf x l[i] < 0) : srt cf (l.take i ++ x :: l.drop i) := by
  refine srt_ins hO hs hi ?_ ?_
  · cases i with
    | zero => intro y hy; simp at hy
    | succ j => exact srt_low hO hs (by omega) (h1 j rfl (by omega))
  · rcases Nat.lt_or_ge i l.length with h | h
    · exact srt_high hO hs h (lt_asm hO (h2 h))
    · intro y hy; rw [List.drop_eq_nil_of_le h] at hy; cases hy
/- the two halves of a symmetric merge -/
theorem sym_cross {p q : List T} (hp : srt cf p) (hq : srt cf q) {i j : Nat} (hi : i ≤ p.length) (hj : j ≤ q.length)
    (h1 : ∀ k, k + 1 = i → ∀ (hk : k < p.length) (hj : j < q.length), ¬ cf q[j] p[k] < 0) (h2 : ∀ k, k + 1 = j → ∀ (hi : i < p.length) (hk : k < q.length), cf q[k] p[i] < 0) :
    ∀ x ∈ p.take i ++ q.take j, ∀ y ∈ p.drop i ++ q.drop j, ¬ cf y x < 0 := by
  have sp := hp; have sq := hq
  rw [← List.take_append_drop i p] at sp
  rw [← List.take_append_drop j q] at sq
  obtain ⟨-, -, c1⟩ := srt_split sp
  obtain ⟨-, -, c2⟩ := srt_split sq
  intro x hx y hy
  rcases List.mem_append.1 hx with gx | gx <;> rcases List.mem_append.1 hy with gy | gy
  · exact c1 x gx y gy
  · cases i with
    | zero => simp at gx
    | succ k =>
      rcases Nat.lt_or_ge j q.length with h | h
      · have h0 := h1 k rfl (by omega) h
        have h3 := srt_low hO hp (by omega) h0 x gx
        obtain ⟨t, ht, rfl⟩ := List.getElem_of_mem gy
        rw [List.length_drop] at ht
        rw [List.getElem_drop]
        rcases Nat.eq_zero_or_pos t with h4 | h4
        · subst h4; exact h3
        · exact lt_ntr hO (List.pairwise_iff_getElem.1 hq j (j + t) h (by omega) (by omega)) h3
      · rw [List.drop_eq_nil_of_le h] at gy; cases gy
  · cases j with
    | zero => simp at gx
    | succ k =>
      rcases Nat.lt_or_ge i p.length with h | h
      · have h0 := lt_asm hO (h2 k rfl h (by omega))
        have h3 := srt_low hO hq (by omega) h0 x gx
        obtain ⟨t, ht, rfl⟩ := List.getElem_of_mem gy
        rw [List.length_drop] at ht
        rw [List.getElem_drop]
        rcases Nat.eq_zero_or_pos t with h4 | h4
        · subst h4; exact h3
        · exact lt_ntr hO (List.pairwise_iff_getElem.1 hp i (i + t) h (by omega) (by omega)) h3
      · rw [List.drop_eq_nil_of_le h] at gy; cases gy
  · exact c2 x gx y gy
end
/- runs of one length -/
section
variable {T : Type}
def seg (l : List T) (i j : Nat) : List T := (l.take j).drop i
theorem seg_out {X w w' Y : List T} (h : w.length = w'.length) {i j : Nat} (hij : j ≤ X.length ∨ X.length + w.length ≤ i) : seg (X ++ w' ++ Y) i j = seg (X ++ w ++ Y) i j := by
  apply List.ext_getElem?
  intro k
  unfold seg
  rw [List.getElem?_drop, List.getElem?_drop]
  by_cases hk : i + k < j
  · rw [List.getElem?_take_of_lt hk, List.getElem?_take_of_lt hk]
    rcases hij with h1 | h1
    · rw [List.append_assoc, List.append_assoc, List.getElem?_append_left (by omega), List.getElem?_append_left (by omega)]
    · rw [List.getElem?_append_right (by simp; omega), List.getElem?_append_right (by simp; omega)]
      simp [h]
  · rw [List.getElem?_eq_none (by rw [List.length_take]; omega), List.getElem?_eq_none (by rw [List.length_take]; omega)]
theorem seg_mid {X w Y : List T} {i j : Nat} (hi : i = X.length) (hj : j = X.length + w.length) : seg (X ++ w ++ Y) i j = w := by
  subst hi hj
  unfold seg
  rw [← List.length_append, List.take_left, List.drop_left]
theorem seg_three (l : List T) {i j : Nat} (hij : i ≤ j) : l = l.take i ++ seg l i j ++ l.drop j := by
  have h1 : l.take i = (l.take j).take i := by rw [List.take_take, Nat.min_eq_left hij]
  unfold seg
  rw [h1, List.take_append_drop, List.take_append_drop]
theorem seg_len (l : List T) (i : Nat) {j : Nat} (hj : j ≤ l.length) : (seg l i j).length = j - i := by
  unfold seg; rw [List.length_drop, List.length_take, Nat.min_eq_left hj]
theorem seg_cut (l : List T) {i k j : Nat} (h1 : i ≤ k) (h2 : k ≤ j) : seg l i j = seg l i k ++ seg l k j := by
  have e : l.take k = (l.take j).take k := by rw [List.take_take, Nat.min_eq_left h2]
  unfold seg
  rw [e]
  generalize l.take j = m
  have : m = m.take k ++ m.drop k := (List.take_append_drop k m).symm
  rcases Nat.lt_or_ge m.length k with h | h
  · rw [List.take_of_length_le (by omega), List.drop_eq_nil_of_le (by omega : m.length ≤ k), List.append_nil]
  · conv => lhs; rw [this]
    rw [List.drop_append_of_le_length (by rw [List.length_take]; omega)]
theorem seg_far (l : List T) {i j : Nat} (h : l.length ≤ i) : seg l i j = [] := by
  unfold seg
  exact List.drop_eq_nil_of_le (by rw [List.length_take]; omega)
theorem seg_end (l : List T) (i : Nat) {j k : Nat} (hj : l.length ≤ j) (hk : l.length ≤ k) : seg l i j = seg l i k := by
  unfold seg; rw [List.take_of_length_le hj, List.take_of_length_le hk]
end
end Go.Vc
/- Merging in place: the recursion's conditions. -/
namespace Go.Vc
open Go Go.RowKit Go.Shelf Go.Proofs Go.Sort
theorem half_u {i j : Int} (h0 : 0 ≤ i + j) (h1 : i + j ≤ 1000000000000000) : IntKind.wrap .u64 (i + j) = i + j := wrap_in (by simp only [rng]; omega)
theorem half_i {x : Int} (h0 : 0 ≤ x) (h1 : x ≤ 1000000000000000) : IntKind.wrap .i64 (Int.fdiv x 2) = x / 2 := by
  rw [Int.fdiv_eq_ediv_of_nonneg _ (by decide)]
  exact wrap_in (by simp only [rng]; omega)
def SymT3 (P : Program) (f : FuncId) (ty : TypeId) (g : FuncId) (N : Nat) (s0 : Value) (mid e b : Int) (post : List Value → Heap → Prop) (ys : List Value) (H : Heap) : Prop :=
  (decide (mid < e) = true → (decide (e < b) = true → ∃ (p1 : List Value → Heap → Prop), ConM P f [.slice none 0 0, .int .i64 mid, .int .i64 e, .int .i64 b, .func (.func g) #[] #[]] 0 ty N ys true H ⟨true, []⟩ p1 ∧ ∀ (H1 : Heap), Heap.le H H1 → ∀ (zs : List Value), p1 zs H1 → s0 = s0 ∧ N = N ∧ post zs H1) ∧ (decide (e < b) = false → s0 = s0 ∧ N = N ∧ post ys H)) ∧ (decide (mid < e) = false → s0 = s0 ∧ N = N ∧ post ys H)
def SymT2 (P : Program) (f : FuncId) (ty : TypeId) (g : FuncId) (N : Nat) (s0 : Value) (a s mid e b : Int) (post : List Value → Heap → Prop) (ys : List Value) (H : Heap) : Prop :=
  (decide (a < s) = true → (decide (s < mid) = true → ∃ (p1 : List Value → Heap → Prop), ConM P f [.slice none 0 0, .int .i64 a, .int .i64 s, .int .i64 mid, .func (.func g) #[] #[]] 0 ty N ys true H ⟨true, []⟩ p1 ∧ ∀ (H1 : Heap), Heap.le H H1 → ∀ (zs : List Value), p1 zs H1 → SymT3 P f ty g N s0 mid e b post zs H1) ∧ (decide (s < mid) = false → SymT3 P f ty g N s0 mid e b post ys H)) ∧ (decide (a < s) = false → SymT3 P f ty g N s0 mid e b post ys H)
def SymT1 (P : Program) (f rot : FuncId) (ty : TypeId) (g : FuncId) (N : Nat) (s0 : Value) (a s m mid e b : Int) (post : List Value → Heap → Prop) (ys : List Value) (H : Heap) : Prop :=
  (decide (s < m) = true → (decide (m < e) = true → ∃ (p1 : List Value → Heap → Prop), ConM P rot [.slice none 0 0, .int .i64 s, .int .i64 m, .int .i64 e, .func (.func g) #[] #[]] 0 ty N ys true H ⟨true, []⟩ p1 ∧ ∀ (H1 : Heap), Heap.le H H1 → ∀ (zs : List Value), p1 zs H1 → SymT2 P f ty g N s0 a s mid e b post zs H1) ∧ (decide (m < e) = false → SymT2 P f ty g N s0 a s mid e b post ys H)) ∧ (decide (s < m) = false → SymT2 P f ty g N s0 a s mid e b post ys H)
section
variable {P : Program} {f rot : FuncId} {ty : TypeId} {g : FuncId} {T : Type} [Rep T] {cf : T → T → Int} {N : Nat} {s0 : Value}
/- what the function does to what is not longer than k -/
def SymIH (P : Program) (f : FuncId) (ty : TypeId) (g : FuncId) {T : Type} [Rep T] (cf : T → T → Int) (N : Nat) (H0 : Heap) (k : Nat) : Prop :=
  ∀ (H : Heap) (xs : List Value) (X p q Y : List T) (a m b : Int), Heap.le H0 H → p.length + q.length ≤ k → Row H xs (X ++ p ++ q ++ Y) → (X ++ p ++ q ++ Y).length = N → p ≠ [] → q ≠ [] → srt cf p → srt cf q → a = X.length → m = a + p.length → b = m + q.length →
    ConM P f [.slice none 0 0, .int .i64 a, .int .i64 m, .int .i64 b, .func (.func g) #[] #[]] 0 ty N xs true H ⟨true, []⟩ (fun ys (H' : Heap) => ∃ w : List T, Row H' ys (X ++ w ++ Y) ∧ w.Perm (p ++ q) ∧ srt cf w)
def RotC (P : Program) (rot : FuncId) (ty : TypeId) (g : FuncId) (T : Type) [Rep T] (N : Nat) (H0 : Heap) : Prop :=
  ∀ (H : Heap) (xs : List Value) (X p q Y : List T) (a m b : Int), Heap.le H0 H → Row H xs (X ++ p ++ q ++ Y) → (X ++ p ++ q ++ Y).length = N → p ≠ [] → q ≠ [] → a = X.length → m = a + p.length → b = m + q.length →
    ConM P rot [.slice none 0 0, .int .i64 a, .int .i64 m, .int .i64 b, .func (.func g) #[] #[]] 0 ty N xs true H ⟨true, []⟩ (fun ys (H' : Heap) => Row H' ys (X ++ q ++ p ++ Y))
theorem symT3_ok {H0 H : Heap} {k : Nat} (ih : SymIH P f ty g cf N H0 k) (hle : Heap.le H0 H) {ys : List Value} {X w u v Y : List T} {mid e b : Int} {W : List T} (hr : Row H ys (X ++ w ++ u ++ v ++ Y)) (hN : (X ++ w ++ u ++ v ++ Y).length = N) (hk : u.length + v.length ≤ k)
    (hu : srt cf u) (hv : srt cf v) (hw : srt cf w) (hx : ∀ x ∈ w, ∀ y ∈ u ++ v, ¬ cf y x < 0) (hW : (w ++ (u ++ v)).Perm W) (hmid : mid = X.length + w.length) (he : e = mid + u.length) (hb : b = e + v.length) :
    SymT3 P f ty g N s0 mid e b (fun ys (H' : Heap) => ∃ w : List T, Row H' ys (X ++ w ++ Y) ∧ w.Perm W ∧ srt cf w) ys H := by
  have done : ∀ {H1 : Heap} {zs : List Value} {w2 : List T}, Row H1 zs (X ++ w ++ w2 ++ Y) → w2.Perm (u ++ v) → srt cf w2 → ∃ w : List T, Row H1 zs (X ++ w ++ Y) ∧ w.Perm W ∧ srt cf w := by
    intro H1 zs w2 h1 h2 h3
    refine ⟨w ++ w2, by rw [← List.append_assoc X]; exact h1, (List.Perm.append_left _ h2).trans hW, srt_app hw h3 fun x hx' y hy => hx x hx' y (h2.mem_iff.1 hy)⟩
  have stay : (u = [] ∨ v = []) → ∃ w : List T, Row H ys (X ++ w ++ Y) ∧ w.Perm W ∧ srt cf w := by
    intro h
    refine done (w2 := u ++ v) (by rw [← List.append_assoc (X ++ w)]; exact hr) (List.Perm.refl _) ?_
    rcases h with rfl | rfl
    · simpa using hv
    · simpa using hu
  refine ⟨fun h1 => ⟨fun h2 => ?_, fun h2 => ⟨rfl, rfl, stay (.inr (List.eq_nil_of_length_eq_zero (by have := of_decide_eq_false h2; omega)))⟩⟩, fun h1 => ⟨rfl, rfl, stay (.inl (List.eq_nil_of_length_eq_zero (by have := of_decide_eq_false h1; omega)))⟩⟩
  have h1 := of_decide_eq_true h1; have h2 := of_decide_eq_true h2
  refine ⟨_, ih (H := _) (xs := _) (a := _) (m := _) (b := _) (X := X ++ w) (p := u) (q := v) (Y := Y) hle hk hr hN (by rintro rfl; simp at he; omega) (by rintro rfl; simp at hb; omega) hu hv (by rw [hmid]; simp) he hb, ?_⟩
  rintro H1 l1 zs ⟨w2, r1, r2, r3⟩
  exact ⟨rfl, rfl, done r1 r2 r3⟩
theorem symT2_ok {H0 H : Heap} {k : Nat} (ih : SymIH P f ty g cf N H0 k) (hle : Heap.le H0 H) {ys : List Value} {X u1 v1 u2 v2 Y : List T} {a s mid e b : Int} {W : List T} (hr : Row H ys (X ++ u1 ++ v1 ++ u2 ++ v2 ++ Y)) (hN : (X ++ u1 ++ v1 ++ u2 ++ v2 ++ Y).length = N)
    (hk1 : u1.length + v1.length ≤ k) (hk2 : u2.length + v2.length ≤ k) (h1 : srt cf u1) (h2 : srt cf v1) (h3 : srt cf u2) (h4 : srt cf v2) (hx : ∀ x ∈ u1 ++ v1, ∀ y ∈ u2 ++ v2, ¬ cf y x < 0) (hW : ((u1 ++ v1) ++ (u2 ++ v2)).Perm W)
    (ha : a = X.length) (hs : s = a + u1.length) (hmid : mid = s + v1.length) (he : e = mid + u2.length) (hb : b = e + v2.length) :
    SymT2 P f ty g N s0 a s mid e b (fun ys (H' : Heap) => ∃ w : List T, Row H' ys (X ++ w ++ Y) ∧ w.Perm W ∧ srt cf w) ys H := by
  have next : ∀ {H1 : Heap} {zs : List Value} {w : List T}, Heap.le H H1 → Row H1 zs (X ++ w ++ u2 ++ v2 ++ Y) → w.Perm (u1 ++ v1) → srt cf w → SymT3 P f ty g N s0 mid e b (fun ys (H' : Heap) => ∃ w : List T, Row H' ys (X ++ w ++ Y) ∧ w.Perm W ∧ srt cf w) zs H1 := by
    intro H1 zs w l1 q1 q2 q3
    have hwl := q2.length_eq
    simp only [List.length_append] at hwl hN
    refine symT3_ok ih (hle_trans hle l1) q1 (by simp only [List.length_append]; omega) hk2 h3 h4 q3 (fun x hx' y hy => hx x (q2.mem_iff.1 hx') y hy) ((List.Perm.append_right _ q2).trans hW) (by omega) he hb
  have stay : (u1 = [] ∨ v1 = []) → SymT3 P f ty g N s0 mid e b (fun ys (H' : Heap) => ∃ w : List T, Row H' ys (X ++ w ++ Y) ∧ w.Perm W ∧ srt cf w) ys H := by
    intro h
    refine next (w := u1 ++ v1) (hle_refl H) (by rw [← List.append_assoc X]; exact hr) (List.Perm.refl _) ?_
    rcases h with rfl | rfl
    · simpa using h2
    · simpa using h1
  refine ⟨fun g1 => ⟨fun g2 => ?_, fun g2 => stay (.inr (List.eq_nil_of_length_eq_zero (by have := of_decide_eq_false g2; omega)))⟩, fun g1 => stay (.inl (List.eq_nil_of_length_eq_zero (by have := of_decide_eq_false g1; omega)))⟩
  have g1 := of_decide_eq_true g1; have g2 := of_decide_eq_true g2
  refine ⟨_, ih (H := _) (xs := _) (a := _) (m := _) (b := _) (X := X) (p := u1) (q := v1) (Y := u2 ++ v2 ++ Y) hle hk1 (by simpa using hr) (by simpa using hN) (by rintro rfl; simp at hs; omega) (by rintro rfl; simp at hmid; omega) h1 h2 ha hs hmid, ?_⟩
  rintro H1 l1 zs ⟨w, r1, r2, r3⟩
  exact next l1 (by simpa using r1) r2 r3
theorem symT1_ok {H0 H : Heap} {k : Nat} (hO : Sort.SWO (ltOf cf)) (ih : SymIH P f ty g cf N H0 k) (rc : RotC P rot ty g T N H0) (hle : Heap.le H0 H) {ys : List Value} {X p q Y : List T} {a s m mid e b : Int} (hr : Row H ys (X ++ p ++ q ++ Y)) (hN : (X ++ p ++ q ++ Y).length = N)
    (hp : srt cf p) (hq : srt cf q) {i j : Nat} (hi : i ≤ p.length) (hj : j ≤ q.length) (hk1 : i + j ≤ k) (hk2 : (p.length - i) + (q.length - j) ≤ k)
    (c1 : ∀ t, t + 1 = i → ∀ (hk : t < p.length) (hj : j < q.length), ¬ cf q[j] p[t] < 0) (c2 : ∀ t, t + 1 = j → ∀ (hi : i < p.length) (hk : t < q.length), cf q[t] p[i] < 0)
    (ha : a = X.length) (hm : m = a + p.length) (hb : b = m + q.length) (hs : s = a + i) (hmid : mid = s + j) (he : e = m + j) :
    SymT1 P f rot ty g N s0 a s m mid e b (fun ys (H' : Heap) => ∃ w : List T, Row H' ys (X ++ w ++ Y) ∧ w.Perm (p ++ q) ∧ srt cf w) ys H := by
  have hx := sym_cross hO hp hq hi hj c1 c2
  have sp := hp; have sq := hq
  rw [← List.take_append_drop i p] at sp
  rw [← List.take_append_drop j q] at sq
  obtain ⟨p1, p2, -⟩ := srt_split sp
  obtain ⟨q1, q2, -⟩ := srt_split sq
  have ep : p = p.take i ++ p.drop i := (List.take_append_drop i p).symm
  have eq : q = q.take j ++ q.drop j := (List.take_append_drop j q).symm
  have lp1 : (p.take i).length = i := by rw [List.length_take]; omega
  have lp2 : (p.drop i).length = p.length - i := List.length_drop ..
  have lq1 : (q.take j).length = j := by rw [List.length_take]; omega
  have lq2 : (q.drop j).length = q.length - j := List.length_drop ..
  have hpl : p.length = i + (p.drop i).length := by omega
  have hql : q.length = j + (q.drop j).length := by omega
  generalize hu1 : p.take i = u1 at *
  generalize hu2 : p.drop i = u2 at *
  generalize hv1 : q.take j = v1 at *
  generalize hv2 : q.drop j = v2 at *
  have hW : ((u1 ++ v1) ++ (u2 ++ v2)).Perm (p ++ q) := by
    rw [ep, eq, List.append_assoc, List.append_assoc]
    refine List.Perm.append_left _ ?_
    rw [← List.append_assoc, ← List.append_assoc]
    exact List.Perm.append_right _ List.perm_append_comm
  have hr2 : Row H ys (X ++ u1 ++ u2 ++ v1 ++ (v2 ++ Y)) := by
    rw [ep, eq] at hr
    simpa using hr
  have hN2 : (X ++ u1 ++ u2 ++ v1 ++ (v2 ++ Y)).length = N := by
    rw [ep, eq] at hN
    simpa using hN
  have next : ∀ {H1 : Heap} {zs : List Value}, Heap.le H H1 → Row H1 zs (X ++ u1 ++ v1 ++ u2 ++ (v2 ++ Y)) → SymT2 P f ty g N s0 a s mid e b (fun ys (H' : Heap) => ∃ w : List T, Row H' ys (X ++ w ++ Y) ∧ w.Perm (p ++ q) ∧ srt cf w) zs H1 := by
    intro H1 zs l1 r1
    simp only [List.length_append] at hN2
    exact symT2_ok ih (hle_trans hle l1) (by rw [List.append_assoc _ v2]; exact r1) (by simp only [List.length_append]; omega) (by omega) (by omega) p1 q1 p2 q2 hx hW ha (by omega) (by omega) (by omega) (by omega)
  have stay : (u2 = [] ∨ v1 = []) → SymT2 P f ty g N s0 a s mid e b (fun ys (H' : Heap) => ∃ w : List T, Row H' ys (X ++ w ++ Y) ∧ w.Perm (p ++ q) ∧ srt cf w) ys H := by
    intro h
    refine next (hle_refl H) ?_
    rcases h with h | h
    · rw [h] at hr2 ⊢; simpa using hr2
    · rw [h] at hr2 ⊢; simpa using hr2
  refine ⟨fun g1 => ⟨fun g2 => ?_, fun g2 => stay (.inr (List.eq_nil_of_length_eq_zero (by have := of_decide_eq_false g2; omega)))⟩, fun g1 => stay (.inl (List.eq_nil_of_length_eq_zero (by have := of_decide_eq_false g1; omega)))⟩
  have g1 := of_decide_eq_true g1; have g2 := of_decide_eq_true g2
  refine ⟨_, rc (H := _) (xs := _) (a := _) (m := _) (b := _) (X := X ++ u1) (p := u2) (q := v1) (Y := v2 ++ Y) hle hr2 hN2 (by intro h; rw [h] at lp2; simp at lp2; omega) (by intro h; rw [h] at lq1; simp at lq1; omega) (by simp only [List.length_append]; omega) (by omega) (by omega), ?_⟩
  intro H1 l1 zs r1
  exact next l1 r1
end
end Go.Vc
/- The order of tuples with key values; sorting them (fewer than twenty). -/
namespace Go.Vc
open Go Go.Proofs Go.Shelf
theorem swo_of {A T : Type} {g : A → A → Int} (h : Ord3 g) (φ : T → A) : Sort.SWO (ltOf fun x y : T => g (φ x) (φ y)) where
  irrefl x := by simp [ltOf, h.refl]
  trans x y z h1 h2 := by
    simp only [ltOf, decide_eq_true_eq] at *
    have a1 := h.sign (φ x) (φ y); have a2 := h.sign (φ y) (φ z)
    have := h.trans _ _ _ (by omega : g (φ x) (φ y) = -1) (by omega : g (φ y) (φ z) = -1)
    omega
  ntrans x y z h1 h2 := by
    simp only [ltOf, decide_eq_false_iff_not] at *
    intro h3
    have a1 := h.anti (φ x) (φ y); have a2 := h.anti (φ y) (φ z); have a3 := h.anti (φ x) (φ z)
    have b1 := h.sign (φ x) (φ y); have b2 := h.sign (φ y) (φ z); have b3 := h.sign (φ x) (φ z)
    by_cases e1 : g (φ x) (φ y) = 0
    · rw [h.eq _ _ e1] at h3; exact h2 h3
    · by_cases e2 : g (φ y) (φ z) = 0
      · rw [← h.eq _ _ e2] at h3; exact h1 h3
      · have := h.trans (φ z) (φ y) (φ x) (by omega) (by omega)
        omega
end Go.Vc

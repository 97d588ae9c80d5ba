/- The library's contracts at this program: strings.Compare, slices.Sort and slices.Compact on ints; comparing values. -/
import Derived.Test.YtdgcjfnpfpbcfaaGreatDoorGJV8
import Derived.Test.YtdgcjfnpfpbcfaaGreatDoorGJV11
import Derived.Test.YtdgcjfnpfpbcfaaGreatDoorGJV12
import Derived.Shelf.Small.Strs
import Derived.Test.YtdgcjfnpfpbcfaaGreatDoorGJV2
import Derived.Test.YtdgcjfnpfpbcfaaGreatDoorGJV10
set_option linter.unusedSectionVars false
set_option linter.unusedSimpArgs false
set_option linter.unusedVariables false
namespace Go.Vc
open Go Go.Proofs Go.Shelf
def strCmpL_ren : Go.Shelf.Ren := ⟨fun | 106 => 86 | 213 => 110 | 265 => 154 | n => n, fun | 9 => 9 | 3 => 3 | n => n, fun n => n⟩
theorem strCmpL : Lays.n106 Tryz.prog strCmpL_ren where
  mixed := by kernel_rfl
  f106 := Tryz.func86.trans (congrArg some (by kernel_rfl))
  f213 := Tryz.func110.trans (congrArg some (by kernel_rfl))
  f265 := Tryz.func154.trans (congrArg some (by kernel_rfl))
  t3 := Tryz.underlying3
  a3 := Tryz.isAgg3
  z3 := Tryz.sizeOf3
  v3 := Tryz.zeroValue3
  t9 := Tryz.underlying9
  a9 := Tryz.isAgg9
  z9 := Tryz.sizeOf9
  v9 := Tryz.zeroValue9
def srtIL_ren : Go.Shelf.Ren := ⟨fun | 189 => 79 | 125 => 88 | 257 => 107 | 128 => 119 | 129 => 120 | 294 => 145 | 295 => 146 | 296 => 147 | 297 => 148 | 298 => 149 | 299 => 150 | 216 => 81 | 300 => 151 | 301 => 152 | 328 => 173 | 329 => 156 | 330 => 157 | 331 => 174 | 332 => 175 | 215 => 89 | 343 => 184 | n => n, fun | 28 => 23 | 3 => 3 | 46 => 124 | 0 => 0 | 51 => 160 | 53 => 162 | 4 => 4 | 183 => 154 | 182 => 153 | 131 => 91 | 5 => 5 | 9 => 9 | 218 => 187 | 222 => 191 | 228 => 206 | 229 => 207 | n => n, fun n => n⟩
theorem srtIL : Lays.n189 Tryz.prog srtIL_ren where
  mixed := by kernel_rfl
  f125 := Tryz.func88.trans (congrArg some (by kernel_rfl))
  f128 := Tryz.func119.trans (congrArg some (by kernel_rfl))
  f129 := Tryz.func120.trans (congrArg some (by kernel_rfl))
  f189 := Tryz.func79.trans (congrArg some (by kernel_rfl))
  f215 := Tryz.func89.trans (congrArg some (by kernel_rfl))
  f216 := Tryz.func81.trans (congrArg some (by kernel_rfl))
  f257 := Tryz.func107.trans (congrArg some (by kernel_rfl))
  f294 := Tryz.func145.trans (congrArg some (by kernel_rfl))
  f295 := Tryz.func146.trans (congrArg some (by kernel_rfl))
  f296 := Tryz.func147.trans (congrArg some (by kernel_rfl))
  f297 := Tryz.func148.trans (congrArg some (by kernel_rfl))
  f298 := Tryz.func149.trans (congrArg some (by kernel_rfl))
  f299 := Tryz.func150.trans (congrArg some (by kernel_rfl))
  f300 := Tryz.func151.trans (congrArg some (by kernel_rfl))
  f301 := Tryz.func152.trans (congrArg some (by kernel_rfl))
  f328 := Tryz.func173.trans (congrArg some (by kernel_rfl))
  f329 := Tryz.func156.trans (congrArg some (by kernel_rfl))
  f330 := Tryz.func157.trans (congrArg some (by kernel_rfl))
  f331 := Tryz.func174.trans (congrArg some (by kernel_rfl))
  f332 := Tryz.func175.trans (congrArg some (by kernel_rfl))
  f343 := Tryz.func184.trans (congrArg some (by kernel_rfl))
  t0 := Tryz.underlying0
  a0 := Tryz.isAgg0
  z0 := Tryz.sizeOf0
  v0 := Tryz.zeroValue0
  t3 := Tryz.underlying3
  a3 := Tryz.isAgg3
  z3 := Tryz.sizeOf3
  v3 := Tryz.zeroValue3
  t4 := Tryz.underlying4
  a4 := Tryz.isAgg4
  z4 := Tryz.sizeOf4
  v4 := Tryz.zeroValue4
  t5 := Tryz.underlying5
  a5 := Tryz.isAgg5
  z5 := Tryz.sizeOf5
  v5 := Tryz.zeroValue5
  t9 := Tryz.underlying9
  a9 := Tryz.isAgg9
  z9 := Tryz.sizeOf9
  v9 := Tryz.zeroValue9
  t28 := Tryz.underlying23
  a28 := Tryz.isAgg23
  z28 := Tryz.sizeOf23
  v28 := Tryz.zeroValue23
  t46 := Tryz.underlying124
  a46 := Tryz.isAgg124
  z46 := Tryz.sizeOf124
  v46 := Tryz.zeroValue124
  t51 := Tryz.underlying160
  a51 := Tryz.isAgg160
  z51 := Tryz.sizeOf160
  v51 := Tryz.zeroValue160
  t53 := Tryz.underlying162
  a53 := Tryz.isAgg162
  z53 := Tryz.sizeOf162
  v53 := Tryz.zeroValue162
  t131 := Tryz.underlying91
  a131 := Tryz.isAgg91
  z131 := Tryz.sizeOf91
  v131 := Tryz.zeroValue91
  t182 := Tryz.underlying153
  a182 := Tryz.isAgg153
  z182 := Tryz.sizeOf153
  v182 := Tryz.zeroValue153
  t183 := Tryz.underlying154
  a183 := Tryz.isAgg154
  z183 := Tryz.sizeOf154
  v183 := Tryz.zeroValue154
  t218 := Tryz.underlying187
  a218 := Tryz.isAgg187
  z218 := Tryz.sizeOf187
  v218 := Tryz.zeroValue187
  t222 := Tryz.underlying191
  a222 := Tryz.isAgg191
  z222 := Tryz.sizeOf191
  v222 := Tryz.zeroValue191
  t228 := Tryz.underlying206
  a228 := Tryz.isAgg206
  z228 := Tryz.sizeOf206
  v228 := Tryz.zeroValue206
  t229 := Tryz.underlying207
  a229 := Tryz.isAgg207
  z229 := Tryz.sizeOf207
  v229 := Tryz.zeroValue207
def cmpIL_ren : Go.Shelf.Ren := ⟨fun | 20 => 98 | n => n, fun | 22 => 23 | 3 => 3 | 4 => 4 | 0 => 0 | n => n, fun n => n⟩
theorem cmpIL : Lays2.n20 Tryz.prog cmpIL_ren where
  mixed := by kernel_rfl
  f20 := Tryz.func98.trans (congrArg some (by kernel_rfl))
  t0 := Tryz.underlying0
  a0 := Tryz.isAgg0
  z0 := Tryz.sizeOf0
  v0 := Tryz.zeroValue0
  t3 := Tryz.underlying3
  a3 := Tryz.isAgg3
  z3 := Tryz.sizeOf3
  v3 := Tryz.zeroValue3
  t4 := Tryz.underlying4
  a4 := Tryz.isAgg4
  z4 := Tryz.sizeOf4
  v4 := Tryz.zeroValue4
  t22 := Tryz.underlying23
  a22 := Tryz.isAgg23
  z22 := Tryz.sizeOf23
  v22 := Tryz.zeroValue23
  i3 := by kernel_rfl
theorem con_pureI {P : Program} {f : FuncId} {args : List Value} {H : Heap} {x : Int} (hf : FnOK P f) (h : ∀ w, Calls P f args.toArray w fun e w' => e = .returned (.int .i64 x) ∧ w' = w) : ConT P f args H shI (fun r _ => r = x) := by
  refine ⟨hf, fun w hs => (h w).mono ?_⟩
  rintro e w' ⟨rfl, rfl⟩
  exact ⟨_, H, [], rfl, ⟨x, _, rfl, rfl, rfl, rfl⟩, ⟨⟨rfl, rfl, rfl, Nat.le_refl _, fun _ _ => rfl⟩, hle_refl H, fun _ _ _ => rfl, hs, Nat.le_refl _⟩, by simp, List.Pairwise.nil⟩
theorem strings_Compare {H : Heap} {a b : ByteArray} : ConT Tryz.prog 86 [.string a, .string b] H shI (fun r _ => r = cmpB a b) :=
  con_pureI (FnOK.of_body strCmpL.f106 rfl (by kernel_rfl)) fun w => Any.strings_Compare strCmpL a b w
theorem Sort_Int {H : Heap} {n : Nat} {xs : List Value} {l : List Int} (hr : Row H xs l) (hl : l.length = n) (hn : n ≤ 140737488355328) :
    ConM Tryz.prog 79 [.slice none 0 0] 0 3 n xs true H ⟨true, []⟩ (fun ys (H' : Heap) => Row H' ys (l.mergeSort fun x y => decide (x ≤ y))) :=
  sortI_con srtIL (by kernel_rfl) hr hl hn
theorem Compact_Int {H : Heap} {n r : Nat} {xs : List Value} {l : List Int} (hr : Row H xs l) (hl : l.length = n) (hn : n ≤ 140737488355328) :
    ConM Tryz.prog 98 [.slice none 0 0] 0 3 n xs false H ⟨false, [(false, [.row r 3])]⟩ (fun _ => fun m (ys : List Value) (H' : Heap) => m = (Lib.compact l).length ∧ Row H' ys (Lib.compact l)) :=
  compactI_con cmpIL (by kernel_rfl) hr hl hn
def an89 : Ann where
  res := fun _ => none
  lend := fun _ => false
  sch := fun _ => .done
  lt := fun _ => []
  tup := tups

theorem vc89 (P : Program) (H : Heap) (x : Int) (post : Bool → Heap → Prop) :
  vcFn P tab an89 Tryz.f89 [.int .i64 x] 0 H ⟨false, [(false, [.bool])]⟩ post =
  (  post (!decide (x = x)) H) := by kernel_rfl
theorem cmp_isNaN {x : Int} {H : Heap} : ConT Tryz.prog 89 [.int .i64 x] H shB (fun r _ => r = false) := by
  refine con_of_vc (an := an89) (fn := Tryz.f89) mix tabOK Tryz.func89 (by kernel_rfl) (extra := 0) ?_
  rw [vc89]
  simp
def an60 : Ann where
  res := fun _ => none
  lend := fun | 8 => true | 10 => true | _ => false
  sch := fun _ => .done
  lt := fun _ => []
  tup := tups

theorem vc60 (P : Program) (H : Heap) (x : Int) (y : Int) (post : Int → Heap → Prop) :
  vcFn P tab an60 Tryz.f60 [.int .i64 x, .int .i64 y] 0 H ⟨false, [(false, [.int .i64])]⟩ post =
  (  ∃ (post0 : Bool → Heap → Prop), ConT P 89 [.int .i64 x] H ⟨false, [(false, [.bool])]⟩ post0 ∧ ∀ (H1 : Heap), Heap.le H H1 → ∀ (b3 : Bool), post0 b3 H1 → ∃ (post5 : Bool → Heap → Prop), ConT
  P 89 [.int .i64 y] H1 ⟨false, [(false, [.bool])]⟩ post5 ∧ ∀ (H6 : Heap), Heap.le H1 H6 → ∀ (b8 : Bool), post5 b8 H6 → (b3 = true → (b8 = true → post (0 : Int) H6) ∧ (b8 = false → post (-1 :
  Int) H6)) ∧ (b3 = false → (b8 = true → post (1 : Int) H6) ∧ (b8 = false → (decide (x < y) = true → post (-1 : Int) H6) ∧ (decide (x < y) = false → (decide (y < x) = true → post (1 : Int)
  H6) ∧ (decide (y < x) = false → post (0 : Int) H6))))) := by kernel_rfl
theorem cmp_Compare {x y : Int} {H : Heap} : ConT Tryz.prog 60 [.int .i64 x, .int .i64 y] H shI (fun r _ => r = cmpI x y) := by
  refine con_of_vc (an := an60) (fn := Tryz.f60) mix tabOK Tryz.func60 (by kernel_rfl) (extra := 0) ?_
  rw [vc60]
  refine ⟨_, cmp_isNaN, ?_⟩
  rintro H1 _ _ rfl
  refine ⟨_, cmp_isNaN, ?_⟩
  rintro H2 _ _ rfl
  grind [cmpI]
def an109 : Ann where
  res := fun _ => none
  lend := fun _ => false
  sch := fun _ => .done
  lt := fun _ => []
  tup := tups

theorem vc109 (P : Program) (H : Heap) (x : Int) (post : Bool → Heap → Prop) :
  vcFn P tab an109 Tryz.f109 [.int .i64 x] 0 H ⟨false, [(false, [.bool])]⟩ post =
  (  post (!decide (x = x)) H) := by kernel_rfl
theorem cmp_isNaN64 {x : Int} {H : Heap} : ConT Tryz.prog 109 [.int .i64 x] H shB (fun r _ => r = false) := by
  refine con_of_vc (an := an109) (fn := Tryz.f109) mix tabOK Tryz.func109 (by kernel_rfl) (extra := 0) ?_
  rw [vc109]
  simp
def an85 : Ann where
  res := fun _ => none
  lend := fun | 8 => true | 10 => true | _ => false
  sch := fun _ => .done
  lt := fun _ => []
  tup := tups

theorem vc85 (P : Program) (H : Heap) (x : Int) (y : Int) (post : Int → Heap → Prop) :
  vcFn P tab an85 Tryz.f85 [.int .i64 x, .int .i64 y] 0 H ⟨false, [(false, [.int .i64])]⟩ post =
  (  ∃ (post0 : Bool → Heap → Prop), ConT P 109 [.int .i64 x] H ⟨false, [(false, [.bool])]⟩ post0 ∧ ∀ (H1 : Heap), Heap.le H H1 → ∀ (b3 : Bool), post0 b3 H1 → ∃ (post5 : Bool → Heap → Prop),
  ConT P 109 [.int .i64 y] H1 ⟨false, [(false, [.bool])]⟩ post5 ∧ ∀ (H6 : Heap), Heap.le H1 H6 → ∀ (b8 : Bool), post5 b8 H6 → (b3 = true → (b8 = true → post (0 : Int) H6) ∧ (b8 = false → post
  (-1 : Int) H6)) ∧ (b3 = false → (b8 = true → post (1 : Int) H6) ∧ (b8 = false → (decide (x < y) = true → post (-1 : Int) H6) ∧ (decide (x < y) = false → (decide (y < x) = true → post (1 :
  Int) H6) ∧ (decide (y < x) = false → post (0 : Int) H6))))) := by kernel_rfl
theorem cmp_Compare64 {x y : Int} {H : Heap} : ConT Tryz.prog 85 [.int .i64 x, .int .i64 y] H shI (fun r _ => r = cmpI x y) := by
  refine con_of_vc (an := an85) (fn := Tryz.f85) mix tabOK Tryz.func85 (by kernel_rfl) (extra := 0) ?_
  rw [vc85]
  refine ⟨_, cmp_isNaN64, ?_⟩
  rintro H1 _ _ rfl
  refine ⟨_, cmp_isNaN64, ?_⟩
  rintro H2 _ _ rfl
  grind [cmpI]
def an84 : Ann where
  res := fun _ => none
  lend := fun _ => false
  sch := fun _ => .done
  lt := fun | 3 => [.slot 8 false [.int .i64]] | _ => []
  tup := tups

theorem vc84 (P : Program) (H : Heap) (valsA : Option Addr) (valsN valsC : Nat) (post : Int → Heap → Prop) :
  vcFn P tab an84 Tryz.f84 [.slice valsA valsN valsC] 0 H ⟨false, [(false, [.int .i64])]⟩ post =
  (  ∃ (inv0 : Int → Heap → Prop), ∃ (m1 : Int → Nat), inv0 (0 : Int) H ∧ ∀ (H2 : Heap), Heap.le H H2 → ∀ (n4 : Int), inv0 n4 H2 → (decide (n4 < (↑valsN : Int)) = true → someA valsA ∧ (0 : Int)
  ≤ n4 ∧ n4 < (↑valsN : Int) ∧ ∃ (n7 : Int), Cells H2 valsA (Int.toNat n4 * 1) [.int .i64 n7] ∧ ((!decide (n7 = (0 : Int))) = true → post n7 H2) ∧ ((!decide (n7 = (0 : Int))) = false → rng
  .i64 (n4 + (1 : Int)) ∧ inv0 (n4 + (1 : Int)) H2 ∧ m1 (n4 + (1 : Int)) < m1 n4)) ∧ (decide (n4 < (↑valsN : Int)) = false → post (0 : Int) H2)) := by kernel_rfl
theorem cmp_Or {H : Heap} {A : Option Addr} {n c : Nat} {l : List Int} (hs : Sl H A n c l) : ConT Tryz.prog 84 [.slice A n c] H shI (fun r _ => r = orI l) := by
  refine con_of_vc (an := an84) (fn := Tryz.f84) mix tabOK Tryz.func84 (by kernel_rfl) (extra := 0) ?_
  rw [vc84]
  refine ⟨fun i _ => 0 ≤ i ∧ i ≤ n ∧ orI l = orI (l.drop i.toNat), fun i => n - i.toNat, ⟨by omega, by omega, rfl⟩, ?_⟩
  rintro H2 hle i ⟨h0, h1, h2⟩
  have hb := hs.bn; have hl := hs.len
  refine ⟨fun hlt => ?_, fun hge => ?_⟩
  · have hlt := of_decide_eq_true hlt
    obtain ⟨hi, hA, _, hc, ⟨rfl, hr⟩⟩ := hs.at hle h0 hlt
    rw [drop_at h0 hi, orI] at h2
    refine ⟨hA, h0, hlt, _, hc, fun hne => ?_, fun he => ⟨by simp only [rng]; omega, ⟨by omega, by omega, ?_⟩, by dsimp only; omega⟩⟩
    · rw [h2, if_pos (by simpa using hne)]
    · rw [h2, if_neg (by simpa using he)]
  · have hge := of_decide_eq_false hge
    rw [drop_end hge hl, orI] at h2
    exact h2.symm
theorem cmpI_b {x y : Int} : -1 ≤ cmpI x y ∧ cmpI x y ≤ 1 := by unfold cmpI; split <;> (try split) <;> omega
theorem ints_row {H : Heap} {l : List Int} (h : ∀ x ∈ l, rng .i64 x) : Row H (l.map (Value.int .i64)) l := int_row h
theorem Ord3.bd {T : Type} {f : T → T → Int} (h : Ord3 f) (a b : T) : rng .i64 (f a b) := by
  rcases h.sign a b with e | e | e <;> rw [e] <;> decide
def an57 : Ann where
  res := fun _ => none
  lend := fun | 9 => true | 14 => true | 19 => true | 21 => true | _ => false
  sch := fun | 1 => (tk [0, 1, 2, 3, 5, 6, 7, 8, 10, 11, 12, 13] (.alt 4 (.alt 9 (.alt 14 (.alt 15 (.alt 16 (tk [17] .done) .fin) .fin) .fin) .fin) .fin)) | _ => .done
  lt := fun _ => []
  tup := tups

theorem vc57 (P : Program) (H : Heap) (aKind : Int) (aN : Int) (aS : ByteArray) (bKind : Int) (bN : Int) (bS : ByteArray) (post : Int → Heap → Prop) :
  vcFn P tab an57 Tryz.f57 [.agg #[.int .i64 aKind, .int .i64 aN, .string aS], .agg #[.int .i64 bKind, .int .i64 bN, .string bS]] 0 H ⟨false, [(false, [.int .i64])]⟩ post =
  (  ∃ (post0 : Int → Heap → Prop), ConT P 60 [.int .i64 aKind, .int .i64 bKind] H ⟨false, [(false, [.int .i64])]⟩ post0 ∧ ∀ (H1 : Heap), Heap.le H H1 → ∀ (n3 : Int), post0 n3 H1 → ∃ (post5 :
  Int → Heap → Prop), ConT P 85 [.int .i64 aN, .int .i64 bN] H1 ⟨false, [(false, [.int .i64])]⟩ post5 ∧ ∀ (H6 : Heap), Heap.le H1 H6 → ∀ (n8 : Int), post5 n8 H6 → ∃ (post10 : Int → Heap →
  Prop), ConT P 86 [.string aS, .string bS] H6 ⟨false, [(false, [.int .i64])]⟩ post10 ∧ ∀ (H11 : Heap), Heap.le H6 H11 → ∀ (n13 : Int), post10 n13 H11 → ∃ (post15 : Int → Heap → Prop), (∀
  (A16 : Option Addr) (c17 : Nat) (H18 : Heap), Heap.le H11 H18 → Cells H18 A16 0 [.int .i64 n3, .int .i64 n8, .int .i64 n13] → 3 ≤ c17 → ConT P 84 [.slice A16 3 c17] H18 ⟨false, [(false,
  [.int .i64])]⟩ post15) ∧ ∀ (H22 : Heap) (n23 : Int), post15 n23 H22 → post n23 H11) := by kernel_rfl
theorem value_Compare {a b : Val} {H : Heap} : ConT Tryz.prog 57 [.agg ⟨[.int .i64 a.kind, .int .i64 a.n, .string a.s]⟩, .agg ⟨[.int .i64 b.kind, .int .i64 b.n, .string b.s]⟩] H shI (fun r _ => r = cmpV a b) := by
  refine con_of_vc (an := an57) (fn := Tryz.f57) mix tabOK Tryz.func57 (by kernel_rfl) (extra := 0) ?_
  rw [vc57]
  refine ⟨_, cmp_Compare, ?_⟩
  rintro H1 l1 _ rfl
  refine ⟨_, cmp_Compare64, ?_⟩
  rintro H2 l2 _ rfl
  refine ⟨_, strings_Compare, ?_⟩
  rintro H3 l3 _ rfl
  refine ⟨_, fun A c H4 l4 hc hn => cmp_Or (l := [cmpI a.kind b.kind, cmpI a.n b.n, cmpB a.s b.s]) (Row.sl (T := Int) (ints_row ?_) (hle_refl H4) hc rfl hn (by decide) (by decide)), ?_⟩
  · have := cmpI_ord.bd a.kind b.kind; have := cmpI_ord.bd a.n b.n; have := cmpB_ord.bd a.s b.s
    simp [*]
  · rintro H5 _ rfl
    rfl
/- a comparison of elements that a function computes in every grown heap -/
def CmpT (P : Program) (T : Type) [Rep T] (H : Heap) (f : FuncId) (cf : T → T → Int) : Prop :=
  ∀ (H' : Heap) (vs us : List Value) (s t : T), Heap.le H H' → Rep.rel H' vs s → Rep.rel H' us t → ConT P f [.agg ⟨vs⟩, .agg ⟨us⟩] H' shI (fun r _ => r = cf s t)
theorem value_Compare_T (H : Heap) : CmpT Tryz.prog Val H 57 cmpV := by
  rintro H' vs us s t _ ⟨rfl, -⟩ ⟨rfl, -⟩
  exact value_Compare
end Go.Vc
/- Comparing lists of values; the values at columns; periods. -/
namespace Go.Vc
open Go Go.Proofs Go.Shelf
theorem lexI_step {T : Type} {f : T → T → Int} {a b : List T} {i : Nat} (ha : i < a.length) (hb : i < b.length) : lexI f (a.drop i) (b.drop i) = if f a[i] b[i] ≠ 0 then f a[i] b[i] else lexI f (a.drop (i + 1)) (b.drop (i + 1)) := by
  rw [List.drop_eq_getElem_cons ha, List.drop_eq_getElem_cons hb, lexI]
theorem lexI_enda {T : Type} {f : T → T → Int} {a b : List T} {i : Nat} (ha : a.length ≤ i) : lexI f (a.drop i) (b.drop i) = if i < b.length then -1 else 0 := by
  rw [List.drop_eq_nil_of_le ha]
  split
  · rename_i hb; rw [List.drop_eq_getElem_cons hb]; rfl
  · rename_i hb; rw [List.drop_eq_nil_of_le (by omega)]; rfl
theorem lexI_endb {T : Type} {f : T → T → Int} {a b : List T} {i : Nat} (ha : i < a.length) (hb : b.length ≤ i) : lexI f (a.drop i) (b.drop i) = 1 := by
  rw [List.drop_eq_getElem_cons ha, List.drop_eq_nil_of_le hb]; rfl
def an56 : Ann where
  res := fun _ => none
  lend := fun | 29 => true | _ => false
  sch := fun _ => .done
  lt := fun | 2 => [.slot 13 false [.int .i64]] | _ => []
  tup := tups

theorem vc56 (P : Program) (H : Heap) (s1A : Option Addr) (s1N s1C : Nat) (s2A : Option Addr) (s2N s2C : Nat) (cmpF : FuncId) (post : Int → Heap → Prop) :
  vcFn P tab an56 Tryz.f56 [.slice s1A s1N s1C, .slice s2A s2N s2C, .func (.func cmpF) #[] #[]] 0 H ⟨false, [(false, [.int .i64])]⟩ post =
  (  ∃ (inv0 : Int → Heap → Prop), ∃ (m1 : Int → Nat), inv0 (0 : Int) H ∧ ∀ (H2 : Heap), Heap.le H H2 → ∀ (n4 : Int), inv0 n4 H2 → (decide (n4 < (↑s1N : Int)) = true → someA s1A ∧ (0 : Int) ≤ n4
  ∧ n4 < (↑s1N : Int) ∧ ∃ (n7 : Int), ∃ (n8 : Int), ∃ (s9 : ByteArray), Cells H2 s1A (Int.toNat n4 * 3) [.int .i64 n7, .int .i64 n8, .string s9] ∧ (decide ((↑s2N : Int) ≤ n4) = true → post (1
  : Int) H2) ∧ (decide ((↑s2N : Int) ≤ n4) = false → someA s2A ∧ (0 : Int) ≤ n4 ∧ n4 < (↑s2N : Int) ∧ ∃ (n12 : Int), ∃ (n13 : Int), ∃ (s14 : ByteArray), Cells H2 s2A (Int.toNat n4 * 3) [.int
  .i64 n12, .int .i64 n13, .string s14] ∧ ∃ (post15 : Int → Heap → Prop), ConT P cmpF [.agg ⟨[.int .i64 n7, .int .i64 n8, .string s9]⟩, .agg ⟨[.int .i64 n12, .int .i64 n13, .string s14]⟩] H2
  ⟨false, [(false, [.int .i64])]⟩ post15 ∧ ∀ (H16 : Heap), Heap.le H2 H16 → ∀ (n18 : Int), post15 n18 H16 → ((!decide (n18 = (0 : Int))) = true → post n18 H16) ∧ ((!decide (n18 = (0 : Int)))
  = false → rng .i64 (n4 + (1 : Int)) ∧ inv0 (n4 + (1 : Int)) H16 ∧ m1 (n4 + (1 : Int)) < m1 n4))) ∧ (decide (n4 < (↑s1N : Int)) = false → (decide ((↑s1N : Int) < (↑s2N : Int)) = true → post
  (-1 : Int) H2) ∧ (decide ((↑s1N : Int) < (↑s2N : Int)) = false → post (0 : Int) H2))) := by kernel_rfl
theorem CompareFunc_Val {H : Heap} {A B : Option Addr} {n c m d : Nat} {a b : List Val} {g : FuncId} {f : Val → Val → Int} (hs : Sl H A n c a) (ht : Sl H B m d b) (hf : CmpT Tryz.prog Val H g f) :
    ConT Tryz.prog 56 [.slice A n c, .slice B m d, .func (.func g) #[] #[]] H shI (fun r _ => r = lexI f a b) := by
  refine con_of_vc (an := an56) (fn := Tryz.f56) mix tabOK Tryz.func56 (by kernel_rfl) (extra := 0) ?_
  rw [vc56]
  refine ⟨fun i _ => 0 ≤ i ∧ i ≤ n ∧ lexI f a b = lexI f (a.drop i.toNat) (b.drop i.toNat), fun i => n - i.toNat, ⟨by omega, by omega, rfl⟩, ?_⟩
  rintro H2 hle i ⟨h0, h1, h2⟩
  have hb := hs.bn; have hl := hs.len; have hm := ht.len
  refine ⟨fun hlt => ?_, fun hge => ?_⟩
  · have hlt := of_decide_eq_true hlt
    obtain ⟨hi, hA, _, hc, hr⟩ := hs.at hle h0 hlt
    obtain ⟨rfl, q1, q2, q3⟩ := id hr
    refine ⟨hA, h0, hlt, _, _, _, hc, fun hmb => ?_, fun hmb => ?_⟩
    · have hmb := of_decide_eq_true hmb
      rw [h2, lexI_endb hi (by omega)]
    · have hmb := of_decide_eq_false hmb
      obtain ⟨hj, hB, _, hd, hr'⟩ := ht.at hle h0 (by omega)
      obtain ⟨rfl, p1, p2, p3⟩ := id hr'
      refine ⟨hB, h0, by omega, _, _, _, hd, _, hf H2 _ _ _ _ hle hr hr', ?_⟩
      rintro H3 l3 _ rfl
      rw [lexI_step hi hj] at h2
      refine ⟨fun hne => ?_, fun he => ⟨by simp only [rng]; omega, ⟨by omega, by omega, ?_⟩, by dsimp only; omega⟩⟩
      · rw [h2, if_pos (by simpa using hne)]
      · rw [h2, if_neg (by simpa using he), show (i + 1).toNat = i.toNat + 1 by omega]
  · have hge := of_decide_eq_false hge
    rw [lexI_enda (by omega)] at h2
    refine ⟨fun h => ?_, fun h => ?_⟩
    · have := of_decide_eq_true h
      rw [h2, if_pos (by omega)]
    · have := of_decide_eq_false h
      rw [h2, if_neg (by omega)]
def an32 : Ann where
  res := fun _ => none
  lend := fun | 7 => true | _ => false
  sch := fun _ => .done
  lt := fun _ => []
  tup := tups

theorem vc32 (P : Program) (H : Heap) (aA : Option Addr) (aN aC : Nat) (bA : Option Addr) (bN bC : Nat) (post : Int → Heap → Prop) :
  vcFn P tab an32 Tryz.f32 [.slice aA aN aC, .slice bA bN bC] 0 H ⟨false, [(false, [.int .i64])]⟩ post =
  (  ∃ (post0 : Int → Heap → Prop), ConT P 56 [.slice aA aN aC, .slice bA bN bC, .func (.func 57) ⟨[]⟩ ⟨[]⟩] H ⟨false, [(false, [.int .i64])]⟩ post0 ∧ ∀ (H1 : Heap), Heap.le H H1 → ∀ (n3 : Int),
  post0 n3 H1 → post n3 H1) := by kernel_rfl
theorem value_CompareRows {H : Heap} {A B : Option Addr} {n c m d : Nat} {a b : List Val} (hs : Sl H A n c a) (ht : Sl H B m d b) :
    ConT Tryz.prog 32 [.slice A n c, .slice B m d] H shI (fun r _ => r = cmpVs a b) := by
  refine con_of_vc (an := an32) (fn := Tryz.f32) mix tabOK Tryz.func32 (by kernel_rfl) (extra := 0) ?_
  rw [vc32]
  exact ⟨_, CompareFunc_Val hs ht (value_Compare_T H), fun _ _ _ h => h⟩
theorem bytesLess_cmpL : ∀ a b : List UInt8, Op.bytesLess a b = decide (Lib.compareBytes a b = -1)
  | [], [] => by simp [Op.bytesLess, Lib.compareBytes]
  | _ :: _, [] => by simp [Op.bytesLess, Lib.compareBytes]
  | [], _ :: _ => by simp [Op.bytesLess, Lib.compareBytes]
  | x :: a, y :: b => by
    simp only [Op.bytesLess, Lib.compareBytes]
    by_cases h1 : x < y
    · simp [h1]
    · by_cases h2 : y < x
      · have : ¬ x = y := fun e => by subst e; exact h1 h2
        simp [h1, h2, this]
      · have : x = y := by
          rw [UInt8.lt_iff_toNat_lt] at h1 h2
          exact UInt8.toNat_inj.1 (by omega)
        subst this
        simp [h1, bytesLess_cmpL a b]
theorem toList_data (a : ByteArray) : a.toList = a.data.toList := ByteArray.toList_eq a
theorem bytesLess_cmp (a b : ByteArray) : Op.bytesLess a.toList b.toList = decide (cmpB a b = -1) := by
  rw [toList_data, toList_data]
  exact bytesLess_cmpL _ _
theorem cmpI_self (x : Int) : cmpI x x = 0 := cmpI_ord.refl x
theorem cmpB_self (x : ByteArray) : cmpB x x = 0 := cmpB_ord.refl x
def an45 : Ann where
  res := fun _ => none
  lend := fun _ => false
  sch := fun _ => .done
  lt := fun _ => []
  tup := tups

theorem vc45 (P : Program) (H : Heap) (aKind : Int) (aN : Int) (aS : ByteArray) (bKind : Int) (bN : Int) (bS : ByteArray) (post : Int → Heap → Prop) :
  vcFn P tab an45 Tryz.f45 [.agg #[.int .i64 aKind, .int .i64 aN, .string aS], .agg #[.int .i64 bKind, .int .i64 bN, .string bS]] 0 H ⟨false, [(false, [.int .i64])]⟩ post =
  (  (decide (aKind < bKind) = true → post (-1 : Int) H) ∧ (decide (aKind < bKind) = false → (decide (aKind = bKind) = true → (decide (aN < bN) = true → post (-1 : Int) H) ∧ (decide (aN < bN) =
  false → (decide (aKind = bKind) = true → (decide (aN = bN) = true → (Op.bytesLess (ByteArray.toList aS) (ByteArray.toList bS) = true → post (-1 : Int) H) ∧ (Op.bytesLess (ByteArray.toList
  aS) (ByteArray.toList bS) = false → ((decide (aKind = bKind) && (decide (aN = bN) && decide (aS = bS))) = true → post (0 : Int) H) ∧ ((decide (aKind = bKind) && (decide (aN = bN) && decide
  (aS = bS))) = false → post (1 : Int) H))) ∧ (decide (aN = bN) = false → ((decide (aKind = bKind) && (decide (aN = bN) && decide (aS = bS))) = true → post (0 : Int) H) ∧ ((decide (aKind =
  bKind) && (decide (aN = bN) && decide (aS = bS))) = false → post (1 : Int) H))) ∧ (decide (aKind = bKind) = false → ((decide (aKind = bKind) && (decide (aN = bN) && decide (aS = bS))) =
  true → post (0 : Int) H) ∧ ((decide (aKind = bKind) && (decide (aN = bN) && decide (aS = bS))) = false → post (1 : Int) H)))) ∧ (decide (aKind = bKind) = false → (decide (aKind = bKind) =
  true → (decide (aN = bN) = true → (Op.bytesLess (ByteArray.toList aS) (ByteArray.toList bS) = true → post (-1 : Int) H) ∧ (Op.bytesLess (ByteArray.toList aS) (ByteArray.toList bS) = false →
  ((decide (aKind = bKind) && (decide (aN = bN) && decide (aS = bS))) = true → post (0 : Int) H) ∧ ((decide (aKind = bKind) && (decide (aN = bN) && decide (aS = bS))) = false → post (1 : Int)
  H))) ∧ (decide (aN = bN) = false → ((decide (aKind = bKind) && (decide (aN = bN) && decide (aS = bS))) = true → post (0 : Int) H) ∧ ((decide (aKind = bKind) && (decide (aN = bN) && decide
  (aS = bS))) = false → post (1 : Int) H))) ∧ (decide (aKind = bKind) = false → ((decide (aKind = bKind) && (decide (aN = bN) && decide (aS = bS))) = true → post (0 : Int) H) ∧ ((decide
  (aKind = bKind) && (decide (aN = bN) && decide (aS = bS))) = false → post (1 : Int) H))))) := by kernel_rfl
theorem ref6_Compare {a b : Val} {H : Heap} : ConT Tryz.prog 45 [.agg ⟨[.int .i64 a.kind, .int .i64 a.n, .string a.s]⟩, .agg ⟨[.int .i64 b.kind, .int .i64 b.n, .string b.s]⟩] H shI (fun r _ => r = cmpV a b) := by
  refine con_of_vc (an := an45) (fn := Tryz.f45) mix tabOK Tryz.func45 (by kernel_rfl) (extra := 0) ?_
  rw [vc45]
  simp only [bytesLess_cmp]
  have hB := cmpB_ord.sign a.s b.s
  have he := @Ord3.iff _ _ cmpB_ord a.s b.s
  simp only [cmpV, orI]
  rcases Int.lt_trichotomy a.kind b.kind with h | h | h
  · have h' : ¬ a.kind = b.kind := by omega
    have e1 : cmpI a.kind b.kind = -1 := by unfold cmpI; rw [if_pos h]
    simp [h, h', e1]
  · have h' : ¬ a.kind < b.kind := by omega
    have h'' : ¬ b.kind < a.kind := by omega
    have e1 : cmpI a.kind b.kind = 0 := by unfold cmpI; rw [if_neg h', if_neg h'']
    simp only [e1, h, decide_true, Bool.true_and, Int.lt_irrefl, decide_false]
    rcases Int.lt_trichotomy a.n b.n with k | k | k
    · have k' : ¬ a.n = b.n := by omega
      have e2 : cmpI a.n b.n = -1 := by unfold cmpI; rw [if_pos k]
      simp [k, k', e2, cmpI_self]
    · have k' : ¬ a.n < b.n := by omega
      have k'' : ¬ b.n < a.n := by omega
      have e2 : cmpI a.n b.n = 0 := by unfold cmpI; rw [if_neg k', if_neg k'']
      rcases hB with hB | hB | hB
      · have : ¬ a.s = b.s := fun e => by rw [he.2 e] at hB; cases hB
        simp [k, e2, hB, this, cmpI_self, cmpB_self]
      · have := he.1 hB
        simp [k, e2, hB, this, cmpI_self, cmpB_self]
      · have : ¬ a.s = b.s := fun e => by rw [he.2 e] at hB; cases hB
        simp [k, e2, hB, this, cmpI_self, cmpB_self]
    · have k' : ¬ a.n = b.n := by omega
      have k'' : ¬ a.n < b.n := by omega
      have e2 : cmpI a.n b.n = 1 := by unfold cmpI; rw [if_neg k'', if_pos k]
      simp [k', k'', e2, cmpI_self]
  · have h' : ¬ a.kind = b.kind := by omega
    have h'' : ¬ a.kind < b.kind := by omega
    have e1 : cmpI a.kind b.kind = 1 := by unfold cmpI; rw [if_neg h'', if_pos h]
    simp [h', h'', e1]
def an22 : Ann where
  res := fun _ => none
  lend := fun | 27 => true | _ => false
  sch := fun | 4 => (tk [0, 1, 2, 3, 4, 5, 6, 7] (.alt 8 (tk [9] .done) .fin)) | _ => .done
  lt := fun | 2 => [.slot 5 false [.int .i64]] | _ => []
  tup := tups

theorem vc22 (P : Program) (H : Heap) (aA : Option Addr) (aN aC : Nat) (bA : Option Addr) (bN bC : Nat) (post : Int → Heap → Prop) :
  vcFn P tab an22 Tryz.f22 [.slice aA aN aC, .slice bA bN bC] 0 H ⟨false, [(false, [.int .i64])]⟩ post =
  (  ∃ (inv0 : Int → Heap → Prop), ∃ (m1 : Int → Nat), inv0 (0 : Int) H ∧ ∀ (H2 : Heap), Heap.le H H2 → ∀ (n4 : Int), inv0 n4 H2 → (decide (n4 < (↑aN : Int)) = true → (decide (n4 < (↑bN : Int))
  = true → someA aA ∧ (0 : Int) ≤ n4 ∧ n4 < (↑aN : Int) ∧ ∃ (n8 : Int), ∃ (n9 : Int), ∃ (s10 : ByteArray), Cells H2 aA (Int.toNat n4 * 3) [.int .i64 n8, .int .i64 n9, .string s10] ∧ someA bA
  ∧ (0 : Int) ≤ n4 ∧ n4 < (↑bN : Int) ∧ ∃ (n11 : Int), ∃ (n12 : Int), ∃ (s13 : ByteArray), Cells H2 bA (Int.toNat n4 * 3) [.int .i64 n11, .int .i64 n12, .string s13] ∧ ∃ (post14 : Int → Heap
  → Prop), ConT P 45 [.agg ⟨[.int .i64 n8, .int .i64 n9, .string s10]⟩, .agg ⟨[.int .i64 n11, .int .i64 n12, .string s13]⟩] H2 ⟨false, [(false, [.int .i64])]⟩ post14 ∧ ∀ (H15 : Heap), Heap.le
  H2 H15 → ∀ (n17 : Int), post14 n17 H15 → ((!decide (n17 = (0 : Int))) = true → post n17 H15) ∧ ((!decide (n17 = (0 : Int))) = false → rng .i64 (n4 + (1 : Int)) ∧ inv0 (n4 + (1 : Int)) H15 ∧
  m1 (n4 + (1 : Int)) < m1 n4)) ∧ (decide (n4 < (↑bN : Int)) = false → (decide ((↑aN : Int) < (↑bN : Int)) = true → post (-1 : Int) H2) ∧ (decide ((↑aN : Int) < (↑bN : Int)) = false → (decide
  ((↑bN : Int) < (↑aN : Int)) = true → post (1 : Int) H2) ∧ (decide ((↑bN : Int) < (↑aN : Int)) = false → post (0 : Int) H2)))) ∧ (decide (n4 < (↑aN : Int)) = false → (decide ((↑aN : Int) <
  (↑bN : Int)) = true → post (-1 : Int) H2) ∧ (decide ((↑aN : Int) < (↑bN : Int)) = false → (decide ((↑bN : Int) < (↑aN : Int)) = true → post (1 : Int) H2) ∧ (decide ((↑bN : Int) < (↑aN :
  Int)) = false → post (0 : Int) H2)))) := by kernel_rfl
theorem ref6_CompareRows {H : Heap} {A B : Option Addr} {n c m d : Nat} {a b : List Val} (hs : Sl H A n c a) (ht : Sl H B m d b) :
    ConT Tryz.prog 22 [.slice A n c, .slice B m d] H shI (fun r _ => r = cmpVs a b) := by
  refine con_of_vc (an := an22) (fn := Tryz.f22) mix tabOK Tryz.func22 (by kernel_rfl) (extra := 0) ?_
  rw [vc22]
  refine ⟨fun i _ => 0 ≤ i ∧ i ≤ n ∧ i ≤ m ∧ cmpVs a b = lexI cmpV (a.drop i.toNat) (b.drop i.toNat), fun i => n - i.toNat, ⟨by omega, by omega, by omega, rfl⟩, ?_⟩
  rintro H2 hle i ⟨h0, h1, h1', h2⟩
  have hb := hs.bn; have hl := hs.len; have hm := ht.len
  refine ⟨fun hlt => ?_, fun hge => ?_⟩
  · have hlt := of_decide_eq_true hlt
    refine ⟨fun hmb => ?_, fun hmb => ?_⟩
    · have hmb := of_decide_eq_true hmb
      obtain ⟨hi, hA, _, hc, hr⟩ := hs.at hle h0 hlt
      obtain ⟨rfl, q1, q2, q3⟩ := id hr
      obtain ⟨hj, hB, _, hd, hr'⟩ := ht.at hle h0 (by omega)
      obtain ⟨rfl, p1, p2, p3⟩ := id hr'
      refine ⟨hA, h0, hlt, _, _, _, hc, hB, h0, by omega, _, _, _, hd, _, ref6_Compare, ?_⟩
      rintro H3 l3 _ rfl
      rw [lexI_step hi hj] at h2
      refine ⟨fun hne => ?_, fun he => ⟨by simp only [rng]; omega, ⟨by omega, by omega, by omega, ?_⟩, by dsimp only; omega⟩⟩
      · rw [h2, if_pos (by simpa using hne)]
      · rw [h2, if_neg (by simpa using he), show (i + 1).toNat = i.toNat + 1 by omega]
    · have hmb := of_decide_eq_false hmb
      rw [lexI_endb (by omega) (by omega)] at h2
      exact ⟨fun h => by have := of_decide_eq_true h; omega, fun h => ⟨fun _ => h2.symm, fun h => by have := of_decide_eq_false h; omega⟩⟩
  · have hge := of_decide_eq_false hge
    rw [lexI_enda (by omega)] at h2
    refine ⟨fun h => ?_, fun h => ⟨fun h' => ?_, fun h' => ?_⟩⟩
    · have := of_decide_eq_true h
      rw [h2, if_pos (by omega)]
    · have := of_decide_eq_false h; have := of_decide_eq_true h'; omega
    · have := of_decide_eq_false h; have := of_decide_eq_false h'
      rw [h2, if_neg (by omega)]
def val0 : Val := ⟨0, 0, ⟨#[]⟩⟩
def keyVal (vals : List Val) (c : Int) : Val := if 0 ≤ c then vals.getD c.toNat val0 else val0
def keyVals (vals : List Val) (cols : List Int) : List Val := cols.map (keyVal vals)
theorem kv_skip {vals : List Val} {cols : List Int} {m i : Nat} (hi : i < cols.length) (hm : cols.length = m) (hv : keyVal vals cols[i] = val0) :
    keyVals vals (cols.take i) ++ List.replicate (m - i) val0 = keyVals vals (cols.take (i + 1)) ++ List.replicate (m - (i + 1)) val0 := by
  rw [List.take_succ_eq_append_getElem hi, keyVals, keyVals, List.map_append, show m - i = (m - (i + 1)) + 1 by omega, List.replicate_succ]
  simp [hv]
theorem kv_set {vals : List Val} {cols : List Int} {m i : Nat} (hi : i < cols.length) (hm : cols.length = m) {v : Val} (hv : keyVal vals cols[i] = v) :
    (keyVals vals (cols.take i) ++ List.replicate (m - i) val0).set i v = keyVals vals (cols.take (i + 1)) ++ List.replicate (m - (i + 1)) val0 := by
  rw [List.take_succ_eq_append_getElem hi, keyVals, keyVals, List.map_append, show m - i = (m - (i + 1)) + 1 by omega, List.replicate_succ]
  have hl : ((cols.take i).map (keyVal vals)).length = i := by simp; omega
  rw [List.set_append_right _ _ (by omega), hl, Nat.sub_self]
  simp [hv]
def an19 : Ann where
  res := fun _ => none
  lend := fun _ => false
  sch := fun _ => .done
  lt := fun | 3 => [.slot 5 false [.row 35 80], .slot 13 false [.int .i64]] | _ => []
  tup := tups

theorem vc19 (P : Program) (H : Heap) (valsA : Option Addr) (valsN valsC : Nat) (colsA : Option Addr) (colsN colsC : Nat) (post : Option Addr → Nat → Nat → Heap → Prop) :
  vcFn P tab an19 Tryz.f19 [.slice valsA valsN valsC, .slice colsA colsN colsC] 1 H ⟨false, [(false, [.sl])]⟩ post =
  (  (↑colsN : Int) = (↑colsN : Int) ∧ (0 : Int) ≤ (↑colsN : Int) ∧ (↑colsN : Int) * (↑32 : Int) ≤ (140737488355328 : Int) ∧ ∀ (xs0 : List Value), xs0 = repl [.int .i64 (0 : Int), .int .i64 (0 :
  Int), .string ⟨⟨[]⟩⟩] (Int.toNat (↑colsN : Int)) → ∃ (inv2 : Nat → List Value → Int → Heap → Prop), ∃ (m3 : Nat → List Value → Int → Nat), inv2 (Int.toNat (↑colsN : Int)) xs0 (0 : Int) H ∧
  ∀ (H4 : Heap), Heap.le H H4 → ∀ (n6 : Nat) (xs7 : List Value) (n8 : Int), inv2 n6 xs7 n8 H4 → (decide (n8 < (↑colsN : Int)) = true → someA colsA ∧ (0 : Int) ≤ n8 ∧ n8 < (↑colsN : Int) ∧ ∃
  (n11 : Int), Cells H4 colsA (Int.toNat n8 * 1) [.int .i64 n11] ∧ (decide ((0 : Int) ≤ n11) = true → (decide (n11 < (↑valsN : Int)) = true → someA valsA ∧ (0 : Int) ≤ n11 ∧ n11 < (↑valsN :
  Int) ∧ ∃ (n14 : Int), ∃ (n15 : Int), ∃ (s16 : ByteArray), Cells H4 valsA (Int.toNat n11 * 3) [.int .i64 n14, .int .i64 n15, .string s16] ∧ (0 : Int) ≤ n8 ∧ n8 < (↑n6 : Int) ∧ Int.toNat n8 *
  3 + 3 ≤ List.length xs7 ∧ rng .i64 (n8 + (1 : Int)) ∧ inv2 n6 (splice xs7 (Int.toNat n8 * 3) [.int .i64 n14, .int .i64 n15, .string s16]) (n8 + (1 : Int)) H4 ∧ m3 n6 (splice xs7 (Int.toNat
  n8 * 3) [.int .i64 n14, .int .i64 n15, .string s16]) (n8 + (1 : Int)) < m3 n6 xs7 n8) ∧ (decide (n11 < (↑valsN : Int)) = false → rng .i64 (n8 + (1 : Int)) ∧ inv2 n6 xs7 (n8 + (1 : Int)) H4
  ∧ m3 n6 xs7 (n8 + (1 : Int)) < m3 n6 xs7 n8)) ∧ (decide ((0 : Int) ≤ n11) = false → rng .i64 (n8 + (1 : Int)) ∧ inv2 n6 xs7 (n8 + (1 : Int)) H4 ∧ m3 n6 xs7 (n8 + (1 : Int)) < m3 n6 xs7 n8))
  ∧ (decide (n8 < (↑colsN : Int)) = false → ∀ (A20 : Option Addr) (c21 : Nat) (H22 : Heap), Heap.le H4 H22 → Cells H22 A20 0 xs7 → n6 ≤ c21 → post A20 n6 c21 H22)) := by kernel_rfl
theorem keys_Values {H : Heap} {A B : Option Addr} {n c m d : Nat} {vals : List Val} {cols : List Int} (hs : Sl H A n c vals) (ht : Sl H B m d cols) (hb : m * 32 ≤ 140737488355328) :
    ConT Tryz.prog 19 [.slice A n c, .slice B m d] H shS (fun A' n' c' H' => Sl H' A' n' c' (keyVals vals cols)) := by
  refine con_of_vc (an := an19) (fn := Tryz.f19) mix tabOK Tryz.func19 (by kernel_rfl) (extra := 1) ?_
  rw [vc19]
  have hbn := ht.bn; have hl := hs.len; have hm := ht.len
  refine ⟨rfl, by omega, by simpa using (by omega : (m : Int) * 32 ≤ 140737488355328), ?_⟩
  rintro xs rfl
  refine ⟨fun k xs i H' => 0 ≤ i ∧ i ≤ m ∧ k = m ∧ Row H' xs (keyVals vals (cols.take i.toNat) ++ List.replicate (m - i.toNat) val0), fun _ _ i => m - i.toNat, ⟨by omega, by omega, by omega, ?_⟩, ?_⟩
  · simp only [Int.toNat_natCast, List.take_zero, keyVals, List.map_nil, List.nil_append, Int.toNat_zero, Nat.sub_zero]
    exact Row.zeros (H := H) (T := Val) (t := val0) (show Rep.rel H _ val0 from ⟨rfl, by decide, by decide, by unfold str val0; decide⟩) m
  rintro H2 hle k xs i ⟨h0, h1, rfl, hr⟩
  have hrl := hr.length
  have hlen : (keyVals vals (cols.take i.toNat) ++ List.replicate (k - i.toNat) val0).length = k := by simp [keyVals]; omega
  have e1 : (i + 1).toNat = i.toNat + 1 := by omega
  refine ⟨fun hlt => ?_, fun hge => ?_⟩
  · have hlt := of_decide_eq_true hlt
    obtain ⟨hi, hA, _, hc, ⟨rfl, -⟩⟩ := ht.at hle h0 hlt
    have skip : keyVal vals cols[i.toNat] = val0 → rng .i64 (i + 1) ∧ (0 ≤ i + 1 ∧ i + 1 ≤ k ∧ k = k ∧ Row H2 xs (keyVals vals (cols.take (i + 1).toNat) ++ List.replicate (k - (i + 1).toNat) val0)) ∧ k - (i + 1).toNat < k - i.toNat := fun hv =>
      ⟨by simp only [rng]; omega, ⟨by omega, by omega, rfl, by rw [e1, ← kv_skip hi hm hv]; exact hr⟩, by omega⟩
    refine ⟨hA, h0, hlt, _, hc, fun hp => ⟨fun hq => ?_, fun hq => ?_⟩, fun hp => ?_⟩
    · have hp := of_decide_eq_true hp; have hq := of_decide_eq_true hq
      obtain ⟨hj, hB, _, hd, hv⟩ := hs.at hle hp hq
      have hset := hr.setw (i := i.toNat) (by omega) hv
      obtain ⟨rfl, q1, q2, q3⟩ := hv
      refine ⟨hB, hp, hq, _, _, _, hd, h0, by omega, ?_, by simp only [rng]; omega, ⟨by omega, by omega, rfl, ?_⟩, by dsimp only; omega⟩
      · rw [hrl, hlen]
        show i.toNat * 3 + 3 ≤ k * 3
        omega
      · rw [kv_set hi hm (v := vals[cols[i.toNat].toNat]) (by unfold keyVal; rw [if_pos hp, List.getD_eq_getElem?_getD, List.getElem?_eq_getElem hj]; rfl), ← e1] at hset
        exact hset
    · have hp := of_decide_eq_true hp; have hq := of_decide_eq_false hq
      exact skip (by unfold keyVal; rw [if_pos hp, List.getD_eq_getElem?_getD, List.getElem?_eq_none (by omega)]; rfl)
    · have hp := of_decide_eq_false hp
      exact skip (by unfold keyVal; rw [if_neg hp])
  · have hge := of_decide_eq_false hge
    intro A2 c2 H3 l3 hc2 hn2
    have : keyVals vals (cols.take i.toNat) ++ List.replicate (k - i.toNat) val0 = keyVals vals cols := by
      rw [show k - i.toNat = 0 by omega, List.take_of_length_le (by omega)]; simp
    rw [this] at hr
    exact hr.sl l3 hc2 (by simp [keyVals]; omega) hn2 hb hbn
def an50 : Ann where
  res := fun _ => none
  lend := fun _ => false
  sch := fun _ => .done
  lt := fun _ => []
  tup := tups

theorem vc50 (P : Program) (H : Heap) (pFrom : Int) (pTo : Int) (post : Bool → Heap → Prop) :
  vcFn P tab an50 Tryz.f50 [.agg #[.int .i64 pFrom, .int .i64 pTo]] 0 H ⟨false, [(false, [.bool])]⟩ post =
  (  (decide ((0 : Int) ≤ pFrom) = true → (decide (pFrom < pTo) = true → post (decide (pTo ≤ (1099511627776 : Int))) H) ∧ (decide (pFrom < pTo) = false → post false H)) ∧ (decide ((0 : Int) ≤
  pFrom) = false → post false H)) := by kernel_rfl
theorem period_Valid {a b : Int} {H : Heap} : ConT Tryz.prog 50 [.agg ⟨[.int .i64 a, .int .i64 b]⟩] H shB (fun r _ => r = pOk ⟨a, b⟩) := by
  refine con_of_vc (an := an50) (fn := Tryz.f50) mix tabOK Tryz.func50 (by kernel_rfl) (extra := 0) ?_
  rw [vc50]
  grind [pOk]
end Go.Vc
/- The order of tuples with key values; sorting them (fewer than twenty). -/
namespace Go.Vc
open Go Go.Proofs Go.Shelf
theorem swo_of {A T : Type} {g : A → A → Int} (h : Ord3 g) (φ : T → A) : Sort.SWO (ltOf fun x y : T => g (φ x) (φ y)) where
  irrefl x := by simp [ltOf, h.refl]
  trans x y z h1 h2 := by
    simp only [ltOf, decide_eq_true_eq] at *
    have a1 := h.sign (φ x) (φ y); have a2 := h.sign (φ y) (φ z)
    have := h.trans _ _ _ (by omega : g (φ x) (φ y) = -1) (by omega : g (φ y) (φ z) = -1)
    omega
  ntrans x y z h1 h2 := by
    simp only [ltOf, decide_eq_false_iff_not] at *
    intro h3
    have a1 := h.anti (φ x) (φ y); have a2 := h.anti (φ y) (φ z); have a3 := h.anti (φ x) (φ z)
    have b1 := h.sign (φ x) (φ y); have b2 := h.sign (φ y) (φ z); have b3 := h.sign (φ x) (φ z)
    by_cases e1 : g (φ x) (φ y) = 0
    · rw [h.eq _ _ e1] at h3; exact h2 h3
    · by_cases e2 : g (φ y) (φ z) = 0
      · rw [← h.eq _ _ e2] at h3; exact h1 h3
      · have := h.trans (φ z) (φ y) (φ x) (by omega) (by omega)
        omega
def cmpKd (a b : Kd) : Int := orI [cmpVs a.key b.key, cmpI a.t.p.lo b.t.p.lo]
def kdKey (a : Kd) : List Val × Int := (a.key, a.t.p.lo)
def cmpKL (a b : List Val × Int) : Int := if cmpVs a.1 b.1 ≠ 0 then cmpVs a.1 b.1 else cmpI a.2 b.2
theorem cmpKL_ord : Ord3 cmpKL := cmpVs_ord.pair cmpI_ord
theorem cmpKd_eq (a b : Kd) : cmpKd a b = cmpKL (kdKey a) (kdKey b) := by
  simp only [cmpKd, orI, cmpKL, kdKey]
  by_cases h : cmpVs a.key b.key = 0
  · by_cases h2 : cmpI a.t.p.lo b.t.p.lo = 0 <;> simp [h, h2]
  · simp [h]
theorem cmpKd_swo : Sort.SWO (ltOf cmpKd) := by
  have h := swo_of cmpKL_ord kdKey
  have e : (fun x y : Kd => cmpKL (kdKey x) (kdKey y)) = cmpKd := by funext x y; exact (cmpKd_eq x y).symm
  rwa [e] at h
end Go.Vc

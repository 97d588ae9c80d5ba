/- The library's contracts at this program: strings.Compare, slices.Sort and slices.Compact on ints; comparing values. -/
import Derived.Test.YtpgcjofhfaonpaaGreatDoorGJS8
import Derived.Test.YtpgcjofhfaonpaaGreatDoorGJS11
import Derived.Test.YtpgcjofhfaonpaaGreatDoorGJS12
import Derived.Shelf.Small.Strs
import Derived.Test.YtpgcjofhfaonpaaGreatDoorGJS2
import Derived.Test.YtpgcjofhfaonpaaGreatDoorGJS10
set_option linter.unusedSectionVars false
set_option linter.unusedSimpArgs false
set_option linter.unusedVariables false
namespace Go.Vc
open Go Go.Proofs Go.Shelf
def strCmpL_ren : Go.Shelf.Ren := ⟨fun | 106 => 90 | 213 => 116 | 265 => 146 | n => n, fun | 9 => 9 | 3 => 3 | n => n, fun n => n⟩
theorem strCmpL : Lays.n106 Tryz.prog strCmpL_ren where
  mixed := by kernel_rfl
  f106 := Tryz.func90.trans (congrArg some (by kernel_rfl))
  f213 := Tryz.func116.trans (congrArg some (by kernel_rfl))
  f265 := Tryz.func146.trans (congrArg some (by kernel_rfl))
  t3 := Tryz.underlying3
  a3 := Tryz.isAgg3
  z3 := Tryz.sizeOf3
  v3 := Tryz.zeroValue3
  t9 := Tryz.underlying9
  a9 := Tryz.isAgg9
  z9 := Tryz.sizeOf9
  v9 := Tryz.zeroValue9
def srtIL_ren : Go.Shelf.Ren := ⟨fun | 189 => 64 | 125 => 75 | 257 => 94 | 128 => 108 | 129 => 109 | 294 => 125 | 295 => 126 | 296 => 127 | 297 => 128 | 298 => 129 | 299 => 130 | 216 => 66 | 300 => 131 | 301 => 132 | 328 => 150 | 329 => 139 | 330 => 140 | 331 => 151 | 332 => 152 | 215 => 92 | 343 => 160 | n => n, fun | 28 => 23 | 3 => 3 | 46 => 106 | 0 => 0 | 51 => 152 | 53 => 154 | 4 => 4 | 183 => 146 | 182 => 145 | 131 => 76 | 5 => 5 | 9 => 9 | 218 => 175 | 222 => 179 | 228 => 192 | 229 => 193 | n => n, fun n => n⟩
theorem srtIL : Lays.n189 Tryz.prog srtIL_ren where
  mixed := by kernel_rfl
  f125 := Tryz.func75.trans (congrArg some (by kernel_rfl))
  f128 := Tryz.func108.trans (congrArg some (by kernel_rfl))
  f129 := Tryz.func109.trans (congrArg some (by kernel_rfl))
  f189 := Tryz.func64.trans (congrArg some (by kernel_rfl))
  f215 := Tryz.func92.trans (congrArg some (by kernel_rfl))
  f216 := Tryz.func66.trans (congrArg some (by kernel_rfl))
  f257 := Tryz.func94.trans (congrArg some (by kernel_rfl))
  f294 := Tryz.func125.trans (congrArg some (by kernel_rfl))
  f295 := Tryz.func126.trans (congrArg some (by kernel_rfl))
  f296 := Tryz.func127.trans (congrArg some (by kernel_rfl))
  f297 := Tryz.func128.trans (congrArg some (by kernel_rfl))
  f298 := Tryz.func129.trans (congrArg some (by kernel_rfl))
  f299 := Tryz.func130.trans (congrArg some (by kernel_rfl))
  f300 := Tryz.func131.trans (congrArg some (by kernel_rfl))
  f301 := Tryz.func132.trans (congrArg some (by kernel_rfl))
  f328 := Tryz.func150.trans (congrArg some (by kernel_rfl))
  f329 := Tryz.func139.trans (congrArg some (by kernel_rfl))
  f330 := Tryz.func140.trans (congrArg some (by kernel_rfl))
  f331 := Tryz.func151.trans (congrArg some (by kernel_rfl))
  f332 := Tryz.func152.trans (congrArg some (by kernel_rfl))
  f343 := Tryz.func160.trans (congrArg some (by kernel_rfl))
  t0 := Tryz.underlying0
  a0 := Tryz.isAgg0
  z0 := Tryz.sizeOf0
  v0 := Tryz.zeroValue0
  t3 := Tryz.underlying3
  a3 := Tryz.isAgg3
  z3 := Tryz.sizeOf3
  v3 := Tryz.zeroValue3
  t4 := Tryz.underlying4
  a4 := Tryz.isAgg4
  z4 := Tryz.sizeOf4
  v4 := Tryz.zeroValue4
  t5 := Tryz.underlying5
  a5 := Tryz.isAgg5
  z5 := Tryz.sizeOf5
  v5 := Tryz.zeroValue5
  t9 := Tryz.underlying9
  a9 := Tryz.isAgg9
  z9 := Tryz.sizeOf9
  v9 := Tryz.zeroValue9
  t28 := Tryz.underlying23
  a28 := Tryz.isAgg23
  z28 := Tryz.sizeOf23
  v28 := Tryz.zeroValue23
  t46 := Tryz.underlying106
  a46 := Tryz.isAgg106
  z46 := Tryz.sizeOf106
  v46 := Tryz.zeroValue106
  t51 := Tryz.underlying152
  a51 := Tryz.isAgg152
  z51 := Tryz.sizeOf152
  v51 := Tryz.zeroValue152
  t53 := Tryz.underlying154
  a53 := Tryz.isAgg154
  z53 := Tryz.sizeOf154
  v53 := Tryz.zeroValue154
  t131 := Tryz.underlying76
  a131 := Tryz.isAgg76
  z131 := Tryz.sizeOf76
  v131 := Tryz.zeroValue76
  t182 := Tryz.underlying145
  a182 := Tryz.isAgg145
  z182 := Tryz.sizeOf145
  v182 := Tryz.zeroValue145
  t183 := Tryz.underlying146
  a183 := Tryz.isAgg146
  z183 := Tryz.sizeOf146
  v183 := Tryz.zeroValue146
  t218 := Tryz.underlying175
  a218 := Tryz.isAgg175
  z218 := Tryz.sizeOf175
  v218 := Tryz.zeroValue175
  t222 := Tryz.underlying179
  a222 := Tryz.isAgg179
  z222 := Tryz.sizeOf179
  v222 := Tryz.zeroValue179
  t228 := Tryz.underlying192
  a228 := Tryz.isAgg192
  z228 := Tryz.sizeOf192
  v228 := Tryz.zeroValue192
  t229 := Tryz.underlying193
  a229 := Tryz.isAgg193
  z229 := Tryz.sizeOf193
  v229 := Tryz.zeroValue193
def cmpIL_ren : Go.Shelf.Ren := ⟨fun | 20 => 77 | n => n, fun | 22 => 23 | 3 => 3 | 4 => 4 | 0 => 0 | n => n, fun n => n⟩
theorem cmpIL : Lays2.n20 Tryz.prog cmpIL_ren where
  mixed := by kernel_rfl
  f20 := Tryz.func77.trans (congrArg some (by kernel_rfl))
  t0 := Tryz.underlying0
  a0 := Tryz.isAgg0
  z0 := Tryz.sizeOf0
  v0 := Tryz.zeroValue0
  t3 := Tryz.underlying3
  a3 := Tryz.isAgg3
  z3 := Tryz.sizeOf3
  v3 := Tryz.zeroValue3
  t4 := Tryz.underlying4
  a4 := Tryz.isAgg4
  z4 := Tryz.sizeOf4
  v4 := Tryz.zeroValue4
  t22 := Tryz.underlying23
  a22 := Tryz.isAgg23
  z22 := Tryz.sizeOf23
  v22 := Tryz.zeroValue23
  i3 := by kernel_rfl
theorem con_pureI {P : Program} {f : FuncId} {args : List Value} {H : Heap} {x : Int} (hf : FnOK P f) (h : ∀ w, Calls P f args.toArray w fun e w' => e = .returned (.int .i64 x) ∧ w' = w) : ConT P f args H shI (fun r _ => r = x) := by
  refine ⟨hf, fun w hs => (h w).mono ?_⟩
  rintro e w' ⟨rfl, rfl⟩
  exact ⟨_, H, [], rfl, ⟨x, _, rfl, rfl, rfl, rfl⟩, ⟨⟨rfl, rfl, rfl, Nat.le_refl _, fun _ _ => rfl⟩, hle_refl H, fun _ _ _ => rfl, hs, Nat.le_refl _⟩, by simp, List.Pairwise.nil⟩
theorem strings_Compare {H : Heap} {a b : ByteArray} : ConT Tryz.prog 90 [.string a, .string b] H shI (fun r _ => r = cmpB a b) :=
  con_pureI (FnOK.of_body strCmpL.f106 rfl (by kernel_rfl)) fun w => Any.strings_Compare strCmpL a b w
theorem Sort_Int {H : Heap} {n : Nat} {xs : List Value} {l : List Int} (hr : Row H xs l) (hl : l.length = n) (hn : n ≤ 140737488355328) :
    ConM Tryz.prog 64 [.slice none 0 0] 0 3 n xs true H ⟨true, []⟩ (fun ys (H' : Heap) => Row H' ys (l.mergeSort fun x y => decide (x ≤ y))) :=
  sortI_con srtIL (by kernel_rfl) hr hl hn
theorem Compact_Int {H : Heap} {n r : Nat} {xs : List Value} {l : List Int} (hr : Row H xs l) (hl : l.length = n) (hn : n ≤ 140737488355328) :
    ConM Tryz.prog 77 [.slice none 0 0] 0 3 n xs false H ⟨false, [(false, [.row r 3])]⟩ (fun _ => fun m (ys : List Value) (H' : Heap) => m = (Lib.compact l).length ∧ Row H' ys (Lib.compact l)) :=
  compactI_con cmpIL (by kernel_rfl) hr hl hn
def an92 : Ann where
  res := fun _ => none
  lend := fun _ => false
  sch := fun _ => .done
  lt := fun _ => []
  tup := tups

theorem vc92 (P : Program) (H : Heap) (x : Int) (post : Bool → Heap → Prop) :
  vcFn P tab an92 Tryz.f92 [.int .i64 x] 0 H ⟨false, [(false, [.bool])]⟩ post =
  (  post (!decide (x = x)) H) := by kernel_rfl
theorem cmp_isNaN {x : Int} {H : Heap} : ConT Tryz.prog 92 [.int .i64 x] H shB (fun r _ => r = false) := by
  refine con_of_vc (an := an92) (fn := Tryz.f92) mix tabOK Tryz.func92 (by kernel_rfl) (extra := 0) ?_
  rw [vc92]
  simp
def an61 : Ann where
  res := fun _ => none
  lend := fun | 8 => true | 10 => true | _ => false
  sch := fun _ => .done
  lt := fun _ => []
  tup := tups

theorem vc61 (P : Program) (H : Heap) (x : Int) (y : Int) (post : Int → Heap → Prop) :
  vcFn P tab an61 Tryz.f61 [.int .i64 x, .int .i64 y] 0 H ⟨false, [(false, [.int .i64])]⟩ post =
  (  ∃ (post0 : Bool → Heap → Prop), ConT P 92 [.int .i64 x] H ⟨false, [(false, [.bool])]⟩ post0 ∧ ∀ (H1 : Heap), Heap.le H H1 → ∀ (b3 : Bool), post0 b3 H1 → ∃ (post5 : Bool → Heap → Prop), ConT
  P 92 [.int .i64 y] H1 ⟨false, [(false, [.bool])]⟩ post5 ∧ ∀ (H6 : Heap), Heap.le H1 H6 → ∀ (b8 : Bool), post5 b8 H6 → (b3 = true → (b8 = true → post (0 : Int) H6) ∧ (b8 = false → post (-1 :
  Int) H6)) ∧ (b3 = false → (b8 = true → post (1 : Int) H6) ∧ (b8 = false → (decide (x < y) = true → post (-1 : Int) H6) ∧ (decide (x < y) = false → (decide (y < x) = true → post (1 : Int)
  H6) ∧ (decide (y < x) = false → post (0 : Int) H6))))) := by kernel_rfl
theorem cmp_Compare {x y : Int} {H : Heap} : ConT Tryz.prog 61 [.int .i64 x, .int .i64 y] H shI (fun r _ => r = cmpI x y) := by
  refine con_of_vc (an := an61) (fn := Tryz.f61) mix tabOK Tryz.func61 (by kernel_rfl) (extra := 0) ?_
  rw [vc61]
  refine ⟨_, cmp_isNaN, ?_⟩
  rintro H1 _ _ rfl
  refine ⟨_, cmp_isNaN, ?_⟩
  rintro H2 _ _ rfl
  grind [cmpI]
def an115 : Ann where
  res := fun _ => none
  lend := fun _ => false
  sch := fun _ => .done
  lt := fun _ => []
  tup := tups

theorem vc115 (P : Program) (H : Heap) (x : Int) (post : Bool → Heap → Prop) :
  vcFn P tab an115 Tryz.f115 [.int .i64 x] 0 H ⟨false, [(false, [.bool])]⟩ post =
  (  post (!decide (x = x)) H) := by kernel_rfl
theorem cmp_isNaN64 {x : Int} {H : Heap} : ConT Tryz.prog 115 [.int .i64 x] H shB (fun r _ => r = false) := by
  refine con_of_vc (an := an115) (fn := Tryz.f115) mix tabOK Tryz.func115 (by kernel_rfl) (extra := 0) ?_
  rw [vc115]
  simp
def an89 : Ann where
  res := fun _ => none
  lend := fun | 8 => true | 10 => true | _ => false
  sch := fun _ => .done
  lt := fun _ => []
  tup := tups

theorem vc89 (P : Program) (H : Heap) (x : Int) (y : Int) (post : Int → Heap → Prop) :
  vcFn P tab an89 Tryz.f89 [.int .i64 x, .int .i64 y] 0 H ⟨false, [(false, [.int .i64])]⟩ post =
  (  ∃ (post0 : Bool → Heap → Prop), ConT P 115 [.int .i64 x] H ⟨false, [(false, [.bool])]⟩ post0 ∧ ∀ (H1 : Heap), Heap.le H H1 → ∀ (b3 : Bool), post0 b3 H1 → ∃ (post5 : Bool → Heap → Prop),
  ConT P 115 [.int .i64 y] H1 ⟨false, [(false, [.bool])]⟩ post5 ∧ ∀ (H6 : Heap), Heap.le H1 H6 → ∀ (b8 : Bool), post5 b8 H6 → (b3 = true → (b8 = true → post (0 : Int) H6) ∧ (b8 = false → post
  (-1 : Int) H6)) ∧ (b3 = false → (b8 = true → post (1 : Int) H6) ∧ (b8 = false → (decide (x < y) = true → post (-1 : Int) H6) ∧ (decide (x < y) = false → (decide (y < x) = true → post (1 :
  Int) H6) ∧ (decide (y < x) = false → post (0 : Int) H6))))) := by kernel_rfl
theorem cmp_Compare64 {x y : Int} {H : Heap} : ConT Tryz.prog 89 [.int .i64 x, .int .i64 y] H shI (fun r _ => r = cmpI x y) := by
  refine con_of_vc (an := an89) (fn := Tryz.f89) mix tabOK Tryz.func89 (by kernel_rfl) (extra := 0) ?_
  rw [vc89]
  refine ⟨_, cmp_isNaN64, ?_⟩
  rintro H1 _ _ rfl
  refine ⟨_, cmp_isNaN64, ?_⟩
  rintro H2 _ _ rfl
  grind [cmpI]
def an83 : Ann where
  res := fun _ => none
  lend := fun _ => false
  sch := fun _ => .done
  lt := fun | 3 => [.slot 8 false [.int .i64]] | _ => []
  tup := tups

theorem vc83 (P : Program) (H : Heap) (valsA : Option Addr) (valsN valsC : Nat) (post : Int → Heap → Prop) :
  vcFn P tab an83 Tryz.f83 [.slice valsA valsN valsC] 0 H ⟨false, [(false, [.int .i64])]⟩ post =
  (  ∃ (inv0 : Int → Heap → Prop), ∃ (m1 : Int → Nat), inv0 (0 : Int) H ∧ ∀ (H2 : Heap), Heap.le H H2 → ∀ (n4 : Int), inv0 n4 H2 → (decide (n4 < (↑valsN : Int)) = true → someA valsA ∧ (0 : Int)
  ≤ n4 ∧ n4 < (↑valsN : Int) ∧ ∃ (n7 : Int), Cells H2 valsA (Int.toNat n4 * 1) [.int .i64 n7] ∧ ((!decide (n7 = (0 : Int))) = true → post n7 H2) ∧ ((!decide (n7 = (0 : Int))) = false → rng
  .i64 (n4 + (1 : Int)) ∧ inv0 (n4 + (1 : Int)) H2 ∧ m1 (n4 + (1 : Int)) < m1 n4)) ∧ (decide (n4 < (↑valsN : Int)) = false → post (0 : Int) H2)) := by kernel_rfl
theorem cmp_Or {H : Heap} {A : Option Addr} {n c : Nat} {l : List Int} (hs : Sl H A n c l) : ConT Tryz.prog 83 [.slice A n c] H shI (fun r _ => r = orI l) := by
  refine con_of_vc (an := an83) (fn := Tryz.f83) mix tabOK Tryz.func83 (by kernel_rfl) (extra := 0) ?_
  rw [vc83]
  refine ⟨fun i _ => 0 ≤ i ∧ i ≤ n ∧ orI l = orI (l.drop i.toNat), fun i => n - i.toNat, ⟨by omega, by omega, rfl⟩, ?_⟩
  rintro H2 hle i ⟨h0, h1, h2⟩
  have hb := hs.bn; have hl := hs.len
  refine ⟨fun hlt => ?_, fun hge => ?_⟩
  · have hlt := of_decide_eq_true hlt
    obtain ⟨hi, hA, _, hc, ⟨rfl, hr⟩⟩ := hs.at hle h0 hlt
    rw [drop_at h0 hi, orI] at h2
    refine ⟨hA, h0, hlt, _, hc, fun hne => ?_, fun he => ⟨by simp only [rng]; omega, ⟨by omega, by omega, ?_⟩, by dsimp only; omega⟩⟩
    · rw [h2, if_pos (by simpa using hne)]
    · rw [h2, if_neg (by simpa using he)]
  · have hge := of_decide_eq_false hge
    rw [drop_end hge hl, orI] at h2
    exact h2.symm
theorem ints_row {H : Heap} {l : List Int} (h : ∀ x ∈ l, rng .i64 x) : Row H (l.map (Value.int .i64)) l := int_row h
theorem Ord3.bd {T : Type} {f : T → T → Int} (h : Ord3 f) (a b : T) : rng .i64 (f a b) := by
  rcases h.sign a b with e | e | e <;> rw [e] <;> decide
def an58 : Ann where
  res := fun _ => none
  lend := fun | 9 => true | 14 => true | 19 => true | 21 => true | _ => false
  sch := fun | 1 => (tk [0, 1, 2, 3, 5, 6, 7, 8, 10, 11, 12, 13] (.alt 4 (.alt 9 (.alt 14 (.alt 15 (.alt 16 (tk [17] .done) .fin) .fin) .fin) .fin) .fin)) | _ => .done
  lt := fun _ => []
  tup := tups

theorem vc58 (P : Program) (H : Heap) (aKind : Int) (aN : Int) (aS : ByteArray) (bKind : Int) (bN : Int) (bS : ByteArray) (post : Int → Heap → Prop) :
  vcFn P tab an58 Tryz.f58 [.agg #[.int .i64 aKind, .int .i64 aN, .string aS], .agg #[.int .i64 bKind, .int .i64 bN, .string bS]] 0 H ⟨false, [(false, [.int .i64])]⟩ post =
  (  ∃ (post0 : Int → Heap → Prop), ConT P 61 [.int .i64 aKind, .int .i64 bKind] H ⟨false, [(false, [.int .i64])]⟩ post0 ∧ ∀ (H1 : Heap), Heap.le H H1 → ∀ (n3 : Int), post0 n3 H1 → ∃ (post5 :
  Int → Heap → Prop), ConT P 89 [.int .i64 aN, .int .i64 bN] H1 ⟨false, [(false, [.int .i64])]⟩ post5 ∧ ∀ (H6 : Heap), Heap.le H1 H6 → ∀ (n8 : Int), post5 n8 H6 → ∃ (post10 : Int → Heap →
  Prop), ConT P 90 [.string aS, .string bS] H6 ⟨false, [(false, [.int .i64])]⟩ post10 ∧ ∀ (H11 : Heap), Heap.le H6 H11 → ∀ (n13 : Int), post10 n13 H11 → ∃ (post15 : Int → Heap → Prop), (∀
  (A16 : Option Addr) (c17 : Nat) (H18 : Heap), Heap.le H11 H18 → Cells H18 A16 0 [.int .i64 n3, .int .i64 n8, .int .i64 n13] → 3 ≤ c17 → ConT P 83 [.slice A16 3 c17] H18 ⟨false, [(false,
  [.int .i64])]⟩ post15) ∧ ∀ (H22 : Heap) (n23 : Int), post15 n23 H22 → post n23 H11) := by kernel_rfl
theorem value_Compare {a b : Val} {H : Heap} : ConT Tryz.prog 58 [.agg ⟨[.int .i64 a.kind, .int .i64 a.n, .string a.s]⟩, .agg ⟨[.int .i64 b.kind, .int .i64 b.n, .string b.s]⟩] H shI (fun r _ => r = cmpV a b) := by
  refine con_of_vc (an := an58) (fn := Tryz.f58) mix tabOK Tryz.func58 (by kernel_rfl) (extra := 0) ?_
  rw [vc58]
  refine ⟨_, cmp_Compare, ?_⟩
  rintro H1 l1 _ rfl
  refine ⟨_, cmp_Compare64, ?_⟩
  rintro H2 l2 _ rfl
  refine ⟨_, strings_Compare, ?_⟩
  rintro H3 l3 _ rfl
  refine ⟨_, fun A c H4 l4 hc hn => cmp_Or (l := [cmpI a.kind b.kind, cmpI a.n b.n, cmpB a.s b.s]) (Row.sl (T := Int) (ints_row ?_) (hle_refl H4) hc rfl hn (by decide) (by decide)), ?_⟩
  · have := cmpI_ord.bd a.kind b.kind; have := cmpI_ord.bd a.n b.n; have := cmpB_ord.bd a.s b.s
    simp [*]
  · rintro H5 _ rfl
    rfl
/- a comparison of elements that a function computes in every grown heap -/
def CmpT (P : Program) (T : Type) [Rep T] (H : Heap) (f : FuncId) (cf : T → T → Int) : Prop :=
  ∀ (H' : Heap) (vs us : List Value) (s t : T), Heap.le H H' → Rep.rel H' vs s → Rep.rel H' us t → ConT P f [.agg ⟨vs⟩, .agg ⟨us⟩] H' shI (fun r _ => r = cf s t)
theorem value_Compare_T (H : Heap) : CmpT Tryz.prog Val H 58 cmpV := by
  rintro H' vs us s t _ ⟨rfl, -⟩ ⟨rfl, -⟩
  exact value_Compare
end Go.Vc
/- Comparing lists of values; the values at columns; periods. -/
namespace Go.Vc
open Go Go.Proofs Go.Shelf
theorem lexI_step {T : Type} {f : T → T → Int} {a b : List T} {i : Nat} (ha : i < a.length) (hb : i < b.length) : lexI f (a.drop i) (b.drop i) = if f a[i] b[i] ≠ 0 then f a[i] b[i] else lexI f (a.drop (i + 1)) (b.drop (i + 1)) := by
  rw [List.drop_eq_getElem_cons ha, List.drop_eq_getElem_cons hb, lexI]
theorem lexI_enda {T : Type} {f : T → T → Int} {a b : List T} {i : Nat} (ha : a.length ≤ i) : lexI f (a.drop i) (b.drop i) = if i < b.length then -1 else 0 := by
  rw [List.drop_eq_nil_of_le ha]
  split
  · rename_i hb; rw [List.drop_eq_getElem_cons hb]; rfl
  · rename_i hb; rw [List.drop_eq_nil_of_le (by omega)]; rfl
theorem lexI_endb {T : Type} {f : T → T → Int} {a b : List T} {i : Nat} (ha : i < a.length) (hb : b.length ≤ i) : lexI f (a.drop i) (b.drop i) = 1 := by
  rw [List.drop_eq_getElem_cons ha, List.drop_eq_nil_of_le hb]; rfl
def an57 : Ann where
  res := fun _ => none
  lend := fun | 29 => true | _ => false
  sch := fun _ => .done
  lt := fun | 2 => [.slot 13 false [.int .i64]] | _ => []
  tup := tups

theorem vc57 (P : Program) (H : Heap) (s1A : Option Addr) (s1N s1C : Nat) (s2A : Option Addr) (s2N s2C : Nat) (cmpF : FuncId) (post : Int → Heap → Prop) :
  vcFn P tab an57 Tryz.f57 [.slice s1A s1N s1C, .slice s2A s2N s2C, .func (.func cmpF) #[] #[]] 0 H ⟨false, [(false, [.int .i64])]⟩ post =
  (  ∃ (inv0 : Int → Heap → Prop), ∃ (m1 : Int → Nat), inv0 (0 : Int) H ∧ ∀ (H2 : Heap), Heap.le H H2 → ∀ (n4 : Int), inv0 n4 H2 → (decide (n4 < (↑s1N : Int)) = true → someA s1A ∧ (0 : Int) ≤ n4
  ∧ n4 < (↑s1N : Int) ∧ ∃ (n7 : Int), ∃ (n8 : Int), ∃ (s9 : ByteArray), Cells H2 s1A (Int.toNat n4 * 3) [.int .i64 n7, .int .i64 n8, .string s9] ∧ (decide ((↑s2N : Int) ≤ n4) = true → post (1
  : Int) H2) ∧ (decide ((↑s2N : Int) ≤ n4) = false → someA s2A ∧ (0 : Int) ≤ n4 ∧ n4 < (↑s2N : Int) ∧ ∃ (n12 : Int), ∃ (n13 : Int), ∃ (s14 : ByteArray), Cells H2 s2A (Int.toNat n4 * 3) [.int
  .i64 n12, .int .i64 n13, .string s14] ∧ ∃ (post15 : Int → Heap → Prop), ConT P cmpF [.agg ⟨[.int .i64 n7, .int .i64 n8, .string s9]⟩, .agg ⟨[.int .i64 n12, .int .i64 n13, .string s14]⟩] H2
  ⟨false, [(false, [.int .i64])]⟩ post15 ∧ ∀ (H16 : Heap), Heap.le H2 H16 → ∀ (n18 : Int), post15 n18 H16 → ((!decide (n18 = (0 : Int))) = true → post n18 H16) ∧ ((!decide (n18 = (0 : Int)))
  = false → rng .i64 (n4 + (1 : Int)) ∧ inv0 (n4 + (1 : Int)) H16 ∧ m1 (n4 + (1 : Int)) < m1 n4))) ∧ (decide (n4 < (↑s1N : Int)) = false → (decide ((↑s1N : Int) < (↑s2N : Int)) = true → post
  (-1 : Int) H2) ∧ (decide ((↑s1N : Int) < (↑s2N : Int)) = false → post (0 : Int) H2))) := by kernel_rfl
theorem CompareFunc_Val {H : Heap} {A B : Option Addr} {n c m d : Nat} {a b : List Val} {g : FuncId} {f : Val → Val → Int} (hs : Sl H A n c a) (ht : Sl H B m d b) (hf : CmpT Tryz.prog Val H g f) :
    ConT Tryz.prog 57 [.slice A n c, .slice B m d, .func (.func g) #[] #[]] H shI (fun r _ => r = lexI f a b) := by
  refine con_of_vc (an := an57) (fn := Tryz.f57) mix tabOK Tryz.func57 (by kernel_rfl) (extra := 0) ?_
  rw [vc57]
  refine ⟨fun i _ => 0 ≤ i ∧ i ≤ n ∧ lexI f a b = lexI f (a.drop i.toNat) (b.drop i.toNat), fun i => n - i.toNat, ⟨by omega, by omega, rfl⟩, ?_⟩
  rintro H2 hle i ⟨h0, h1, h2⟩
  have hb := hs.bn; have hl := hs.len; have hm := ht.len
  refine ⟨fun hlt => ?_, fun hge => ?_⟩
  · have hlt := of_decide_eq_true hlt
    obtain ⟨hi, hA, _, hc, hr⟩ := hs.at hle h0 hlt
    obtain ⟨rfl, q1, q2, q3⟩ := id hr
    refine ⟨hA, h0, hlt, _, _, _, hc, fun hmb => ?_, fun hmb => ?_⟩
    · have hmb := of_decide_eq_true hmb
      rw [h2, lexI_endb hi (by omega)]
    · have hmb := of_decide_eq_false hmb
      obtain ⟨hj, hB, _, hd, hr'⟩ := ht.at hle h0 (by omega)
      obtain ⟨rfl, p1, p2, p3⟩ := id hr'
      refine ⟨hB, h0, by omega, _, _, _, hd, _, hf H2 _ _ _ _ hle hr hr', ?_⟩
      rintro H3 l3 _ rfl
      rw [lexI_step hi hj] at h2
      refine ⟨fun hne => ?_, fun he => ⟨by simp only [rng]; omega, ⟨by omega, by omega, ?_⟩, by dsimp only; omega⟩⟩
      · rw [h2, if_pos (by simpa using hne)]
      · rw [h2, if_neg (by simpa using he), show (i + 1).toNat = i.toNat + 1 by omega]
  · have hge := of_decide_eq_false hge
    rw [lexI_enda (by omega)] at h2
    refine ⟨fun h => ?_, fun h => ?_⟩
    · have := of_decide_eq_true h
      rw [h2, if_pos (by omega)]
    · have := of_decide_eq_false h
      rw [h2, if_neg (by omega)]
def an34 : Ann where
  res := fun _ => none
  lend := fun | 7 => true | _ => false
  sch := fun _ => .done
  lt := fun _ => []
  tup := tups

theorem vc34 (P : Program) (H : Heap) (aA : Option Addr) (aN aC : Nat) (bA : Option Addr) (bN bC : Nat) (post : Int → Heap → Prop) :
  vcFn P tab an34 Tryz.f34 [.slice aA aN aC, .slice bA bN bC] 0 H ⟨false, [(false, [.int .i64])]⟩ post =
  (  ∃ (post0 : Int → Heap → Prop), ConT P 57 [.slice aA aN aC, .slice bA bN bC, .func (.func 58) ⟨[]⟩ ⟨[]⟩] H ⟨false, [(false, [.int .i64])]⟩ post0 ∧ ∀ (H1 : Heap), Heap.le H H1 → ∀ (n3 : Int),
  post0 n3 H1 → post n3 H1) := by kernel_rfl
theorem value_CompareRows {H : Heap} {A B : Option Addr} {n c m d : Nat} {a b : List Val} (hs : Sl H A n c a) (ht : Sl H B m d b) :
    ConT Tryz.prog 34 [.slice A n c, .slice B m d] H shI (fun r _ => r = cmpVs a b) := by
  refine con_of_vc (an := an34) (fn := Tryz.f34) mix tabOK Tryz.func34 (by kernel_rfl) (extra := 0) ?_
  rw [vc34]
  exact ⟨_, CompareFunc_Val hs ht (value_Compare_T H), fun _ _ _ h => h⟩
def val0 : Val := ⟨0, 0, ⟨#[]⟩⟩
def keyVal (vals : List Val) (c : Int) : Val := if 0 ≤ c then vals.getD c.toNat val0 else val0
def keyVals (vals : List Val) (cols : List Int) : List Val := cols.map (keyVal vals)
theorem kv_skip {vals : List Val} {cols : List Int} {m i : Nat} (hi : i < cols.length) (hm : cols.length = m) (hv : keyVal vals cols[i] = val0) :
    keyVals vals (cols.take i) ++ List.replicate (m - i) val0 = keyVals vals (cols.take (i + 1)) ++ List.replicate (m - (i + 1)) val0 := by
  rw [List.take_succ_eq_append_getElem hi, keyVals, keyVals, List.map_append, show m - i = (m - (i + 1)) + 1 by omega, List.replicate_succ]
  simp [hv]
theorem kv_set {vals : List Val} {cols : List Int} {m i : Nat} (hi : i < cols.length) (hm : cols.length = m) {v : Val} (hv : keyVal vals cols[i] = v) :
    (keyVals vals (cols.take i) ++ List.replicate (m - i) val0).set i v = keyVals vals (cols.take (i + 1)) ++ List.replicate (m - (i + 1)) val0 := by
  rw [List.take_succ_eq_append_getElem hi, keyVals, keyVals, List.map_append, show m - i = (m - (i + 1)) + 1 by omega, List.replicate_succ]
  have hl : ((cols.take i).map (keyVal vals)).length = i := by simp; omega
  rw [List.set_append_right _ _ (by omega), hl, Nat.sub_self]
  simp [hv]
def an19 : Ann where
  res := fun _ => none
  lend := fun _ => false
  sch := fun _ => .done
  lt := fun | 3 => [.slot 5 false [.row 35 69], .slot 13 false [.int .i64]] | _ => []
  tup := tups

theorem vc19 (P : Program) (H : Heap) (valsA : Option Addr) (valsN valsC : Nat) (colsA : Option Addr) (colsN colsC : Nat) (post : Option Addr → Nat → Nat → Heap → Prop) :
  vcFn P tab an19 Tryz.f19 [.slice valsA valsN valsC, .slice colsA colsN colsC] 1 H ⟨false, [(false, [.sl])]⟩ post =
  (  (↑colsN : Int) = (↑colsN : Int) ∧ (0 : Int) ≤ (↑colsN : Int) ∧ (↑colsN : Int) * (↑32 : Int) ≤ (140737488355328 : Int) ∧ ∀ (xs0 : List Value), xs0 = repl [.int .i64 (0 : Int), .int .i64 (0 :
  Int), .string ⟨⟨[]⟩⟩] (Int.toNat (↑colsN : Int)) → ∃ (inv2 : Nat → List Value → Int → Heap → Prop), ∃ (m3 : Nat → List Value → Int → Nat), inv2 (Int.toNat (↑colsN : Int)) xs0 (0 : Int) H ∧
  ∀ (H4 : Heap), Heap.le H H4 → ∀ (n6 : Nat) (xs7 : List Value) (n8 : Int), inv2 n6 xs7 n8 H4 → (decide (n8 < (↑colsN : Int)) = true → someA colsA ∧ (0 : Int) ≤ n8 ∧ n8 < (↑colsN : Int) ∧ ∃
  (n11 : Int), Cells H4 colsA (Int.toNat n8 * 1) [.int .i64 n11] ∧ (decide ((0 : Int) ≤ n11) = true → (decide (n11 < (↑valsN : Int)) = true → someA valsA ∧ (0 : Int) ≤ n11 ∧ n11 < (↑valsN :
  Int) ∧ ∃ (n14 : Int), ∃ (n15 : Int), ∃ (s16 : ByteArray), Cells H4 valsA (Int.toNat n11 * 3) [.int .i64 n14, .int .i64 n15, .string s16] ∧ (0 : Int) ≤ n8 ∧ n8 < (↑n6 : Int) ∧ Int.toNat n8 *
  3 + 3 ≤ List.length xs7 ∧ rng .i64 (n8 + (1 : Int)) ∧ inv2 n6 (splice xs7 (Int.toNat n8 * 3) [.int .i64 n14, .int .i64 n15, .string s16]) (n8 + (1 : Int)) H4 ∧ m3 n6 (splice xs7 (Int.toNat
  n8 * 3) [.int .i64 n14, .int .i64 n15, .string s16]) (n8 + (1 : Int)) < m3 n6 xs7 n8) ∧ (decide (n11 < (↑valsN : Int)) = false → rng .i64 (n8 + (1 : Int)) ∧ inv2 n6 xs7 (n8 + (1 : Int)) H4
  ∧ m3 n6 xs7 (n8 + (1 : Int)) < m3 n6 xs7 n8)) ∧ (decide ((0 : Int) ≤ n11) = false → rng .i64 (n8 + (1 : Int)) ∧ inv2 n6 xs7 (n8 + (1 : Int)) H4 ∧ m3 n6 xs7 (n8 + (1 : Int)) < m3 n6 xs7 n8))
  ∧ (decide (n8 < (↑colsN : Int)) = false → ∀ (A20 : Option Addr) (c21 : Nat) (H22 : Heap), Heap.le H4 H22 → Cells H22 A20 0 xs7 → n6 ≤ c21 → post A20 n6 c21 H22)) := by kernel_rfl
theorem keys_Values {H : Heap} {A B : Option Addr} {n c m d : Nat} {vals : List Val} {cols : List Int} (hs : Sl H A n c vals) (ht : Sl H B m d cols) (hb : m * 32 ≤ 140737488355328) :
    ConT Tryz.prog 19 [.slice A n c, .slice B m d] H shS (fun A' n' c' H' => Sl H' A' n' c' (keyVals vals cols)) := by
  refine con_of_vc (an := an19) (fn := Tryz.f19) mix tabOK Tryz.func19 (by kernel_rfl) (extra := 1) ?_
  rw [vc19]
  have hbn := ht.bn; have hl := hs.len; have hm := ht.len
  refine ⟨rfl, by omega, by simpa using (by omega : (m : Int) * 32 ≤ 140737488355328), ?_⟩
  rintro xs rfl
  refine ⟨fun k xs i H' => 0 ≤ i ∧ i ≤ m ∧ k = m ∧ Row H' xs (keyVals vals (cols.take i.toNat) ++ List.replicate (m - i.toNat) val0), fun _ _ i => m - i.toNat, ⟨by omega, by omega, by omega, ?_⟩, ?_⟩
  · simp only [Int.toNat_natCast, List.take_zero, keyVals, List.map_nil, List.nil_append, Int.toNat_zero, Nat.sub_zero]
    exact Row.zeros (H := H) (T := Val) (t := val0) (show Rep.rel H _ val0 from ⟨rfl, by decide, by decide, by unfold str val0; decide⟩) m
  rintro H2 hle k xs i ⟨h0, h1, rfl, hr⟩
  have hrl := hr.length
  have hlen : (keyVals vals (cols.take i.toNat) ++ List.replicate (k - i.toNat) val0).length = k := by simp [keyVals]; omega
  have e1 : (i + 1).toNat = i.toNat + 1 := by omega
  refine ⟨fun hlt => ?_, fun hge => ?_⟩
  · have hlt := of_decide_eq_true hlt
    obtain ⟨hi, hA, _, hc, ⟨rfl, -⟩⟩ := ht.at hle h0 hlt
    have skip : keyVal vals cols[i.toNat] = val0 → rng .i64 (i + 1) ∧ (0 ≤ i + 1 ∧ i + 1 ≤ k ∧ k = k ∧ Row H2 xs (keyVals vals (cols.take (i + 1).toNat) ++ List.replicate (k - (i + 1).toNat) val0)) ∧ k - (i + 1).toNat < k - i.toNat := fun hv =>
      ⟨by simp only [rng]; omega, ⟨by omega, by omega, rfl, by rw [e1, ← kv_skip hi hm hv]; exact hr⟩, by omega⟩
    refine ⟨hA, h0, hlt, _, hc, fun hp => ⟨fun hq => ?_, fun hq => ?_⟩, fun hp => ?_⟩
    · have hp := of_decide_eq_true hp; have hq := of_decide_eq_true hq
      obtain ⟨hj, hB, _, hd, hv⟩ := hs.at hle hp hq
      have hset := hr.setw (i := i.toNat) (by omega) hv
      obtain ⟨rfl, q1, q2, q3⟩ := hv
      refine ⟨hB, hp, hq, _, _, _, hd, h0, by omega, ?_, by simp only [rng]; omega, ⟨by omega, by omega, rfl, ?_⟩, by dsimp only; omega⟩
      · rw [hrl, hlen]
        show i.toNat * 3 + 3 ≤ k * 3
        omega
      · rw [kv_set hi hm (v := vals[cols[i.toNat].toNat]) (by unfold keyVal; rw [if_pos hp, List.getD_eq_getElem?_getD, List.getElem?_eq_getElem hj]; rfl), ← e1] at hset
        exact hset
    · have hp := of_decide_eq_true hp; have hq := of_decide_eq_false hq
      exact skip (by unfold keyVal; rw [if_pos hp, List.getD_eq_getElem?_getD, List.getElem?_eq_none (by omega)]; rfl)
    · have hp := of_decide_eq_false hp
      exact skip (by unfold keyVal; rw [if_neg hp])
  · have hge := of_decide_eq_false hge
    intro A2 c2 H3 l3 hc2 hn2
    have : keyVals vals (cols.take i.toNat) ++ List.replicate (k - i.toNat) val0 = keyVals vals cols := by
      rw [show k - i.toNat = 0 by omega, List.take_of_length_le (by omega)]; simp
    rw [this] at hr
    exact hr.sl l3 hc2 (by simp [keyVals]; omega) hn2 hb hbn
def an39 : Ann where
  res := fun _ => none
  lend := fun _ => false
  sch := fun _ => .done
  lt := fun _ => []
  tup := tups

theorem vc39 (P : Program) (H : Heap) (pFrom : Int) (pTo : Int) (post : Bool → Heap → Prop) :
  vcFn P tab an39 Tryz.f39 [.agg #[.int .i64 pFrom, .int .i64 pTo]] 0 H ⟨false, [(false, [.bool])]⟩ post =
  (  (decide ((0 : Int) ≤ pFrom) = true → (decide (pFrom < pTo) = true → post (decide (pTo ≤ (1099511627776 : Int))) H) ∧ (decide (pFrom < pTo) = false → post false H)) ∧ (decide ((0 : Int) ≤
  pFrom) = false → post false H)) := by kernel_rfl
theorem period_Valid {a b : Int} {H : Heap} : ConT Tryz.prog 39 [.agg ⟨[.int .i64 a, .int .i64 b]⟩] H shB (fun r _ => r = pOk ⟨a, b⟩) := by
  refine con_of_vc (an := an39) (fn := Tryz.f39) mix tabOK Tryz.func39 (by kernel_rfl) (extra := 0) ?_
  rw [vc39]
  grind [pOk]
end Go.Vc
/- Merging in place: plain law. -/
namespace Go.Vc
open Go Go.RowKit Go.Shelf Go.Proofs Go.Sort
section
variable {T : Type}
theorem set2 {A B C : List T} {x y : T} {a b : Nat} (ha : a = A.length) (hb : b = A.length + 1 + B.length) : ∃ (h1 : a < (A ++ x :: (B ++ y :: C)).length) (h2 : b < (A ++ x :: (B ++ y :: C)).length),
    ((A ++ x :: (B ++ y :: C)).set a (A ++ x :: (B ++ y :: C))[b]).set b (A ++ x :: (B ++ y :: C))[a] = A ++ y :: (B ++ x :: C) := by
  subst ha hb
  refine ⟨by simp, by simp; omega, ?_⟩
  have e1 : (A ++ x :: (B ++ y :: C))[A.length]'(by simp) = x := by simp
  have e2 : (A ++ x :: (B ++ y :: C))[A.length + 1 + B.length]'(by simp; omega) = y := by
    rw [List.getElem_append_right (by omega)]
    have : A.length + 1 + B.length - A.length = B.length + 1 := by omega
    simp only [this, List.getElem_cons_succ]
    simp
  rw [e1, e2]
  rw [List.set_append_right _ _ (by omega), Nat.sub_self, List.set_cons_zero, List.set_append_right _ _ (by omega)]
  have : A.length + 1 + B.length - A.length = B.length + 1 := by omega
  rw [this, List.set_cons_succ, List.set_append_right _ _ (by omega), Nat.sub_self, List.set_cons_zero]
def swapL (X p r q Y : List T) (i : Nat) : List T := X ++ (q.take i ++ p.drop i) ++ r ++ (p.take i ++ q.drop i) ++ Y
theorem swapL_zero (X p r q Y : List T) : swapL X p r q Y 0 = X ++ p ++ r ++ q ++ Y := by simp [swapL]
theorem swapL_end {X p r q Y : List T} (h : p.length = q.length) : swapL X p r q Y p.length = X ++ q ++ r ++ p ++ Y := by
  unfold swapL
  have h1 : q.take p.length = q := List.take_of_length_le (by omega)
  have h2 : p.drop p.length = [] := List.drop_eq_nil_of_le (Nat.le_refl _)
  have h3 : p.take p.length = p := List.take_of_length_le (Nat.le_refl _)
  have h4 : q.drop p.length = [] := List.drop_eq_nil_of_le (by omega)
  rw [h1, h2, h3, h4, List.append_nil, List.append_nil]
theorem swapL_step {X p r q Y : List T} {i : Nat} (h : p.length = q.length) (hi : i < p.length) {a b : Nat} (ha : a = X.length + i) (hb : b = X.length + p.length + r.length + i) :
    ∃ (h1 : a < (swapL X p r q Y i).length) (h2 : b < (swapL X p r q Y i).length), ((swapL X p r q Y i).set a (swapL X p r q Y i)[b]).set b (swapL X p r q Y i)[a] = swapL X p r q Y (i + 1) := by
  have hq : i < q.length := by omega
  have e : swapL X p r q Y i = (X ++ q.take i) ++ p[i] :: ((p.drop (i + 1) ++ r ++ p.take i) ++ q[i] :: (q.drop (i + 1) ++ Y)) := by
    unfold swapL
    rw [List.drop_eq_getElem_cons hi, List.drop_eq_getElem_cons hq]
    simp only [List.append_assoc, List.cons_append, List.nil_append]
  have e2 : swapL X p r q Y (i + 1) = (X ++ q.take i) ++ q[i] :: ((p.drop (i + 1) ++ r ++ p.take i) ++ p[i] :: (q.drop (i + 1) ++ Y)) := by
    unfold swapL
    rw [List.take_succ_eq_append_getElem hi, List.take_succ_eq_append_getElem hq]
    simp only [List.append_assoc, List.cons_append, List.nil_append]
  rw [e2]
  simp only [e]
  exact set2 (by simp; omega) (by simp; omega)
/- one element that goes through a block -/
def moveL (X q : List T) (x : T) (Y : List T) (t : Nat) : List T := X ++ (q.take t ++ x :: q.drop t) ++ Y
theorem moveL_up {X q : List T} {x : T} {Y : List T} {t : Nat} (ht : t < q.length) {a b : Nat} (ha : a = X.length + t) (hb : b = a + 1) :
    ∃ (h1 : a < (moveL X q x Y t).length) (h2 : b < (moveL X q x Y t).length), ((moveL X q x Y t).set a (moveL X q x Y t)[b]).set b (moveL X q x Y t)[a] = moveL X q x Y (t + 1) := by
  have e : moveL X q x Y t = (X ++ q.take t) ++ x :: ([] ++ q[t] :: (q.drop (t + 1) ++ Y)) := by
    unfold moveL
    rw [List.drop_eq_getElem_cons ht]
    simp only [List.append_assoc, List.cons_append, List.nil_append]
  have e2 : moveL X q x Y (t + 1) = (X ++ q.take t) ++ q[t] :: ([] ++ x :: (q.drop (t + 1) ++ Y)) := by
    unfold moveL
    rw [List.take_succ_eq_append_getElem ht]
    simp only [List.append_assoc, List.cons_append, List.nil_append]
  rw [e2]
  simp only [e]
  exact set2 (by simp; omega) (by simp; omega)
theorem set_comm2 {l : List T} {a b : Nat} {x y : T} (h : a ≠ b) : (l.set a x).set b y = (l.set b y).set a x := List.set_comm _ _ h
theorem moveL_down {X q : List T} {x : T} {Y : List T} {t : Nat} (h0 : 0 < t) (ht : t ≤ q.length) {a b : Nat} (ha : a = X.length + t) (hb : b + 1 = a) :
    ∃ (h1 : a < (moveL X q x Y t).length) (h2 : b < (moveL X q x Y t).length), ((moveL X q x Y t).set a (moveL X q x Y t)[b]).set b (moveL X q x Y t)[a] = moveL X q x Y (t - 1) := by
  have htl : t - 1 < q.length := by omega
  have e : moveL X q x Y t = (X ++ q.take (t - 1)) ++ q[t - 1] :: ([] ++ x :: (q.drop t ++ Y)) := by
    have h1 : q.take t = q.take (t - 1) ++ [q[t - 1]] := by
      have := List.take_succ_eq_append_getElem htl
      rwa [show t - 1 + 1 = t by omega] at this
    unfold moveL
    rw [h1]
    simp only [List.append_assoc, List.cons_append, List.nil_append]
  have e2 : moveL X q x Y (t - 1) = (X ++ q.take (t - 1)) ++ x :: ([] ++ q[t - 1] :: (q.drop t ++ Y)) := by
    have h1 : q.drop (t - 1) = q[t - 1] :: q.drop t := by
      have := List.drop_eq_getElem_cons htl
      rwa [show t - 1 + 1 = t by omega] at this
    unfold moveL
    rw [h1]
    simp only [List.append_assoc, List.cons_append, List.nil_append]
  rw [e2]
  simp only [e]
  obtain ⟨h1, h2, h3⟩ := set2 (A := X ++ q.take (t - 1)) (B := []) (C := q.drop t ++ Y) (x := q[t - 1]) (y := x) (a := b) (b := a) (by simp; omega) (by simp; omega)
  exact ⟨h2, h1, by rw [set_comm2 (by omega)]; exact h3⟩
theorem moveL_len {X q : List T} {x : T} {Y : List T} (t : Nat) : (moveL X q x Y t).length = X.length + 1 + q.length + Y.length := by
  have := congrArg List.length (List.take_append_drop t q)
  simp only [List.length_append] at this
  simp only [moveL, List.length_append, List.length_cons]; omega
theorem swapL_len {X p r q Y : List T} (t : Nat) : (swapL X p r q Y t).length = (X ++ p ++ r ++ q ++ Y).length := by
  have := congrArg List.length (List.take_append_drop t q)
  have := congrArg List.length (List.take_append_drop t p)
  simp only [List.length_append] at *
  simp only [swapL, List.length_append]; omega
def srt (cf : T → T → Int) (l : List T) : Prop := l.Pairwise (fun a b => ¬ cf b a < 0)
variable {cf : T → T → Int} (hO : Sort.SWO (ltOf cf))
include hO
theorem lt_irr (x : T) : ¬ cf x x < 0 := by have := hO.irrefl x; simpa [ltOf] using this
theorem lt_trn {x y z : T} (h1 : cf x y < 0) (h2 : cf y z < 0) : cf x z < 0 := by
  have := hO.trans (x := x) (y := y) (z := z)
  simpa [ltOf, h1, h2] using this
theorem lt_ntr {x y z : T} (h1 : ¬ cf x y < 0) (h2 : ¬ cf y z < 0) : ¬ cf x z < 0 := by
  have := hO.ntrans (x := x) (y := y) (z := z)
  simpa [ltOf, h1, h2] using this
theorem lt_asm {x y : T} (h1 : cf x y < 0) : ¬ cf y x < 0 := fun h2 => lt_irr hO x (lt_trn hO h1 h2)
/- in a sorted list: what holds at the border holds on the whole side -/
theorem srt_low {l : List T} (hs : srt cf l) {x : T} {i : Nat} (hi : i < l.length) (h : ¬ cf x l[i] < 0) : ∀ y ∈ l.take (i + 1), ¬ cf x y < 0 := by
  intro y hy
  obtain ⟨j, hj, rfl⟩ := List.getElem_of_mem hy
  rw [List.length_take] at hj
  rw [List.getElem_take]
  rcases Nat.lt_or_ge j i with h1 | h1
  · exact lt_ntr hO h (List.pairwise_iff_getElem.1 hs j i (by omega) hi h1)
  · have : j = i := by omega
    subst this; exact h
theorem srt_high {l : List T} (hs : srt cf l) {x : T} {i : Nat} (hi : i < l.length) (h : ¬ cf l[i] x < 0) : ∀ y ∈ l.drop i, ¬ cf y x < 0 := by
  intro y hy
  obtain ⟨j, hj, rfl⟩ := List.getElem_of_mem hy
  rw [List.length_drop] at hj
  rw [List.getElem_drop]
  rcases Nat.eq_zero_or_pos j with h1 | h1
  · subst h1; exact h
  · exact lt_ntr hO (List.pairwise_iff_getElem.1 hs i (i + j) hi (by omega) (by omega)) h
omit hO in
theorem srt_app {a b : List T} (ha : srt cf a) (hb : srt cf b) (h : ∀ x ∈ a, ∀ y ∈ b, ¬ cf y x < 0) : srt cf (a ++ b) := List.pairwise_append.2 ⟨ha, hb, h⟩
omit hO in
theorem srt_split {a b : List T} (h : srt cf (a ++ b)) : srt cf a ∧ srt cf b ∧ ∀ x ∈ a, ∀ y ∈ b, ¬ cf y x < 0 := List.pairwise_append.1 h
/- an element put in between -/
theorem srt_ins {l : List T} (hs : srt cf l) {x : T} {i : Nat} (hi : i ≤ l.length) (h1 : ∀ y ∈ l.take i, ¬ cf x y < 0) (h2 : ∀ y ∈ l.drop i, ¬ cf y x < 0) : srt cf (l.take i ++ x :: l.drop i) := by
  have := hs
  rw [← List.take_append_drop i l] at this
  obtain ⟨a, b, c⟩ := srt_split this
  refine srt_app a (List.pairwise_cons.2 ⟨h2, b⟩) fun y hy z hz => ?_
  rcases List.mem_cons.1 hz with rfl | hz
  · exact h1 y hy
  · exact c y hy z hz
theorem srt_insL {l : List T} (hs : srt cf l) {x : T} {i : Nat} (hi : i ≤ l.length) (h1 : ∀ j, j + 1 = i → ∀ h : j < l.length, cf l[j] x < 0) (h2 : ∀ h : i < l.length, ¬ cf l[i] x < 0) : srt cf (l.take i ++ x :: l.drop i) := by
  refine srt_ins hO hs hi ?_ ?_
  · cases i with
    | zero => intro y hy; simp at hy
    | succ j => exact srt_low hO hs (by omega) (lt_asm hO (h1 j rfl (by omega)))
  · rcases Nat.lt_or_ge i l.length with h | h
    · exact srt_high hO hs h (h2 h)
    · intro y hy; rw [List.drop_eq_nil_of_le h] at hy; cases hy
theorem srt_insR {l : List T} (hs : srt cf l) {x : T} {i : Nat} (hi : i ≤ l.length) (h1 : ∀ j, j + 1 = i → ∀ h : j < l.length, ¬ cf x l[j] < 0) (h2 : ∀ h : i < l.length, cf x l[i] < 0) : srt cf (l.take i ++ x :: l.drop i) := by
  refine srt_ins hO hs hi ?_ ?_
  · cases i with
    | zero => intro y hy; simp at hy
    | succ j => exact srt_low hO hs (by omega) (h1 j rfl (by omega))
  · rcases Nat.lt_or_ge i l.length with h | h
    · exact srt_high hO hs h (lt_asm hO (h2 h))
    · intro y hy; rw [List.drop_eq_nil_of_le h] at hy; cases hy
/- the two halves of a symmetric merge -/
theorem sym_cross {p q : List T} (hp : srt cf p) (hq : srt cf q) {i j : Nat} (hi : i ≤ p.length) (hj : j ≤ q.length)
    (h1 : ∀ k, k + 1 = i → ∀ (hk : k < p.length) (hj : j < q.length), ¬ cf q[j] p[k] < 0) (h2 : ∀ k, k + 1 = j → ∀ (hi : i < p.length) (hk : k < q.length), cf q[k] p[i] < 0) :
    ∀ x ∈ p.take i ++ q.take j, ∀ y ∈ p.drop i ++ q.drop j, ¬ cf y x < 0 := by
  have sp := hp; have sq := hq
  rw [← List.take_append_drop i p] at sp
  rw [← List.take_append_drop j q] at sq
  obtain ⟨-, -, c1⟩ := srt_split sp
  obtain ⟨-, -, c2⟩ := srt_split sq
  intro x hx y hy
  rcases List.mem_append.1 hx with gx | gx <;> rcases List.mem_append.1 hy with gy | gy
  · exact c1 x gx y gy
  · cases i with
    | zero => simp at gx
    | succ k =>
      rcases Nat.lt_or_ge j q.length with h | h
      · have h0 := h1 k rfl (by omega) h
        have h3 := srt_low hO hp (by omega) h0 x gx
        obtain ⟨t, ht, rfl⟩ := List.getElem_of_mem gy
        rw [List.length_drop] at ht
        rw [List.getElem_drop]
        rcases Nat.eq_zero_or_pos t with h4 | h4
        · subst h4; exact h3
        · exact lt_ntr hO (List.pairwise_iff_getElem.1 hq j (j + t) h (by omega) (by omega)) h3
      · rw [List.drop_eq_nil_of_le h] at gy; cases gy
  · cases j with
    | zero => simp at gx
    | succ k =>
      rcases Nat.lt_or_ge i p.length with h | h
      · have h0 := lt_asm hO (h2 k rfl h (by omega))
        have h3 := srt_low hO hq (by omega) h0 x gx
        obtain ⟨t, ht, rfl⟩ := List.getElem_of_mem gy
        rw [List.length_drop] at ht
        rw [List.getElem_drop]
        rcases Nat.eq_zero_or_pos t with h4 | h4
        · subst h4; exact h3
        · exact lt_ntr hO (List.pairwise_iff_getElem.1 hp i (i + t) h (by omega) (by omega)) h3
      · rw [List.drop_eq_nil_of_le h] at gy; cases gy
  · exact c2 x gx y gy
end
/- runs of one length -/
section
variable {T : Type}
def seg (l : List T) (i j : Nat) : List T := (l.take j).drop i
theorem seg_out {X w w' Y : List T} (h : w.length = w'.length) {i j : Nat} (hij : j ≤ X.length ∨ X.length + w.length ≤ i) : seg (X ++ w' ++ Y) i j = seg (X ++ w ++ Y) i j := by
  apply List.ext_getElem?
  intro k
  unfold seg
  rw [List.getElem?_drop, List.getElem?_drop]
  by_cases hk : i + k < j
  · rw [List.getElem?_take_of_lt hk, List.getElem?_take_of_lt hk]
    rcases hij with h1 | h1
    · rw [List.append_assoc, List.append_assoc, List.getElem?_append_left (by omega), List.getElem?_append_left (by omega)]
    · rw [List.getElem?_append_right (by simp; omega), List.getElem?_append_right (by simp; omega)]
      simp [h]
  · rw [List.getElem?_eq_none (by rw [List.length_take]; omega), List.getElem?_eq_none (by rw [List.length_take]; omega)]
theorem seg_mid {X w Y : List T} {i j : Nat} (hi : i = X.length) (hj : j = X.length + w.length) : seg (X ++ w ++ Y) i j = w := by
  subst hi hj
  unfold seg
  rw [← List.length_append, List.take_left, List.drop_left]
theorem seg_three (l : List T) {i j : Nat} (hij : i ≤ j) : l = l.take i ++ seg l i j ++ l.drop j := by
  have h1 : l.take i = (l.take j).take i := by rw [List.take_take, Nat.min_eq_left hij]
  unfold seg
  rw [h1, List.take_append_drop, List.take_append_drop]
theorem seg_len (l : List T) (i : Nat) {j : Nat} (hj : j ≤ l.length) : (seg l i j).length = j - i := by
  unfold seg; rw [List.length_drop, List.length_take, Nat.min_eq_left hj]
theorem seg_cut (l : List T) {i k j : Nat} (h1 : i ≤ k) (h2 : k ≤ j) : seg l i j = seg l i k ++ seg l k j := by
  have e : l.take k = (l.take j).take k := by rw [List.take_take, Nat.min_eq_left h2]
  unfold seg
  rw [e]
  generalize l.take j = m
  have : m = m.take k ++ m.drop k := (List.take_append_drop k m).symm
  rcases Nat.lt_or_ge m.length k with h | h
  · rw [List.take_of_length_le (by omega), List.drop_eq_nil_of_le (by omega : m.length ≤ k), List.append_nil]
  · conv => lhs; rw [this]
    rw [List.drop_append_of_le_length (by rw [List.length_take]; omega)]
theorem seg_far (l : List T) {i j : Nat} (h : l.length ≤ i) : seg l i j = [] := by
  unfold seg
  exact List.drop_eq_nil_of_le (by rw [List.length_take]; omega)
theorem seg_end (l : List T) (i : Nat) {j k : Nat} (hj : l.length ≤ j) (hk : l.length ≤ k) : seg l i j = seg l i k := by
  unfold seg; rw [List.take_of_length_le hj, List.take_of_length_le hk]
end
end Go.Vc
/- Merging in place: the recursion's conditions. -/
namespace Go.Vc
open Go Go.RowKit Go.Shelf Go.Proofs Go.Sort
theorem half_u {i j : Int} (h0 : 0 ≤ i + j) (h1 : i + j ≤ 1000000000000000) : IntKind.wrap .u64 (i + j) = i + j := wrap_in (by simp only [rng]; omega)
theorem half_i {x : Int} (h0 : 0 ≤ x) (h1 : x ≤ 1000000000000000) : IntKind.wrap .i64 (Int.fdiv x 2) = x / 2 := by
  rw [Int.fdiv_eq_ediv_of_nonneg _ (by decide)]
  exact wrap_in (by simp only [rng]; omega)
def SymT3 (P : Program) (f : FuncId) (ty : TypeId) (g : FuncId) (N : Nat) (s0 : Value) (mid e b : Int) (post : List Value → Heap → Prop) (ys : List Value) (H : Heap) : Prop :=
  (decide (mid < e) = true → (decide (e < b) = true → ∃ (p1 : List Value → Heap → Prop), ConM P f [.slice none 0 0, .int .i64 mid, .int .i64 e, .int .i64 b, .func (.func g) #[] #[]] 0 ty N ys true H ⟨true, []⟩ p1 ∧ ∀ (H1 : Heap), Heap.le H H1 → ∀ (zs : List Value), p1 zs H1 → s0 = s0 ∧ N = N ∧ post zs H1) ∧ (decide (e < b) = false → s0 = s0 ∧ N = N ∧ post ys H)) ∧ (decide (mid < e) = false → s0 = s0 ∧ N = N ∧ post ys H)
def SymT2 (P : Program) (f : FuncId) (ty : TypeId) (g : FuncId) (N : Nat) (s0 : Value) (a s mid e b : Int) (post : List Value → Heap → Prop) (ys : List Value) (H : Heap) : Prop :=
  (decide (a < s) = true → (decide (s < mid) = true → ∃ (p1 : List Value → Heap → Prop), ConM P f [.slice none 0 0, .int .i64 a, .int .i64 s, .int .i64 mid, .func (.func g) #[] #[]] 0 ty N ys true H ⟨true, []⟩ p1 ∧ ∀ (H1 : Heap), Heap.le H H1 → ∀ (zs : List Value), p1 zs H1 → SymT3 P f ty g N s0 mid e b post zs H1) ∧ (decide (s < mid) = false → SymT3 P f ty g N s0 mid e b post ys H)) ∧ (decide (a < s) = false → SymT3 P f ty g N s0 mid e b post ys H)
def SymT1 (P : Program) (f rot : FuncId) (ty : TypeId) (g : FuncId) (N : Nat) (s0 : Value) (a s m mid e b : Int) (post : List Value → Heap → Prop) (ys : List Value) (H : Heap) : Prop :=
  (decide (s < m) = true → (decide (m < e) = true → ∃ (p1 : List Value → Heap → Prop), ConM P rot [.slice none 0 0, .int .i64 s, .int .i64 m, .int .i64 e, .func (.func g) #[] #[]] 0 ty N ys true H ⟨true, []⟩ p1 ∧ ∀ (H1 : Heap), Heap.le H H1 → ∀ (zs : List Value), p1 zs H1 → SymT2 P f ty g N s0 a s mid e b post zs H1) ∧ (decide (m < e) = false → SymT2 P f ty g N s0 a s mid e b post ys H)) ∧ (decide (s < m) = false → SymT2 P f ty g N s0 a s mid e b post ys H)
section
variable {P : Program} {f rot : FuncId} {ty : TypeId} {g : FuncId} {T : Type} [Rep T] {cf : T → T → Int} {N : Nat} {s0 : Value}
/- what the function does to what is not longer than k -/
def SymIH (P : Program) (f : FuncId) (ty : TypeId) (g : FuncId) {T : Type} [Rep T] (cf : T → T → Int) (N : Nat) (H0 : Heap) (k : Nat) : Prop :=
  ∀ (H : Heap) (xs : List Value) (X p q Y : List T) (a m b : Int), Heap.le H0 H → p.length + q.length ≤ k → Row H xs (X ++ p ++ q ++ Y) → (X ++ p ++ q ++ Y).length = N → p ≠ [] → q ≠ [] → srt cf p → srt cf q → a = X.length → m = a + p.length → b = m + q.length →
    ConM P f [.slice none 0 0, .int .i64 a, .int .i64 m, .int .i64 b, .func (.func g) #[] #[]] 0 ty N xs true H ⟨true, []⟩ (fun ys (H' : Heap) => ∃ w : List T, Row H' ys (X ++ w ++ Y) ∧ w.Perm (p ++ q) ∧ srt cf w)
def RotC (P : Program) (rot : FuncId) (ty : TypeId) (g : FuncId) (T : Type) [Rep T] (N : Nat) (H0 : Heap) : Prop :=
  ∀ (H : Heap) (xs : List Value) (X p q Y : List T) (a m b : Int), Heap.le H0 H → Row H xs (X ++ p ++ q ++ Y) → (X ++ p ++ q ++ Y).length = N → p ≠ [] → q ≠ [] → a = X.length → m = a + p.length → b = m + q.length →
    ConM P rot [.slice none 0 0, .int .i64 a, .int .i64 m, .int .i64 b, .func (.func g) #[] #[]] 0 ty N xs true H ⟨true, []⟩ (fun ys (H' : Heap) => Row H' ys (X ++ q ++ p ++ Y))
theorem symT3_ok {H0 H : Heap} {k : Nat} (ih : SymIH P f ty g cf N H0 k) (hle : Heap.le H0 H) {ys : List Value} {X w u v Y : List T} {mid e b : Int} {W : List T} (hr : Row H ys (X ++ w ++ u ++ v ++ Y)) (hN : (X ++ w ++ u ++ v ++ Y).length = N) (hk : u.length + v.length ≤ k)
    (hu : srt cf u) (hv : srt cf v) (hw : srt cf w) (hx : ∀ x ∈ w, ∀ y ∈ u ++ v, ¬ cf y x < 0) (hW : (w ++ (u ++ v)).Perm W) (hmid : mid = X.length + w.length) (he : e = mid + u.length) (hb : b = e + v.length) :
    SymT3 P f ty g N s0 mid e b (fun ys (H' : Heap) => ∃ w : List T, Row H' ys (X ++ w ++ Y) ∧ w.Perm W ∧ srt cf w) ys H := by
  have done : ∀ {H1 : Heap} {zs : List Value} {w2 : List T}, Row H1 zs (X ++ w ++ w2 ++ Y) → w2.Perm (u ++ v) → srt cf w2 → ∃ w : List T, Row H1 zs (X ++ w ++ Y) ∧ w.Perm W ∧ srt cf w := by
    intro H1 zs w2 h1 h2 h3
    refine ⟨w ++ w2, by rw [← List.append_assoc X]; exact h1, (List.Perm.append_left _ h2).trans hW, srt_app hw h3 fun x hx' y hy => hx x hx' y (h2.mem_iff.1 hy)⟩
  have stay : (u = [] ∨ v = []) → ∃ w : List T, Row H ys (X ++ w ++ Y) ∧ w.Perm W ∧ srt cf w := by
    intro h
    refine done (w2 := u ++ v) (by rw [← List.append_assoc (X ++ w)]; exact hr) (List.Perm.refl _) ?_
    rcases h with rfl | rfl
    · simpa using hv
    · simpa using hu
  refine ⟨fun h1 => ⟨fun h2 => ?_, fun h2 => ⟨rfl, rfl, stay (.inr (List.eq_nil_of_length_eq_zero (by have := of_decide_eq_false h2; omega)))⟩⟩, fun h1 => ⟨rfl, rfl, stay (.inl (List.eq_nil_of_length_eq_zero (by have := of_decide_eq_false h1; omega)))⟩⟩
  have h1 := of_decide_eq_true h1; have h2 := of_decide_eq_true h2
  refine ⟨_, ih (H := _) (xs := _) (a := _) (m := _) (b := _) (X := X ++ w) (p := u) (q := v) (Y := Y) hle hk hr hN (by rintro rfl; simp at he; omega) (by rintro rfl; simp at hb; omega) hu hv (by rw [hmid]; simp) he hb, ?_⟩
  rintro H1 l1 zs ⟨w2, r1, r2, r3⟩
  exact ⟨rfl, rfl, done r1 r2 r3⟩
theorem symT2_ok {H0 H : Heap} {k : Nat} (ih : SymIH P f ty g cf N H0 k) (hle : Heap.le H0 H) {ys : List Value} {X u1 v1 u2 v2 Y : List T} {a s mid e b : Int} {W : List T} (hr : Row H ys (X ++ u1 ++ v1 ++ u2 ++ v2 ++ Y)) (hN : (X ++ u1 ++ v1 ++ u2 ++ v2 ++ Y).length = N)
    (hk1 : u1.length + v1.length ≤ k) (hk2 : u2.length + v2.length ≤ k) (h1 : srt cf u1) (h2 : srt cf v1) (h3 : srt cf u2) (h4 : srt cf v2) (hx : ∀ x ∈ u1 ++ v1, ∀ y ∈ u2 ++ v2, ¬ cf y x < 0) (hW : ((u1 ++ v1) ++ (u2 ++ v2)).Perm W)
    (ha : a = X.length) (hs : s = a + u1.length) (hmid : mid = s + v1.length) (he : e = mid + u2.length) (hb : b = e + v2.length) :
    SymT2 P f ty g N s0 a s mid e b (fun ys (H' : Heap) => ∃ w : List T, Row H' ys (X ++ w ++ Y) ∧ w.Perm W ∧ srt cf w) ys H := by
  have next : ∀ {H1 : Heap} {zs : List Value} {w : List T}, Heap.le H H1 → Row H1 zs (X ++ w ++ u2 ++ v2 ++ Y) → w.Perm (u1 ++ v1) → srt cf w → SymT3 P f ty g N s0 mid e b (fun ys (H' : Heap) => ∃ w : List T, Row H' ys (X ++ w ++ Y) ∧ w.Perm W ∧ srt cf w) zs H1 := by
    intro H1 zs w l1 q1 q2 q3
    have hwl := q2.length_eq
    simp only [List.length_append] at hwl hN
    refine symT3_ok ih (hle_trans hle l1) q1 (by simp only [List.length_append]; omega) hk2 h3 h4 q3 (fun x hx' y hy => hx x (q2.mem_iff.1 hx') y hy) ((List.Perm.append_right _ q2).trans hW) (by omega) he hb
  have stay : (u1 = [] ∨ v1 = []) → SymT3 P f ty g N s0 mid e b (fun ys (H' : Heap) => ∃ w : List T, Row H' ys (X ++ w ++ Y) ∧ w.Perm W ∧ srt cf w) ys H := by
    intro h
    refine next (w := u1 ++ v1) (hle_refl H) (by rw [← List.append_assoc X]; exact hr) (List.Perm.refl _) ?_
    rcases h with rfl | rfl
    · simpa using h2
    · simpa using h1
  refine ⟨fun g1 => ⟨fun g2 => ?_, fun g2 => stay (.inr (List.eq_nil_of_length_eq_zero (by have := of_decide_eq_false g2; omega)))⟩, fun g1 => stay (.inl (List.eq_nil_of_length_eq_zero (by have := of_decide_eq_false g1; omega)))⟩
  have g1 := of_decide_eq_true g1; have g2 := of_decide_eq_true g2
  refine ⟨_, ih (H := _) (xs := _) (a := _) (m := _) (b := _) (X := X) (p := u1) (q := v1) (Y := u2 ++ v2 ++ Y) hle hk1 (by simpa using hr) (by simpa using hN) (by rintro rfl; simp at hs; omega) (by rintro rfl; simp at hmid; omega) h1 h2 ha hs hmid, ?_⟩
  rintro H1 l1 zs ⟨w, r1, r2, r3⟩
  exact next l1 (by simpa using r1) r2 r3
theorem symT1_ok {H0 H : Heap} {k : Nat} (hO : Sort.SWO (ltOf cf)) (ih : SymIH P f ty g cf N H0 k) (rc : RotC P rot ty g T N H0) (hle : Heap.le H0 H) {ys : List Value} {X p q Y : List T} {a s m mid e b : Int} (hr : Row H ys (X ++ p ++ q ++ Y)) (hN : (X ++ p ++ q ++ Y).length = N)
    (hp : srt cf p) (hq : srt cf q) {i j : Nat} (hi : i ≤ p.length) (hj : j ≤ q.length) (hk1 : i + j ≤ k) (hk2 : (p.length - i) + (q.length - j) ≤ k)
    (c1 : ∀ t, t + 1 = i → ∀ (hk : t < p.length) (hj : j < q.length), ¬ cf q[j] p[t] < 0) (c2 : ∀ t, t + 1 = j → ∀ (hi : i < p.length) (hk : t < q.length), cf q[t] p[i] < 0)
    (ha : a = X.length) (hm : m = a + p.length) (hb : b = m + q.length) (hs : s = a + i) (hmid : mid = s + j) (he : e = m + j) :
    SymT1 P f rot ty g N s0 a s m mid e b (fun ys (H' : Heap) => ∃ w : List T, Row H' ys (X ++ w ++ Y) ∧ w.Perm (p ++ q) ∧ srt cf w) ys H := by
  have hx := sym_cross hO hp hq hi hj c1 c2
  have sp := hp; have sq := hq
  rw [← List.take_append_drop i p] at sp
  rw [← List.take_append_drop j q] at sq
  obtain ⟨p1, p2, -⟩ := srt_split sp
  obtain ⟨q1, q2, -⟩ := srt_split sq
  have ep : p = p.take i ++ p.drop i := (List.take_append_drop i p).symm
  have eq : q = q.take j ++ q.drop j := (List.take_append_drop j q).symm
  have lp1 : (p.take i).length = i := by rw [List.length_take]; omega
  have lp2 : (p.drop i).length = p.length - i := List.length_drop ..
  have lq1 : (q.take j).length = j := by rw [List.length_take]; omega
  have lq2 : (q.drop j).length = q.length - j := List.length_drop ..
  have hpl : p.length = i + (p.drop i).length := by omega
  have hql : q.length = j + (q.drop j).length := by omega
  generalize hu1 : p.take i = u1 at *
  generalize hu2 : p.drop i = u2 at *
  generalize hv1 : q.take j = v1 at *
  generalize hv2 : q.drop j = v2 at *
  have hW : ((u1 ++ v1) ++ (u2 ++ v2)).Perm (p ++ q) := by
    rw [ep, eq, List.append_assoc, List.append_assoc]
    refine List.Perm.append_left _ ?_
    rw [← List.append_assoc, ← List.append_assoc]
    exact List.Perm.append_right _ List.perm_append_comm
  have hr2 : Row H ys (X ++ u1 ++ u2 ++ v1 ++ (v2 ++ Y)) := by
    rw [ep, eq] at hr
    simpa using hr
  have hN2 : (X ++ u1 ++ u2 ++ v1 ++ (v2 ++ Y)).length = N := by
    rw [ep, eq] at hN
    simpa using hN
  have next : ∀ {H1 : Heap} {zs : List Value}, Heap.le H H1 → Row H1 zs (X ++ u1 ++ v1 ++ u2 ++ (v2 ++ Y)) → SymT2 P f ty g N s0 a s mid e b (fun ys (H' : Heap) => ∃ w : List T, Row H' ys (X ++ w ++ Y) ∧ w.Perm (p ++ q) ∧ srt cf w) zs H1 := by
    intro H1 zs l1 r1
    simp only [List.length_append] at hN2
    exact symT2_ok ih (hle_trans hle l1) (by rw [List.append_assoc _ v2]; exact r1) (by simp only [List.length_append]; omega) (by omega) (by omega) p1 q1 p2 q2 hx hW ha (by omega) (by omega) (by omega) (by omega)
  have stay : (u2 = [] ∨ v1 = []) → SymT2 P f ty g N s0 a s mid e b (fun ys (H' : Heap) => ∃ w : List T, Row H' ys (X ++ w ++ Y) ∧ w.Perm (p ++ q) ∧ srt cf w) ys H := by
    intro h
    refine next (hle_refl H) ?_
    rcases h with h | h
    · rw [h] at hr2 ⊢; simpa using hr2
    · rw [h] at hr2 ⊢; simpa using hr2
  refine ⟨fun g1 => ⟨fun g2 => ?_, fun g2 => stay (.inr (List.eq_nil_of_length_eq_zero (by have := of_decide_eq_false g2; omega)))⟩, fun g1 => stay (.inl (List.eq_nil_of_length_eq_zero (by have := of_decide_eq_false g1; omega)))⟩
  have g1 := of_decide_eq_true g1; have g2 := of_decide_eq_true g2
  refine ⟨_, rc (H := _) (xs := _) (a := _) (m := _) (b := _) (X := X ++ u1) (p := u2) (q := v1) (Y := v2 ++ Y) hle hr2 hN2 (by intro h; rw [h] at lp2; simp at lp2; omega) (by intro h; rw [h] at lq1; simp at lq1; omega) (by simp only [List.length_append]; omega) (by omega) (by omega), ?_⟩
  intro H1 l1 zs r1
  exact next l1 r1
end
end Go.Vc
/- The order of tuples with key values; sorting them (fewer than twenty). -/
namespace Go.Vc
open Go Go.Proofs Go.Shelf
theorem swo_of {A T : Type} {g : A → A → Int} (h : Ord3 g) (φ : T → A) : Sort.SWO (ltOf fun x y : T => g (φ x) (φ y)) where
  irrefl x := by simp [ltOf, h.refl]
  trans x y z h1 h2 := by
    simp only [ltOf, decide_eq_true_eq] at *
    have a1 := h.sign (φ x) (φ y); have a2 := h.sign (φ y) (φ z)
    have := h.trans _ _ _ (by omega : g (φ x) (φ y) = -1) (by omega : g (φ y) (φ z) = -1)
    omega
  ntrans x y z h1 h2 := by
    simp only [ltOf, decide_eq_false_iff_not] at *
    intro h3
    have a1 := h.anti (φ x) (φ y); have a2 := h.anti (φ y) (φ z); have a3 := h.anti (φ x) (φ z)
    have b1 := h.sign (φ x) (φ y); have b2 := h.sign (φ y) (φ z); have b3 := h.sign (φ x) (φ z)
    by_cases e1 : g (φ x) (φ y) = 0
    · rw [h.eq _ _ e1] at h3; exact h2 h3
    · by_cases e2 : g (φ y) (φ z) = 0
      · rw [← h.eq _ _ e2] at h3; exact h1 h3
      · have := h.trans (φ z) (φ y) (φ x) (by omega) (by omega)
        omega
def cmpKd (a b : Kd) : Int := orI [cmpVs a.key b.key, cmpI a.t.p.lo b.t.p.lo]
def kdKey (a : Kd) : List Val × Int := (a.key, a.t.p.lo)
def cmpKL (a b : List Val × Int) : Int := if cmpVs a.1 b.1 ≠ 0 then cmpVs a.1 b.1 else cmpI a.2 b.2
theorem cmpKL_ord : Ord3 cmpKL := cmpVs_ord.pair cmpI_ord
theorem cmpKd_eq (a b : Kd) : cmpKd a b = cmpKL (kdKey a) (kdKey b) := by
  simp only [cmpKd, orI, cmpKL, kdKey]
  by_cases h : cmpVs a.key b.key = 0
  · by_cases h2 : cmpI a.t.p.lo b.t.p.lo = 0 <;> simp [h, h2]
  · simp [h]
theorem cmpKd_swo : Sort.SWO (ltOf cmpKd) := by
  have h := swo_of cmpKL_ord kdKey
  have e : (fun x y : Kd => cmpKL (kdKey x) (kdKey y)) = cmpKd := by funext x y; exact (cmpKd_eq x y).symm
  rwa [e] at h
def an82 : Ann where
  res := fun _ => none
  lend := fun | 9 => true | 18 => true | 20 => true | _ => false
  sch := fun | 1 => (tk [0, 1, 2, 3, 5, 6, 7, 8, 9, 10, 11, 12] (.alt 4 (.alt 13 (.alt 14 (.alt 15 (tk [16] .done) .fin) .fin) .fin) .fin)) | _ => .done
  lt := fun _ => []
  tup := tups

theorem vc82 (P : Program) (H : Heap) (akeyA : Option Addr) (akeyN akeyC : Nat) (atupleValsA : Option Addr) (atupleValsN atupleValsC : Nat) (atupleValidFrom : Int) (atupleValidTo : Int) (atupleLineageA : Option Addr) (atupleLineageN atupleLineageC : Nat) (bkeyA : Option Addr) (bkeyN bkeyC : Nat) (btupleValsA : Option Addr) (btupleValsN btupleValsC : Nat) (btupleValidFrom : Int) (btupleValidTo : Int) (btupleLineageA : Option Addr) (btupleLineageN btupleLineageC : Nat) (post : Int → Heap → Prop) :
  vcFn P tab an82 Tryz.f82 [.agg #[.slice akeyA akeyN akeyC, .slice atupleValsA atupleValsN atupleValsC, .int .i64 atupleValidFrom, .int .i64 atupleValidTo, .slice atupleLineageA atupleLineageN atupleLineageC], .agg #[.slice bkeyA bkeyN bkeyC, .slice btupleValsA btupleValsN btupleValsC, .int .i64 btupleValidFrom, .int .i64 btupleValidTo, .slice btupleLineageA btupleLineageN btupleLineageC]] 0 H ⟨false, [(false, [.int .i64])]⟩ post =
  (  ∃ (post0 : Int → Heap → Prop), ConT P 34 [.slice akeyA akeyN akeyC, .slice bkeyA bkeyN bkeyC] H ⟨false, [(false, [.int .i64])]⟩ post0 ∧ ∀ (H1 : Heap), Heap.le H H1 → ∀ (n3 : Int), post0 n3
  H1 → ∃ (post5 : Int → Heap → Prop), ConT P 61 [.int .i64 atupleValidFrom, .int .i64 btupleValidFrom] H1 ⟨false, [(false, [.int .i64])]⟩ post5 ∧ ∀ (H6 : Heap), Heap.le H1 H6 → ∀ (n8 : Int),
  post5 n8 H6 → ∃ (post10 : Int → Heap → Prop), (∀ (A11 : Option Addr) (c12 : Nat) (H13 : Heap), Heap.le H6 H13 → Cells H13 A11 0 [.int .i64 n3, .int .i64 n8] → 2 ≤ c12 → ConT P 83 [.slice
  A11 2 c12] H13 ⟨false, [(false, [.int .i64])]⟩ post10) ∧ ∀ (H17 : Heap) (n18 : Int), post10 n18 H17 → post n18 H6) := by kernel_rfl
theorem keys_byKey1 {H : Heap} : CmpT Tryz.prog Kd H 82 cmpKd := by
  rintro H' vs us s t _ ⟨E, k, e, A, n, c, B, m, d, rfl, h1, h2, h3, h4, h5⟩ ⟨E', k', e', A', n', c', B', m', d', rfl, h1', h2', h3', h4', h5'⟩
  refine con_of_vc (an := an82) (fn := Tryz.f82) mix tabOK Tryz.func82 (by kernel_rfl) (extra := 0) ?_
  rw [vc82]
  refine ⟨_, value_CompareRows h1 h1', ?_⟩
  rintro H1 l1 _ rfl
  refine ⟨_, cmp_Compare, ?_⟩
  rintro H2 l2 _ rfl
  refine ⟨_, fun A c H3 l3 hc hn => cmp_Or (l := [cmpVs s.key t.key, cmpI s.t.p.lo t.t.p.lo]) (Row.sl (T := Int) (ints_row ?_) (hle_refl H3) hc rfl hn (by decide) (by decide)), ?_⟩
  · have := cmpVs_ord.bd s.key t.key; have := cmpI_ord.bd s.t.p.lo t.t.p.lo
    simp [*]
  · rintro H5 _ rfl
    rfl
def insLay_Kd_ren : Go.Shelf.Ren := ⟨fun | 20 => 144 | n => n, fun | 24 => 94 | 22 => 91 | 3 => 3 | 25 => 132 | 4 => 4 | 0 => 0 | n => n, fun n => n⟩
theorem insLay_Kd : SlLaysF0.n20 Tryz.prog insLay_Kd_ren where
  mixed := by kernel_rfl
  f20 := ⟨Tryz.f144.name, by kernel_rfl, Tryz.func144.trans (congrArg some (by kernel_rfl))⟩
  t0 := Tryz.underlying0
  a0 := Tryz.isAgg0
  z0 := Tryz.sizeOf0
  v0 := Tryz.zeroValue0
  t3 := Tryz.underlying3
  a3 := Tryz.isAgg3
  z3 := Tryz.sizeOf3
  v3 := Tryz.zeroValue3
  t4 := Tryz.underlying4
  a4 := Tryz.isAgg4
  z4 := Tryz.sizeOf4
  v4 := Tryz.zeroValue4
  t22 := Tryz.underlying91
  a22 := Tryz.isAgg91
  z22 := Tryz.sizeOf91
  v22 := Tryz.zeroValue91
  t25 := Tryz.underlying132
  a25 := Tryz.isAgg132
  z25 := Tryz.sizeOf132
  v25 := Tryz.zeroValue132
theorem insL_Kd : InsL Tryz.prog insLay_Kd_ren 5 := ⟨insLay_Kd, Tryz.isAgg94, Tryz.sizeOf94, by kernel_rfl⟩
set_option maxRecDepth 100000 in
theorem ins_Kd {H : Heap} {n i j : Nat} (hij : i ≤ j) {xs : List Value} {l : List Kd} (hr : Row H xs l) (hl : l.length = n) (hj : j ≤ n) (hn : n ≤ 140737488355328) {g : FuncId} (hg : FnOK Tryz.prog g) {cf : Kd → Kd → Int} (hO : Sort.SWO (ltOf cf)) (hc : CmpT Tryz.prog Kd H g cf) :
    ConM Tryz.prog 144 [.slice none 0 0, .int .i64 i, .int .i64 j, .func (.func g) #[] #[]] 0 94 n xs true H ⟨true, []⟩
      (fun ys (H' : Heap) => ∃ m : List Kd, Row H' ys (l.take i ++ m ++ l.drop j) ∧ m.Perm ((l.take j).drop i) ∧ m.Pairwise (fun a b => ¬ cf b a < 0)) :=
  by
    have h := ins_con (cap := []) insL_Kd hij hr hl hj hn hg hO (fun H' vs us s t h1 h2 h3 => hc H' vs us s t h1 h2 h3)
    exact h
def an163 : Ann where
  res := fun _ => none
  lend := fun _ => false
  sch := fun | 3 => (tk [0, 1, 2, 3, 4, 5, 6, 7, 8, 9, 10, 11, 14, 15, 16, 17] (.alt 12 (.alt 13 (.alt 18 (.alt 19 (.alt 20 (.alt 21 (.alt 22 (.alt 23 .done .fin) .fin) .fin) .fin) .fin) .fin) (.alt 18 (.alt 13 (.alt 19 (.alt 20 (.alt 21 (.alt 22 (.alt 23 .done .fin) .fin) .fin) .fin) .fin) (.alt 19 (.alt 13 (.alt 20 (.alt 21 (.alt 22 (.alt 23 .done .fin) .fin) .fin) .fin) .fin) .fin)) .fin)) (.alt 18 (.alt 12 (.alt 13 (.alt 19 (.alt 20 (.alt 21 (.alt 22 (.alt 23 .done .fin) .fin) .fin) .fin) .fin) (.alt 19 (.alt 13 (.alt 20 (.alt 21 (.alt 22 (.alt 23 .done .fin) .fin) .fin) .fin) .fin) .fin)) (.alt 19 (.alt 12 (.alt 13 (.alt 20 (.alt 21 (.alt 22 (.alt 23 .done .fin) .fin) .fin) .fin) .fin) .fin) .fin)) .fin))) | _ => .done
  lt := fun | 1 => [.rowc 38 94, .slot 10 false [.int .i64]] | _ => []
  tup := tups

theorem vc163 (P : Program) (H : Heap) (a : Int) (b : Int) (n : Int) (cmpF : FuncId) (rowN : Nat) (rowXs : List Value) (post : List Value → Heap → Prop) :
  vcFnK P tab an163 Tryz.f163 [.slice none 0 0, .int .i64 a, .int .i64 b, .int .i64 n, .func (.func cmpF) #[] #[]] 0 94 rowN rowXs 0 H post =
  (  ∀ (s0 : Value), ∃ (inv1 : Nat → List Value → Int → Heap → Prop), ∃ (m2 : Nat → List Value → Int → Nat), inv1 rowN rowXs (0 : Int) H ∧ ∀ (H3 : Heap), Heap.le H H3 → ∀ (n5 : Nat) (xs6 : List
  Value) (n7 : Int), inv1 n5 xs6 n7 H3 → (decide (n7 < n) = true → rng .i64 (a + n7) ∧ rng .i64 (b + n7) ∧ rng .i64 (b + n7) ∧ rng .i64 (a + n7) ∧ ((0 : Int) ≤ b + n7 ∧ b + n7 < (↑n5 : Int) ∧
  (∃ (A10 : Option Addr), ∃ (n11 : Nat), ∃ (c12 : Nat), ∃ (A13 : Option Addr), ∃ (n14 : Nat), ∃ (c15 : Nat), ∃ (n16 : Int), ∃ (n17 : Int), ∃ (A18 : Option Addr), ∃ (n19 : Nat), ∃ (c20 : Nat),
  win xs6 (Int.toNat (b + n7) * 5) 5 = [.slice A10 n11 c12, .slice A13 n14 c15, .int .i64 n16, .int .i64 n17, .slice A18 n19 c20] ∧ (0 : Int) ≤ a + n7 ∧ a + n7 < (↑n5 : Int) ∧ ∃ (A21 : Option
  Addr), ∃ (n22 : Nat), ∃ (c23 : Nat), ∃ (A24 : Option Addr), ∃ (n25 : Nat), ∃ (c26 : Nat), ∃ (n27 : Int), ∃ (n28 : Int), ∃ (A29 : Option Addr), ∃ (n30 : Nat), ∃ (c31 : Nat), win xs6
  (Int.toNat (a + n7) * 5) 5 = [.slice A21 n22 c23, .slice A24 n25 c26, .int .i64 n27, .int .i64 n28, .slice A29 n30 c31] ∧ (0 : Int) ≤ a + n7 ∧ a + n7 < (↑n5 : Int) ∧ Int.toNat (a + n7) * 5
  + 5 ≤ List.length xs6 ∧ (0 : Int) ≤ b + n7 ∧ b + n7 < (↑n5 : Int) ∧ Int.toNat (b + n7) * 5 + 5 ≤ List.length (splice xs6 (Int.toNat (a + n7) * 5) [.slice A10 n11 c12, .slice A13 n14 c15,
  .int .i64 n16, .int .i64 n17, .slice A18 n19 c20]) ∧ rng .i64 (n7 + (1 : Int)) ∧ inv1 n5 (splice (splice xs6 (Int.toNat (a + n7) * 5) [.slice A10 n11 c12, .slice A13 n14 c15, .int .i64 n16,
  .int .i64 n17, .slice A18 n19 c20]) (Int.toNat (b + n7) * 5) [.slice A21 n22 c23, .slice A24 n25 c26, .int .i64 n27, .int .i64 n28, .slice A29 n30 c31]) (n7 + (1 : Int)) H3 ∧ m2 n5 (splice
  (splice xs6 (Int.toNat (a + n7) * 5) [.slice A10 n11 c12, .slice A13 n14 c15, .int .i64 n16, .int .i64 n17, .slice A18 n19 c20]) (Int.toNat (b + n7) * 5) [.slice A21 n22 c23, .slice A24 n25
  c26, .int .i64 n27, .int .i64 n28, .slice A29 n30 c31]) (n7 + (1 : Int)) < m2 n5 xs6 n7) ∧ (0 : Int) ≤ a + n7 ∧ a + n7 < (↑n5 : Int) ∧ (∃ (A32 : Option Addr), ∃ (n33 : Nat), ∃ (c34 : Nat),
  ∃ (A35 : Option Addr), ∃ (n36 : Nat), ∃ (c37 : Nat), ∃ (n38 : Int), ∃ (n39 : Int), ∃ (A40 : Option Addr), ∃ (n41 : Nat), ∃ (c42 : Nat), win xs6 (Int.toNat (b + n7) * 5) 5 = [.slice A32 n33
  c34, .slice A35 n36 c37, .int .i64 n38, .int .i64 n39, .slice A40 n41 c42] ∧ ∃ (A43 : Option Addr), ∃ (n44 : Nat), ∃ (c45 : Nat), ∃ (A46 : Option Addr), ∃ (n47 : Nat), ∃ (c48 : Nat), ∃ (n49
  : Int), ∃ (n50 : Int), ∃ (A51 : Option Addr), ∃ (n52 : Nat), ∃ (c53 : Nat), win xs6 (Int.toNat (a + n7) * 5) 5 = [.slice A43 n44 c45, .slice A46 n47 c48, .int .i64 n49, .int .i64 n50,
  .slice A51 n52 c53] ∧ (0 : Int) ≤ a + n7 ∧ a + n7 < (↑n5 : Int) ∧ Int.toNat (a + n7) * 5 + 5 ≤ List.length xs6 ∧ (0 : Int) ≤ b + n7 ∧ b + n7 < (↑n5 : Int) ∧ Int.toNat (b + n7) * 5 + 5 ≤
  List.length (splice xs6 (Int.toNat (a + n7) * 5) [.slice A32 n33 c34, .slice A35 n36 c37, .int .i64 n38, .int .i64 n39, .slice A40 n41 c42]) ∧ rng .i64 (n7 + (1 : Int)) ∧ inv1 n5 (splice
  (splice xs6 (Int.toNat (a + n7) * 5) [.slice A32 n33 c34, .slice A35 n36 c37, .int .i64 n38, .int .i64 n39, .slice A40 n41 c42]) (Int.toNat (b + n7) * 5) [.slice A43 n44 c45, .slice A46 n47
  c48, .int .i64 n49, .int .i64 n50, .slice A51 n52 c53]) (n7 + (1 : Int)) H3 ∧ m2 n5 (splice (splice xs6 (Int.toNat (a + n7) * 5) [.slice A32 n33 c34, .slice A35 n36 c37, .int .i64 n38, .int
  .i64 n39, .slice A40 n41 c42]) (Int.toNat (b + n7) * 5) [.slice A43 n44 c45, .slice A46 n47 c48, .int .i64 n49, .int .i64 n50, .slice A51 n52 c53]) (n7 + (1 : Int)) < m2 n5 xs6 n7) ∧ ∃ (A54
  : Option Addr), ∃ (n55 : Nat), ∃ (c56 : Nat), ∃ (A57 : Option Addr), ∃ (n58 : Nat), ∃ (c59 : Nat), ∃ (n60 : Int), ∃ (n61 : Int), ∃ (A62 : Option Addr), ∃ (n63 : Nat), ∃ (c64 : Nat), win xs6
  (Int.toNat (a + n7) * 5) 5 = [.slice A54 n55 c56, .slice A57 n58 c59, .int .i64 n60, .int .i64 n61, .slice A62 n63 c64] ∧ ∃ (A65 : Option Addr), ∃ (n66 : Nat), ∃ (c67 : Nat), ∃ (A68 :
  Option Addr), ∃ (n69 : Nat), ∃ (c70 : Nat), ∃ (n71 : Int), ∃ (n72 : Int), ∃ (A73 : Option Addr), ∃ (n74 : Nat), ∃ (c75 : Nat), win xs6 (Int.toNat (b + n7) * 5) 5 = [.slice A65 n66 c67,
  .slice A68 n69 c70, .int .i64 n71, .int .i64 n72, .slice A73 n74 c75] ∧ (0 : Int) ≤ a + n7 ∧ a + n7 < (↑n5 : Int) ∧ Int.toNat (a + n7) * 5 + 5 ≤ List.length xs6 ∧ (0 : Int) ≤ b + n7 ∧ b +
  n7 < (↑n5 : Int) ∧ Int.toNat (b + n7) * 5 + 5 ≤ List.length (splice xs6 (Int.toNat (a + n7) * 5) [.slice A65 n66 c67, .slice A68 n69 c70, .int .i64 n71, .int .i64 n72, .slice A73 n74 c75])
  ∧ rng .i64 (n7 + (1 : Int)) ∧ inv1 n5 (splice (splice xs6 (Int.toNat (a + n7) * 5) [.slice A65 n66 c67, .slice A68 n69 c70, .int .i64 n71, .int .i64 n72, .slice A73 n74 c75]) (Int.toNat (b
  + n7) * 5) [.slice A54 n55 c56, .slice A57 n58 c59, .int .i64 n60, .int .i64 n61, .slice A62 n63 c64]) (n7 + (1 : Int)) H3 ∧ m2 n5 (splice (splice xs6 (Int.toNat (a + n7) * 5) [.slice A65
  n66 c67, .slice A68 n69 c70, .int .i64 n71, .int .i64 n72, .slice A73 n74 c75]) (Int.toNat (b + n7) * 5) [.slice A54 n55 c56, .slice A57 n58 c59, .int .i64 n60, .int .i64 n61, .slice A62
  n63 c64]) (n7 + (1 : Int)) < m2 n5 xs6 n7) ∧ (0 : Int) ≤ a + n7 ∧ a + n7 < (↑n5 : Int) ∧ ((0 : Int) ≤ b + n7 ∧ b + n7 < (↑n5 : Int) ∧ (∃ (A76 : Option Addr), ∃ (n77 : Nat), ∃ (c78 : Nat), ∃
  (A79 : Option Addr), ∃ (n80 : Nat), ∃ (c81 : Nat), ∃ (n82 : Int), ∃ (n83 : Int), ∃ (A84 : Option Addr), ∃ (n85 : Nat), ∃ (c86 : Nat), win xs6 (Int.toNat (b + n7) * 5) 5 = [.slice A76 n77
  c78, .slice A79 n80 c81, .int .i64 n82, .int .i64 n83, .slice A84 n85 c86] ∧ ∃ (A87 : Option Addr), ∃ (n88 : Nat), ∃ (c89 : Nat), ∃ (A90 : Option Addr), ∃ (n91 : Nat), ∃ (c92 : Nat), ∃ (n93
  : Int), ∃ (n94 : Int), ∃ (A95 : Option Addr), ∃ (n96 : Nat), ∃ (c97 : Nat), win xs6 (Int.toNat (a + n7) * 5) 5 = [.slice A87 n88 c89, .slice A90 n91 c92, .int .i64 n93, .int .i64 n94,
  .slice A95 n96 c97] ∧ (0 : Int) ≤ a + n7 ∧ a + n7 < (↑n5 : Int) ∧ Int.toNat (a + n7) * 5 + 5 ≤ List.length xs6 ∧ (0 : Int) ≤ b + n7 ∧ b + n7 < (↑n5 : Int) ∧ Int.toNat (b + n7) * 5 + 5 ≤
  List.length (splice xs6 (Int.toNat (a + n7) * 5) [.slice A76 n77 c78, .slice A79 n80 c81, .int .i64 n82, .int .i64 n83, .slice A84 n85 c86]) ∧ rng .i64 (n7 + (1 : Int)) ∧ inv1 n5 (splice
  (splice xs6 (Int.toNat (a + n7) * 5) [.slice A76 n77 c78, .slice A79 n80 c81, .int .i64 n82, .int .i64 n83, .slice A84 n85 c86]) (Int.toNat (b + n7) * 5) [.slice A87 n88 c89, .slice A90 n91
  c92, .int .i64 n93, .int .i64 n94, .slice A95 n96 c97]) (n7 + (1 : Int)) H3 ∧ m2 n5 (splice (splice xs6 (Int.toNat (a + n7) * 5) [.slice A76 n77 c78, .slice A79 n80 c81, .int .i64 n82, .int
  .i64 n83, .slice A84 n85 c86]) (Int.toNat (b + n7) * 5) [.slice A87 n88 c89, .slice A90 n91 c92, .int .i64 n93, .int .i64 n94, .slice A95 n96 c97]) (n7 + (1 : Int)) < m2 n5 xs6 n7) ∧ ∃ (A98
  : Option Addr), ∃ (n99 : Nat), ∃ (c100 : Nat), ∃ (A101 : Option Addr), ∃ (n102 : Nat), ∃ (c103 : Nat), ∃ (n104 : Int), ∃ (n105 : Int), ∃ (A106 : Option Addr), ∃ (n107 : Nat), ∃ (c108 :
  Nat), win xs6 (Int.toNat (a + n7) * 5) 5 = [.slice A98 n99 c100, .slice A101 n102 c103, .int .i64 n104, .int .i64 n105, .slice A106 n107 c108] ∧ ∃ (A109 : Option Addr), ∃ (n110 : Nat), ∃
  (c111 : Nat), ∃ (A112 : Option Addr), ∃ (n113 : Nat), ∃ (c114 : Nat), ∃ (n115 : Int), ∃ (n116 : Int), ∃ (A117 : Option Addr), ∃ (n118 : Nat), ∃ (c119 : Nat), win xs6 (Int.toNat (b + n7) *
  5) 5 = [.slice A109 n110 c111, .slice A112 n113 c114, .int .i64 n115, .int .i64 n116, .slice A117 n118 c119] ∧ (0 : Int) ≤ a + n7 ∧ a + n7 < (↑n5 : Int) ∧ Int.toNat (a + n7) * 5 + 5 ≤
  List.length xs6 ∧ (0 : Int) ≤ b + n7 ∧ b + n7 < (↑n5 : Int) ∧ Int.toNat (b + n7) * 5 + 5 ≤ List.length (splice xs6 (Int.toNat (a + n7) * 5) [.slice A109 n110 c111, .slice A112 n113 c114,
  .int .i64 n115, .int .i64 n116, .slice A117 n118 c119]) ∧ rng .i64 (n7 + (1 : Int)) ∧ inv1 n5 (splice (splice xs6 (Int.toNat (a + n7) * 5) [.slice A109 n110 c111, .slice A112 n113 c114,
  .int .i64 n115, .int .i64 n116, .slice A117 n118 c119]) (Int.toNat (b + n7) * 5) [.slice A98 n99 c100, .slice A101 n102 c103, .int .i64 n104, .int .i64 n105, .slice A106 n107 c108]) (n7 +
  (1 : Int)) H3 ∧ m2 n5 (splice (splice xs6 (Int.toNat (a + n7) * 5) [.slice A109 n110 c111, .slice A112 n113 c114, .int .i64 n115, .int .i64 n116, .slice A117 n118 c119]) (Int.toNat (b + n7)
  * 5) [.slice A98 n99 c100, .slice A101 n102 c103, .int .i64 n104, .int .i64 n105, .slice A106 n107 c108]) (n7 + (1 : Int)) < m2 n5 xs6 n7) ∧ ∃ (A120 : Option Addr), ∃ (n121 : Nat), ∃ (c122
  : Nat), ∃ (A123 : Option Addr), ∃ (n124 : Nat), ∃ (c125 : Nat), ∃ (n126 : Int), ∃ (n127 : Int), ∃ (A128 : Option Addr), ∃ (n129 : Nat), ∃ (c130 : Nat), win xs6 (Int.toNat (a + n7) * 5) 5 =
  [.slice A120 n121 c122, .slice A123 n124 c125, .int .i64 n126, .int .i64 n127, .slice A128 n129 c130] ∧ (0 : Int) ≤ b + n7 ∧ b + n7 < (↑n5 : Int) ∧ ∃ (A131 : Option Addr), ∃ (n132 : Nat), ∃
  (c133 : Nat), ∃ (A134 : Option Addr), ∃ (n135 : Nat), ∃ (c136 : Nat), ∃ (n137 : Int), ∃ (n138 : Int), ∃ (A139 : Option Addr), ∃ (n140 : Nat), ∃ (c141 : Nat), win xs6 (Int.toNat (b + n7) *
  5) 5 = [.slice A131 n132 c133, .slice A134 n135 c136, .int .i64 n137, .int .i64 n138, .slice A139 n140 c141] ∧ (0 : Int) ≤ a + n7 ∧ a + n7 < (↑n5 : Int) ∧ Int.toNat (a + n7) * 5 + 5 ≤
  List.length xs6 ∧ (0 : Int) ≤ b + n7 ∧ b + n7 < (↑n5 : Int) ∧ Int.toNat (b + n7) * 5 + 5 ≤ List.length (splice xs6 (Int.toNat (a + n7) * 5) [.slice A131 n132 c133, .slice A134 n135 c136,
  .int .i64 n137, .int .i64 n138, .slice A139 n140 c141]) ∧ rng .i64 (n7 + (1 : Int)) ∧ inv1 n5 (splice (splice xs6 (Int.toNat (a + n7) * 5) [.slice A131 n132 c133, .slice A134 n135 c136,
  .int .i64 n137, .int .i64 n138, .slice A139 n140 c141]) (Int.toNat (b + n7) * 5) [.slice A120 n121 c122, .slice A123 n124 c125, .int .i64 n126, .int .i64 n127, .slice A128 n129 c130]) (n7 +
  (1 : Int)) H3 ∧ m2 n5 (splice (splice xs6 (Int.toNat (a + n7) * 5) [.slice A131 n132 c133, .slice A134 n135 c136, .int .i64 n137, .int .i64 n138, .slice A139 n140 c141]) (Int.toNat (b + n7)
  * 5) [.slice A120 n121 c122, .slice A123 n124 c125, .int .i64 n126, .int .i64 n127, .slice A128 n129 c130]) (n7 + (1 : Int)) < m2 n5 xs6 n7) ∧ (decide (n7 < n) = false → s0 = s0 ∧ n5 = rowN
  ∧ post xs6 H3)) := by kernel_rfl
set_option maxHeartbeats 1000000 in
theorem swapRange_Kd {H : Heap} {n : Nat} {xs : List Value} {X p r q Y : List Kd} (hr : Row H xs (X ++ p ++ r ++ q ++ Y)) (hl : (X ++ p ++ r ++ q ++ Y).length = n) (hn : n ≤ 140737488355328) (hpq : p.length = q.length) {a b k : Int} (ha : a = X.length) (hb : b = a + p.length + r.length) (hk : k = p.length) {g : FuncId} :
    ConM Tryz.prog 163 [.slice none 0 0, .int .i64 a, .int .i64 b, .int .i64 k, .func (.func g) #[] #[]] 0 94 n xs true H ⟨true, []⟩ (fun ys (H' : Heap) => Row H' ys (X ++ q ++ r ++ p ++ Y)) := by
  refine conK_of_vc (an := an163) (fn := Tryz.f163) mix tabOK Tryz.func163 (by kernel_rfl) (extra := 0) (by simp) ?_
  rw [vc163]
  intro s0
  have hL := swapL_len (X := X) (p := p) (r := r) (q := q) (Y := Y)
  have hl' := hl
  simp only [List.length_append] at hl'
  refine ⟨fun u ys i H' => u = n ∧ 0 ≤ i ∧ i ≤ k ∧ Row H' ys (swapL X p r q Y i.toNat), fun _ _ i => (k - i).toNat, ⟨rfl, by omega, by omega, by rw [show (0 : Int).toNat = 0 from rfl, swapL_zero]; exact hr⟩, ?_⟩
  rintro H3 l3 u ys i ⟨hu, i0, i1, hr3⟩
  refine ⟨fun hlt => ?_, fun hge => ?_⟩
  · have hlt := of_decide_eq_true hlt
    obtain ⟨h1, h2, h3⟩ := swapL_step (X := X) (r := r) (Y := Y) (i := i.toNat) hpq (by omega) (a := (a + i).toNat) (b := (b + i).toNat) (by omega) (by omega)
    have hwA := hr3.getw h1
    have hwB := hr3.getw h2
    have hset := hr3.setw h1 hwB
    have hset2 := hset.setw (i := (b + i).toNat) (by simpa using h2) hwA
    rw [h3, show i.toNat + 1 = (i + 1).toNat by omega] at hset2
    have hlen1 := hr3.length; have hlen2 := hset.length
    have hcl := hL i.toNat
    rw [List.length_set] at hlen2
    have fin : rng .i64 (i + 1) ∧ (u = n ∧ 0 ≤ i + 1 ∧ i + 1 ≤ k ∧ Row H3 (splice (splice ys ((a + i).toNat * Rep.sz Kd) (win ys ((b + i).toNat * Rep.sz Kd) (Rep.sz Kd))) ((b + i).toNat * Rep.sz Kd) (win ys ((a + i).toNat * Rep.sz Kd) (Rep.sz Kd))) (swapL X p r q Y (i + 1).toNat)) ∧ (k - (i + 1)).toNat < (k - i).toNat :=
      ⟨by simp only [rng]; omega, ⟨hu, by omega, by omega, hset2⟩, by omega⟩
    have c1 : (a + i).toNat * Rep.sz Kd + Rep.sz Kd ≤ ys.length := by rw [hlen1, ← Nat.succ_mul]; exact Nat.mul_le_mul_right _ h1
    have c2 : (b + i).toNat * Rep.sz Kd + Rep.sz Kd ≤ (splice ys ((a + i).toNat * Rep.sz Kd) (win ys ((b + i).toNat * Rep.sz Kd) (Rep.sz Kd))).length := by rw [hlen2, ← Nat.succ_mul]; exact Nat.mul_le_mul_right _ h2
    clear hset hset2 hlen1 hlen2
    generalize hA : win ys ((a + i).toNat * Rep.sz Kd) (Rep.sz Kd) = wA at hwA fin
    generalize hB : win ys ((b + i).toNat * Rep.sz Kd) (Rep.sz Kd) = wB at hwB fin c2
    obtain ⟨E9, k9, e9, A9, n9, c9, B9, m9, d9, rfl, -⟩ := hwA
    obtain ⟨E9, k9, e9, A9, n9, c9, B9, m9, d9, rfl, -⟩ := hwB
    have g1 : 0 ≤ a + i := by omega
    have g2 : a + i < (u : Int) := by omega
    have g3 : 0 ≤ b + i := by omega
    have g4 : b + i < (u : Int) := by omega
    refine ⟨by simp only [rng]; omega, by simp only [rng]; omega, by simp only [rng]; omega, by simp only [rng]; omega, ?_⟩
    repeat' (first | assumption | refine ⟨_, _, _, _, _, _, _, _, _, _, _, rfl, ?_⟩ | refine ⟨_, _, _, _, _, _, _, _, _, _, _, hA, ?_⟩ | refine ⟨_, _, _, _, _, _, _, _, _, _, _, hB, ?_⟩ | refine And.intro ?_ ?_)
  · have hge := of_decide_eq_false hge
    refine ⟨rfl, hu, ?_⟩
    rw [show i.toNat = p.length by omega, swapL_end hpq] at hr3
    exact hr3
def an158 : Ann where
  res := fun _ => none
  lend := fun _ => false
  mt := fun | 163 => some true | _ => none
  sch := fun _ => .done
  lt := fun | 2 => [.rowc 58 94, .slot 10 false [.int .i64], .slot 11 false [.int .i64]] | _ => []
  tup := tups

theorem vc158 (P : Program) (H : Heap) (a : Int) (m : Int) (b : Int) (cmpF : FuncId) (rowN : Nat) (rowXs : List Value) (post : List Value → Heap → Prop) :
  vcFnK P tab an158 Tryz.f158 [.slice none 0 0, .int .i64 a, .int .i64 m, .int .i64 b, .func (.func cmpF) #[] #[]] 0 94 rowN rowXs 0 H post =
  (  ∀ (s0 : Value), rng .i64 (m - a) ∧ rng .i64 (b - m) ∧ ∃ (inv1 : Nat → List Value → Int → Int → Heap → Prop), ∃ (m2 : Nat → List Value → Int → Int → Nat), inv1 rowN rowXs (m - a) (b - m) H ∧
  ∀ (H3 : Heap), Heap.le H H3 → ∀ (n5 : Nat) (xs6 : List Value) (n7 n8 : Int), inv1 n5 xs6 n7 n8 H3 → ((!decide (n7 = n8)) = true → (decide (n8 < n7) = true → rng .i64 (m - n7) ∧ ∃ (post12 :
  List Value → Heap → Prop), ConM P 163 [.slice none 0 0, .int .i64 (m - n7), .int .i64 m, .int .i64 n8, .func (.func cmpF) ⟨[]⟩ ⟨[]⟩] 0 94 n5 xs6 true H3 ⟨true, []⟩ post12 ∧ ∀ (H13 : Heap),
  Heap.le H3 H13 → ∀ (ys15 : List Value), post12 ys15 H13 → rng .i64 (n7 - n8) ∧ inv1 n5 ys15 (n7 - n8) n8 H13 ∧ m2 n5 ys15 (n7 - n8) n8 < m2 n5 xs6 n7 n8) ∧ (decide (n8 < n7) = false → rng
  .i64 (m - n7) ∧ rng .i64 (m + n8) ∧ rng .i64 (m + n8 - n7) ∧ ∃ (post18 : List Value → Heap → Prop), ConM P 163 [.slice none 0 0, .int .i64 (m - n7), .int .i64 (m + n8 - n7), .int .i64 n7,
  .func (.func cmpF) ⟨[]⟩ ⟨[]⟩] 0 94 n5 xs6 true H3 ⟨true, []⟩ post18 ∧ ∀ (H19 : Heap), Heap.le H3 H19 → ∀ (ys21 : List Value), post18 ys21 H19 → rng .i64 (n8 - n7) ∧ inv1 n5 ys21 n7 (n8 -
  n7) H19 ∧ m2 n5 ys21 n7 (n8 - n7) < m2 n5 xs6 n7 n8)) ∧ ((!decide (n7 = n8)) = false → rng .i64 (m - n7) ∧ ∃ (post24 : List Value → Heap → Prop), ConM P 163 [.slice none 0 0, .int .i64 (m -
  n7), .int .i64 m, .int .i64 n7, .func (.func cmpF) ⟨[]⟩ ⟨[]⟩] 0 94 n5 xs6 true H3 ⟨true, []⟩ post24 ∧ ∀ (H25 : Heap), Heap.le H3 H25 → ∀ (ys27 : List Value), post24 ys27 H25 → s0 = s0 ∧ n5
  = rowN ∧ post ys27 H25)) := by kernel_rfl
set_option maxHeartbeats 1000000 in
theorem rotate_Kd {H : Heap} {n : Nat} {xs : List Value} {X p q Y : List Kd} (hr : Row H xs (X ++ p ++ q ++ Y)) (hl : (X ++ p ++ q ++ Y).length = n) (hn : n ≤ 140737488355328) (hp : p ≠ []) (hq : q ≠ []) {a m b : Int} (ha : a = X.length) (hm : m = a + p.length) (hb : b = m + q.length) {g : FuncId} :
    ConM Tryz.prog 158 [.slice none 0 0, .int .i64 a, .int .i64 m, .int .i64 b, .func (.func g) #[] #[]] 0 94 n xs true H ⟨true, []⟩ (fun ys (H' : Heap) => Row H' ys (X ++ q ++ p ++ Y)) := by
  refine conK_of_vc (an := an158) (fn := Tryz.f158) mix tabOK Tryz.func158 (by kernel_rfl) (extra := 0) (by simp) ?_
  rw [vc158]
  intro s0
  have hl' := hl
  simp only [List.length_append] at hl'
  refine ⟨by simp only [rng]; omega, by simp only [rng]; omega, fun u ys i j H' => u = n ∧ ∃ X' p' q' Y' : List Kd, Row H' ys (X' ++ p' ++ q' ++ Y') ∧ m = X'.length + p'.length ∧ i = p'.length ∧ j = q'.length ∧ p' ≠ [] ∧ q' ≠ [] ∧ X ++ q ++ p ++ Y = X' ++ q' ++ p' ++ Y',
    fun _ _ i j => (i + j).toNat, ⟨rfl, X, p, q, Y, hr, by omega, by omega, by omega, hp, hq, rfl⟩, ?_⟩
  rintro H3 l3 u ys i j ⟨hu, X', p', q', Y', hr3, hm', hi, hj, hp', hq', he⟩
  have hpl := List.length_pos_iff.2 hp'; have hql := List.length_pos_iff.2 hq'
  have hlen := congrArg List.length he
  simp only [List.length_append] at hlen
  have hNl : (X' ++ p' ++ q' ++ Y').length = u := by simp only [List.length_append]; omega
  refine ⟨fun hne => ?_, fun heq => ?_⟩
  · have hne : ¬ i = j := by simpa using hne
    refine ⟨fun hlt => ?_, fun hge => ?_⟩
    · have hlt := of_decide_eq_true hlt
      have ep : p' = p'.take j.toNat ++ p'.drop j.toNat := (List.take_append_drop _ _).symm
      have l1 : (p'.take j.toNat).length = q'.length := by rw [List.length_take]; omega
      have l2 : (p'.drop j.toNat).length = p'.length - q'.length := by rw [List.length_drop]; omega
      generalize p'.take j.toNat = p1 at ep l1
      generalize p'.drop j.toNat = p2 at ep l2
      subst ep
      simp only [List.length_append] at hpl hm' hi l2 hlen
      refine ⟨by simp only [rng]; omega, _, swapRange_Kd (X := X') (p := p1) (r := p2) (q := q') (Y := Y') (by simpa using hr3) (by simpa using hNl) (by omega) l1 (by omega) (by omega) (by omega), ?_⟩
      intro H13 l13 ys15 h15
      refine ⟨by simp only [rng]; omega, ⟨hu, X' ++ q', p2, p1, Y', by simpa using h15, by simp only [List.length_append]; omega, by omega, by omega, ?_, ?_, by rw [he]; simp⟩, by dsimp only; omega⟩
      · intro h; have := congrArg List.length h; rw [List.length_nil] at this; omega
      · intro h; have := congrArg List.length h; rw [List.length_nil] at this; omega
    · have hge := of_decide_eq_false hge
      have eq : q' = q'.take (j - i).toNat ++ q'.drop (j - i).toNat := (List.take_append_drop _ _).symm
      have l1 : (q'.take (j - i).toNat).length = q'.length - p'.length := by rw [List.length_take]; omega
      have l2 : (q'.drop (j - i).toNat).length = p'.length := by rw [List.length_drop]; omega
      generalize q'.take (j - i).toNat = q1 at eq l1
      generalize q'.drop (j - i).toNat = q2 at eq l2
      subst eq
      simp only [List.length_append] at hql hj l1 hlen
      refine ⟨by simp only [rng]; omega, by simp only [rng]; omega, by simp only [rng]; omega, _, swapRange_Kd (X := X') (p := p') (r := q1) (q := q2) (Y := Y') (by simpa using hr3) (by simpa using hNl) (by omega) l2.symm (by omega) (by omega) (by omega), ?_⟩
      intro H13 l13 ys15 h15
      refine ⟨by simp only [rng]; omega, ⟨hu, X', q2, q1, p' ++ Y', by simpa using h15, by omega, by omega, by omega, ?_, ?_, by rw [he]; simp⟩, by dsimp only; omega⟩
      · intro h; have := congrArg List.length h; rw [List.length_nil] at this; omega
      · intro h; have := congrArg List.length h; rw [List.length_nil] at this; omega
  · have heq : i = j := by simpa using heq
    refine ⟨by simp only [rng]; omega, _, swapRange_Kd (X := X') (p := p') (r := []) (q := q') (Y := Y') (by simpa using hr3) (by simpa using hNl) (by omega) (by omega) (by omega) (by simp; omega) (by omega), ?_⟩
    intro H25 l25 ys27 h27
    refine ⟨rfl, hu, ?_⟩
    rw [he]
    simpa using h27
def an145 : Ann where
  res := fun _ => none
  lend := fun | 49 => true | 101 => true | 169 => true | _ => false
  mt := fun | 145 => some true | 158 => some true | _ => none
  sch := fun | 5 => (tk [0, 1, 2, 5, 6] (.alt 3 (.alt 4 (.alt 7 (.alt 8 (.alt 9 (tk [10] .done) .fin) .fin) .fin) (.alt 7 (.alt 4 (.alt 8 (.alt 9 (tk [10] .done) .fin) .fin) (.alt 8 (.alt 4 (.alt 9 (tk [10] .done) .fin) .fin) .fin)) .fin)) (.alt 7 (.alt 3 (.alt 4 (.alt 8 (.alt 9 (tk [10] .done) .fin) .fin) (.alt 8 (.alt 4 (.alt 9 (tk [10] .done) .fin) .fin) .fin)) (.alt 8 (.alt 3 (.alt 4 (.alt 9 (tk [10] .done) .fin) .fin) .fin) .fin)) .fin))) | 11 => (tk [0, 1, 2, 3, 4, 5, 6, 7, 10, 11] (.alt 8 (.alt 9 (.alt 12 (.alt 13 (.alt 14 (.alt 15 (.alt 16 (.alt 17 .done .fin) .fin) .fin) .fin) .fin) .fin) (.alt 12 (.alt 9 (.alt 13 (.alt 14 (.alt 15 (.alt 16 (.alt 17 .done .fin) .fin) .fin) .fin) .fin) (.alt 13 (.alt 9 (.alt 14 (.alt 15 (.alt 16 (.alt 17 .done .fin) .fin) .fin) .fin) .fin) .fin)) .fin)) (.alt 12 (.alt 8 (.alt 9 (.alt 13 (.alt 14 (.alt 15 (.alt 16 (.alt 17 .done .fin) .fin) .fin) .fin) .fin) (.alt 13 (.alt 9 (.alt 14 (.alt 15 (.alt 16 (.alt 17 .done .fin) .fin) .fin) .fin) .fin) .fin)) (.alt 13 (.alt 8 (.alt 9 (.alt 14 (.alt 15 (.alt 16 (.alt 17 .done .fin) .fin) .fin) .fin) .fin) .fin) .fin)) .fin))) | 17 => (tk [0, 1, 2, 5, 6] (.alt 3 (.alt 4 (.alt 7 (.alt 8 (.alt 9 (tk [10, 11] .done) .fin) .fin) .fin) (.alt 7 (.alt 4 (.alt 8 (.alt 9 (tk [10, 11] .done) .fin) .fin) (.alt 8 (.alt 4 (.alt 9 (tk [10, 11] .done) .fin) .fin) .fin)) .fin)) (.alt 7 (.alt 3 (.alt 4 (.alt 8 (.alt 9 (tk [10, 11] .done) .fin) .fin) (.alt 8 (.alt 4 (.alt 9 (tk [10, 11] .done) .fin) .fin) .fin)) (.alt 8 (.alt 3 (.alt 4 (.alt 9 (tk [10, 11] .done) .fin) .fin) .fin) .fin)) .fin))) | 23 => (tk [0, 1, 2, 3, 4, 5, 6, 7, 10, 11] (.alt 8 (.alt 9 (.alt 12 (.alt 13 (.alt 14 (.alt 15 (.alt 16 (.alt 17 .done .fin) .fin) .fin) .fin) .fin) .fin) (.alt 12 (.alt 9 (.alt 13 (.alt 14 (.alt 15 (.alt 16 (.alt 17 .done .fin) .fin) .fin) .fin) .fin) (.alt 13 (.alt 9 (.alt 14 (.alt 15 (.alt 16 (.alt 17 .done .fin) .fin) .fin) .fin) .fin) .fin)) .fin)) (.alt 12 (.alt 8 (.alt 9 (.alt 13 (.alt 14 (.alt 15 (.alt 16 (.alt 17 .done .fin) .fin) .fin) .fin) .fin) (.alt 13 (.alt 9 (.alt 14 (.alt 15 (.alt 16 (.alt 17 .done .fin) .fin) .fin) .fin) .fin) .fin)) (.alt 13 (.alt 8 (.alt 9 (.alt 14 (.alt 15 (.alt 16 (.alt 17 .done .fin) .fin) .fin) .fin) .fin) .fin) .fin)) .fin))) | 35 => (tk [0, 1, 2, 3, 4, 7, 8] (.alt 5 (.alt 6 (.alt 9 (.alt 10 (.alt 11 (tk [12, 13] .done) .fin) .fin) .fin) (.alt 9 (.alt 6 (.alt 10 (.alt 11 (tk [12, 13] .done) .fin) .fin) (.alt 10 (.alt 6 (.alt 11 (tk [12, 13] .done) .fin) .fin) .fin)) .fin)) (.alt 9 (.alt 5 (.alt 6 (.alt 10 (.alt 11 (tk [12, 13] .done) .fin) .fin) (.alt 10 (.alt 6 (.alt 11 (tk [12, 13] .done) .fin) .fin) .fin)) (.alt 10 (.alt 5 (.alt 6 (.alt 11 (tk [12, 13] .done) .fin) .fin) .fin) .fin)) .fin))) | _ => .done
  lt := fun | 3 => [.slot 10 false [.int .i64], .slot 11 false [.int .i64]] | 9 => [.rowc 220 94, .slot 13 false [.int .i64]] | 15 => [.slot 14 false [.int .i64], .slot 15 false [.int .i64]] | 21 => [.rowc 220 94, .slot 17 false [.int .i64]] | 33 => [.slot 20 false [.int .i64], .slot 21 false [.int .i64]] | _ => []
  tup := tups

theorem vc145 (P : Program) (H : Heap) (p1 : Int) (p2 : Int) (p3 : Int) (p4F : FuncId) (rowN : Nat) (rowXs : List Value) (post : List Value → Heap → Prop) :
  vcFnK P tab an145 Tryz.f145 [.slice none 0 0, .int .i64 p1, .int .i64 p2, .int .i64 p3, .func (.func p4F) #[] #[]] 0 94 rowN rowXs 0 H post =
  (  ∀ (s0 : Value), rng .i64 (p2 - p1) ∧ (decide (p2 - p1 = (1 : Int)) = true → ∃ (inv2 : Int → Int → Heap → Prop), ∃ (m3 : Int → Int → Nat), inv2 p2 p3 H ∧ ∀ (H4 : Heap), Heap.le H H4 → ∀ (n6
  n7 : Int), inv2 n6 n7 H4 → (decide (n6 < n7) = true → rng .i64 (n6 + n7) ∧ ∃ (e10 : Int), IntKind.wrap IntKind.u64 (n6 + n7) = e10 ∧ (1 : Int) = (1 : Int) ∧ ∃ (e11 : Int), IntKind.wrap
  IntKind.i64 (Int.fdiv e10 (2 : Int)) = e11 ∧ ((0 : Int) ≤ e11 ∧ e11 < (↑rowN : Int) ∧ (∃ (A12 : Option Addr), ∃ (n13 : Nat), ∃ (c14 : Nat), ∃ (A15 : Option Addr), ∃ (n16 : Nat), ∃ (c17 :
  Nat), ∃ (n18 : Int), ∃ (n19 : Int), ∃ (A20 : Option Addr), ∃ (n21 : Nat), ∃ (c22 : Nat), win rowXs (Int.toNat e11 * 5) 5 = [.slice A12 n13 c14, .slice A15 n16 c17, .int .i64 n18, .int .i64
  n19, .slice A20 n21 c22] ∧ (0 : Int) ≤ p1 ∧ p1 < (↑rowN : Int) ∧ ∃ (A23 : Option Addr), ∃ (n24 : Nat), ∃ (c25 : Nat), ∃ (A26 : Option Addr), ∃ (n27 : Nat), ∃ (c28 : Nat), ∃ (n29 : Int), ∃
  (n30 : Int), ∃ (A31 : Option Addr), ∃ (n32 : Nat), ∃ (c33 : Nat), win rowXs (Int.toNat p1 * 5) 5 = [.slice A23 n24 c25, .slice A26 n27 c28, .int .i64 n29, .int .i64 n30, .slice A31 n32 c33]
  ∧ ∃ (post34 : Int → Heap → Prop), ConT P p4F [.agg ⟨[.slice A12 n13 c14, .slice A15 n16 c17, .int .i64 n18, .int .i64 n19, .slice A20 n21 c22]⟩, .agg ⟨[.slice A23 n24 c25, .slice A26 n27
  c28, .int .i64 n29, .int .i64 n30, .slice A31 n32 c33]⟩] H4 ⟨false, [(false, [.int .i64])]⟩ post34 ∧ ∀ (H35 : Heap), Heap.le H4 H35 → ∀ (n37 : Int), post34 n37 H35 → (decide (n37 < (0 :
  Int)) = true → rng .i64 (e11 + (1 : Int)) ∧ inv2 (e11 + (1 : Int)) n7 H35 ∧ m3 (e11 + (1 : Int)) n7 < m3 n6 n7) ∧ (decide (n37 < (0 : Int)) = false → inv2 n6 e11 H35 ∧ m3 n6 e11 < m3 n6
  n7)) ∧ (0 : Int) ≤ p1 ∧ p1 < (↑rowN : Int) ∧ (∃ (A41 : Option Addr), ∃ (n42 : Nat), ∃ (c43 : Nat), ∃ (A44 : Option Addr), ∃ (n45 : Nat), ∃ (c46 : Nat), ∃ (n47 : Int), ∃ (n48 : Int), ∃ (A49
  : Option Addr), ∃ (n50 : Nat), ∃ (c51 : Nat), win rowXs (Int.toNat e11 * 5) 5 = [.slice A41 n42 c43, .slice A44 n45 c46, .int .i64 n47, .int .i64 n48, .slice A49 n50 c51] ∧ ∃ (A52 : Option
  Addr), ∃ (n53 : Nat), ∃ (c54 : Nat), ∃ (A55 : Option Addr), ∃ (n56 : Nat), ∃ (c57 : Nat), ∃ (n58 : Int), ∃ (n59 : Int), ∃ (A60 : Option Addr), ∃ (n61 : Nat), ∃ (c62 : Nat), win rowXs
  (Int.toNat p1 * 5) 5 = [.slice A52 n53 c54, .slice A55 n56 c57, .int .i64 n58, .int .i64 n59, .slice A60 n61 c62] ∧ ∃ (post63 : Int → Heap → Prop), ConT P p4F [.agg ⟨[.slice A41 n42 c43,
  .slice A44 n45 c46, .int .i64 n47, .int .i64 n48, .slice A49 n50 c51]⟩, .agg ⟨[.slice A52 n53 c54, .slice A55 n56 c57, .int .i64 n58, .int .i64 n59, .slice A60 n61 c62]⟩] H4 ⟨false,
  [(false, [.int .i64])]⟩ post63 ∧ ∀ (H64 : Heap), Heap.le H4 H64 → ∀ (n66 : Int), post63 n66 H64 → (decide (n66 < (0 : Int)) = true → rng .i64 (e11 + (1 : Int)) ∧ inv2 (e11 + (1 : Int)) n7
  H64 ∧ m3 (e11 + (1 : Int)) n7 < m3 n6 n7) ∧ (decide (n66 < (0 : Int)) = false → inv2 n6 e11 H64 ∧ m3 n6 e11 < m3 n6 n7)) ∧ ∃ (A70 : Option Addr), ∃ (n71 : Nat), ∃ (c72 : Nat), ∃ (A73 :
  Option Addr), ∃ (n74 : Nat), ∃ (c75 : Nat), ∃ (n76 : Int), ∃ (n77 : Int), ∃ (A78 : Option Addr), ∃ (n79 : Nat), ∃ (c80 : Nat), win rowXs (Int.toNat p1 * 5) 5 = [.slice A70 n71 c72, .slice
  A73 n74 c75, .int .i64 n76, .int .i64 n77, .slice A78 n79 c80] ∧ ∃ (A81 : Option Addr), ∃ (n82 : Nat), ∃ (c83 : Nat), ∃ (A84 : Option Addr), ∃ (n85 : Nat), ∃ (c86 : Nat), ∃ (n87 : Int), ∃
  (n88 : Int), ∃ (A89 : Option Addr), ∃ (n90 : Nat), ∃ (c91 : Nat), win rowXs (Int.toNat e11 * 5) 5 = [.slice A81 n82 c83, .slice A84 n85 c86, .int .i64 n87, .int .i64 n88, .slice A89 n90
  c91] ∧ ∃ (post92 : Int → Heap → Prop), ConT P p4F [.agg ⟨[.slice A81 n82 c83, .slice A84 n85 c86, .int .i64 n87, .int .i64 n88, .slice A89 n90 c91]⟩, .agg ⟨[.slice A70 n71 c72, .slice A73
  n74 c75, .int .i64 n76, .int .i64 n77, .slice A78 n79 c80]⟩] H4 ⟨false, [(false, [.int .i64])]⟩ post92 ∧ ∀ (H93 : Heap), Heap.le H4 H93 → ∀ (n95 : Int), post92 n95 H93 → (decide (n95 < (0 :
  Int)) = true → rng .i64 (e11 + (1 : Int)) ∧ inv2 (e11 + (1 : Int)) n7 H93 ∧ m3 (e11 + (1 : Int)) n7 < m3 n6 n7) ∧ (decide (n95 < (0 : Int)) = false → inv2 n6 e11 H93 ∧ m3 n6 e11 < m3 n6
  n7)) ∧ (0 : Int) ≤ p1 ∧ p1 < (↑rowN : Int) ∧ ((0 : Int) ≤ e11 ∧ e11 < (↑rowN : Int) ∧ (∃ (A99 : Option Addr), ∃ (n100 : Nat), ∃ (c101 : Nat), ∃ (A102 : Option Addr), ∃ (n103 : Nat), ∃ (c104
  : Nat), ∃ (n105 : Int), ∃ (n106 : Int), ∃ (A107 : Option Addr), ∃ (n108 : Nat), ∃ (c109 : Nat), win rowXs (Int.toNat e11 * 5) 5 = [.slice A99 n100 c101, .slice A102 n103 c104, .int .i64
  n105, .int .i64 n106, .slice A107 n108 c109] ∧ ∃ (A110 : Option Addr), ∃ (n111 : Nat), ∃ (c112 : Nat), ∃ (A113 : Option Addr), ∃ (n114 : Nat), ∃ (c115 : Nat), ∃ (n116 : Int), ∃ (n117 :
  Int), ∃ (A118 : Option Addr), ∃ (n119 : Nat), ∃ (c120 : Nat), win rowXs (Int.toNat p1 * 5) 5 = [.slice A110 n111 c112, .slice A113 n114 c115, .int .i64 n116, .int .i64 n117, .slice A118
  n119 c120] ∧ ∃ (post121 : Int → Heap → Prop), ConT P p4F [.agg ⟨[.slice A99 n100 c101, .slice A102 n103 c104, .int .i64 n105, .int .i64 n106, .slice A107 n108 c109]⟩, .agg ⟨[.slice A110
  n111 c112, .slice A113 n114 c115, .int .i64 n116, .int .i64 n117, .slice A118 n119 c120]⟩] H4 ⟨false, [(false, [.int .i64])]⟩ post121 ∧ ∀ (H122 : Heap), Heap.le H4 H122 → ∀ (n124 : Int),
  post121 n124 H122 → (decide (n124 < (0 : Int)) = true → rng .i64 (e11 + (1 : Int)) ∧ inv2 (e11 + (1 : Int)) n7 H122 ∧ m3 (e11 + (1 : Int)) n7 < m3 n6 n7) ∧ (decide (n124 < (0 : Int)) =
  false → inv2 n6 e11 H122 ∧ m3 n6 e11 < m3 n6 n7)) ∧ ∃ (A128 : Option Addr), ∃ (n129 : Nat), ∃ (c130 : Nat), ∃ (A131 : Option Addr), ∃ (n132 : Nat), ∃ (c133 : Nat), ∃ (n134 : Int), ∃ (n135 :
  Int), ∃ (A136 : Option Addr), ∃ (n137 : Nat), ∃ (c138 : Nat), win rowXs (Int.toNat p1 * 5) 5 = [.slice A128 n129 c130, .slice A131 n132 c133, .int .i64 n134, .int .i64 n135, .slice A136
  n137 c138] ∧ ∃ (A139 : Option Addr), ∃ (n140 : Nat), ∃ (c141 : Nat), ∃ (A142 : Option Addr), ∃ (n143 : Nat), ∃ (c144 : Nat), ∃ (n145 : Int), ∃ (n146 : Int), ∃ (A147 : Option Addr), ∃ (n148
  : Nat), ∃ (c149 : Nat), win rowXs (Int.toNat e11 * 5) 5 = [.slice A139 n140 c141, .slice A142 n143 c144, .int .i64 n145, .int .i64 n146, .slice A147 n148 c149] ∧ ∃ (post150 : Int → Heap →
  Prop), ConT P p4F [.agg ⟨[.slice A139 n140 c141, .slice A142 n143 c144, .int .i64 n145, .int .i64 n146, .slice A147 n148 c149]⟩, .agg ⟨[.slice A128 n129 c130, .slice A131 n132 c133, .int
  .i64 n134, .int .i64 n135, .slice A136 n137 c138]⟩] H4 ⟨false, [(false, [.int .i64])]⟩ post150 ∧ ∀ (H151 : Heap), Heap.le H4 H151 → ∀ (n153 : Int), post150 n153 H151 → (decide (n153 < (0 :
  Int)) = true → rng .i64 (e11 + (1 : Int)) ∧ inv2 (e11 + (1 : Int)) n7 H151 ∧ m3 (e11 + (1 : Int)) n7 < m3 n6 n7) ∧ (decide (n153 < (0 : Int)) = false → inv2 n6 e11 H151 ∧ m3 n6 e11 < m3 n6
  n7)) ∧ ∃ (A157 : Option Addr), ∃ (n158 : Nat), ∃ (c159 : Nat), ∃ (A160 : Option Addr), ∃ (n161 : Nat), ∃ (c162 : Nat), ∃ (n163 : Int), ∃ (n164 : Int), ∃ (A165 : Option Addr), ∃ (n166 :
  Nat), ∃ (c167 : Nat), win rowXs (Int.toNat p1 * 5) 5 = [.slice A157 n158 c159, .slice A160 n161 c162, .int .i64 n163, .int .i64 n164, .slice A165 n166 c167] ∧ (0 : Int) ≤ e11 ∧ e11 < (↑rowN
  : Int) ∧ ∃ (A168 : Option Addr), ∃ (n169 : Nat), ∃ (c170 : Nat), ∃ (A171 : Option Addr), ∃ (n172 : Nat), ∃ (c173 : Nat), ∃ (n174 : Int), ∃ (n175 : Int), ∃ (A176 : Option Addr), ∃ (n177 :
  Nat), ∃ (c178 : Nat), win rowXs (Int.toNat e11 * 5) 5 = [.slice A168 n169 c170, .slice A171 n172 c173, .int .i64 n174, .int .i64 n175, .slice A176 n177 c178] ∧ ∃ (post179 : Int → Heap →
  Prop), ConT P p4F [.agg ⟨[.slice A168 n169 c170, .slice A171 n172 c173, .int .i64 n174, .int .i64 n175, .slice A176 n177 c178]⟩, .agg ⟨[.slice A157 n158 c159, .slice A160 n161 c162, .int
  .i64 n163, .int .i64 n164, .slice A165 n166 c167]⟩] H4 ⟨false, [(false, [.int .i64])]⟩ post179 ∧ ∀ (H180 : Heap), Heap.le H4 H180 → ∀ (n182 : Int), post179 n182 H180 → (decide (n182 < (0 :
  Int)) = true → rng .i64 (e11 + (1 : Int)) ∧ inv2 (e11 + (1 : Int)) n7 H180 ∧ m3 (e11 + (1 : Int)) n7 < m3 n6 n7) ∧ (decide (n182 < (0 : Int)) = false → inv2 n6 e11 H180 ∧ m3 n6 e11 < m3 n6
  n7)) ∧ (decide (n6 < n7) = false → ∃ (inv187 : Nat → List Value → Int → Heap → Prop), ∃ (m188 : Nat → List Value → Int → Nat), inv187 rowN rowXs p1 H4 ∧ ∀ (H189 : Heap), Heap.le H4 H189 → ∀
  (n191 : Nat) (xs192 : List Value) (n193 : Int), inv187 n191 xs192 n193 H189 → rng .i64 (n6 - (1 : Int)) ∧ (decide (n193 < n6 - (1 : Int)) = true → rng .i64 (n193 + (1 : Int)) ∧ rng .i64
  (n193 + (1 : Int)) ∧ ((0 : Int) ≤ n193 + (1 : Int) ∧ n193 + (1 : Int) < (↑n191 : Int) ∧ (∃ (A196 : Option Addr), ∃ (n197 : Nat), ∃ (c198 : Nat), ∃ (A199 : Option Addr), ∃ (n200 : Nat), ∃
  (c201 : Nat), ∃ (n202 : Int), ∃ (n203 : Int), ∃ (A204 : Option Addr), ∃ (n205 : Nat), ∃ (c206 : Nat), win xs192 (Int.toNat (n193 + (1 : Int)) * 5) 5 = [.slice A196 n197 c198, .slice A199
  n200 c201, .int .i64 n202, .int .i64 n203, .slice A204 n205 c206] ∧ (0 : Int) ≤ n193 ∧ n193 < (↑n191 : Int) ∧ ∃ (A207 : Option Addr), ∃ (n208 : Nat), ∃ (c209 : Nat), ∃ (A210 : Option Addr),
  ∃ (n211 : Nat), ∃ (c212 : Nat), ∃ (n213 : Int), ∃ (n214 : Int), ∃ (A215 : Option Addr), ∃ (n216 : Nat), ∃ (c217 : Nat), win xs192 (Int.toNat n193 * 5) 5 = [.slice A207 n208 c209, .slice
  A210 n211 c212, .int .i64 n213, .int .i64 n214, .slice A215 n216 c217] ∧ (0 : Int) ≤ n193 ∧ n193 < (↑n191 : Int) ∧ Int.toNat n193 * 5 + 5 ≤ List.length xs192 ∧ (0 : Int) ≤ n193 + (1 : Int)
  ∧ n193 + (1 : Int) < (↑n191 : Int) ∧ Int.toNat (n193 + (1 : Int)) * 5 + 5 ≤ List.length (splice xs192 (Int.toNat n193 * 5) [.slice A196 n197 c198, .slice A199 n200 c201, .int .i64 n202,
  .int .i64 n203, .slice A204 n205 c206]) ∧ rng .i64 (n193 + (1 : Int)) ∧ inv187 n191 (splice (splice xs192 (Int.toNat n193 * 5) [.slice A196 n197 c198, .slice A199 n200 c201, .int .i64 n202,
  .int .i64 n203, .slice A204 n205 c206]) (Int.toNat (n193 + (1 : Int)) * 5) [.slice A207 n208 c209, .slice A210 n211 c212, .int .i64 n213, .int .i64 n214, .slice A215 n216 c217]) (n193 + (1
  : Int)) H189 ∧ m188 n191 (splice (splice xs192 (Int.toNat n193 * 5) [.slice A196 n197 c198, .slice A199 n200 c201, .int .i64 n202, .int .i64 n203, .slice A204 n205 c206]) (Int.toNat (n193 +
  (1 : Int)) * 5) [.slice A207 n208 c209, .slice A210 n211 c212, .int .i64 n213, .int .i64 n214, .slice A215 n216 c217]) (n193 + (1 : Int)) < m188 n191 xs192 n193) ∧ (0 : Int) ≤ n193 ∧ n193 <
  (↑n191 : Int) ∧ (∃ (A218 : Option Addr), ∃ (n219 : Nat), ∃ (c220 : Nat), ∃ (A221 : Option Addr), ∃ (n222 : Nat), ∃ (c223 : Nat), ∃ (n224 : Int), ∃ (n225 : Int), ∃ (A226 : Option Addr), ∃
  (n227 : Nat), ∃ (c228 : Nat), win xs192 (Int.toNat (n193 + (1 : Int)) * 5) 5 = [.slice A218 n219 c220, .slice A221 n222 c223, .int .i64 n224, .int .i64 n225, .slice A226 n227 c228] ∧ ∃
  (A229 : Option Addr), ∃ (n230 : Nat), ∃ (c231 : Nat), ∃ (A232 : Option Addr), ∃ (n233 : Nat), ∃ (c234 : Nat), ∃ (n235 : Int), ∃ (n236 : Int), ∃ (A237 : Option Addr), ∃ (n238 : Nat), ∃ (c239
  : Nat), win xs192 (Int.toNat n193 * 5) 5 = [.slice A229 n230 c231, .slice A232 n233 c234, .int .i64 n235, .int .i64 n236, .slice A237 n238 c239] ∧ (0 : Int) ≤ n193 ∧ n193 < (↑n191 : Int) ∧
  Int.toNat n193 * 5 + 5 ≤ List.length xs192 ∧ (0 : Int) ≤ n193 + (1 : Int) ∧ n193 + (1 : Int) < (↑n191 : Int) ∧ Int.toNat (n193 + (1 : Int)) * 5 + 5 ≤ List.length (splice xs192 (Int.toNat
  n193 * 5) [.slice A218 n219 c220, .slice A221 n222 c223, .int .i64 n224, .int .i64 n225, .slice A226 n227 c228]) ∧ rng .i64 (n193 + (1 : Int)) ∧ inv187 n191 (splice (splice xs192 (Int.toNat
  n193 * 5) [.slice A218 n219 c220, .slice A221 n222 c223, .int .i64 n224, .int .i64 n225, .slice A226 n227 c228]) (Int.toNat (n193 + (1 : Int)) * 5) [.slice A229 n230 c231, .slice A232 n233
  c234, .int .i64 n235, .int .i64 n236, .slice A237 n238 c239]) (n193 + (1 : Int)) H189 ∧ m188 n191 (splice (splice xs192 (Int.toNat n193 * 5) [.slice A218 n219 c220, .slice A221 n222 c223,
  .int .i64 n224, .int .i64 n225, .slice A226 n227 c228]) (Int.toNat (n193 + (1 : Int)) * 5) [.slice A229 n230 c231, .slice A232 n233 c234, .int .i64 n235, .int .i64 n236, .slice A237 n238
  c239]) (n193 + (1 : Int)) < m188 n191 xs192 n193) ∧ ∃ (A240 : Option Addr), ∃ (n241 : Nat), ∃ (c242 : Nat), ∃ (A243 : Option Addr), ∃ (n244 : Nat), ∃ (c245 : Nat), ∃ (n246 : Int), ∃ (n247 :
  Int), ∃ (A248 : Option Addr), ∃ (n249 : Nat), ∃ (c250 : Nat), win xs192 (Int.toNat n193 * 5) 5 = [.slice A240 n241 c242, .slice A243 n244 c245, .int .i64 n246, .int .i64 n247, .slice A248
  n249 c250] ∧ ∃ (A251 : Option Addr), ∃ (n252 : Nat), ∃ (c253 : Nat), ∃ (A254 : Option Addr), ∃ (n255 : Nat), ∃ (c256 : Nat), ∃ (n257 : Int), ∃ (n258 : Int), ∃ (A259 : Option Addr), ∃ (n260
  : Nat), ∃ (c261 : Nat), win xs192 (Int.toNat (n193 + (1 : Int)) * 5) 5 = [.slice A251 n252 c253, .slice A254 n255 c256, .int .i64 n257, .int .i64 n258, .slice A259 n260 c261] ∧ (0 : Int) ≤
  n193 ∧ n193 < (↑n191 : Int) ∧ Int.toNat n193 * 5 + 5 ≤ List.length xs192 ∧ (0 : Int) ≤ n193 + (1 : Int) ∧ n193 + (1 : Int) < (↑n191 : Int) ∧ Int.toNat (n193 + (1 : Int)) * 5 + 5 ≤
  List.length (splice xs192 (Int.toNat n193 * 5) [.slice A251 n252 c253, .slice A254 n255 c256, .int .i64 n257, .int .i64 n258, .slice A259 n260 c261]) ∧ rng .i64 (n193 + (1 : Int)) ∧ inv187
  n191 (splice (splice xs192 (Int.toNat n193 * 5) [.slice A251 n252 c253, .slice A254 n255 c256, .int .i64 n257, .int .i64 n258, .slice A259 n260 c261]) (Int.toNat (n193 + (1 : Int)) * 5)
  [.slice A240 n241 c242, .slice A243 n244 c245, .int .i64 n246, .int .i64 n247, .slice A248 n249 c250]) (n193 + (1 : Int)) H189 ∧ m188 n191 (splice (splice xs192 (Int.toNat n193 * 5) [.slice
  A251 n252 c253, .slice A254 n255 c256, .int .i64 n257, .int .i64 n258, .slice A259 n260 c261]) (Int.toNat (n193 + (1 : Int)) * 5) [.slice A240 n241 c242, .slice A243 n244 c245, .int .i64
  n246, .int .i64 n247, .slice A248 n249 c250]) (n193 + (1 : Int)) < m188 n191 xs192 n193) ∧ (0 : Int) ≤ n193 ∧ n193 < (↑n191 : Int) ∧ ((0 : Int) ≤ n193 + (1 : Int) ∧ n193 + (1 : Int) <
  (↑n191 : Int) ∧ (∃ (A262 : Option Addr), ∃ (n263 : Nat), ∃ (c264 : Nat), ∃ (A265 : Option Addr), ∃ (n266 : Nat), ∃ (c267 : Nat), ∃ (n268 : Int), ∃ (n269 : Int), ∃ (A270 : Option Addr), ∃
  (n271 : Nat), ∃ (c272 : Nat), win xs192 (Int.toNat (n193 + (1 : Int)) * 5) 5 = [.slice A262 n263 c264, .slice A265 n266 c267, .int .i64 n268, .int .i64 n269, .slice A270 n271 c272] ∧ ∃
  (A273 : Option Addr), ∃ (n274 : Nat), ∃ (c275 : Nat), ∃ (A276 : Option Addr), ∃ (n277 : Nat), ∃ (c278 : Nat), ∃ (n279 : Int), ∃ (n280 : Int), ∃ (A281 : Option Addr), ∃ (n282 : Nat), ∃ (c283
  : Nat), win xs192 (Int.toNat n193 * 5) 5 = [.slice A273 n274 c275, .slice A276 n277 c278, .int .i64 n279, .int .i64 n280, .slice A281 n282 c283] ∧ (0 : Int) ≤ n193 ∧ n193 < (↑n191 : Int) ∧
  Int.toNat n193 * 5 + 5 ≤ List.length xs192 ∧ (0 : Int) ≤ n193 + (1 : Int) ∧ n193 + (1 : Int) < (↑n191 : Int) ∧ Int.toNat (n193 + (1 : Int)) * 5 + 5 ≤ List.length (splice xs192 (Int.toNat
  n193 * 5) [.slice A262 n263 c264, .slice A265 n266 c267, .int .i64 n268, .int .i64 n269, .slice A270 n271 c272]) ∧ rng .i64 (n193 + (1 : Int)) ∧ inv187 n191 (splice (splice xs192 (Int.toNat
  n193 * 5) [.slice A262 n263 c264, .slice A265 n266 c267, .int .i64 n268, .int .i64 n269, .slice A270 n271 c272]) (Int.toNat (n193 + (1 : Int)) * 5) [.slice A273 n274 c275, .slice A276 n277
  c278, .int .i64 n279, .int .i64 n280, .slice A281 n282 c283]) (n193 + (1 : Int)) H189 ∧ m188 n191 (splice (splice xs192 (Int.toNat n193 * 5) [.slice A262 n263 c264, .slice A265 n266 c267,
  .int .i64 n268, .int .i64 n269, .slice A270 n271 c272]) (Int.toNat (n193 + (1 : Int)) * 5) [.slice A273 n274 c275, .slice A276 n277 c278, .int .i64 n279, .int .i64 n280, .slice A281 n282
  c283]) (n193 + (1 : Int)) < m188 n191 xs192 n193) ∧ ∃ (A284 : Option Addr), ∃ (n285 : Nat), ∃ (c286 : Nat), ∃ (A287 : Option Addr), ∃ (n288 : Nat), ∃ (c289 : Nat), ∃ (n290 : Int), ∃ (n291 :
  Int), ∃ (A292 : Option Addr), ∃ (n293 : Nat), ∃ (c294 : Nat), win xs192 (Int.toNat n193 * 5) 5 = [.slice A284 n285 c286, .slice A287 n288 c289, .int .i64 n290, .int .i64 n291, .slice A292
  n293 c294] ∧ ∃ (A295 : Option Addr), ∃ (n296 : Nat), ∃ (c297 : Nat), ∃ (A298 : Option Addr), ∃ (n299 : Nat), ∃ (c300 : Nat), ∃ (n301 : Int), ∃ (n302 : Int), ∃ (A303 : Option Addr), ∃ (n304
  : Nat), ∃ (c305 : Nat), win xs192 (Int.toNat (n193 + (1 : Int)) * 5) 5 = [.slice A295 n296 c297, .slice A298 n299 c300, .int .i64 n301, .int .i64 n302, .slice A303 n304 c305] ∧ (0 : Int) ≤
  n193 ∧ n193 < (↑n191 : Int) ∧ Int.toNat n193 * 5 + 5 ≤ List.length xs192 ∧ (0 : Int) ≤ n193 + (1 : Int) ∧ n193 + (1 : Int) < (↑n191 : Int) ∧ Int.toNat (n193 + (1 : Int)) * 5 + 5 ≤
  List.length (splice xs192 (Int.toNat n193 * 5) [.slice A295 n296 c297, .slice A298 n299 c300, .int .i64 n301, .int .i64 n302, .slice A303 n304 c305]) ∧ rng .i64 (n193 + (1 : Int)) ∧ inv187
  n191 (splice (splice xs192 (Int.toNat n193 * 5) [.slice A295 n296 c297, .slice A298 n299 c300, .int .i64 n301, .int .i64 n302, .slice A303 n304 c305]) (Int.toNat (n193 + (1 : Int)) * 5)
  [.slice A284 n285 c286, .slice A287 n288 c289, .int .i64 n290, .int .i64 n291, .slice A292 n293 c294]) (n193 + (1 : Int)) H189 ∧ m188 n191 (splice (splice xs192 (Int.toNat n193 * 5) [.slice
  A295 n296 c297, .slice A298 n299 c300, .int .i64 n301, .int .i64 n302, .slice A303 n304 c305]) (Int.toNat (n193 + (1 : Int)) * 5) [.slice A284 n285 c286, .slice A287 n288 c289, .int .i64
  n290, .int .i64 n291, .slice A292 n293 c294]) (n193 + (1 : Int)) < m188 n191 xs192 n193) ∧ ∃ (A306 : Option Addr), ∃ (n307 : Nat), ∃ (c308 : Nat), ∃ (A309 : Option Addr), ∃ (n310 : Nat), ∃
  (c311 : Nat), ∃ (n312 : Int), ∃ (n313 : Int), ∃ (A314 : Option Addr), ∃ (n315 : Nat), ∃ (c316 : Nat), win xs192 (Int.toNat n193 * 5) 5 = [.slice A306 n307 c308, .slice A309 n310 c311, .int
  .i64 n312, .int .i64 n313, .slice A314 n315 c316] ∧ (0 : Int) ≤ n193 + (1 : Int) ∧ n193 + (1 : Int) < (↑n191 : Int) ∧ ∃ (A317 : Option Addr), ∃ (n318 : Nat), ∃ (c319 : Nat), ∃ (A320 :
  Option Addr), ∃ (n321 : Nat), ∃ (c322 : Nat), ∃ (n323 : Int), ∃ (n324 : Int), ∃ (A325 : Option Addr), ∃ (n326 : Nat), ∃ (c327 : Nat), win xs192 (Int.toNat (n193 + (1 : Int)) * 5) 5 =
  [.slice A317 n318 c319, .slice A320 n321 c322, .int .i64 n323, .int .i64 n324, .slice A325 n326 c327] ∧ (0 : Int) ≤ n193 ∧ n193 < (↑n191 : Int) ∧ Int.toNat n193 * 5 + 5 ≤ List.length xs192
  ∧ (0 : Int) ≤ n193 + (1 : Int) ∧ n193 + (1 : Int) < (↑n191 : Int) ∧ Int.toNat (n193 + (1 : Int)) * 5 + 5 ≤ List.length (splice xs192 (Int.toNat n193 * 5) [.slice A317 n318 c319, .slice A320
  n321 c322, .int .i64 n323, .int .i64 n324, .slice A325 n326 c327]) ∧ rng .i64 (n193 + (1 : Int)) ∧ inv187 n191 (splice (splice xs192 (Int.toNat n193 * 5) [.slice A317 n318 c319, .slice A320
  n321 c322, .int .i64 n323, .int .i64 n324, .slice A325 n326 c327]) (Int.toNat (n193 + (1 : Int)) * 5) [.slice A306 n307 c308, .slice A309 n310 c311, .int .i64 n312, .int .i64 n313, .slice
  A314 n315 c316]) (n193 + (1 : Int)) H189 ∧ m188 n191 (splice (splice xs192 (Int.toNat n193 * 5) [.slice A317 n318 c319, .slice A320 n321 c322, .int .i64 n323, .int .i64 n324, .slice A325
  n326 c327]) (Int.toNat (n193 + (1 : Int)) * 5) [.slice A306 n307 c308, .slice A309 n310 c311, .int .i64 n312, .int .i64 n313, .slice A314 n315 c316]) (n193 + (1 : Int)) < m188 n191 xs192
  n193) ∧ (decide (n193 < n6 - (1 : Int)) = false → s0 = s0 ∧ n191 = rowN ∧ post xs192 H189))) ∧ (decide (p2 - p1 = (1 : Int)) = false → rng .i64 (p3 - p2) ∧ (decide (p3 - p2 = (1 : Int)) =
  true → ∃ (inv331 : Int → Int → Heap → Prop), ∃ (m332 : Int → Int → Nat), inv331 p1 p2 H ∧ ∀ (H333 : Heap), Heap.le H H333 → ∀ (n335 n336 : Int), inv331 n335 n336 H333 → (decide (n335 <
  n336) = true → rng .i64 (n335 + n336) ∧ ∃ (e339 : Int), IntKind.wrap IntKind.u64 (n335 + n336) = e339 ∧ (1 : Int) = (1 : Int) ∧ ∃ (e340 : Int), IntKind.wrap IntKind.i64 (Int.fdiv e339 (2 :
  Int)) = e340 ∧ ((0 : Int) ≤ p2 ∧ p2 < (↑rowN : Int) ∧ (∃ (A341 : Option Addr), ∃ (n342 : Nat), ∃ (c343 : Nat), ∃ (A344 : Option Addr), ∃ (n345 : Nat), ∃ (c346 : Nat), ∃ (n347 : Int), ∃
  (n348 : Int), ∃ (A349 : Option Addr), ∃ (n350 : Nat), ∃ (c351 : Nat), win rowXs (Int.toNat p2 * 5) 5 = [.slice A341 n342 c343, .slice A344 n345 c346, .int .i64 n347, .int .i64 n348, .slice
  A349 n350 c351] ∧ (0 : Int) ≤ e340 ∧ e340 < (↑rowN : Int) ∧ ∃ (A352 : Option Addr), ∃ (n353 : Nat), ∃ (c354 : Nat), ∃ (A355 : Option Addr), ∃ (n356 : Nat), ∃ (c357 : Nat), ∃ (n358 : Int), ∃
  (n359 : Int), ∃ (A360 : Option Addr), ∃ (n361 : Nat), ∃ (c362 : Nat), win rowXs (Int.toNat e340 * 5) 5 = [.slice A352 n353 c354, .slice A355 n356 c357, .int .i64 n358, .int .i64 n359,
  .slice A360 n361 c362] ∧ ∃ (post363 : Int → Heap → Prop), ConT P p4F [.agg ⟨[.slice A341 n342 c343, .slice A344 n345 c346, .int .i64 n347, .int .i64 n348, .slice A349 n350 c351]⟩, .agg
  ⟨[.slice A352 n353 c354, .slice A355 n356 c357, .int .i64 n358, .int .i64 n359, .slice A360 n361 c362]⟩] H333 ⟨false, [(false, [.int .i64])]⟩ post363 ∧ ∀ (H364 : Heap), Heap.le H333 H364 →
  ∀ (n366 : Int), post363 n366 H364 → ((!decide (n366 < (0 : Int))) = true → rng .i64 (e340 + (1 : Int)) ∧ inv331 (e340 + (1 : Int)) n336 H364 ∧ m332 (e340 + (1 : Int)) n336 < m332 n335 n336)
  ∧ ((!decide (n366 < (0 : Int))) = false → inv331 n335 e340 H364 ∧ m332 n335 e340 < m332 n335 n336)) ∧ (0 : Int) ≤ e340 ∧ e340 < (↑rowN : Int) ∧ (∃ (A370 : Option Addr), ∃ (n371 : Nat), ∃
  (c372 : Nat), ∃ (A373 : Option Addr), ∃ (n374 : Nat), ∃ (c375 : Nat), ∃ (n376 : Int), ∃ (n377 : Int), ∃ (A378 : Option Addr), ∃ (n379 : Nat), ∃ (c380 : Nat), win rowXs (Int.toNat p2 * 5) 5
  = [.slice A370 n371 c372, .slice A373 n374 c375, .int .i64 n376, .int .i64 n377, .slice A378 n379 c380] ∧ ∃ (A381 : Option Addr), ∃ (n382 : Nat), ∃ (c383 : Nat), ∃ (A384 : Option Addr), ∃
  (n385 : Nat), ∃ (c386 : Nat), ∃ (n387 : Int), ∃ (n388 : Int), ∃ (A389 : Option Addr), ∃ (n390 : Nat), ∃ (c391 : Nat), win rowXs (Int.toNat e340 * 5) 5 = [.slice A381 n382 c383, .slice A384
  n385 c386, .int .i64 n387, .int .i64 n388, .slice A389 n390 c391] ∧ ∃ (post392 : Int → Heap → Prop), ConT P p4F [.agg ⟨[.slice A370 n371 c372, .slice A373 n374 c375, .int .i64 n376, .int
  .i64 n377, .slice A378 n379 c380]⟩, .agg ⟨[.slice A381 n382 c383, .slice A384 n385 c386, .int .i64 n387, .int .i64 n388, .slice A389 n390 c391]⟩] H333 ⟨false, [(false, [.int .i64])]⟩
  post392 ∧ ∀ (H393 : Heap), Heap.le H333 H393 → ∀ (n395 : Int), post392 n395 H393 → ((!decide (n395 < (0 : Int))) = true → rng .i64 (e340 + (1 : Int)) ∧ inv331 (e340 + (1 : Int)) n336 H393 ∧
  m332 (e340 + (1 : Int)) n336 < m332 n335 n336) ∧ ((!decide (n395 < (0 : Int))) = false → inv331 n335 e340 H393 ∧ m332 n335 e340 < m332 n335 n336)) ∧ ∃ (A399 : Option Addr), ∃ (n400 : Nat),
  ∃ (c401 : Nat), ∃ (A402 : Option Addr), ∃ (n403 : Nat), ∃ (c404 : Nat), ∃ (n405 : Int), ∃ (n406 : Int), ∃ (A407 : Option Addr), ∃ (n408 : Nat), ∃ (c409 : Nat), win rowXs (Int.toNat e340 *
  5) 5 = [.slice A399 n400 c401, .slice A402 n403 c404, .int .i64 n405, .int .i64 n406, .slice A407 n408 c409] ∧ ∃ (A410 : Option Addr), ∃ (n411 : Nat), ∃ (c412 : Nat), ∃ (A413 : Option
  Addr), ∃ (n414 : Nat), ∃ (c415 : Nat), ∃ (n416 : Int), ∃ (n417 : Int), ∃ (A418 : Option Addr), ∃ (n419 : Nat), ∃ (c420 : Nat), win rowXs (Int.toNat p2 * 5) 5 = [.slice A410 n411 c412,
  .slice A413 n414 c415, .int .i64 n416, .int .i64 n417, .slice A418 n419 c420] ∧ ∃ (post421 : Int → Heap → Prop), ConT P p4F [.agg ⟨[.slice A410 n411 c412, .slice A413 n414 c415, .int .i64
  n416, .int .i64 n417, .slice A418 n419 c420]⟩, .agg ⟨[.slice A399 n400 c401, .slice A402 n403 c404, .int .i64 n405, .int .i64 n406, .slice A407 n408 c409]⟩] H333 ⟨false, [(false, [.int
  .i64])]⟩ post421 ∧ ∀ (H422 : Heap), Heap.le H333 H422 → ∀ (n424 : Int), post421 n424 H422 → ((!decide (n424 < (0 : Int))) = true → rng .i64 (e340 + (1 : Int)) ∧ inv331 (e340 + (1 : Int))
  n336 H422 ∧ m332 (e340 + (1 : Int)) n336 < m332 n335 n336) ∧ ((!decide (n424 < (0 : Int))) = false → inv331 n335 e340 H422 ∧ m332 n335 e340 < m332 n335 n336)) ∧ (0 : Int) ≤ e340 ∧ e340 <
  (↑rowN : Int) ∧ ((0 : Int) ≤ p2 ∧ p2 < (↑rowN : Int) ∧ (∃ (A428 : Option Addr), ∃ (n429 : Nat), ∃ (c430 : Nat), ∃ (A431 : Option Addr), ∃ (n432 : Nat), ∃ (c433 : Nat), ∃ (n434 : Int), ∃
  (n435 : Int), ∃ (A436 : Option Addr), ∃ (n437 : Nat), ∃ (c438 : Nat), win rowXs (Int.toNat p2 * 5) 5 = [.slice A428 n429 c430, .slice A431 n432 c433, .int .i64 n434, .int .i64 n435, .slice
  A436 n437 c438] ∧ ∃ (A439 : Option Addr), ∃ (n440 : Nat), ∃ (c441 : Nat), ∃ (A442 : Option Addr), ∃ (n443 : Nat), ∃ (c444 : Nat), ∃ (n445 : Int), ∃ (n446 : Int), ∃ (A447 : Option Addr), ∃
  (n448 : Nat), ∃ (c449 : Nat), win rowXs (Int.toNat e340 * 5) 5 = [.slice A439 n440 c441, .slice A442 n443 c444, .int .i64 n445, .int .i64 n446, .slice A447 n448 c449] ∧ ∃ (post450 : Int →
  Heap → Prop), ConT P p4F [.agg ⟨[.slice A428 n429 c430, .slice A431 n432 c433, .int .i64 n434, .int .i64 n435, .slice A436 n437 c438]⟩, .agg ⟨[.slice A439 n440 c441, .slice A442 n443 c444,
  .int .i64 n445, .int .i64 n446, .slice A447 n448 c449]⟩] H333 ⟨false, [(false, [.int .i64])]⟩ post450 ∧ ∀ (H451 : Heap), Heap.le H333 H451 → ∀ (n453 : Int), post450 n453 H451 → ((!decide
  (n453 < (0 : Int))) = true → rng .i64 (e340 + (1 : Int)) ∧ inv331 (e340 + (1 : Int)) n336 H451 ∧ m332 (e340 + (1 : Int)) n336 < m332 n335 n336) ∧ ((!decide (n453 < (0 : Int))) = false →
  inv331 n335 e340 H451 ∧ m332 n335 e340 < m332 n335 n336)) ∧ ∃ (A457 : Option Addr), ∃ (n458 : Nat), ∃ (c459 : Nat), ∃ (A460 : Option Addr), ∃ (n461 : Nat), ∃ (c462 : Nat), ∃ (n463 : Int), ∃
  (n464 : Int), ∃ (A465 : Option Addr), ∃ (n466 : Nat), ∃ (c467 : Nat), win rowXs (Int.toNat e340 * 5) 5 = [.slice A457 n458 c459, .slice A460 n461 c462, .int .i64 n463, .int .i64 n464,
  .slice A465 n466 c467] ∧ ∃ (A468 : Option Addr), ∃ (n469 : Nat), ∃ (c470 : Nat), ∃ (A471 : Option Addr), ∃ (n472 : Nat), ∃ (c473 : Nat), ∃ (n474 : Int), ∃ (n475 : Int), ∃ (A476 : Option
  Addr), ∃ (n477 : Nat), ∃ (c478 : Nat), win rowXs (Int.toNat p2 * 5) 5 = [.slice A468 n469 c470, .slice A471 n472 c473, .int .i64 n474, .int .i64 n475, .slice A476 n477 c478] ∧ ∃ (post479 :
  Int → Heap → Prop), ConT P p4F [.agg ⟨[.slice A468 n469 c470, .slice A471 n472 c473, .int .i64 n474, .int .i64 n475, .slice A476 n477 c478]⟩, .agg ⟨[.slice A457 n458 c459, .slice A460 n461
  c462, .int .i64 n463, .int .i64 n464, .slice A465 n466 c467]⟩] H333 ⟨false, [(false, [.int .i64])]⟩ post479 ∧ ∀ (H480 : Heap), Heap.le H333 H480 → ∀ (n482 : Int), post479 n482 H480 →
  ((!decide (n482 < (0 : Int))) = true → rng .i64 (e340 + (1 : Int)) ∧ inv331 (e340 + (1 : Int)) n336 H480 ∧ m332 (e340 + (1 : Int)) n336 < m332 n335 n336) ∧ ((!decide (n482 < (0 : Int))) =
  false → inv331 n335 e340 H480 ∧ m332 n335 e340 < m332 n335 n336)) ∧ ∃ (A486 : Option Addr), ∃ (n487 : Nat), ∃ (c488 : Nat), ∃ (A489 : Option Addr), ∃ (n490 : Nat), ∃ (c491 : Nat), ∃ (n492 :
  Int), ∃ (n493 : Int), ∃ (A494 : Option Addr), ∃ (n495 : Nat), ∃ (c496 : Nat), win rowXs (Int.toNat e340 * 5) 5 = [.slice A486 n487 c488, .slice A489 n490 c491, .int .i64 n492, .int .i64
  n493, .slice A494 n495 c496] ∧ (0 : Int) ≤ p2 ∧ p2 < (↑rowN : Int) ∧ ∃ (A497 : Option Addr), ∃ (n498 : Nat), ∃ (c499 : Nat), ∃ (A500 : Option Addr), ∃ (n501 : Nat), ∃ (c502 : Nat), ∃ (n503
  : Int), ∃ (n504 : Int), ∃ (A505 : Option Addr), ∃ (n506 : Nat), ∃ (c507 : Nat), win rowXs (Int.toNat p2 * 5) 5 = [.slice A497 n498 c499, .slice A500 n501 c502, .int .i64 n503, .int .i64
  n504, .slice A505 n506 c507] ∧ ∃ (post508 : Int → Heap → Prop), ConT P p4F [.agg ⟨[.slice A497 n498 c499, .slice A500 n501 c502, .int .i64 n503, .int .i64 n504, .slice A505 n506 c507]⟩,
  .agg ⟨[.slice A486 n487 c488, .slice A489 n490 c491, .int .i64 n492, .int .i64 n493, .slice A494 n495 c496]⟩] H333 ⟨false, [(false, [.int .i64])]⟩ post508 ∧ ∀ (H509 : Heap), Heap.le H333
  H509 → ∀ (n511 : Int), post508 n511 H509 → ((!decide (n511 < (0 : Int))) = true → rng .i64 (e340 + (1 : Int)) ∧ inv331 (e340 + (1 : Int)) n336 H509 ∧ m332 (e340 + (1 : Int)) n336 < m332
  n335 n336) ∧ ((!decide (n511 < (0 : Int))) = false → inv331 n335 e340 H509 ∧ m332 n335 e340 < m332 n335 n336)) ∧ (decide (n335 < n336) = false → ∃ (inv516 : Nat → List Value → Int → Heap →
  Prop), ∃ (m517 : Nat → List Value → Int → Nat), inv516 rowN rowXs p2 H333 ∧ ∀ (H518 : Heap), Heap.le H333 H518 → ∀ (n520 : Nat) (xs521 : List Value) (n522 : Int), inv516 n520 xs521 n522
  H518 → (decide (n335 < n522) = true → rng .i64 (n522 - (1 : Int)) ∧ rng .i64 (n522 - (1 : Int)) ∧ ((0 : Int) ≤ n522 - (1 : Int) ∧ n522 - (1 : Int) < (↑n520 : Int) ∧ (∃ (A525 : Option Addr),
  ∃ (n526 : Nat), ∃ (c527 : Nat), ∃ (A528 : Option Addr), ∃ (n529 : Nat), ∃ (c530 : Nat), ∃ (n531 : Int), ∃ (n532 : Int), ∃ (A533 : Option Addr), ∃ (n534 : Nat), ∃ (c535 : Nat), win xs521
  (Int.toNat (n522 - (1 : Int)) * 5) 5 = [.slice A525 n526 c527, .slice A528 n529 c530, .int .i64 n531, .int .i64 n532, .slice A533 n534 c535] ∧ (0 : Int) ≤ n522 ∧ n522 < (↑n520 : Int) ∧ ∃
  (A536 : Option Addr), ∃ (n537 : Nat), ∃ (c538 : Nat), ∃ (A539 : Option Addr), ∃ (n540 : Nat), ∃ (c541 : Nat), ∃ (n542 : Int), ∃ (n543 : Int), ∃ (A544 : Option Addr), ∃ (n545 : Nat), ∃ (c546
  : Nat), win xs521 (Int.toNat n522 * 5) 5 = [.slice A536 n537 c538, .slice A539 n540 c541, .int .i64 n542, .int .i64 n543, .slice A544 n545 c546] ∧ (0 : Int) ≤ n522 ∧ n522 < (↑n520 : Int) ∧
  Int.toNat n522 * 5 + 5 ≤ List.length xs521 ∧ (0 : Int) ≤ n522 - (1 : Int) ∧ n522 - (1 : Int) < (↑n520 : Int) ∧ Int.toNat (n522 - (1 : Int)) * 5 + 5 ≤ List.length (splice xs521 (Int.toNat
  n522 * 5) [.slice A525 n526 c527, .slice A528 n529 c530, .int .i64 n531, .int .i64 n532, .slice A533 n534 c535]) ∧ rng .i64 (n522 - (1 : Int)) ∧ inv516 n520 (splice (splice xs521 (Int.toNat
  n522 * 5) [.slice A525 n526 c527, .slice A528 n529 c530, .int .i64 n531, .int .i64 n532, .slice A533 n534 c535]) (Int.toNat (n522 - (1 : Int)) * 5) [.slice A536 n537 c538, .slice A539 n540
  c541, .int .i64 n542, .int .i64 n543, .slice A544 n545 c546]) (n522 - (1 : Int)) H518 ∧ m517 n520 (splice (splice xs521 (Int.toNat n522 * 5) [.slice A525 n526 c527, .slice A528 n529 c530,
  .int .i64 n531, .int .i64 n532, .slice A533 n534 c535]) (Int.toNat (n522 - (1 : Int)) * 5) [.slice A536 n537 c538, .slice A539 n540 c541, .int .i64 n542, .int .i64 n543, .slice A544 n545
  c546]) (n522 - (1 : Int)) < m517 n520 xs521 n522) ∧ (0 : Int) ≤ n522 ∧ n522 < (↑n520 : Int) ∧ (∃ (A547 : Option Addr), ∃ (n548 : Nat), ∃ (c549 : Nat), ∃ (A550 : Option Addr), ∃ (n551 :
  Nat), ∃ (c552 : Nat), ∃ (n553 : Int), ∃ (n554 : Int), ∃ (A555 : Option Addr), ∃ (n556 : Nat), ∃ (c557 : Nat), win xs521 (Int.toNat (n522 - (1 : Int)) * 5) 5 = [.slice A547 n548 c549, .slice
  A550 n551 c552, .int .i64 n553, .int .i64 n554, .slice A555 n556 c557] ∧ ∃ (A558 : Option Addr), ∃ (n559 : Nat), ∃ (c560 : Nat), ∃ (A561 : Option Addr), ∃ (n562 : Nat), ∃ (c563 : Nat), ∃
  (n564 : Int), ∃ (n565 : Int), ∃ (A566 : Option Addr), ∃ (n567 : Nat), ∃ (c568 : Nat), win xs521 (Int.toNat n522 * 5) 5 = [.slice A558 n559 c560, .slice A561 n562 c563, .int .i64 n564, .int
  .i64 n565, .slice A566 n567 c568] ∧ (0 : Int) ≤ n522 ∧ n522 < (↑n520 : Int) ∧ Int.toNat n522 * 5 + 5 ≤ List.length xs521 ∧ (0 : Int) ≤ n522 - (1 : Int) ∧ n522 - (1 : Int) < (↑n520 : Int) ∧
  Int.toNat (n522 - (1 : Int)) * 5 + 5 ≤ List.length (splice xs521 (Int.toNat n522 * 5) [.slice A547 n548 c549, .slice A550 n551 c552, .int .i64 n553, .int .i64 n554, .slice A555 n556 c557])
  ∧ rng .i64 (n522 - (1 : Int)) ∧ inv516 n520 (splice (splice xs521 (Int.toNat n522 * 5) [.slice A547 n548 c549, .slice A550 n551 c552, .int .i64 n553, .int .i64 n554, .slice A555 n556 c557])
  (Int.toNat (n522 - (1 : Int)) * 5) [.slice A558 n559 c560, .slice A561 n562 c563, .int .i64 n564, .int .i64 n565, .slice A566 n567 c568]) (n522 - (1 : Int)) H518 ∧ m517 n520 (splice (splice
  xs521 (Int.toNat n522 * 5) [.slice A547 n548 c549, .slice A550 n551 c552, .int .i64 n553, .int .i64 n554, .slice A555 n556 c557]) (Int.toNat (n522 - (1 : Int)) * 5) [.slice A558 n559 c560,
  .slice A561 n562 c563, .int .i64 n564, .int .i64 n565, .slice A566 n567 c568]) (n522 - (1 : Int)) < m517 n520 xs521 n522) ∧ ∃ (A569 : Option Addr), ∃ (n570 : Nat), ∃ (c571 : Nat), ∃ (A572 :
  Option Addr), ∃ (n573 : Nat), ∃ (c574 : Nat), ∃ (n575 : Int), ∃ (n576 : Int), ∃ (A577 : Option Addr), ∃ (n578 : Nat), ∃ (c579 : Nat), win xs521 (Int.toNat n522 * 5) 5 = [.slice A569 n570
  c571, .slice A572 n573 c574, .int .i64 n575, .int .i64 n576, .slice A577 n578 c579] ∧ ∃ (A580 : Option Addr), ∃ (n581 : Nat), ∃ (c582 : Nat), ∃ (A583 : Option Addr), ∃ (n584 : Nat), ∃ (c585
  : Nat), ∃ (n586 : Int), ∃ (n587 : Int), ∃ (A588 : Option Addr), ∃ (n589 : Nat), ∃ (c590 : Nat), win xs521 (Int.toNat (n522 - (1 : Int)) * 5) 5 = [.slice A580 n581 c582, .slice A583 n584
  c585, .int .i64 n586, .int .i64 n587, .slice A588 n589 c590] ∧ (0 : Int) ≤ n522 ∧ n522 < (↑n520 : Int) ∧ Int.toNat n522 * 5 + 5 ≤ List.length xs521 ∧ (0 : Int) ≤ n522 - (1 : Int) ∧ n522 -
  (1 : Int) < (↑n520 : Int) ∧ Int.toNat (n522 - (1 : Int)) * 5 + 5 ≤ List.length (splice xs521 (Int.toNat n522 * 5) [.slice A580 n581 c582, .slice A583 n584 c585, .int .i64 n586, .int .i64
  n587, .slice A588 n589 c590]) ∧ rng .i64 (n522 - (1 : Int)) ∧ inv516 n520 (splice (splice xs521 (Int.toNat n522 * 5) [.slice A580 n581 c582, .slice A583 n584 c585, .int .i64 n586, .int .i64
  n587, .slice A588 n589 c590]) (Int.toNat (n522 - (1 : Int)) * 5) [.slice A569 n570 c571, .slice A572 n573 c574, .int .i64 n575, .int .i64 n576, .slice A577 n578 c579]) (n522 - (1 : Int))
  H518 ∧ m517 n520 (splice (splice xs521 (Int.toNat n522 * 5) [.slice A580 n581 c582, .slice A583 n584 c585, .int .i64 n586, .int .i64 n587, .slice A588 n589 c590]) (Int.toNat (n522 - (1 :
  Int)) * 5) [.slice A569 n570 c571, .slice A572 n573 c574, .int .i64 n575, .int .i64 n576, .slice A577 n578 c579]) (n522 - (1 : Int)) < m517 n520 xs521 n522) ∧ (0 : Int) ≤ n522 ∧ n522 <
  (↑n520 : Int) ∧ ((0 : Int) ≤ n522 - (1 : Int) ∧ n522 - (1 : Int) < (↑n520 : Int) ∧ (∃ (A591 : Option Addr), ∃ (n592 : Nat), ∃ (c593 : Nat), ∃ (A594 : Option Addr), ∃ (n595 : Nat), ∃ (c596 :
  Nat), ∃ (n597 : Int), ∃ (n598 : Int), ∃ (A599 : Option Addr), ∃ (n600 : Nat), ∃ (c601 : Nat), win xs521 (Int.toNat (n522 - (1 : Int)) * 5) 5 = [.slice A591 n592 c593, .slice A594 n595 c596,
  .int .i64 n597, .int .i64 n598, .slice A599 n600 c601] ∧ ∃ (A602 : Option Addr), ∃ (n603 : Nat), ∃ (c604 : Nat), ∃ (A605 : Option Addr), ∃ (n606 : Nat), ∃ (c607 : Nat), ∃ (n608 : Int), ∃
  (n609 : Int), ∃ (A610 : Option Addr), ∃ (n611 : Nat), ∃ (c612 : Nat), win xs521 (Int.toNat n522 * 5) 5 = [.slice A602 n603 c604, .slice A605 n606 c607, .int .i64 n608, .int .i64 n609,
  .slice A610 n611 c612] ∧ (0 : Int) ≤ n522 ∧ n522 < (↑n520 : Int) ∧ Int.toNat n522 * 5 + 5 ≤ List.length xs521 ∧ (0 : Int) ≤ n522 - (1 : Int) ∧ n522 - (1 : Int) < (↑n520 : Int) ∧ Int.toNat
  (n522 - (1 : Int)) * 5 + 5 ≤ List.length (splice xs521 (Int.toNat n522 * 5) [.slice A591 n592 c593, .slice A594 n595 c596, .int .i64 n597, .int .i64 n598, .slice A599 n600 c601]) ∧ rng .i64
  (n522 - (1 : Int)) ∧ inv516 n520 (splice (splice xs521 (Int.toNat n522 * 5) [.slice A591 n592 c593, .slice A594 n595 c596, .int .i64 n597, .int .i64 n598, .slice A599 n600 c601]) (Int.toNat
  (n522 - (1 : Int)) * 5) [.slice A602 n603 c604, .slice A605 n606 c607, .int .i64 n608, .int .i64 n609, .slice A610 n611 c612]) (n522 - (1 : Int)) H518 ∧ m517 n520 (splice (splice xs521
  (Int.toNat n522 * 5) [.slice A591 n592 c593, .slice A594 n595 c596, .int .i64 n597, .int .i64 n598, .slice A599 n600 c601]) (Int.toNat (n522 - (1 : Int)) * 5) [.slice A602 n603 c604, .slice
  A605 n606 c607, .int .i64 n608, .int .i64 n609, .slice A610 n611 c612]) (n522 - (1 : Int)) < m517 n520 xs521 n522) ∧ ∃ (A613 : Option Addr), ∃ (n614 : Nat), ∃ (c615 : Nat), ∃ (A616 : Option
  Addr), ∃ (n617 : Nat), ∃ (c618 : Nat), ∃ (n619 : Int), ∃ (n620 : Int), ∃ (A621 : Option Addr), ∃ (n622 : Nat), ∃ (c623 : Nat), win xs521 (Int.toNat n522 * 5) 5 = [.slice A613 n614 c615,
  .slice A616 n617 c618, .int .i64 n619, .int .i64 n620, .slice A621 n622 c623] ∧ ∃ (A624 : Option Addr), ∃ (n625 : Nat), ∃ (c626 : Nat), ∃ (A627 : Option Addr), ∃ (n628 : Nat), ∃ (c629 :
  Nat), ∃ (n630 : Int), ∃ (n631 : Int), ∃ (A632 : Option Addr), ∃ (n633 : Nat), ∃ (c634 : Nat), win xs521 (Int.toNat (n522 - (1 : Int)) * 5) 5 = [.slice A624 n625 c626, .slice A627 n628 c629,
  .int .i64 n630, .int .i64 n631, .slice A632 n633 c634] ∧ (0 : Int) ≤ n522 ∧ n522 < (↑n520 : Int) ∧ Int.toNat n522 * 5 + 5 ≤ List.length xs521 ∧ (0 : Int) ≤ n522 - (1 : Int) ∧ n522 - (1 :
  Int) < (↑n520 : Int) ∧ Int.toNat (n522 - (1 : Int)) * 5 + 5 ≤ List.length (splice xs521 (Int.toNat n522 * 5) [.slice A624 n625 c626, .slice A627 n628 c629, .int .i64 n630, .int .i64 n631,
  .slice A632 n633 c634]) ∧ rng .i64 (n522 - (1 : Int)) ∧ inv516 n520 (splice (splice xs521 (Int.toNat n522 * 5) [.slice A624 n625 c626, .slice A627 n628 c629, .int .i64 n630, .int .i64 n631,
  .slice A632 n633 c634]) (Int.toNat (n522 - (1 : Int)) * 5) [.slice A613 n614 c615, .slice A616 n617 c618, .int .i64 n619, .int .i64 n620, .slice A621 n622 c623]) (n522 - (1 : Int)) H518 ∧
  m517 n520 (splice (splice xs521 (Int.toNat n522 * 5) [.slice A624 n625 c626, .slice A627 n628 c629, .int .i64 n630, .int .i64 n631, .slice A632 n633 c634]) (Int.toNat (n522 - (1 : Int)) *
  5) [.slice A613 n614 c615, .slice A616 n617 c618, .int .i64 n619, .int .i64 n620, .slice A621 n622 c623]) (n522 - (1 : Int)) < m517 n520 xs521 n522) ∧ ∃ (A635 : Option Addr), ∃ (n636 :
  Nat), ∃ (c637 : Nat), ∃ (A638 : Option Addr), ∃ (n639 : Nat), ∃ (c640 : Nat), ∃ (n641 : Int), ∃ (n642 : Int), ∃ (A643 : Option Addr), ∃ (n644 : Nat), ∃ (c645 : Nat), win xs521 (Int.toNat
  n522 * 5) 5 = [.slice A635 n636 c637, .slice A638 n639 c640, .int .i64 n641, .int .i64 n642, .slice A643 n644 c645] ∧ (0 : Int) ≤ n522 - (1 : Int) ∧ n522 - (1 : Int) < (↑n520 : Int) ∧ ∃
  (A646 : Option Addr), ∃ (n647 : Nat), ∃ (c648 : Nat), ∃ (A649 : Option Addr), ∃ (n650 : Nat), ∃ (c651 : Nat), ∃ (n652 : Int), ∃ (n653 : Int), ∃ (A654 : Option Addr), ∃ (n655 : Nat), ∃ (c656
  : Nat), win xs521 (Int.toNat (n522 - (1 : Int)) * 5) 5 = [.slice A646 n647 c648, .slice A649 n650 c651, .int .i64 n652, .int .i64 n653, .slice A654 n655 c656] ∧ (0 : Int) ≤ n522 ∧ n522 <
  (↑n520 : Int) ∧ Int.toNat n522 * 5 + 5 ≤ List.length xs521 ∧ (0 : Int) ≤ n522 - (1 : Int) ∧ n522 - (1 : Int) < (↑n520 : Int) ∧ Int.toNat (n522 - (1 : Int)) * 5 + 5 ≤ List.length (splice
  xs521 (Int.toNat n522 * 5) [.slice A646 n647 c648, .slice A649 n650 c651, .int .i64 n652, .int .i64 n653, .slice A654 n655 c656]) ∧ rng .i64 (n522 - (1 : Int)) ∧ inv516 n520 (splice (splice
  xs521 (Int.toNat n522 * 5) [.slice A646 n647 c648, .slice A649 n650 c651, .int .i64 n652, .int .i64 n653, .slice A654 n655 c656]) (Int.toNat (n522 - (1 : Int)) * 5) [.slice A635 n636 c637,
  .slice A638 n639 c640, .int .i64 n641, .int .i64 n642, .slice A643 n644 c645]) (n522 - (1 : Int)) H518 ∧ m517 n520 (splice (splice xs521 (Int.toNat n522 * 5) [.slice A646 n647 c648, .slice
  A649 n650 c651, .int .i64 n652, .int .i64 n653, .slice A654 n655 c656]) (Int.toNat (n522 - (1 : Int)) * 5) [.slice A635 n636 c637, .slice A638 n639 c640, .int .i64 n641, .int .i64 n642,
  .slice A643 n644 c645]) (n522 - (1 : Int)) < m517 n520 xs521 n522) ∧ (decide (n335 < n522) = false → s0 = s0 ∧ n520 = rowN ∧ post xs521 H518))) ∧ (decide (p3 - p2 = (1 : Int)) = false → rng
  .i64 (p1 + p3) ∧ ∃ (e659 : Int), IntKind.wrap IntKind.u64 (p1 + p3) = e659 ∧ (1 : Int) = (1 : Int) ∧ ∃ (e660 : Int), IntKind.wrap IntKind.i64 (Int.fdiv e659 (2 : Int)) = e660 ∧ rng .i64
  (e660 + p2) ∧ (decide (e660 < p2) = true → rng .i64 (e660 + p2 - p3) ∧ rng .i64 (e660 + p2 - (1 : Int)) ∧ ∃ (inv662 : Int → Int → Heap → Prop), ∃ (m663 : Int → Int → Nat), inv662 (e660 + p2
  - p3) e660 H ∧ ∀ (H664 : Heap), Heap.le H H664 → ∀ (n666 n667 : Int), inv662 n666 n667 H664 → (decide (n666 < n667) = true → rng .i64 (n666 + n667) ∧ ∃ (e670 : Int), IntKind.wrap
  IntKind.u64 (n666 + n667) = e670 ∧ (1 : Int) = (1 : Int) ∧ ∃ (e671 : Int), IntKind.wrap IntKind.i64 (Int.fdiv e670 (2 : Int)) = e671 ∧ rng .i64 (e660 + p2 - (1 : Int) - e671) ∧ ((0 : Int) ≤
  e660 + p2 - (1 : Int) - e671 ∧ e660 + p2 - (1 : Int) - e671 < (↑rowN : Int) ∧ (∃ (A672 : Option Addr), ∃ (n673 : Nat), ∃ (c674 : Nat), ∃ (A675 : Option Addr), ∃ (n676 : Nat), ∃ (c677 :
  Nat), ∃ (n678 : Int), ∃ (n679 : Int), ∃ (A680 : Option Addr), ∃ (n681 : Nat), ∃ (c682 : Nat), win rowXs (Int.toNat (e660 + p2 - (1 : Int) - e671) * 5) 5 = [.slice A672 n673 c674, .slice
  A675 n676 c677, .int .i64 n678, .int .i64 n679, .slice A680 n681 c682] ∧ (0 : Int) ≤ e671 ∧ e671 < (↑rowN : Int) ∧ ∃ (A683 : Option Addr), ∃ (n684 : Nat), ∃ (c685 : Nat), ∃ (A686 : Option
  Addr), ∃ (n687 : Nat), ∃ (c688 : Nat), ∃ (n689 : Int), ∃ (n690 : Int), ∃ (A691 : Option Addr), ∃ (n692 : Nat), ∃ (c693 : Nat), win rowXs (Int.toNat e671 * 5) 5 = [.slice A683 n684 c685,
  .slice A686 n687 c688, .int .i64 n689, .int .i64 n690, .slice A691 n692 c693] ∧ ∃ (post694 : Int → Heap → Prop), ConT P p4F [.agg ⟨[.slice A672 n673 c674, .slice A675 n676 c677, .int .i64
  n678, .int .i64 n679, .slice A680 n681 c682]⟩, .agg ⟨[.slice A683 n684 c685, .slice A686 n687 c688, .int .i64 n689, .int .i64 n690, .slice A691 n692 c693]⟩] H664 ⟨false, [(false, [.int
  .i64])]⟩ post694 ∧ ∀ (H695 : Heap), Heap.le H664 H695 → ∀ (n697 : Int), post694 n697 H695 → ((!decide (n697 < (0 : Int))) = true → rng .i64 (e671 + (1 : Int)) ∧ inv662 (e671 + (1 : Int))
  n667 H695 ∧ m663 (e671 + (1 : Int)) n667 < m663 n666 n667) ∧ ((!decide (n697 < (0 : Int))) = false → inv662 n666 e671 H695 ∧ m663 n666 e671 < m663 n666 n667)) ∧ (0 : Int) ≤ e671 ∧ e671 <
  (↑rowN : Int) ∧ (∃ (A701 : Option Addr), ∃ (n702 : Nat), ∃ (c703 : Nat), ∃ (A704 : Option Addr), ∃ (n705 : Nat), ∃ (c706 : Nat), ∃ (n707 : Int), ∃ (n708 : Int), ∃ (A709 : Option Addr), ∃
  (n710 : Nat), ∃ (c711 : Nat), win rowXs (Int.toNat (e660 + p2 - (1 : Int) - e671) * 5) 5 = [.slice A701 n702 c703, .slice A704 n705 c706, .int .i64 n707, .int .i64 n708, .slice A709 n710
  c711] ∧ ∃ (A712 : Option Addr), ∃ (n713 : Nat), ∃ (c714 : Nat), ∃ (A715 : Option Addr), ∃ (n716 : Nat), ∃ (c717 : Nat), ∃ (n718 : Int), ∃ (n719 : Int), ∃ (A720 : Option Addr), ∃ (n721 :
  Nat), ∃ (c722 : Nat), win rowXs (Int.toNat e671 * 5) 5 = [.slice A712 n713 c714, .slice A715 n716 c717, .int .i64 n718, .int .i64 n719, .slice A720 n721 c722] ∧ ∃ (post723 : Int → Heap →
  Prop), ConT P p4F [.agg ⟨[.slice A701 n702 c703, .slice A704 n705 c706, .int .i64 n707, .int .i64 n708, .slice A709 n710 c711]⟩, .agg ⟨[.slice A712 n713 c714, .slice A715 n716 c717, .int
  .i64 n718, .int .i64 n719, .slice A720 n721 c722]⟩] H664 ⟨false, [(false, [.int .i64])]⟩ post723 ∧ ∀ (H724 : Heap), Heap.le H664 H724 → ∀ (n726 : Int), post723 n726 H724 → ((!decide (n726 <
  (0 : Int))) = true → rng .i64 (e671 + (1 : Int)) ∧ inv662 (e671 + (1 : Int)) n667 H724 ∧ m663 (e671 + (1 : Int)) n667 < m663 n666 n667) ∧ ((!decide (n726 < (0 : Int))) = false → inv662 n666
  e671 H724 ∧ m663 n666 e671 < m663 n666 n667)) ∧ ∃ (A730 : Option Addr), ∃ (n731 : Nat), ∃ (c732 : Nat), ∃ (A733 : Option Addr), ∃ (n734 : Nat), ∃ (c735 : Nat), ∃ (n736 : Int), ∃ (n737 :
  Int), ∃ (A738 : Option Addr), ∃ (n739 : Nat), ∃ (c740 : Nat), win rowXs (Int.toNat e671 * 5) 5 = [.slice A730 n731 c732, .slice A733 n734 c735, .int .i64 n736, .int .i64 n737, .slice A738
  n739 c740] ∧ ∃ (A741 : Option Addr), ∃ (n742 : Nat), ∃ (c743 : Nat), ∃ (A744 : Option Addr), ∃ (n745 : Nat), ∃ (c746 : Nat), ∃ (n747 : Int), ∃ (n748 : Int), ∃ (A749 : Option Addr), ∃ (n750
  : Nat), ∃ (c751 : Nat), win rowXs (Int.toNat (e660 + p2 - (1 : Int) - e671) * 5) 5 = [.slice A741 n742 c743, .slice A744 n745 c746, .int .i64 n747, .int .i64 n748, .slice A749 n750 c751] ∧
  ∃ (post752 : Int → Heap → Prop), ConT P p4F [.agg ⟨[.slice A741 n742 c743, .slice A744 n745 c746, .int .i64 n747, .int .i64 n748, .slice A749 n750 c751]⟩, .agg ⟨[.slice A730 n731 c732,
  .slice A733 n734 c735, .int .i64 n736, .int .i64 n737, .slice A738 n739 c740]⟩] H664 ⟨false, [(false, [.int .i64])]⟩ post752 ∧ ∀ (H753 : Heap), Heap.le H664 H753 → ∀ (n755 : Int), post752
  n755 H753 → ((!decide (n755 < (0 : Int))) = true → rng .i64 (e671 + (1 : Int)) ∧ inv662 (e671 + (1 : Int)) n667 H753 ∧ m663 (e671 + (1 : Int)) n667 < m663 n666 n667) ∧ ((!decide (n755 < (0
  : Int))) = false → inv662 n666 e671 H753 ∧ m663 n666 e671 < m663 n666 n667)) ∧ (0 : Int) ≤ e671 ∧ e671 < (↑rowN : Int) ∧ ((0 : Int) ≤ e660 + p2 - (1 : Int) - e671 ∧ e660 + p2 - (1 : Int) -
  e671 < (↑rowN : Int) ∧ (∃ (A759 : Option Addr), ∃ (n760 : Nat), ∃ (c761 : Nat), ∃ (A762 : Option Addr), ∃ (n763 : Nat), ∃ (c764 : Nat), ∃ (n765 : Int), ∃ (n766 : Int), ∃ (A767 : Option
  Addr), ∃ (n768 : Nat), ∃ (c769 : Nat), win rowXs (Int.toNat (e660 + p2 - (1 : Int) - e671) * 5) 5 = [.slice A759 n760 c761, .slice A762 n763 c764, .int .i64 n765, .int .i64 n766, .slice
  A767 n768 c769] ∧ ∃ (A770 : Option Addr), ∃ (n771 : Nat), ∃ (c772 : Nat), ∃ (A773 : Option Addr), ∃ (n774 : Nat), ∃ (c775 : Nat), ∃ (n776 : Int), ∃ (n777 : Int), ∃ (A778 : Option Addr), ∃
  (n779 : Nat), ∃ (c780 : Nat), win rowXs (Int.toNat e671 * 5) 5 = [.slice A770 n771 c772, .slice A773 n774 c775, .int .i64 n776, .int .i64 n777, .slice A778 n779 c780] ∧ ∃ (post781 : Int →
  Heap → Prop), ConT P p4F [.agg ⟨[.slice A759 n760 c761, .slice A762 n763 c764, .int .i64 n765, .int .i64 n766, .slice A767 n768 c769]⟩, .agg ⟨[.slice A770 n771 c772, .slice A773 n774 c775,
  .int .i64 n776, .int .i64 n777, .slice A778 n779 c780]⟩] H664 ⟨false, [(false, [.int .i64])]⟩ post781 ∧ ∀ (H782 : Heap), Heap.le H664 H782 → ∀ (n784 : Int), post781 n784 H782 → ((!decide
  (n784 < (0 : Int))) = true → rng .i64 (e671 + (1 : Int)) ∧ inv662 (e671 + (1 : Int)) n667 H782 ∧ m663 (e671 + (1 : Int)) n667 < m663 n666 n667) ∧ ((!decide (n784 < (0 : Int))) = false →
  inv662 n666 e671 H782 ∧ m663 n666 e671 < m663 n666 n667)) ∧ ∃ (A788 : Option Addr), ∃ (n789 : Nat), ∃ (c790 : Nat), ∃ (A791 : Option Addr), ∃ (n792 : Nat), ∃ (c793 : Nat), ∃ (n794 : Int), ∃
  (n795 : Int), ∃ (A796 : Option Addr), ∃ (n797 : Nat), ∃ (c798 : Nat), win rowXs (Int.toNat e671 * 5) 5 = [.slice A788 n789 c790, .slice A791 n792 c793, .int .i64 n794, .int .i64 n795,
  .slice A796 n797 c798] ∧ ∃ (A799 : Option Addr), ∃ (n800 : Nat), ∃ (c801 : Nat), ∃ (A802 : Option Addr), ∃ (n803 : Nat), ∃ (c804 : Nat), ∃ (n805 : Int), ∃ (n806 : Int), ∃ (A807 : Option
  Addr), ∃ (n808 : Nat), ∃ (c809 : Nat), win rowXs (Int.toNat (e660 + p2 - (1 : Int) - e671) * 5) 5 = [.slice A799 n800 c801, .slice A802 n803 c804, .int .i64 n805, .int .i64 n806, .slice
  A807 n808 c809] ∧ ∃ (post810 : Int → Heap → Prop), ConT P p4F [.agg ⟨[.slice A799 n800 c801, .slice A802 n803 c804, .int .i64 n805, .int .i64 n806, .slice A807 n808 c809]⟩, .agg ⟨[.slice
  A788 n789 c790, .slice A791 n792 c793, .int .i64 n794, .int .i64 n795, .slice A796 n797 c798]⟩] H664 ⟨false, [(false, [.int .i64])]⟩ post810 ∧ ∀ (H811 : Heap), Heap.le H664 H811 → ∀ (n813 :
  Int), post810 n813 H811 → ((!decide (n813 < (0 : Int))) = true → rng .i64 (e671 + (1 : Int)) ∧ inv662 (e671 + (1 : Int)) n667 H811 ∧ m663 (e671 + (1 : Int)) n667 < m663 n666 n667) ∧
  ((!decide (n813 < (0 : Int))) = false → inv662 n666 e671 H811 ∧ m663 n666 e671 < m663 n666 n667)) ∧ ∃ (A817 : Option Addr), ∃ (n818 : Nat), ∃ (c819 : Nat), ∃ (A820 : Option Addr), ∃ (n821 :
  Nat), ∃ (c822 : Nat), ∃ (n823 : Int), ∃ (n824 : Int), ∃ (A825 : Option Addr), ∃ (n826 : Nat), ∃ (c827 : Nat), win rowXs (Int.toNat e671 * 5) 5 = [.slice A817 n818 c819, .slice A820 n821
  c822, .int .i64 n823, .int .i64 n824, .slice A825 n826 c827] ∧ (0 : Int) ≤ e660 + p2 - (1 : Int) - e671 ∧ e660 + p2 - (1 : Int) - e671 < (↑rowN : Int) ∧ ∃ (A828 : Option Addr), ∃ (n829 :
  Nat), ∃ (c830 : Nat), ∃ (A831 : Option Addr), ∃ (n832 : Nat), ∃ (c833 : Nat), ∃ (n834 : Int), ∃ (n835 : Int), ∃ (A836 : Option Addr), ∃ (n837 : Nat), ∃ (c838 : Nat), win rowXs (Int.toNat
  (e660 + p2 - (1 : Int) - e671) * 5) 5 = [.slice A828 n829 c830, .slice A831 n832 c833, .int .i64 n834, .int .i64 n835, .slice A836 n837 c838] ∧ ∃ (post839 : Int → Heap → Prop), ConT P p4F
  [.agg ⟨[.slice A828 n829 c830, .slice A831 n832 c833, .int .i64 n834, .int .i64 n835, .slice A836 n837 c838]⟩, .agg ⟨[.slice A817 n818 c819, .slice A820 n821 c822, .int .i64 n823, .int .i64
  n824, .slice A825 n826 c827]⟩] H664 ⟨false, [(false, [.int .i64])]⟩ post839 ∧ ∀ (H840 : Heap), Heap.le H664 H840 → ∀ (n842 : Int), post839 n842 H840 → ((!decide (n842 < (0 : Int))) = true →
  rng .i64 (e671 + (1 : Int)) ∧ inv662 (e671 + (1 : Int)) n667 H840 ∧ m663 (e671 + (1 : Int)) n667 < m663 n666 n667) ∧ ((!decide (n842 < (0 : Int))) = false → inv662 n666 e671 H840 ∧ m663
  n666 e671 < m663 n666 n667)) ∧ (decide (n666 < n667) = false → rng .i64 (e660 + p2 - n666) ∧ (decide (n666 < p2) = true → (decide (p2 < e660 + p2 - n666) = true → ∃ (post849 : List Value →
  Heap → Prop), ConM P 158 [.slice none 0 0, .int .i64 n666, .int .i64 p2, .int .i64 (e660 + p2 - n666), .func (.func p4F) ⟨[]⟩ ⟨[]⟩] 0 94 rowN rowXs true H664 ⟨true, []⟩ post849 ∧ ∀ (H850 :
  Heap), Heap.le H664 H850 → ∀ (ys852 : List Value), post849 ys852 H850 → (decide (p1 < n666) = true → (decide (n666 < e660) = true → ∃ (post856 : List Value → Heap → Prop), ConM P 145
  [.slice none 0 0, .int .i64 p1, .int .i64 n666, .int .i64 e660, .func (.func p4F) ⟨[]⟩ ⟨[]⟩] 0 94 rowN ys852 true H850 ⟨true, []⟩ post856 ∧ ∀ (H857 : Heap), Heap.le H850 H857 → ∀ (ys859 :
  List Value), post856 ys859 H857 → (decide (e660 < e660 + p2 - n666) = true → (decide (e660 + p2 - n666 < p3) = true → ∃ (post863 : List Value → Heap → Prop), ConM P 145 [.slice none 0 0,
  .int .i64 e660, .int .i64 (e660 + p2 - n666), .int .i64 p3, .func (.func p4F) ⟨[]⟩ ⟨[]⟩] 0 94 rowN ys859 true H857 ⟨true, []⟩ post863 ∧ ∀ (H864 : Heap), Heap.le H857 H864 → ∀ (ys866 : List
  Value), post863 ys866 H864 → s0 = s0 ∧ rowN = rowN ∧ post ys866 H864) ∧ (decide (e660 + p2 - n666 < p3) = false → s0 = s0 ∧ rowN = rowN ∧ post ys859 H857)) ∧ (decide (e660 < e660 + p2 -
  n666) = false → s0 = s0 ∧ rowN = rowN ∧ post ys859 H857)) ∧ (decide (n666 < e660) = false → (decide (e660 < e660 + p2 - n666) = true → (decide (e660 + p2 - n666 < p3) = true → ∃ (post873 :
  List Value → Heap → Prop), ConM P 145 [.slice none 0 0, .int .i64 e660, .int .i64 (e660 + p2 - n666), .int .i64 p3, .func (.func p4F) ⟨[]⟩ ⟨[]⟩] 0 94 rowN ys852 true H850 ⟨true, []⟩ post873
  ∧ ∀ (H874 : Heap), Heap.le H850 H874 → ∀ (ys876 : List Value), post873 ys876 H874 → s0 = s0 ∧ rowN = rowN ∧ post ys876 H874) ∧ (decide (e660 + p2 - n666 < p3) = false → s0 = s0 ∧ rowN =
  rowN ∧ post ys852 H850)) ∧ (decide (e660 < e660 + p2 - n666) = false → s0 = s0 ∧ rowN = rowN ∧ post ys852 H850))) ∧ (decide (p1 < n666) = false → (decide (e660 < e660 + p2 - n666) = true →
  (decide (e660 + p2 - n666 < p3) = true → ∃ (post883 : List Value → Heap → Prop), ConM P 145 [.slice none 0 0, .int .i64 e660, .int .i64 (e660 + p2 - n666), .int .i64 p3, .func (.func p4F)
  ⟨[]⟩ ⟨[]⟩] 0 94 rowN ys852 true H850 ⟨true, []⟩ post883 ∧ ∀ (H884 : Heap), Heap.le H850 H884 → ∀ (ys886 : List Value), post883 ys886 H884 → s0 = s0 ∧ rowN = rowN ∧ post ys886 H884) ∧
  (decide (e660 + p2 - n666 < p3) = false → s0 = s0 ∧ rowN = rowN ∧ post ys852 H850)) ∧ (decide (e660 < e660 + p2 - n666) = false → s0 = s0 ∧ rowN = rowN ∧ post ys852 H850))) ∧ (decide (p2 <
  e660 + p2 - n666) = false → (decide (p1 < n666) = true → (decide (n666 < e660) = true → ∃ (post893 : List Value → Heap → Prop), ConM P 145 [.slice none 0 0, .int .i64 p1, .int .i64 n666,
  .int .i64 e660, .func (.func p4F) ⟨[]⟩ ⟨[]⟩] 0 94 rowN rowXs true H664 ⟨true, []⟩ post893 ∧ ∀ (H894 : Heap), Heap.le H664 H894 → ∀ (ys896 : List Value), post893 ys896 H894 → (decide (e660 <
  e660 + p2 - n666) = true → (decide (e660 + p2 - n666 < p3) = true → ∃ (post900 : List Value → Heap → Prop), ConM P 145 [.slice none 0 0, .int .i64 e660, .int .i64 (e660 + p2 - n666), .int
  .i64 p3, .func (.func p4F) ⟨[]⟩ ⟨[]⟩] 0 94 rowN ys896 true H894 ⟨true, []⟩ post900 ∧ ∀ (H901 : Heap), Heap.le H894 H901 → ∀ (ys903 : List Value), post900 ys903 H901 → s0 = s0 ∧ rowN = rowN
  ∧ post ys903 H901) ∧ (decide (e660 + p2 - n666 < p3) = false → s0 = s0 ∧ rowN = rowN ∧ post ys896 H894)) ∧ (decide (e660 < e660 + p2 - n666) = false → s0 = s0 ∧ rowN = rowN ∧ post ys896
  H894)) ∧ (decide (n666 < e660) = false → (decide (e660 < e660 + p2 - n666) = true → (decide (e660 + p2 - n666 < p3) = true → ∃ (post910 : List Value → Heap → Prop), ConM P 145 [.slice none
  0 0, .int .i64 e660, .int .i64 (e660 + p2 - n666), .int .i64 p3, .func (.func p4F) ⟨[]⟩ ⟨[]⟩] 0 94 rowN rowXs true H664 ⟨true, []⟩ post910 ∧ ∀ (H911 : Heap), Heap.le H664 H911 → ∀ (ys913 :
  List Value), post910 ys913 H911 → s0 = s0 ∧ rowN = rowN ∧ post ys913 H911) ∧ (decide (e660 + p2 - n666 < p3) = false → s0 = s0 ∧ rowN = rowN ∧ post rowXs H664)) ∧ (decide (e660 < e660 + p2
  - n666) = false → s0 = s0 ∧ rowN = rowN ∧ post rowXs H664))) ∧ (decide (p1 < n666) = false → (decide (e660 < e660 + p2 - n666) = true → (decide (e660 + p2 - n666 < p3) = true → ∃ (post920 :
  List Value → Heap → Prop), ConM P 145 [.slice none 0 0, .int .i64 e660, .int .i64 (e660 + p2 - n666), .int .i64 p3, .func (.func p4F) ⟨[]⟩ ⟨[]⟩] 0 94 rowN rowXs true H664 ⟨true, []⟩ post920
  ∧ ∀ (H921 : Heap), Heap.le H664 H921 → ∀ (ys923 : List Value), post920 ys923 H921 → s0 = s0 ∧ rowN = rowN ∧ post ys923 H921) ∧ (decide (e660 + p2 - n666 < p3) = false → s0 = s0 ∧ rowN =
  rowN ∧ post rowXs H664)) ∧ (decide (e660 < e660 + p2 - n666) = false → s0 = s0 ∧ rowN = rowN ∧ post rowXs H664)))) ∧ (decide (n666 < p2) = false → (decide (p1 < n666) = true → (decide (n666
  < e660) = true → ∃ (post930 : List Value → Heap → Prop), ConM P 145 [.slice none 0 0, .int .i64 p1, .int .i64 n666, .int .i64 e660, .func (.func p4F) ⟨[]⟩ ⟨[]⟩] 0 94 rowN rowXs true H664
  ⟨true, []⟩ post930 ∧ ∀ (H931 : Heap), Heap.le H664 H931 → ∀ (ys933 : List Value), post930 ys933 H931 → (decide (e660 < e660 + p2 - n666) = true → (decide (e660 + p2 - n666 < p3) = true → ∃
  (post937 : List Value → Heap → Prop), ConM P 145 [.slice none 0 0, .int .i64 e660, .int .i64 (e660 + p2 - n666), .int .i64 p3, .func (.func p4F) ⟨[]⟩ ⟨[]⟩] 0 94 rowN ys933 true H931 ⟨true,
  []⟩ post937 ∧ ∀ (H938 : Heap), Heap.le H931 H938 → ∀ (ys940 : List Value), post937 ys940 H938 → s0 = s0 ∧ rowN = rowN ∧ post ys940 H938) ∧ (decide (e660 + p2 - n666 < p3) = false → s0 = s0
  ∧ rowN = rowN ∧ post ys933 H931)) ∧ (decide (e660 < e660 + p2 - n666) = false → s0 = s0 ∧ rowN = rowN ∧ post ys933 H931)) ∧ (decide (n666 < e660) = false → (decide (e660 < e660 + p2 - n666)
  = true → (decide (e660 + p2 - n666 < p3) = true → ∃ (post947 : List Value → Heap → Prop), ConM P 145 [.slice none 0 0, .int .i64 e660, .int .i64 (e660 + p2 - n666), .int .i64 p3, .func
  (.func p4F) ⟨[]⟩ ⟨[]⟩] 0 94 rowN rowXs true H664 ⟨true, []⟩ post947 ∧ ∀ (H948 : Heap), Heap.le H664 H948 → ∀ (ys950 : List Value), post947 ys950 H948 → s0 = s0 ∧ rowN = rowN ∧ post ys950
  H948) ∧ (decide (e660 + p2 - n666 < p3) = false → s0 = s0 ∧ rowN = rowN ∧ post rowXs H664)) ∧ (decide (e660 < e660 + p2 - n666) = false → s0 = s0 ∧ rowN = rowN ∧ post rowXs H664))) ∧
  (decide (p1 < n666) = false → (decide (e660 < e660 + p2 - n666) = true → (decide (e660 + p2 - n666 < p3) = true → ∃ (post957 : List Value → Heap → Prop), ConM P 145 [.slice none 0 0, .int
  .i64 e660, .int .i64 (e660 + p2 - n666), .int .i64 p3, .func (.func p4F) ⟨[]⟩ ⟨[]⟩] 0 94 rowN rowXs true H664 ⟨true, []⟩ post957 ∧ ∀ (H958 : Heap), Heap.le H664 H958 → ∀ (ys960 : List
  Value), post957 ys960 H958 → s0 = s0 ∧ rowN = rowN ∧ post ys960 H958) ∧ (decide (e660 + p2 - n666 < p3) = false → s0 = s0 ∧ rowN = rowN ∧ post rowXs H664)) ∧ (decide (e660 < e660 + p2 -
  n666) = false → s0 = s0 ∧ rowN = rowN ∧ post rowXs H664))))) ∧ (decide (e660 < p2) = false → rng .i64 (e660 + p2 - (1 : Int)) ∧ ∃ (inv965 : Int → Int → Heap → Prop), ∃ (m966 : Int → Int →
  Nat), inv965 p1 p2 H ∧ ∀ (H967 : Heap), Heap.le H H967 → ∀ (n969 n970 : Int), inv965 n969 n970 H967 → (decide (n969 < n970) = true → rng .i64 (n969 + n970) ∧ ∃ (e973 : Int), IntKind.wrap
  IntKind.u64 (n969 + n970) = e973 ∧ (1 : Int) = (1 : Int) ∧ ∃ (e974 : Int), IntKind.wrap IntKind.i64 (Int.fdiv e973 (2 : Int)) = e974 ∧ rng .i64 (e660 + p2 - (1 : Int) - e974) ∧ ((0 : Int) ≤
  e660 + p2 - (1 : Int) - e974 ∧ e660 + p2 - (1 : Int) - e974 < (↑rowN : Int) ∧ (∃ (A975 : Option Addr), ∃ (n976 : Nat), ∃ (c977 : Nat), ∃ (A978 : Option Addr), ∃ (n979 : Nat), ∃ (c980 :
  Nat), ∃ (n981 : Int), ∃ (n982 : Int), ∃ (A983 : Option Addr), ∃ (n984 : Nat), ∃ (c985 : Nat), win rowXs (Int.toNat (e660 + p2 - (1 : Int) - e974) * 5) 5 = [.slice A975 n976 c977, .slice
  A978 n979 c980, .int .i64 n981, .int .i64 n982, .slice A983 n984 c985] ∧ (0 : Int) ≤ e974 ∧ e974 < (↑rowN : Int) ∧ ∃ (A986 : Option Addr), ∃ (n987 : Nat), ∃ (c988 : Nat), ∃ (A989 : Option
  Addr), ∃ (n990 : Nat), ∃ (c991 : Nat), ∃ (n992 : Int), ∃ (n993 : Int), ∃ (A994 : Option Addr), ∃ (n995 : Nat), ∃ (c996 : Nat), win rowXs (Int.toNat e974 * 5) 5 = [.slice A986 n987 c988,
  .slice A989 n990 c991, .int .i64 n992, .int .i64 n993, .slice A994 n995 c996] ∧ ∃ (post997 : Int → Heap → Prop), ConT P p4F [.agg ⟨[.slice A975 n976 c977, .slice A978 n979 c980, .int .i64
  n981, .int .i64 n982, .slice A983 n984 c985]⟩, .agg ⟨[.slice A986 n987 c988, .slice A989 n990 c991, .int .i64 n992, .int .i64 n993, .slice A994 n995 c996]⟩] H967 ⟨false, [(false, [.int
  .i64])]⟩ post997 ∧ ∀ (H998 : Heap), Heap.le H967 H998 → ∀ (n1000 : Int), post997 n1000 H998 → ((!decide (n1000 < (0 : Int))) = true → rng .i64 (e974 + (1 : Int)) ∧ inv965 (e974 + (1 : Int))
  n970 H998 ∧ m966 (e974 + (1 : Int)) n970 < m966 n969 n970) ∧ ((!decide (n1000 < (0 : Int))) = false → inv965 n969 e974 H998 ∧ m966 n969 e974 < m966 n969 n970)) ∧ (0 : Int) ≤ e974 ∧ e974 <
  (↑rowN : Int) ∧ (∃ (A1004 : Option Addr), ∃ (n1005 : Nat), ∃ (c1006 : Nat), ∃ (A1007 : Option Addr), ∃ (n1008 : Nat), ∃ (c1009 : Nat), ∃ (n1010 : Int), ∃ (n1011 : Int), ∃ (A1012 : Option
  Addr), ∃ (n1013 : Nat), ∃ (c1014 : Nat), win rowXs (Int.toNat (e660 + p2 - (1 : Int) - e974) * 5) 5 = [.slice A1004 n1005 c1006, .slice A1007 n1008 c1009, .int .i64 n1010, .int .i64 n1011,
  .slice A1012 n1013 c1014] ∧ ∃ (A1015 : Option Addr), ∃ (n1016 : Nat), ∃ (c1017 : Nat), ∃ (A1018 : Option Addr), ∃ (n1019 : Nat), ∃ (c1020 : Nat), ∃ (n1021 : Int), ∃ (n1022 : Int), ∃ (A1023
  : Option Addr), ∃ (n1024 : Nat), ∃ (c1025 : Nat), win rowXs (Int.toNat e974 * 5) 5 = [.slice A1015 n1016 c1017, .slice A1018 n1019 c1020, .int .i64 n1021, .int .i64 n1022, .slice A1023
  n1024 c1025] ∧ ∃ (post1026 : Int → Heap → Prop), ConT P p4F [.agg ⟨[.slice A1004 n1005 c1006, .slice A1007 n1008 c1009, .int .i64 n1010, .int .i64 n1011, .slice A1012 n1013 c1014]⟩, .agg
  ⟨[.slice A1015 n1016 c1017, .slice A1018 n1019 c1020, .int .i64 n1021, .int .i64 n1022, .slice A1023 n1024 c1025]⟩] H967 ⟨false, [(false, [.int .i64])]⟩ post1026 ∧ ∀ (H1027 : Heap), Heap.le
  H967 H1027 → ∀ (n1029 : Int), post1026 n1029 H1027 → ((!decide (n1029 < (0 : Int))) = true → rng .i64 (e974 + (1 : Int)) ∧ inv965 (e974 + (1 : Int)) n970 H1027 ∧ m966 (e974 + (1 : Int))
  n970 < m966 n969 n970) ∧ ((!decide (n1029 < (0 : Int))) = false → inv965 n969 e974 H1027 ∧ m966 n969 e974 < m966 n969 n970)) ∧ ∃ (A1033 : Option Addr), ∃ (n1034 : Nat), ∃ (c1035 : Nat), ∃
  (A1036 : Option Addr), ∃ (n1037 : Nat), ∃ (c1038 : Nat), ∃ (n1039 : Int), ∃ (n1040 : Int), ∃ (A1041 : Option Addr), ∃ (n1042 : Nat), ∃ (c1043 : Nat), win rowXs (Int.toNat e974 * 5) 5 =
  [.slice A1033 n1034 c1035, .slice A1036 n1037 c1038, .int .i64 n1039, .int .i64 n1040, .slice A1041 n1042 c1043] ∧ ∃ (A1044 : Option Addr), ∃ (n1045 : Nat), ∃ (c1046 : Nat), ∃ (A1047 :
  Option Addr), ∃ (n1048 : Nat), ∃ (c1049 : Nat), ∃ (n1050 : Int), ∃ (n1051 : Int), ∃ (A1052 : Option Addr), ∃ (n1053 : Nat), ∃ (c1054 : Nat), win rowXs (Int.toNat (e660 + p2 - (1 : Int) -
  e974) * 5) 5 = [.slice A1044 n1045 c1046, .slice A1047 n1048 c1049, .int .i64 n1050, .int .i64 n1051, .slice A1052 n1053 c1054] ∧ ∃ (post1055 : Int → Heap → Prop), ConT P p4F [.agg ⟨[.slice
  A1044 n1045 c1046, .slice A1047 n1048 c1049, .int .i64 n1050, .int .i64 n1051, .slice A1052 n1053 c1054]⟩, .agg ⟨[.slice A1033 n1034 c1035, .slice A1036 n1037 c1038, .int .i64 n1039, .int
  .i64 n1040, .slice A1041 n1042 c1043]⟩] H967 ⟨false, [(false, [.int .i64])]⟩ post1055 ∧ ∀ (H1056 : Heap), Heap.le H967 H1056 → ∀ (n1058 : Int), post1055 n1058 H1056 → ((!decide (n1058 < (0
  : Int))) = true → rng .i64 (e974 + (1 : Int)) ∧ inv965 (e974 + (1 : Int)) n970 H1056 ∧ m966 (e974 + (1 : Int)) n970 < m966 n969 n970) ∧ ((!decide (n1058 < (0 : Int))) = false → inv965 n969
  e974 H1056 ∧ m966 n969 e974 < m966 n969 n970)) ∧ (0 : Int) ≤ e974 ∧ e974 < (↑rowN : Int) ∧ ((0 : Int) ≤ e660 + p2 - (1 : Int) - e974 ∧ e660 + p2 - (1 : Int) - e974 < (↑rowN : Int) ∧ (∃
  (A1062 : Option Addr), ∃ (n1063 : Nat), ∃ (c1064 : Nat), ∃ (A1065 : Option Addr), ∃ (n1066 : Nat), ∃ (c1067 : Nat), ∃ (n1068 : Int), ∃ (n1069 : Int), ∃ (A1070 : Option Addr), ∃ (n1071 :
  Nat), ∃ (c1072 : Nat), win rowXs (Int.toNat (e660 + p2 - (1 : Int) - e974) * 5) 5 = [.slice A1062 n1063 c1064, .slice A1065 n1066 c1067, .int .i64 n1068, .int .i64 n1069, .slice A1070 n1071
  c1072] ∧ ∃ (A1073 : Option Addr), ∃ (n1074 : Nat), ∃ (c1075 : Nat), ∃ (A1076 : Option Addr), ∃ (n1077 : Nat), ∃ (c1078 : Nat), ∃ (n1079 : Int), ∃ (n1080 : Int), ∃ (A1081 : Option Addr), ∃
  (n1082 : Nat), ∃ (c1083 : Nat), win rowXs (Int.toNat e974 * 5) 5 = [.slice A1073 n1074 c1075, .slice A1076 n1077 c1078, .int .i64 n1079, .int .i64 n1080, .slice A1081 n1082 c1083] ∧ ∃
  (post1084 : Int → Heap → Prop), ConT P p4F [.agg ⟨[.slice A1062 n1063 c1064, .slice A1065 n1066 c1067, .int .i64 n1068, .int .i64 n1069, .slice A1070 n1071 c1072]⟩, .agg ⟨[.slice A1073
  n1074 c1075, .slice A1076 n1077 c1078, .int .i64 n1079, .int .i64 n1080, .slice A1081 n1082 c1083]⟩] H967 ⟨false, [(false, [.int .i64])]⟩ post1084 ∧ ∀ (H1085 : Heap), Heap.le H967 H1085 → ∀
  (n1087 : Int), post1084 n1087 H1085 → ((!decide (n1087 < (0 : Int))) = true → rng .i64 (e974 + (1 : Int)) ∧ inv965 (e974 + (1 : Int)) n970 H1085 ∧ m966 (e974 + (1 : Int)) n970 < m966 n969
  n970) ∧ ((!decide (n1087 < (0 : Int))) = false → inv965 n969 e974 H1085 ∧ m966 n969 e974 < m966 n969 n970)) ∧ ∃ (A1091 : Option Addr), ∃ (n1092 : Nat), ∃ (c1093 : Nat), ∃ (A1094 : Option
  Addr), ∃ (n1095 : Nat), ∃ (c1096 : Nat), ∃ (n1097 : Int), ∃ (n1098 : Int), ∃ (A1099 : Option Addr), ∃ (n1100 : Nat), ∃ (c1101 : Nat), win rowXs (Int.toNat e974 * 5) 5 = [.slice A1091 n1092
  c1093, .slice A1094 n1095 c1096, .int .i64 n1097, .int .i64 n1098, .slice A1099 n1100 c1101] ∧ ∃ (A1102 : Option Addr), ∃ (n1103 : Nat), ∃ (c1104 : Nat), ∃ (A1105 : Option Addr), ∃ (n1106 :
  Nat), ∃ (c1107 : Nat), ∃ (n1108 : Int), ∃ (n1109 : Int), ∃ (A1110 : Option Addr), ∃ (n1111 : Nat), ∃ (c1112 : Nat), win rowXs (Int.toNat (e660 + p2 - (1 : Int) - e974) * 5) 5 = [.slice
  A1102 n1103 c1104, .slice A1105 n1106 c1107, .int .i64 n1108, .int .i64 n1109, .slice A1110 n1111 c1112] ∧ ∃ (post1113 : Int → Heap → Prop), ConT P p4F [.agg ⟨[.slice A1102 n1103 c1104,
  .slice A1105 n1106 c1107, .int .i64 n1108, .int .i64 n1109, .slice A1110 n1111 c1112]⟩, .agg ⟨[.slice A1091 n1092 c1093, .slice A1094 n1095 c1096, .int .i64 n1097, .int .i64 n1098, .slice
  A1099 n1100 c1101]⟩] H967 ⟨false, [(false, [.int .i64])]⟩ post1113 ∧ ∀ (H1114 : Heap), Heap.le H967 H1114 → ∀ (n1116 : Int), post1113 n1116 H1114 → ((!decide (n1116 < (0 : Int))) = true →
  rng .i64 (e974 + (1 : Int)) ∧ inv965 (e974 + (1 : Int)) n970 H1114 ∧ m966 (e974 + (1 : Int)) n970 < m966 n969 n970) ∧ ((!decide (n1116 < (0 : Int))) = false → inv965 n969 e974 H1114 ∧ m966
  n969 e974 < m966 n969 n970)) ∧ ∃ (A1120 : Option Addr), ∃ (n1121 : Nat), ∃ (c1122 : Nat), ∃ (A1123 : Option Addr), ∃ (n1124 : Nat), ∃ (c1125 : Nat), ∃ (n1126 : Int), ∃ (n1127 : Int), ∃
  (A1128 : Option Addr), ∃ (n1129 : Nat), ∃ (c1130 : Nat), win rowXs (Int.toNat e974 * 5) 5 = [.slice A1120 n1121 c1122, .slice A1123 n1124 c1125, .int .i64 n1126, .int .i64 n1127, .slice
  A1128 n1129 c1130] ∧ (0 : Int) ≤ e660 + p2 - (1 : Int) - e974 ∧ e660 + p2 - (1 : Int) - e974 < (↑rowN : Int) ∧ ∃ (A1131 : Option Addr), ∃ (n1132 : Nat), ∃ (c1133 : Nat), ∃ (A1134 : Option
  Addr), ∃ (n1135 : Nat), ∃ (c1136 : Nat), ∃ (n1137 : Int), ∃ (n1138 : Int), ∃ (A1139 : Option Addr), ∃ (n1140 : Nat), ∃ (c1141 : Nat), win rowXs (Int.toNat (e660 + p2 - (1 : Int) - e974) *
  5) 5 = [.slice A1131 n1132 c1133, .slice A1134 n1135 c1136, .int .i64 n1137, .int .i64 n1138, .slice A1139 n1140 c1141] ∧ ∃ (post1142 : Int → Heap → Prop), ConT P p4F [.agg ⟨[.slice A1131
  n1132 c1133, .slice A1134 n1135 c1136, .int .i64 n1137, .int .i64 n1138, .slice A1139 n1140 c1141]⟩, .agg ⟨[.slice A1120 n1121 c1122, .slice A1123 n1124 c1125, .int .i64 n1126, .int .i64
  n1127, .slice A1128 n1129 c1130]⟩] H967 ⟨false, [(false, [.int .i64])]⟩ post1142 ∧ ∀ (H1143 : Heap), Heap.le H967 H1143 → ∀ (n1145 : Int), post1142 n1145 H1143 → ((!decide (n1145 < (0 :
  Int))) = true → rng .i64 (e974 + (1 : Int)) ∧ inv965 (e974 + (1 : Int)) n970 H1143 ∧ m966 (e974 + (1 : Int)) n970 < m966 n969 n970) ∧ ((!decide (n1145 < (0 : Int))) = false → inv965 n969
  e974 H1143 ∧ m966 n969 e974 < m966 n969 n970)) ∧ (decide (n969 < n970) = false → rng .i64 (e660 + p2 - n969) ∧ (decide (n969 < p2) = true → (decide (p2 < e660 + p2 - n969) = true → ∃
  (post1152 : List Value → Heap → Prop), ConM P 158 [.slice none 0 0, .int .i64 n969, .int .i64 p2, .int .i64 (e660 + p2 - n969), .func (.func p4F) ⟨[]⟩ ⟨[]⟩] 0 94 rowN rowXs true H967 ⟨true,
  []⟩ post1152 ∧ ∀ (H1153 : Heap), Heap.le H967 H1153 → ∀ (ys1155 : List Value), post1152 ys1155 H1153 → (decide (p1 < n969) = true → (decide (n969 < e660) = true → ∃ (post1159 : List Value →
  Heap → Prop), ConM P 145 [.slice none 0 0, .int .i64 p1, .int .i64 n969, .int .i64 e660, .func (.func p4F) ⟨[]⟩ ⟨[]⟩] 0 94 rowN ys1155 true H1153 ⟨true, []⟩ post1159 ∧ ∀ (H1160 : Heap),
  Heap.le H1153 H1160 → ∀ (ys1162 : List Value), post1159 ys1162 H1160 → (decide (e660 < e660 + p2 - n969) = true → (decide (e660 + p2 - n969 < p3) = true → ∃ (post1166 : List Value → Heap →
  Prop), ConM P 145 [.slice none 0 0, .int .i64 e660, .int .i64 (e660 + p2 - n969), .int .i64 p3, .func (.func p4F) ⟨[]⟩ ⟨[]⟩] 0 94 rowN ys1162 true H1160 ⟨true, []⟩ post1166 ∧ ∀ (H1167 :
  Heap), Heap.le H1160 H1167 → ∀ (ys1169 : List Value), post1166 ys1169 H1167 → s0 = s0 ∧ rowN = rowN ∧ post ys1169 H1167) ∧ (decide (e660 + p2 - n969 < p3) = false → s0 = s0 ∧ rowN = rowN ∧
  post ys1162 H1160)) ∧ (decide (e660 < e660 + p2 - n969) = false → s0 = s0 ∧ rowN = rowN ∧ post ys1162 H1160)) ∧ (decide (n969 < e660) = false → (decide (e660 < e660 + p2 - n969) = true →
  (decide (e660 + p2 - n969 < p3) = true → ∃ (post1176 : List Value → Heap → Prop), ConM P 145 [.slice none 0 0, .int .i64 e660, .int .i64 (e660 + p2 - n969), .int .i64 p3, .func (.func p4F)
  ⟨[]⟩ ⟨[]⟩] 0 94 rowN ys1155 true H1153 ⟨true, []⟩ post1176 ∧ ∀ (H1177 : Heap), Heap.le H1153 H1177 → ∀ (ys1179 : List Value), post1176 ys1179 H1177 → s0 = s0 ∧ rowN = rowN ∧ post ys1179
  H1177) ∧ (decide (e660 + p2 - n969 < p3) = false → s0 = s0 ∧ rowN = rowN ∧ post ys1155 H1153)) ∧ (decide (e660 < e660 + p2 - n969) = false → s0 = s0 ∧ rowN = rowN ∧ post ys1155 H1153))) ∧
  (decide (p1 < n969) = false → (decide (e660 < e660 + p2 - n969) = true → (decide (e660 + p2 - n969 < p3) = true → ∃ (post1186 : List Value → Heap → Prop), ConM P 145 [.slice none 0 0, .int
  .i64 e660, .int .i64 (e660 + p2 - n969), .int .i64 p3, .func (.func p4F) ⟨[]⟩ ⟨[]⟩] 0 94 rowN ys1155 true H1153 ⟨true, []⟩ post1186 ∧ ∀ (H1187 : Heap), Heap.le H1153 H1187 → ∀ (ys1189 :
  List Value), post1186 ys1189 H1187 → s0 = s0 ∧ rowN = rowN ∧ post ys1189 H1187) ∧ (decide (e660 + p2 - n969 < p3) = false → s0 = s0 ∧ rowN = rowN ∧ post ys1155 H1153)) ∧ (decide (e660 <
  e660 + p2 - n969) = false → s0 = s0 ∧ rowN = rowN ∧ post ys1155 H1153))) ∧ (decide (p2 < e660 + p2 - n969) = false → (decide (p1 < n969) = true → (decide (n969 < e660) = true → ∃ (post1196
  : List Value → Heap → Prop), ConM P 145 [.slice none 0 0, .int .i64 p1, .int .i64 n969, .int .i64 e660, .func (.func p4F) ⟨[]⟩ ⟨[]⟩] 0 94 rowN rowXs true H967 ⟨true, []⟩ post1196 ∧ ∀ (H1197
  : Heap), Heap.le H967 H1197 → ∀ (ys1199 : List Value), post1196 ys1199 H1197 → (decide (e660 < e660 + p2 - n969) = true → (decide (e660 + p2 - n969 < p3) = true → ∃ (post1203 : List Value →
  Heap → Prop), ConM P 145 [.slice none 0 0, .int .i64 e660, .int .i64 (e660 + p2 - n969), .int .i64 p3, .func (.func p4F) ⟨[]⟩ ⟨[]⟩] 0 94 rowN ys1199 true H1197 ⟨true, []⟩ post1203 ∧ ∀
  (H1204 : Heap), Heap.le H1197 H1204 → ∀ (ys1206 : List Value), post1203 ys1206 H1204 → s0 = s0 ∧ rowN = rowN ∧ post ys1206 H1204) ∧ (decide (e660 + p2 - n969 < p3) = false → s0 = s0 ∧ rowN
  = rowN ∧ post ys1199 H1197)) ∧ (decide (e660 < e660 + p2 - n969) = false → s0 = s0 ∧ rowN = rowN ∧ post ys1199 H1197)) ∧ (decide (n969 < e660) = false → (decide (e660 < e660 + p2 - n969) =
  true → (decide (e660 + p2 - n969 < p3) = true → ∃ (post1213 : List Value → Heap → Prop), ConM P 145 [.slice none 0 0, .int .i64 e660, .int .i64 (e660 + p2 - n969), .int .i64 p3, .func
  (.func p4F) ⟨[]⟩ ⟨[]⟩] 0 94 rowN rowXs true H967 ⟨true, []⟩ post1213 ∧ ∀ (H1214 : Heap), Heap.le H967 H1214 → ∀ (ys1216 : List Value), post1213 ys1216 H1214 → s0 = s0 ∧ rowN = rowN ∧ post
  ys1216 H1214) ∧ (decide (e660 + p2 - n969 < p3) = false → s0 = s0 ∧ rowN = rowN ∧ post rowXs H967)) ∧ (decide (e660 < e660 + p2 - n969) = false → s0 = s0 ∧ rowN = rowN ∧ post rowXs H967)))
  ∧ (decide (p1 < n969) = false → (decide (e660 < e660 + p2 - n969) = true → (decide (e660 + p2 - n969 < p3) = true → ∃ (post1223 : List Value → Heap → Prop), ConM P 145 [.slice none 0 0,
  .int .i64 e660, .int .i64 (e660 + p2 - n969), .int .i64 p3, .func (.func p4F) ⟨[]⟩ ⟨[]⟩] 0 94 rowN rowXs true H967 ⟨true, []⟩ post1223 ∧ ∀ (H1224 : Heap), Heap.le H967 H1224 → ∀ (ys1226 :
  List Value), post1223 ys1226 H1224 → s0 = s0 ∧ rowN = rowN ∧ post ys1226 H1224) ∧ (decide (e660 + p2 - n969 < p3) = false → s0 = s0 ∧ rowN = rowN ∧ post rowXs H967)) ∧ (decide (e660 < e660
  + p2 - n969) = false → s0 = s0 ∧ rowN = rowN ∧ post rowXs H967)))) ∧ (decide (n969 < p2) = false → (decide (p1 < n969) = true → (decide (n969 < e660) = true → ∃ (post1233 : List Value →
  Heap → Prop), ConM P 145 [.slice none 0 0, .int .i64 p1, .int .i64 n969, .int .i64 e660, .func (.func p4F) ⟨[]⟩ ⟨[]⟩] 0 94 rowN rowXs true H967 ⟨true, []⟩ post1233 ∧ ∀ (H1234 : Heap),
  Heap.le H967 H1234 → ∀ (ys1236 : List Value), post1233 ys1236 H1234 → (decide (e660 < e660 + p2 - n969) = true → (decide (e660 + p2 - n969 < p3) = true → ∃ (post1240 : List Value → Heap →
  Prop), ConM P 145 [.slice none 0 0, .int .i64 e660, .int .i64 (e660 + p2 - n969), .int .i64 p3, .func (.func p4F) ⟨[]⟩ ⟨[]⟩] 0 94 rowN ys1236 true H1234 ⟨true, []⟩ post1240 ∧ ∀ (H1241 :
  Heap), Heap.le H1234 H1241 → ∀ (ys1243 : List Value), post1240 ys1243 H1241 → s0 = s0 ∧ rowN = rowN ∧ post ys1243 H1241) ∧ (decide (e660 + p2 - n969 < p3) = false → s0 = s0 ∧ rowN = rowN ∧
  post ys1236 H1234)) ∧ (decide (e660 < e660 + p2 - n969) = false → s0 = s0 ∧ rowN = rowN ∧ post ys1236 H1234)) ∧ (decide (n969 < e660) = false → (decide (e660 < e660 + p2 - n969) = true →
  (decide (e660 + p2 - n969 < p3) = true → ∃ (post1250 : List Value → Heap → Prop), ConM P 145 [.slice none 0 0, .int .i64 e660, .int .i64 (e660 + p2 - n969), .int .i64 p3, .func (.func p4F)
  ⟨[]⟩ ⟨[]⟩] 0 94 rowN rowXs true H967 ⟨true, []⟩ post1250 ∧ ∀ (H1251 : Heap), Heap.le H967 H1251 → ∀ (ys1253 : List Value), post1250 ys1253 H1251 → s0 = s0 ∧ rowN = rowN ∧ post ys1253 H1251)
  ∧ (decide (e660 + p2 - n969 < p3) = false → s0 = s0 ∧ rowN = rowN ∧ post rowXs H967)) ∧ (decide (e660 < e660 + p2 - n969) = false → s0 = s0 ∧ rowN = rowN ∧ post rowXs H967))) ∧ (decide (p1
  < n969) = false → (decide (e660 < e660 + p2 - n969) = true → (decide (e660 + p2 - n969 < p3) = true → ∃ (post1260 : List Value → Heap → Prop), ConM P 145 [.slice none 0 0, .int .i64 e660,
  .int .i64 (e660 + p2 - n969), .int .i64 p3, .func (.func p4F) ⟨[]⟩ ⟨[]⟩] 0 94 rowN rowXs true H967 ⟨true, []⟩ post1260 ∧ ∀ (H1261 : Heap), Heap.le H967 H1261 → ∀ (ys1263 : List Value),
  post1260 ys1263 H1261 → s0 = s0 ∧ rowN = rowN ∧ post ys1263 H1261) ∧ (decide (e660 + p2 - n969 < p3) = false → s0 = s0 ∧ rowN = rowN ∧ post rowXs H967)) ∧ (decide (e660 < e660 + p2 - n969)
  = false → s0 = s0 ∧ rowN = rowN ∧ post rowXs H967)))))))) := by kernel_rfl
set_option maxHeartbeats 4000000 in
theorem symStep_Kd {g : FuncId} {cf : Kd → Kd → Int} (hO : Sort.SWO (ltOf cf)) {n : Nat} (hn : n ≤ 100000000000000) {H0 : Heap} (hc : CmpT Tryz.prog Kd H0 g cf) {k : Nat} (ih : SymIH Tryz.prog 145 94 g cf n H0 k) :
    SymIH Tryz.prog 145 94 g cf n H0 (k + 1) := by
  have rc : RotC Tryz.prog 158 94 g Kd n H0 := fun _ _ _ _ _ _ _ _ _ hle hr hN hp hq ha hm hb => rotate_Kd hr hN (by omega) hp hq ha hm hb
  intro H xs X p q Y a m b hle hk hr hN hp hq sp sq ha hm hb
  have hpl := List.length_pos_iff.2 hp; have hql := List.length_pos_iff.2 hq
  have hN' := hN
  simp only [List.length_append] at hN'
  have hxl := hr.length
  refine conK_of_vc (an := an145) (fn := Tryz.f145) mix tabOK Tryz.func145 (by kernel_rfl) (extra := 0) (by simp) ?_
  rw [vc145]
  intro s0
  refine ⟨by simp only [rng]; omega, fun h1 => ?_, fun h1 => ⟨by simp only [rng]; omega, fun h2 => ?_, fun h2 => ?_⟩⟩
  · -- one element on the left
    have h1 := of_decide_eq_true h1
    obtain ⟨x, rfl⟩ : ∃ x, p = [x] := List.length_eq_one_iff.1 (by omega)
    obtain ⟨inv, hinv⟩ : ∃ inv : Int → Int → Heap → Prop, inv = fun i j _ => m ≤ i ∧ i ≤ j ∧ j ≤ b ∧ (∀ t, t + 1 = (i - m).toNat → ∀ h : t < q.length, cf q[t] x < 0) ∧ (∀ h : (j - m).toNat < q.length, ¬ cf q[(j - m).toNat] x < 0) := ⟨_, rfl⟩
    obtain ⟨mm, hmm⟩ : ∃ mm : Int → Int → Nat, mm = fun i j => (j - i).toNat := ⟨_, rfl⟩
    refine ⟨inv, mm, by rw [hinv]; exact ⟨by omega, by omega, by omega, fun t ht => by omega, fun h => by omega⟩, ?_⟩
    intro H4 l4 i j hi
    have hi0 := hi
    rw [hinv] at hi0
    obtain ⟨i0, i1, i2, i3, i4⟩ := hi0
    refine ⟨fun hlt => ?_, fun hge => ?_⟩
    · have hlt := of_decide_eq_true hlt
      refine ⟨by simp only [rng]; omega, _, half_u (by omega) (by omega), rfl, _, half_i (by omega) (by omega), ?_⟩
      have hh1 : i ≤ (i + j) / 2 := by omega
      have hh2 : (i + j) / 2 < j := by omega
      generalize (i + j) / 2 = h at hh1 hh2
      have hr4 := hr.mono l4
      have bA : a.toNat < (X ++ [x] ++ q ++ Y).length := by omega
      have bB : h.toNat < (X ++ [x] ++ q ++ Y).length := by omega
      have hwA := hr4.getw bA
      have hwB := hr4.getw bB
      have eA : (X ++ [x] ++ q ++ Y)[a.toNat] = x := by
        have : a.toNat = X.length := by omega
        simp [this]
      have hqb : (h - m).toNat < q.length := by omega
      have eB : (X ++ [x] ++ q ++ Y)[h.toNat] = q[(h - m).toNat] := by
        have e : h.toNat = (X ++ [x]).length + (h - m).toNat := by simp only [List.length_append, List.length_singleton] at hm ⊢; omega
        simp only [e]
        rw [List.getElem_append_left (by simp only [List.length_append] at *; omega), List.getElem_append_right (by omega)]
        simp
      rw [eA] at hwA
      rw [eB] at hwB
      have hcon := hc H4 _ _ _ _ (hle_trans hle l4) hwB hwA
      have fin : ∃ (post : Int → Heap → Prop), ConT Tryz.prog g [.agg ⟨win xs (h.toNat * Rep.sz Kd) (Rep.sz Kd)⟩, .agg ⟨win xs (a.toNat * Rep.sz Kd) (Rep.sz Kd)⟩] H4 shI post ∧ ∀ (H5 : Heap), Heap.le H4 H5 → ∀ (r : Int), post r H5 → (decide (r < 0) = true → rng .i64 (h + 1) ∧ inv (h + 1) j H5 ∧ mm (h + 1) j < mm i j) ∧ (decide (r < 0) = false → inv i h H5 ∧ mm i h < mm i j) := by
        refine ⟨_, hcon, ?_⟩
        rintro H5 l5 _ rfl
        subst hinv hmm
        refine ⟨fun hr => ⟨by simp only [rng]; omega, ⟨by omega, by omega, by omega, fun t ht hq2 => ?_, i4⟩, by dsimp only; omega⟩, fun hr => ⟨⟨by omega, by omega, by omega, i3, fun _ => of_decide_eq_false hr⟩, by dsimp only; omega⟩⟩
        have : t = (h - m).toNat := by omega
        subst this
        exact of_decide_eq_true hr
      clear hcon
      generalize hA : win xs (a.toNat * Rep.sz Kd) (Rep.sz Kd) = wA at hwA fin
      generalize hB : win xs (h.toNat * Rep.sz Kd) (Rep.sz Kd) = wB at hwB fin
      obtain ⟨E9, k9, e9, A9, n9, c9, B9, m9, d9, rfl, -⟩ := hwA
      obtain ⟨E9, k9, e9, A9, n9, c9, B9, m9, d9, rfl, -⟩ := hwB
      have g1 : 0 ≤ a := by omega
      have g2 : a < (n : Int) := by omega
      have g3 : 0 ≤ h := by omega
      have g4 : h < (n : Int) := by omega
      repeat' (first | assumption | refine ⟨_, _, _, _, _, _, _, _, _, _, _, rfl, ?_⟩ | refine ⟨_, _, _, _, _, _, _, _, _, _, _, hA, ?_⟩ | refine ⟨_, _, _, _, _, _, _, _, _, _, _, hB, ?_⟩ | refine And.intro ?_ ?_)
    · have hge := of_decide_eq_false hge
      have hij : i = j := by omega
      subst hij
      have hqi : (i - m).toNat ≤ q.length := by omega
      have hsrt := srt_insL hO sq hqi i3 i4
      have hML := moveL_len (X := X) (q := q) (x := x) (Y := Y)
      refine ⟨fun u ys k H' => u = n ∧ a ≤ k ∧ k ≤ i - 1 ∧ Row H' ys (moveL X q x Y (k - a).toNat), fun _ _ k => (i - k).toNat, ⟨rfl, by omega, by omega, by rw [show (a - a).toNat = 0 by omega]; simpa [moveL] using hr.mono l4⟩, ?_⟩
      rintro H14 l14 u ys k ⟨hu, k0, k1, hr3⟩
      refine ⟨by simp only [rng]; omega, fun hlt => ?_, fun hge => ?_⟩
      · have hlt := of_decide_eq_true hlt
        obtain ⟨h1', h2, h3⟩ := moveL_up (X := X) (q := q) (x := x) (Y := Y) (t := (k - a).toNat) (by omega) (a := k.toNat) (b := (k + 1).toNat) (by omega) (by omega)
        have hwA := hr3.getw h1'
        have hwB := hr3.getw h2
        have hset := hr3.setw h1' hwB
        have hset2 := hset.setw (i := (k + 1).toNat) (by simpa using h2) hwA
        rw [h3, show (k - a).toNat + 1 = (k + 1 - a).toNat by omega] at hset2
        have hlen1 := hr3.length; have hlen2 := hset.length
        have hcl := hML (k - a).toNat
        rw [List.length_set] at hlen2
        have fin : rng .i64 (k + 1) ∧ (u = n ∧ a ≤ k + 1 ∧ k + 1 ≤ i - 1 ∧ Row H14 (splice (splice ys (k.toNat * Rep.sz Kd) (win ys ((k + 1).toNat * Rep.sz Kd) (Rep.sz Kd))) ((k + 1).toNat * Rep.sz Kd) (win ys (k.toNat * Rep.sz Kd) (Rep.sz Kd))) (moveL X q x Y (k + 1 - a).toNat)) ∧ (i - (k + 1)).toNat < (i - k).toNat :=
          ⟨by simp only [rng]; omega, ⟨hu, by omega, by omega, hset2⟩, by omega⟩
        have c1 : k.toNat * Rep.sz Kd + Rep.sz Kd ≤ ys.length := by rw [hlen1, ← Nat.succ_mul]; exact Nat.mul_le_mul_right _ h1'
        have c2 : (k + 1).toNat * Rep.sz Kd + Rep.sz Kd ≤ (splice ys (k.toNat * Rep.sz Kd) (win ys ((k + 1).toNat * Rep.sz Kd) (Rep.sz Kd))).length := by rw [hlen2, ← Nat.succ_mul]; exact Nat.mul_le_mul_right _ h2
        clear hset hset2 hlen1 hlen2
        generalize hA : win ys (k.toNat * Rep.sz Kd) (Rep.sz Kd) = wA at hwA fin
        generalize hB : win ys ((k + 1).toNat * Rep.sz Kd) (Rep.sz Kd) = wB at hwB fin c2
        obtain ⟨E9, k9, e9, A9, n9, c9, B9, m9, d9, rfl, -⟩ := hwA
        obtain ⟨E9, k9, e9, A9, n9, c9, B9, m9, d9, rfl, -⟩ := hwB
        have g1 : 0 ≤ k := by omega
        have g2 : k < (u : Int) := by simp only [List.length_singleton] at hN'; omega
        have g3 : 0 ≤ k + 1 := by omega
        have g4 : k + 1 < (u : Int) := by simp only [List.length_singleton] at hN'; omega
        refine ⟨by simp only [rng]; omega, by simp only [rng]; omega, ?_⟩
        repeat' (first | assumption | refine ⟨_, _, _, _, _, _, _, _, _, _, _, rfl, ?_⟩ | refine ⟨_, _, _, _, _, _, _, _, _, _, _, hA, ?_⟩ | refine ⟨_, _, _, _, _, _, _, _, _, _, _, hB, ?_⟩ | refine And.intro ?_ ?_)
      · have hge := of_decide_eq_false hge
        refine ⟨rfl, hu, _, hr3, ?_, ?_⟩
        · rw [show (k - a).toNat = (i - m).toNat by simp only [List.length_singleton] at hm; omega]
          have := List.perm_middle (a := x) (l₁ := q.take (i - m).toNat) (l₂ := q.drop (i - m).toNat)
          rw [List.take_append_drop] at this
          exact this
        · rw [show (k - a).toNat = (i - m).toNat by simp only [List.length_singleton] at hm; omega]
          exact hsrt
  · -- one element on the right
    have h2 := of_decide_eq_true h2
    obtain ⟨x, rfl⟩ : ∃ x, q = [x] := List.length_eq_one_iff.1 (by omega)
    obtain ⟨inv, hinv⟩ : ∃ inv : Int → Int → Heap → Prop, inv = fun i j _ => a ≤ i ∧ i ≤ j ∧ j ≤ m ∧ (∀ t, t + 1 = (i - a).toNat → ∀ h : t < p.length, ¬ cf x p[t] < 0) ∧ (∀ h : (j - a).toNat < p.length, cf x p[(j - a).toNat] < 0) := ⟨_, rfl⟩
    obtain ⟨mm, hmm⟩ : ∃ mm : Int → Int → Nat, mm = fun i j => (j - i).toNat := ⟨_, rfl⟩
    refine ⟨inv, mm, by rw [hinv]; exact ⟨by omega, by omega, by omega, fun t ht => by omega, fun h => by omega⟩, ?_⟩
    intro H4 l4 i j hi
    have hi0 := hi
    rw [hinv] at hi0
    obtain ⟨i0, i1, i2, i3, i4⟩ := hi0
    refine ⟨fun hlt => ?_, fun hge => ?_⟩
    · have hlt := of_decide_eq_true hlt
      refine ⟨by simp only [rng]; omega, _, half_u (by omega) (by omega), rfl, _, half_i (by omega) (by omega), ?_⟩
      have hh1 : i ≤ (i + j) / 2 := by omega
      have hh2 : (i + j) / 2 < j := by omega
      generalize (i + j) / 2 = h at hh1 hh2
      have hr4 := hr.mono l4
      have bA : m.toNat < (X ++ p ++ [x] ++ Y).length := by omega
      have bB : h.toNat < (X ++ p ++ [x] ++ Y).length := by omega
      have hwA := hr4.getw bA
      have hwB := hr4.getw bB
      have eA : (X ++ p ++ [x] ++ Y)[m.toNat] = x := by
        have : m.toNat = (X ++ p).length := by simp only [List.length_append]; omega
        simp only [this]
        rw [List.getElem_append_left (by simp), List.getElem_append_right (by omega)]
        simp
      have hqb : (h - a).toNat < p.length := by omega
      have eB : (X ++ p ++ [x] ++ Y)[h.toNat] = p[(h - a).toNat] := by
        have e : h.toNat = X.length + (h - a).toNat := by omega
        simp only [e]
        rw [List.getElem_append_left (by simp only [List.length_append] at *; omega), List.getElem_append_left (by simp only [List.length_append] at *; omega), List.getElem_append_right (by omega)]
        simp
      rw [eA] at hwA
      rw [eB] at hwB
      have hcon := hc H4 _ _ _ _ (hle_trans hle l4) hwA hwB
      have fin : ∃ (post : Int → Heap → Prop), ConT Tryz.prog g [.agg ⟨win xs (m.toNat * Rep.sz Kd) (Rep.sz Kd)⟩, .agg ⟨win xs (h.toNat * Rep.sz Kd) (Rep.sz Kd)⟩] H4 shI post ∧ ∀ (H5 : Heap), Heap.le H4 H5 → ∀ (r : Int), post r H5 → ((!decide (r < 0)) = true → rng .i64 (h + 1) ∧ inv (h + 1) j H5 ∧ mm (h + 1) j < mm i j) ∧ ((!decide (r < 0)) = false → inv i h H5 ∧ mm i h < mm i j) := by
        refine ⟨_, hcon, ?_⟩
        rintro H5 l5 _ rfl
        subst hinv hmm
        refine ⟨fun hr => ⟨by simp only [rng]; omega, ⟨by omega, by omega, by omega, fun t ht hq2 => ?_, i4⟩, by dsimp only; omega⟩, fun hr => ⟨⟨by omega, by omega, by omega, i3, fun _ => by simpa using hr⟩, by dsimp only; omega⟩⟩
        have : t = (h - a).toNat := by omega
        subst this
        simpa using hr
      clear hcon
      generalize hA : win xs (m.toNat * Rep.sz Kd) (Rep.sz Kd) = wA at hwA fin
      generalize hB : win xs (h.toNat * Rep.sz Kd) (Rep.sz Kd) = wB at hwB fin
      obtain ⟨E9, k9, e9, A9, n9, c9, B9, m9, d9, rfl, -⟩ := hwA
      obtain ⟨E9, k9, e9, A9, n9, c9, B9, m9, d9, rfl, -⟩ := hwB
      have g1 : 0 ≤ m := by omega
      have g2 : m < (n : Int) := by omega
      have g3 : 0 ≤ h := by omega
      have g4 : h < (n : Int) := by omega
      repeat' (first | assumption | refine ⟨_, _, _, _, _, _, _, _, _, _, _, rfl, ?_⟩ | refine ⟨_, _, _, _, _, _, _, _, _, _, _, hA, ?_⟩ | refine ⟨_, _, _, _, _, _, _, _, _, _, _, hB, ?_⟩ | refine And.intro ?_ ?_)
    · have hge := of_decide_eq_false hge
      have hij : i = j := by omega
      subst hij
      have hqi : (i - a).toNat ≤ p.length := by omega
      have hsrt := srt_insR hO sp hqi i3 i4
      have hML := moveL_len (X := X) (q := p) (x := x) (Y := Y)
      simp only [List.length_singleton] at hN'
      refine ⟨fun u ys k H' => u = n ∧ i ≤ k ∧ k ≤ m ∧ Row H' ys (moveL X p x Y (k - a).toNat), fun _ _ k => (k - i).toNat, ⟨rfl, by omega, by omega, by rw [show (m - a).toNat = p.length by omega]; simpa [moveL] using hr.mono l4⟩, ?_⟩
      rintro H14 l14 u ys k ⟨hu, k0, k1, hr3⟩
      refine ⟨fun hlt => ?_, fun hge => ?_⟩
      · have hlt := of_decide_eq_true hlt
        obtain ⟨h1', h2', h3⟩ := moveL_down (X := X) (q := p) (x := x) (Y := Y) (t := (k - a).toNat) (by omega) (by omega) (a := k.toNat) (b := (k - 1).toNat) (by omega) (by omega)
        have hwA := hr3.getw h1'
        have hwB := hr3.getw h2'
        have hset := hr3.setw h1' hwB
        have hset2 := hset.setw (i := (k - 1).toNat) (by simpa using h2') hwA
        rw [h3, show (k - a).toNat - 1 = (k - 1 - a).toNat by omega] at hset2
        have hlen1 := hr3.length; have hlen2 := hset.length
        have hcl := hML (k - a).toNat
        rw [List.length_set] at hlen2
        have fin : rng .i64 (k - 1) ∧ (u = n ∧ i ≤ k - 1 ∧ k - 1 ≤ m ∧ Row H14 (splice (splice ys (k.toNat * Rep.sz Kd) (win ys ((k - 1).toNat * Rep.sz Kd) (Rep.sz Kd))) ((k - 1).toNat * Rep.sz Kd) (win ys (k.toNat * Rep.sz Kd) (Rep.sz Kd))) (moveL X p x Y (k - 1 - a).toNat)) ∧ (k - 1 - i).toNat < (k - i).toNat :=
          ⟨by simp only [rng]; omega, ⟨hu, by omega, by omega, hset2⟩, by omega⟩
        have c1 : k.toNat * Rep.sz Kd + Rep.sz Kd ≤ ys.length := by rw [hlen1, ← Nat.succ_mul]; exact Nat.mul_le_mul_right _ h1'
        have c2 : (k - 1).toNat * Rep.sz Kd + Rep.sz Kd ≤ (splice ys (k.toNat * Rep.sz Kd) (win ys ((k - 1).toNat * Rep.sz Kd) (Rep.sz Kd))).length := by rw [hlen2, ← Nat.succ_mul]; exact Nat.mul_le_mul_right _ h2'
        clear hset hset2 hlen1 hlen2
        generalize hA : win ys (k.toNat * Rep.sz Kd) (Rep.sz Kd) = wA at hwA fin
        generalize hB : win ys ((k - 1).toNat * Rep.sz Kd) (Rep.sz Kd) = wB at hwB fin c2
        obtain ⟨E9, k9, e9, A9, n9, c9, B9, m9, d9, rfl, -⟩ := hwA
        obtain ⟨E9, k9, e9, A9, n9, c9, B9, m9, d9, rfl, -⟩ := hwB
        have g1 : 0 ≤ k := by omega
        have g2 : k < (u : Int) := by omega
        have g3 : 0 ≤ k - 1 := by omega
        have g4 : k - 1 < (u : Int) := by omega
        refine ⟨by simp only [rng]; omega, by simp only [rng]; omega, ?_⟩
        repeat' (first | assumption | refine ⟨_, _, _, _, _, _, _, _, _, _, _, rfl, ?_⟩ | refine ⟨_, _, _, _, _, _, _, _, _, _, _, hA, ?_⟩ | refine ⟨_, _, _, _, _, _, _, _, _, _, _, hB, ?_⟩ | refine And.intro ?_ ?_)
      · have hge := of_decide_eq_false hge
        have hki : k = i := by omega
        subst hki
        refine ⟨rfl, hu, _, hr3, ?_, hsrt⟩
        have := List.perm_middle (a := x) (l₁ := p.take (k - a).toNat) (l₂ := p.drop (k - a).toNat)
        rw [List.take_append_drop] at this
        exact this.trans (List.perm_append_comm (l₁ := [x]) (l₂ := p))
  · -- both longer
    have h1 := of_decide_eq_false h1; have h2 := of_decide_eq_false h2
    refine ⟨by simp only [rng]; omega, _, half_u (by omega) (by omega), rfl, _, half_i (by omega) (by omega), ?_⟩
    obtain ⟨mid, hmid⟩ : ∃ mid, (a + b) / 2 = mid := ⟨_, rfl⟩
    rw [hmid]
    refine ⟨by simp only [rng]; omega, fun hmm0 => ⟨by simp only [rng]; omega, by simp only [rng]; omega, ?_⟩, fun hmm0 => ⟨by simp only [rng]; omega, ?_⟩⟩
    all_goals
      first
      | (have hmm1 := of_decide_eq_true hmm0
         obtain ⟨lo, hlo⟩ : ∃ lo, lo = mid + m - b := ⟨_, rfl⟩
         obtain ⟨hi, hhi⟩ : ∃ hi, hi = mid := ⟨_, rfl⟩
         have hcase : (lo = mid + m - b ∧ hi = mid ∧ mid < m) ∨ (lo = a ∧ hi = m ∧ m ≤ mid) := .inl ⟨hlo, hhi, hmm1⟩)
      | (have hmm1 := of_decide_eq_false hmm0
         obtain ⟨lo, hlo⟩ : ∃ lo, lo = a := ⟨_, rfl⟩
         obtain ⟨hi, hhi⟩ : ∃ hi, hi = m := ⟨_, rfl⟩
         have hcase : (lo = mid + m - b ∧ hi = mid ∧ mid < m) ∨ (lo = a ∧ hi = m ∧ m ≤ mid) := .inr ⟨hlo, hhi, by omega⟩)
      clear hmm0
      obtain ⟨inv, hinv⟩ : ∃ inv : Int → Int → Heap → Prop, inv = fun s r _ => lo ≤ s ∧ s ≤ r ∧ r ≤ hi ∧ (lo < s → ∀ (g1 : (s - 1 - a).toNat < p.length) (g2 : (mid - s).toNat < q.length), ¬ cf q[(mid - s).toNat] p[(s - 1 - a).toNat] < 0) ∧ (r < hi → ∀ (g1 : (r - a).toNat < p.length) (g2 : (mid - 1 - r).toNat < q.length), cf q[(mid - 1 - r).toNat] p[(r - a).toNat] < 0) := ⟨_, rfl⟩
      obtain ⟨mm, hmm⟩ : ∃ mm : Int → Int → Nat, mm = fun s r => (r - s).toNat := ⟨_, rfl⟩
      refine ⟨inv, mm, by rw [hinv]; exact ⟨by omega, by omega, by omega, fun h => by omega, fun h => by omega⟩, ?_⟩
      intro H4 l4 s r hi4
      have hi0 := hi4
      rw [hinv] at hi0
      obtain ⟨s0', s1, s2, s3, s4⟩ := hi0
      refine ⟨fun hlt => ?_, fun hge => ?_⟩
      · have hlt := of_decide_eq_true hlt
        refine ⟨by simp only [rng]; omega, _, half_u (by omega) (by omega), rfl, _, half_i (by omega) (by omega), ?_⟩
        have hh1 : s ≤ (s + r) / 2 := by omega
        have hh2 : (s + r) / 2 < r := by omega
        generalize (s + r) / 2 = h at hh1 hh2
        have hr4 := hr.mono l4
        have bA : (mid + m - 1 - h).toNat < (X ++ p ++ q ++ Y).length := by omega
        have bB : h.toNat < (X ++ p ++ q ++ Y).length := by omega
        have hwA := hr4.getw bA
        have hwB := hr4.getw bB
        have hqa : (mid - 1 - h).toNat < q.length := by omega
        have hqb : (h - a).toNat < p.length := by omega
        have eA : (X ++ p ++ q ++ Y)[(mid + m - 1 - h).toNat] = q[(mid - 1 - h).toNat] := by
          have e : (mid + m - 1 - h).toNat = (X ++ p).length + (mid - 1 - h).toNat := by simp only [List.length_append]; omega
          simp only [e]
          rw [List.getElem_append_left (by simp only [List.length_append] at *; omega), List.getElem_append_right (by omega)]
          simp
        have eB : (X ++ p ++ q ++ Y)[h.toNat] = p[(h - a).toNat] := by
          have e : h.toNat = X.length + (h - a).toNat := by omega
          simp only [e]
          rw [List.getElem_append_left (by simp only [List.length_append] at *; omega), List.getElem_append_left (by simp only [List.length_append] at *; omega), List.getElem_append_right (by omega)]
          simp
        rw [eA] at hwA
        rw [eB] at hwB
        have hcon := hc H4 _ _ _ _ (hle_trans hle l4) hwA hwB
        have fin : ∃ (post : Int → Heap → Prop), ConT Tryz.prog g [.agg ⟨win xs ((mid + m - 1 - h).toNat * Rep.sz Kd) (Rep.sz Kd)⟩, .agg ⟨win xs (h.toNat * Rep.sz Kd) (Rep.sz Kd)⟩] H4 shI post ∧ ∀ (H5 : Heap), Heap.le H4 H5 → ∀ (x : Int), post x H5 → ((!decide (x < 0)) = true → rng .i64 (h + 1) ∧ inv (h + 1) r H5 ∧ mm (h + 1) r < mm s r) ∧ ((!decide (x < 0)) = false → inv s h H5 ∧ mm s h < mm s r) := by
          refine ⟨_, hcon, ?_⟩
          rintro H5 l5 _ rfl
          subst hinv hmm
          refine ⟨fun hr => ⟨by simp only [rng]; omega, ⟨by omega, by omega, by omega, fun _ g1 g2 => ?_, s4⟩, by dsimp only; omega⟩, fun hr => ⟨⟨by omega, by omega, by omega, s3, fun _ g1 g2 => by simpa using hr⟩, by dsimp only; omega⟩⟩
          have e1 : (h + 1 - 1 - a).toNat = (h - a).toNat := by omega
          have e2 : (mid - (h + 1)).toNat = (mid - 1 - h).toNat := by omega
          simp only [e1, e2]
          simpa using hr
        clear hcon
        generalize hA : win xs ((mid + m - 1 - h).toNat * Rep.sz Kd) (Rep.sz Kd) = wA at hwA fin
        generalize hB : win xs (h.toNat * Rep.sz Kd) (Rep.sz Kd) = wB at hwB fin
        obtain ⟨E9, k9, e9, A9, n9, c9, B9, m9, d9, rfl, -⟩ := hwA
        obtain ⟨E9, k9, e9, A9, n9, c9, B9, m9, d9, rfl, -⟩ := hwB
        have g1 : 0 ≤ mid + m - 1 - h := by omega
        have g2 : mid + m - 1 - h < (n : Int) := by omega
        have g3 : 0 ≤ h := by omega
        have g4 : h < (n : Int) := by omega
        refine ⟨by simp only [rng]; omega, ?_⟩
        repeat' (first | assumption | refine ⟨_, _, _, _, _, _, _, _, _, _, _, rfl, ?_⟩ | refine ⟨_, _, _, _, _, _, _, _, _, _, _, hA, ?_⟩ | refine ⟨_, _, _, _, _, _, _, _, _, _, _, hB, ?_⟩ | refine And.intro ?_ ?_)
      · have hge := of_decide_eq_false hge
        have hsr : s = r := by omega
        subst hsr
        refine ⟨by simp only [rng]; omega, ?_⟩
        refine symT1_ok (i := (s - a).toNat) (j := (mid - s).toNat) hO ih rc (hle_trans hle l4) (hr.mono l4) hN sp sq (by omega) (by omega) (by omega) (by omega) (fun t ht hk1 hj1 => ?_) (fun t ht hi1 hk1 => ?_) ha hm hb (by omega) (by omega) (by omega)
        · have : t = (s - 1 - a).toNat := by omega
          subst this
          exact s3 (by omega) hk1 hj1
        · have : t = (mid - 1 - s).toNat := by omega
          subst this
          exact s4 (by omega) hi1 hk1
theorem symMerge_Kd {g : FuncId} {cf : Kd → Kd → Int} (hO : Sort.SWO (ltOf cf)) {n : Nat} (hn : n ≤ 100000000000000) {H0 : Heap} (hc : CmpT Tryz.prog Kd H0 g cf) :
    ∀ k : Nat, SymIH Tryz.prog 145 94 g cf n H0 k
  | 0 => by
    intro H xs X p q Y a m b hle hk hr hN hp hq
    have := List.length_pos_iff.2 hp
    omega
  | k + 1 => symStep_Kd hO hn hc (symMerge_Kd hO hn hc k)
def an112 : Ann where
  res := fun _ => none
  lend := fun _ => false
  mt := fun | 144 => some true | 145 => some true | _ => none
  sch := fun _ => .done
  lt := fun | 2 => [.rowc 63 94, .slot 7 false [.int .i64], .slot 8 false [.int .i64]] | 7 => [.rowc 63 94, .slot 6 false [.int .i64]] | 9 => [.rowc 63 94, .slot 7 false [.int .i64], .slot 8 false [.int .i64]] | _ => []
  tup := tups

theorem vc112 (P : Program) (H : Heap) (n : Int) (cmpF : FuncId) (rowN : Nat) (rowXs : List Value) (post : List Value → Heap → Prop) :
  vcFnK P tab an112 Tryz.f112 [.slice none 0 0, .int .i64 n, .func (.func cmpF) #[] #[]] 0 94 rowN rowXs 0 H post =
  (  ∀ (s0 : Value), ∃ (inv1 : Nat → List Value → Int → Int → Heap → Prop), ∃ (m2 : Nat → List Value → Int → Int → Nat), inv1 rowN rowXs (0 : Int) (20 : Int) H ∧ ∀ (H3 : Heap), Heap.le H H3 → ∀
  (n5 : Nat) (xs6 : List Value) (n7 n8 : Int), inv1 n5 xs6 n7 n8 H3 → (decide (n8 ≤ n) = true → ∃ (post11 : List Value → Heap → Prop), ConM P 144 [.slice none 0 0, .int .i64 n7, .int .i64 n8,
  .func (.func cmpF) ⟨[]⟩ ⟨[]⟩] 0 94 n5 xs6 true H3 ⟨true, []⟩ post11 ∧ ∀ (H12 : Heap), Heap.le H3 H12 → ∀ (ys14 : List Value), post11 ys14 H12 → rng .i64 (n8 + (20 : Int)) ∧ inv1 n5 ys14 n8
  (n8 + (20 : Int)) H12 ∧ m2 n5 ys14 n8 (n8 + (20 : Int)) < m2 n5 xs6 n7 n8) ∧ (decide (n8 ≤ n) = false → ∃ (post17 : List Value → Heap → Prop), ConM P 144 [.slice none 0 0, .int .i64 n7,
  .int .i64 n, .func (.func cmpF) ⟨[]⟩ ⟨[]⟩] 0 94 n5 xs6 true H3 ⟨true, []⟩ post17 ∧ ∀ (H18 : Heap), Heap.le H3 H18 → ∀ (ys20 : List Value), post17 ys20 H18 → ∃ (inv22 : Nat → List Value →
  Int → Heap → Prop), ∃ (m23 : Nat → List Value → Int → Nat), inv22 n5 ys20 (20 : Int) H18 ∧ ∀ (H24 : Heap), Heap.le H18 H24 → ∀ (n26 : Nat) (xs27 : List Value) (n28 : Int), inv22 n26 xs27
  n28 H24 → (decide (n28 < n) = true → rng .i64 ((2 : Int) * n28) ∧ ∃ (inv31 : Nat → List Value → Int → Int → Heap → Prop), ∃ (m32 : Nat → List Value → Int → Int → Nat), inv31 n26 xs27 (0 :
  Int) ((2 : Int) * n28) H24 ∧ ∀ (H33 : Heap), Heap.le H24 H33 → ∀ (n35 : Nat) (xs36 : List Value) (n37 n38 : Int), inv31 n35 xs36 n37 n38 H33 → (decide (n38 ≤ n) = true → rng .i64 (n37 +
  n28) ∧ ∃ (post41 : List Value → Heap → Prop), ConM P 145 [.slice none 0 0, .int .i64 n37, .int .i64 (n37 + n28), .int .i64 n38, .func (.func cmpF) ⟨[]⟩ ⟨[]⟩] 0 94 n35 xs36 true H33 ⟨true,
  []⟩ post41 ∧ ∀ (H42 : Heap), Heap.le H33 H42 → ∀ (ys44 : List Value), post41 ys44 H42 → rng .i64 ((2 : Int) * n28) ∧ rng .i64 (n38 + (2 : Int) * n28) ∧ inv31 n35 ys44 n38 (n38 + (2 : Int) *
  n28) H42 ∧ m32 n35 ys44 n38 (n38 + (2 : Int) * n28) < m32 n35 xs36 n37 n38) ∧ (decide (n38 ≤ n) = false → rng .i64 (n37 + n28) ∧ (decide (n37 + n28 < n) = true → ∃ (post48 : List Value →
  Heap → Prop), ConM P 145 [.slice none 0 0, .int .i64 n37, .int .i64 (n37 + n28), .int .i64 n, .func (.func cmpF) ⟨[]⟩ ⟨[]⟩] 0 94 n35 xs36 true H33 ⟨true, []⟩ post48 ∧ ∀ (H49 : Heap),
  Heap.le H33 H49 → ∀ (ys51 : List Value), post48 ys51 H49 → rng .i64 (n28 * (2 : Int)) ∧ inv22 n35 ys51 (n28 * (2 : Int)) H49 ∧ m23 n35 ys51 (n28 * (2 : Int)) < m23 n26 xs27 n28) ∧ (decide
  (n37 + n28 < n) = false → rng .i64 (n28 * (2 : Int)) ∧ inv22 n35 xs36 (n28 * (2 : Int)) H33 ∧ m23 n35 xs36 (n28 * (2 : Int)) < m23 n26 xs27 n28))) ∧ (decide (n28 < n) = false → s0 = s0 ∧
  n26 = rowN ∧ post xs27 H24))) := by kernel_rfl
set_option maxHeartbeats 2000000 in
theorem stable_Kd {H : Heap} {n : Nat} {xs : List Value} {l : List Kd} (hr : Row H xs l) (hl : l.length = n) (hn : n ≤ 10000000000000) {g : FuncId} (hg : FnOK Tryz.prog g) {cf : Kd → Kd → Int} (hO : Sort.SWO (ltOf cf)) (hc : CmpT Tryz.prog Kd H g cf) :
    ConM Tryz.prog 112 [.slice none 0 0, .int .i64 n, .func (.func g) #[] #[]] 0 94 n xs true H ⟨true, []⟩
      (fun ys (H' : Heap) => ∃ m : List Kd, Row H' ys m ∧ m.Perm l ∧ m.Pairwise (fun a b => ¬ cf b a < 0)) := by
  refine conK_of_vc (an := an112) (fn := Tryz.f112) mix tabOK Tryz.func112 (by kernel_rfl) (extra := 0) (by simp) ?_
  rw [vc112]
  intro s0
  refine ⟨fun u ys a b H' => u = n ∧ 0 ≤ a ∧ a ≤ n ∧ b = a + 20 ∧ 20 ∣ a.toNat ∧ ∃ m : List Kd, Row H' ys m ∧ m.Perm l ∧ ∀ i : Nat, 20 ∣ i → i + 20 ≤ a.toNat → srt cf (seg m i (i + 20)), fun _ _ a _ => (n - a).toNat,
    ⟨rfl, by omega, by omega, by omega, ⟨0, rfl⟩, l, hr, List.Perm.refl _, fun i _ h => by simp at h⟩, ?_⟩
  rintro H3 l3 u ys a b ⟨rfl, a0, a1, rfl, hd, m, hm, hp, hs⟩
  have hml : m.length = u := by rw [hp.length_eq, hl]
  obtain ⟨A, rfl⟩ := Int.eq_ofNat_of_zero_le a0
  simp only [Int.toNat_natCast] at hd hs
  refine ⟨fun hle => ?_, fun hgt => ?_⟩
  · have hle := of_decide_eq_true hle
    have e20 : ((A : Int) + 20) = ((A + 20 : Nat) : Int) := by omega
    rw [e20]
    refine ⟨_, ins_Kd (i := A) (j := A + 20) (by omega) hm hml (by omega) (by omega) hg hO (fun H' vs us s t h1 h2 h3 => hc H' vs us s t (hle_trans l3 h1) h2 h3), ?_⟩
    rintro H12 l12 ys14 ⟨w, h1, h2, h3⟩
    have h2 : w.Perm (seg m A (A + 20)) := h2
    have hsl := seg_len m A (j := A + 20) (by omega)
    have hwl := h2.length_eq
    have htl : (m.take A).length = A := by rw [List.length_take]; omega
    have h3' := seg_three m (i := A) (j := A + 20) (by omega)
    refine ⟨by simp only [rng]; omega, ⟨rfl, by omega, by omega, by omega, by simp only [Int.toNat_natCast]; omega, _, h1, ?_, fun i hi hib => ?_⟩, by dsimp only; omega⟩
    · have : (m.take A ++ w ++ m.drop (A + 20)).Perm (m.take A ++ seg m A (A + 20) ++ m.drop (A + 20)) := List.Perm.append_right _ (List.Perm.append_left _ h2)
      rw [← h3'] at this
      exact this.trans hp
    · simp only [Int.toNat_natCast] at hib
      rcases Nat.lt_or_ge i A with hia | hia
      · rw [seg_out (w := seg m A (A + 20)) (by omega) (.inl (by omega)), ← h3']
        exact hs i hi (by omega)
      · have : i = A := by omega
        subst this
        rw [seg_mid htl.symm (by omega)]
        exact h3
  have hgt := of_decide_eq_false hgt
  refine ⟨_, ins_Kd (i := A) (j := u) (by omega) hm hml (by omega) (by omega) hg hO (fun H' vs us s t h1 h2 h3 => hc H' vs us s t (hle_trans l3 h1) h2 h3), ?_⟩
  rintro H18 l18 ys20 ⟨w, h1, h2, h3⟩
  have h2 : w.Perm (seg m A u) := h2
  have hsl := seg_len m A (j := u) (by omega)
  have hwl := h2.length_eq
  have htl : (m.take A).length = A := by rw [List.length_take]; omega
  have h3' := seg_three m (i := A) (j := u) (by omega)
  have hdl : (m.drop u).length = 0 := by rw [List.length_drop]; omega
  have hp2 : (m.take A ++ w ++ m.drop u).Perm l := by
    have : (m.take A ++ w ++ m.drop u).Perm (m.take A ++ seg m A u ++ m.drop u) := List.Perm.append_right _ (List.Perm.append_left _ h2)
    rw [← h3'] at this
    exact this.trans hp
  have hs2 : ∀ i : Nat, 20 ∣ i → srt cf (seg (m.take A ++ w ++ m.drop u) i (i + 20)) := by
    intro i hi
    have hlen := hp2.length_eq
    rcases Nat.lt_trichotomy i A with hia | hia | hia
    · rw [seg_out (w := seg m A u) (by omega) (.inl (by omega)), ← h3']
      exact hs i hi (by omega)
    · subst hia
      rw [seg_end _ i (j := i + 20) (k := u) (by omega) (by omega), seg_mid htl.symm (by omega)]
      exact h3
    · rw [seg_far _ (by omega)]
      exact List.Pairwise.nil
  generalize m.take A ++ w ++ m.drop u = m2 at h1 hp2 hs2
  clear hs hp hm h3 h2 hwl hsl h3' htl hdl hml
  refine ⟨fun v ys bs H' => v = u ∧ 1 ≤ bs ∧ bs ≤ 2 * u + 20 ∧ ∃ m : List Kd, Row H' ys m ∧ m.Perm l ∧ ∀ i : Nat, bs.toNat ∣ i → srt cf (seg m i (i + bs.toNat)), fun _ _ bs => (u - bs).toNat, ⟨rfl, by omega, by omega, m2, h1, hp2, hs2⟩, ?_⟩
  clear h1 hp2 hs2
  rintro H24 l24 v zs bs ⟨rfl, b0, b1, m, hm, hp, hs⟩
  have hml : m.length = v := by rw [hp.length_eq, hl]
  obtain ⟨B, rfl⟩ := Int.eq_ofNat_of_zero_le (show 0 ≤ bs by omega)
  simp only [Int.toNat_natCast] at hs
  refine ⟨fun hlt => ?_, fun hge => ?_⟩
  · have hlt := of_decide_eq_true hlt
    refine ⟨by simp only [rng]; omega, fun u ys a b H' => u = v ∧ 0 ≤ a ∧ a ≤ v ∧ b = a + 2 * B ∧ (2 * B) ∣ a.toNat ∧ ∃ m : List Kd, Row H' ys m ∧ m.Perm l ∧ (∀ i : Nat, (2 * B) ∣ i → i + 2 * B ≤ a.toNat → srt cf (seg m i (i + 2 * B))) ∧ (∀ i : Nat, B ∣ i → a.toNat ≤ i → srt cf (seg m i (i + B))),
      fun _ _ a _ => (v - a).toNat, ⟨rfl, by omega, by omega, by omega, ⟨0, by simp⟩, m, hm, hp, fun i _ h => by simp only [Int.toNat_zero] at h; omega, fun i hi _ => hs i hi⟩, ?_⟩
    clear hs hm hp hml
    rintro H33 l33 u ys a b ⟨rfl, a0, a1, rfl, hd, m, hm, hp, hs, ht⟩
    have hml : m.length = u := by rw [hp.length_eq, hl]
    obtain ⟨A, rfl⟩ := Int.eq_ofNat_of_zero_le a0
    simp only [Int.toNat_natCast] at hd hs ht
    have hBA : B ∣ A := Nat.dvd_trans ⟨2, Nat.mul_comm 2 B⟩ hd
    have step : ∀ {i j : Nat}, (2 * B) ∣ i → (2 * B) ∣ j → i < j → i + 2 * B ≤ j := by
      rintro i j ⟨x, rfl⟩ ⟨y, rfl⟩ h
      have hxy : x < y := Nat.lt_of_mul_lt_mul_left h
      calc 2 * B * x + 2 * B = 2 * B * (x + 1) := (Nat.mul_succ _ _).symm
        _ ≤ 2 * B * y := Nat.mul_le_mul_left _ hxy
    have hle0 := hle_trans l3 (hle_trans l18 (hle_trans l24 l33))
    have htl : (m.take A).length = A := by rw [List.length_take]; omega
    refine ⟨fun hle => ?_, fun hgt => ?_⟩
    · have hle := of_decide_eq_true hle
      have hsl1 := seg_len m A (j := A + B) (by omega)
      have hsl2 := seg_len m (A + B) (j := A + 2 * B) (by omega)
      have h3' := seg_three m (i := A) (j := A + 2 * B) (by omega)
      have hcut := seg_cut m (i := A) (k := A + B) (j := A + 2 * B) (by omega) (by omega)
      have hsorted1 := ht A hBA (Nat.le_refl _)
      have hsorted2 := ht (A + B) ((Nat.dvd_add_right hBA).2 (Nat.dvd_refl B)) (by omega)
      rw [show A + B + B = A + 2 * B by omega] at hsorted2
      refine ⟨by simp only [rng]; omega, _, symMerge_Kd hO (by omega) hc u H33 ys (m.take A) (seg m A (A + B)) (seg m (A + B) (A + 2 * B)) (m.drop (A + 2 * B)) _ _ _ hle0 (by omega) ?_ ?_ ?_ ?_ hsorted1 hsorted2 (by rw [htl]) (by rw [hsl1]; omega) (by rw [hsl2]; omega), ?_⟩
      · rw [List.append_assoc (m.take A), ← hcut, ← h3']; exact hm
      · rw [List.append_assoc (m.take A), ← hcut, ← h3']; exact hml
      · intro h; rw [h] at hsl1; simp only [List.length_nil] at hsl1; omega
      · intro h; rw [h] at hsl2; simp only [List.length_nil] at hsl2; omega
      rintro H42 l42 ys44 ⟨w, r1, r2, r3⟩
      rw [← hcut] at r2
      have hwl := r2.length_eq
      have hsl := seg_len m A (j := A + 2 * B) (by omega)
      have hp2 : (m.take A ++ w ++ m.drop (A + 2 * B)).Perm l := by
        have : (m.take A ++ w ++ m.drop (A + 2 * B)).Perm (m.take A ++ seg m A (A + 2 * B) ++ m.drop (A + 2 * B)) := List.Perm.append_right _ (List.Perm.append_left _ r2)
        rw [← h3'] at this
        exact this.trans hp
      have eb : ((A : Int) + 2 * B).toNat = A + 2 * B := by omega
      refine ⟨by simp only [rng]; omega, by simp only [rng]; omega, ⟨rfl, by omega, by omega, by omega, by rw [eb]; exact (Nat.dvd_add_right hd).2 (Nat.dvd_refl _), _, r1, hp2, fun i hi hib => ?_, fun i hi hib => ?_⟩, by dsimp only; omega⟩
      · rw [eb] at hib
        rcases Nat.lt_or_ge i A with hia | hia
        · have := step hi hd hia
          rw [seg_out (w := seg m A (A + 2 * B)) (by omega) (.inl (by omega)), ← h3']
          exact hs i hi (by omega)
        · have : i = A := by omega
          subst this
          rw [seg_mid htl.symm (by omega)]
          exact r3
      · rw [eb] at hib
        rw [seg_out (w := seg m A (A + 2 * B)) (by omega) (.inr (by omega)), ← h3']
        exact ht i hi (by omega)
    · have hgt := of_decide_eq_false hgt
      have e2 : ((B : Int) * 2).toNat = 2 * B := by omega
      refine ⟨by simp only [rng]; omega, fun hlt2 => ?_, fun hge2 => ?_⟩
      · have hlt2 := of_decide_eq_true hlt2
        have hsl1 := seg_len m A (j := A + B) (by omega)
        have hsl2 := seg_len m (A + B) (j := u) (by omega)
        have h3' := seg_three m (i := A) (j := u) (by omega)
        have hcut := seg_cut m (i := A) (k := A + B) (j := u) (by omega) (by omega)
        have hsorted1 := ht A hBA (Nat.le_refl _)
        have hsorted2 := ht (A + B) ((Nat.dvd_add_right hBA).2 (Nat.dvd_refl B)) (by omega)
        rw [seg_end _ (A + B) (j := A + B + B) (k := u) (by omega) (by omega)] at hsorted2
        refine ⟨_, symMerge_Kd hO (by omega) hc u H33 ys (m.take A) (seg m A (A + B)) (seg m (A + B) u) (m.drop u) _ _ _ hle0 (by omega) ?_ ?_ ?_ ?_ hsorted1 hsorted2 (by rw [htl]) (by rw [hsl1]; omega) (by rw [hsl2]; omega), ?_⟩
        · rw [List.append_assoc (m.take A), ← hcut, ← h3']; exact hm
        · rw [List.append_assoc (m.take A), ← hcut, ← h3']; exact hml
        · intro h; rw [h] at hsl1; simp only [List.length_nil] at hsl1; omega
        · intro h; rw [h] at hsl2; simp only [List.length_nil] at hsl2; omega
        rintro H49 l49 ys51 ⟨w, r1, r2, r3⟩
        rw [← hcut] at r2
        have hwl := r2.length_eq
        have hsl := seg_len m A (j := u) (by omega)
        have hp2 : (m.take A ++ w ++ m.drop u).Perm l := by
          have : (m.take A ++ w ++ m.drop u).Perm (m.take A ++ seg m A u ++ m.drop u) := List.Perm.append_right _ (List.Perm.append_left _ r2)
          rw [← h3'] at this
          exact this.trans hp
        have hlen := hp2.length_eq
        refine ⟨by simp only [rng]; omega, ⟨rfl, by omega, by omega, _, r1, hp2, fun i hi => ?_⟩, by dsimp only; omega⟩
        rw [e2] at hi ⊢
        rcases Nat.lt_trichotomy i A with hia | hia | hia
        · have := step hi hd hia
          rw [seg_out (w := seg m A u) (by omega) (.inl (by omega)), ← h3']
          exact hs i hi (by omega)
        · subst hia
          rw [seg_end _ i (j := i + 2 * B) (k := u) (by omega) (by omega), seg_mid htl.symm (by omega)]
          exact r3
        · have := step hd hi hia
          rw [seg_far _ (by omega)]
          exact List.Pairwise.nil
      · have hge2 := of_decide_eq_false hge2
        refine ⟨by simp only [rng]; omega, ⟨rfl, by omega, by omega, m, hm, hp, fun i hi => ?_⟩, by dsimp only; omega⟩
        rw [e2] at hi ⊢
        rcases Nat.lt_trichotomy i A with hia | hia | hia
        · have := step hi hd hia
          exact hs i hi (by omega)
        · subst hia
          rw [seg_end _ i (j := i + 2 * B) (k := i + B) (by omega) (by omega)]
          exact ht i hBA (Nat.le_refl _)
        · have := step hd hi hia
          rw [seg_far _ (by omega)]
          exact List.Pairwise.nil
  · have hge := of_decide_eq_false hge
    refine ⟨rfl, rfl, m, hm, hp, ?_⟩
    have h0 := hs 0 ⟨0, by simp⟩
    have e : seg m 0 (0 + B) = m := by
      unfold seg
      rw [List.drop_zero, List.take_of_length_le (by omega)]
    rw [e] at h0
    exact h0
def an81 : Ann where
  res := fun _ => none
  lend := fun _ => false
  mt := fun | 112 => some true | _ => none
  sch := fun _ => .done
  lt := fun _ => []
  tup := tups

theorem vc81 (P : Program) (H : Heap) (cmpF : FuncId) (rowN : Nat) (rowXs : List Value) (post : List Value → Heap → Prop) :
  vcFnK P tab an81 Tryz.f81 [.slice none 0 0, .func (.func cmpF) #[] #[]] 0 94 rowN rowXs 0 H post =
  (  ∀ (s0 : Value), ∃ (post1 : List Value → Heap → Prop), ConM P 112 [.slice none 0 0, .int .i64 (↑rowN : Int), .func (.func cmpF) ⟨[]⟩ ⟨[]⟩] 0 94 rowN rowXs true H ⟨true, []⟩ post1 ∧ ∀ (H2 :
  Heap), Heap.le H H2 → ∀ (ys4 : List Value), post1 ys4 H2 → s0 = s0 ∧ rowN = rowN ∧ post ys4 H2) := by kernel_rfl
theorem SortStable_Kd {H : Heap} {n : Nat} {xs : List Value} {l : List Kd} (hr : Row H xs l) (hl : l.length = n) (hn : n ≤ 10000000000000) {g : FuncId} (hg : FnOK Tryz.prog g) {cf : Kd → Kd → Int} (hO : Sort.SWO (ltOf cf)) (hc : CmpT Tryz.prog Kd H g cf) :
    ConM Tryz.prog 81 [.slice none 0 0, .func (.func g) #[] #[]] 0 94 n xs true H ⟨true, []⟩
      (fun ys (H' : Heap) => ∃ m : List Kd, Row H' ys m ∧ m.Perm l ∧ m.Pairwise (fun a b => ¬ cf b a < 0)) := by
  refine conK_of_vc (an := an81) (fn := Tryz.f81) mix tabOK Tryz.func81 (by kernel_rfl) (extra := 0) (by simp) ?_
  rw [vc81]
  intro s0
  exact ⟨_, stable_Kd hr hl hn hg hO hc, fun H2 l2 ys h => ⟨rfl, rfl, h⟩⟩
end Go.Vc

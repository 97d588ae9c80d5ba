/- The laws' own schemas; 'awake' is true. -/
import Derived.Test.YthbapbapcnafhaaC6
import Derived.IntWalk
set_option linter.unusedSectionVars false
set_option linter.unusedSimpArgs false
set_option linter.unusedVariables false
namespace Go.Vc
open Go Go.Proofs
def colNames : List ByteArray := [⟨⟨[97]⟩⟩, ⟨⟨[98]⟩⟩, ⟨⟨[99]⟩⟩, ⟨⟨[100]⟩⟩, ⟨⟨[101]⟩⟩]
def colKinds : List Int := [1, 2, 1, 3, 2]
def mkCol (i : Int) : Col := ⟨i + 1, colNames.getD i.toNat empty, colKinds.getD i.toNat 0⟩
def an72 : Ann where
  res := fun _ => none
  lend := fun _ => false
  sch := fun | 3 => (tk [0, 1, 2, 3, 4, 5, 6, 7, 8] (.alt 9 .done .fin)) | _ => .done
  lt := fun _ => []
  tup := tups

theorem vc72 (P : Program) (H : Heap) (i : Int) (post : Int → ByteArray → Int → Heap → Prop) :
  vcFn P tab an72 Try.f72 [.int .i64 i] 0 H ⟨false, [(true, [.int .i64, .str, .int .i64])]⟩ post =
  (  List.length [Value.string ⟨⟨[]⟩⟩, .string ⟨⟨[]⟩⟩, .string ⟨⟨[]⟩⟩, .string ⟨⟨[]⟩⟩, .string ⟨⟨[]⟩⟩] = 5 ∧ List.length [Value.int .i64 (0 : Int), .int .i64 (0 : Int), .int .i64 (0 : Int), .int
  .i64 (0 : Int), .int .i64 (0 : Int)] = 5 ∧ rng .i64 (i + (1 : Int)) ∧ (0 : Int) ≤ i ∧ i < (↑5 : Int) ∧ ∃ (s0 : ByteArray), win [.string { data := ⟨[(97 : UInt8)]⟩ }, .string { data := ⟨[(98
  : UInt8)]⟩ }, .string { data := ⟨[(99 : UInt8)]⟩ }, .string { data := ⟨[(100 : UInt8)]⟩ }, .string { data := ⟨[(101 : UInt8)]⟩ }] (Int.toNat i * 1) 1 = [.string s0] ∧ (0 : Int) ≤ i ∧ i <
  (↑5 : Int) ∧ ∃ (n1 : Int), win [.int .i64 (1 : Int), .int .i64 (2 : Int), .int .i64 (1 : Int), .int .i64 (3 : Int), .int .i64 (2 : Int)] (Int.toNat i * 1) 1 = [.int .i64 n1] ∧ post (i + (1
  : Int)) s0 n1 H) := by kernel_rfl
theorem law0_Column {H : Heap} {i : Int} (h0 : 0 ≤ i) (h5 : i < 5) :
    ConT Try.prog 72 [.int .i64 i] H ⟨false, [(true, [.int .i64, .str, .int .i64])]⟩ (fun a b c H' => (⟨a, b, c⟩ : Col) = mkCol i ∧ rng .i64 a ∧ str b ∧ rng .i64 c) := by
  refine con_of_vc (an := an72) (fn := Try.f72) mix tabOK Try.func72 (by kernel_rfl) (extra := 0) ?_
  rw [vc72]
  refine ⟨rfl, rfl, by simp only [rng]; omega, h0, by simpa using h5, ?_⟩
  obtain rfl | rfl | rfl | rfl | rfl : i = 0 ∨ i = 1 ∨ i = 2 ∨ i = 3 ∨ i = 4 := by omega
  all_goals exact ⟨_, rfl, by decide, by decide, _, rfl, rfl, by simp [rng], by simp [str, ByteArray.size], by simp [rng]⟩
def tables : List ByteArray := [⟨⟨[116]⟩⟩, ⟨⟨[117]⟩⟩, ⟨⟨[119]⟩⟩]
def tableName (x : Int) : ByteArray := tables.getD (x.tmod 3).toNat empty
def an73 : Ann where
  res := fun _ => none
  lend := fun _ => false
  sch := fun _ => .done
  lt := fun _ => []
  tup := tups

theorem vc73 (P : Program) (H : Heap) (x : Int) (post : ByteArray → Heap → Prop) :
  vcFn P tab an73 Try.f73 [.int .u16 x] 0 H ⟨false, [(false, [.str])]⟩ post =
  (  (3 : Int) ≠ (0 : Int) ∧ (0 : Int) ≤ Int.tmod x (3 : Int) ∧ Int.tmod x (3 : Int) < (↑3 : Int) ∧ ∃ (s0 : ByteArray), win [.string { data := ⟨[(116 : UInt8)]⟩ }, .string { data := ⟨[(117 :
  UInt8)]⟩ }, .string { data := ⟨[(119 : UInt8)]⟩ }] (Int.toNat (Int.tmod x (3 : Int)) * 1) 1 = [.string s0] ∧ post s0 H) := by kernel_rfl
theorem law0_table {H : Heap} {x : Int} (h0 : 0 ≤ x) :
    ConT Try.prog 73 [.int .u16 x] H ⟨false, [(false, [.str])]⟩ (fun s H' => s = tableName x ∧ str s) := by
  refine con_of_vc (an := an73) (fn := Try.f73) mix tabOK Try.func73 (by kernel_rfl) (extra := 0) ?_
  rw [vc73]
  unfold tableName
  have e : x.tmod 3 = x % 3 := Int.tmod_eq_emod_of_nonneg h0
  rw [e]
  have h1 : 0 ≤ x % 3 := by omega
  have h2 : x % 3 < 3 := by omega
  generalize x % 3 = y at h1 h2
  refine ⟨by decide, h1, by simpa using h2, ?_⟩
  obtain rfl | rfl | rfl : y = 0 ∨ y = 1 ∨ y = 2 := by omega
  all_goals exact ⟨_, rfl, rfl, by simp [str, ByteArray.size]⟩
def mkCols (n : Nat) : List Col := (List.range n).map fun i => mkCol (i : Nat)
def mkKey (x : Int) : List Int := if x.tmod 5 = 1 then [1] else if x.tmod 5 = 2 then [2, 1] else []
def mkFks (x : Int) : List FKey := if x.tmod 5 = 1 then [⟨[1], tableName (x.tdiv 5), [1]⟩] else []
def mkCsts (x : Int) : List Cst := if x.tmod 6 = 1 then [⟨1, [2]⟩] else if x.tmod 6 = 2 then [⟨2, [1, 2]⟩] else []
def mkSchema (nm : ByteArray) (a b c d : Int) : TSch := ⟨nm, [⟨⟨0, 1099511627776⟩, mkCols (2 + (a.tmod 2).toNat)⟩], mkKey b, mkFks c, mkCsts d⟩
theorem sl_one {T : Type} [Rep T] {H0 H : Heap} {A : Option Addr} {c : Nat} {vs : List Value} {t : T} (h : Cells H0 A 0 vs) (hle : Heap.le H0 H) (hc : 1 ≤ c) (hr : Rep.rel H vs t) (hb : Rep.byt T ≤ 100000) : Sl H A 1 c [t] :=
  (Row.one hr).sl (hle_refl _) (h.mono hle) rfl hc (by omega) (by omega)
theorem rep_int {H : Heap} {x : Int} (h : rng .i64 x) : Rep.rel H [.int .i64 x] x := ⟨rfl, h⟩
theorem sl_two {H0 H : Heap} {A : Option Addr} {c : Nat} {a b : Int} (h : Cells H0 A 0 [.int .i64 a, .int .i64 b]) (hle : Heap.le H0 H) (hc : 2 ≤ c) (ha : rng .i64 a) (hb : rng .i64 b) : Sl H A 2 c [a, b] :=
  ((Row.one (rep_int ha)).append (Row.one (rep_int hb))).sl (xs := [.int .i64 a, .int .i64 b]) (hle_refl _) (h.mono hle) rfl hc (by decide) (by decide)
def an34 : Ann where
  res := fun _ => none
  lend := fun | 49 => true | _ => false
  sch := fun | 5 => (tk [0, 1, 2] (.alt 3 (.alt 4 (.alt 5 (tk [6] (.alt 7 .done .fin)) .fin) .fin) .fin)) | _ => .done
  lt := fun | 3 => [.slot 6 false [.int .i64], .box 5 35 [.int .i64, .int .i64, .row 70 51]] | _ => []
  tup := tups

theorem vc34 (P : Program) (H : Heap) (name : ByteArray) (p10 : Int) (p11 : Int) (p12 : Int) (p13 : Int) (post : ByteArray → Option Addr → Nat → Nat → Option Addr → Nat → Nat → Option Addr → Nat → Nat → Option Addr → Nat → Nat → Heap → Prop) :
  vcFn P tab an34 Try.f34 [.string name, .agg #[.int .u16 p10, .int .u16 p11, .int .u16 p12, .int .u16 p13]] 1 H ⟨false, [(true, [.str, .sl, .sl, .sl, .sl])]⟩ post =
  (  ∃ (inv0 : Int → Int → Int → Nat → List Value → Heap → Prop), ∃ (m1 : Int → Int → Int → Nat → List Value → Nat), inv0 (0 : Int) (0 : Int) (1099511627776 : Int) 0 [] H ∧ ∀ (H2 : Heap),
  Heap.le H H2 → ∀ (n4 n5 n6 : Int) (n7 : Nat) (xs8 : List Value), inv0 n4 n5 n6 n7 xs8 H2 → (0 : Int) ≤ (0 : Int) ∧ (0 : Int) < (↑4 : Int) ∧ ∃ (n10 : Int), win [.int .u16 p10, .int .u16 p11,
  .int .u16 p12, .int .u16 p13] (Int.toNat (0 : Int) * 1) 1 = [.int .u16 n10] ∧ (2 : Int) ≠ (0 : Int) ∧ ∃ (e11 : Int), IntKind.wrap IntKind.i64 (Int.tmod n10 (2 : Int)) = e11 ∧ rng .i64 ((2 :
  Int) + e11) ∧ (decide (n4 < (2 : Int) + e11) = true → ∃ (post13 : Int → ByteArray → Int → Heap → Prop), ConT P 72 [.int .i64 n4] H2 ⟨false, [(true, [.int .i64, .str, .int .i64])]⟩ post13 ∧
  ∀ (H14 : Heap), Heap.le H2 H14 → ∀ (n16 : Int) (s17 : ByteArray) (n18 : Int), post13 n16 s17 n18 H14 → (n7 + 1) * 32 ≤ 140737488355328 ∧ rng .i64 (n4 + (1 : Int)) ∧ inv0 (n4 + (1 : Int)) n5
  n6 (n7 + 1) (xs8 ++ [.int .i64 n16, .string s17, .int .i64 n18]) H14 ∧ m1 (n4 + (1 : Int)) n5 n6 (n7 + 1) (xs8 ++ [.int .i64 n16, .string s17, .int .i64 n18]) < m1 n4 n5 n6 n7 xs8) ∧
  (decide (n4 < (2 : Int) + e11) = false → ∀ (A21 : Option Addr) (c22 : Nat) (H23 : Heap), Heap.le H2 H23 → Cells H23 A21 0 xs8 → n7 ≤ c22 → (0 : Int) ≤ (1 : Int) ∧ (1 : Int) < (↑4 : Int) ∧ ∃
  (n27 : Int), win [.int .u16 p10, .int .u16 p11, .int .u16 p12, .int .u16 p13] (Int.toNat (1 : Int) * 1) 1 = [.int .u16 n27] ∧ (5 : Int) ≠ (0 : Int) ∧ (decide (Int.tmod n27 (5 : Int) = (1 :
  Int)) = true → (0 : Int) ≤ (2 : Int) ∧ (2 : Int) < (↑4 : Int) ∧ ∃ (n29 : Int), win [.int .u16 p10, .int .u16 p11, .int .u16 p12, .int .u16 p13] (Int.toNat (2 : Int) * 1) 1 = [.int .u16 n29]
  ∧ (5 : Int) ≠ (0 : Int) ∧ (decide (Int.tmod n29 (5 : Int) = (1 : Int)) = true → (0 : Int) ≤ (2 : Int) ∧ (2 : Int) < (↑4 : Int) ∧ ∃ (n31 : Int), win [.int .u16 p10, .int .u16 p11, .int .u16
  p12, .int .u16 p13] (Int.toNat (2 : Int) * 1) 1 = [.int .u16 n31] ∧ (5 : Int) ≠ (0 : Int) ∧ rng .u16 (Int.tdiv n31 (5 : Int)) ∧ ∃ (post32 : ByteArray → Heap → Prop), ConT P 73 [.int .u16
  (Int.tdiv n31 (5 : Int))] H23 ⟨false, [(false, [.str])]⟩ post32 ∧ ∀ (H33 : Heap), Heap.le H23 H33 → ∀ (s35 : ByteArray), post32 s35 H33 → ∀ (A37 : Option Addr) (c38 : Nat) (H39 : Heap),
  Heap.le H33 H39 → Cells H39 A37 0 [.int .i64 (1 : Int)] → 1 ≤ c38 → ∀ (A43 : Option Addr) (c44 : Nat) (H45 : Heap), Heap.le H39 H45 → Cells H45 A43 0 [.int .i64 (1 : Int)] → 1 ≤ c44 → (0 :
  Int) ≤ (3 : Int) ∧ (3 : Int) < (↑4 : Int) ∧ ∃ (n49 : Int), win [.int .u16 p10, .int .u16 p11, .int .u16 p12, .int .u16 p13] (Int.toNat (3 : Int) * 1) 1 = [.int .u16 n49] ∧ (6 : Int) ≠ (0 :
  Int) ∧ (decide (Int.tmod n49 (6 : Int) = (1 : Int)) = true → ∀ (A51 : Option Addr) (c52 : Nat) (H53 : Heap), Heap.le H45 H53 → Cells H53 A51 0 [.int .i64 (2 : Int)] → 1 ≤ c52 → ∀ (A57 :
  Option Addr) (c58 : Nat) (H59 : Heap), Heap.le H53 H59 → Cells H59 A57 0 [.int .i64 n5, .int .i64 n6, .slice A21 n7 c22] → 1 ≤ c58 → ∀ (A63 : Option Addr) (c64 : Nat) (H65 : Heap), Heap.le
  H59 H65 → Cells H65 A63 0 [.int .i64 (1 : Int)] → 1 ≤ c64 → ∀ (A69 : Option Addr) (c70 : Nat) (H71 : Heap), Heap.le H65 H71 → Cells H71 A69 0 [.slice A37 1 c38, .string s35, .slice A43 1
  c44] → 1 ≤ c70 → ∀ (A75 : Option Addr) (c76 : Nat) (H77 : Heap), Heap.le H71 H77 → Cells H77 A75 0 [.int .i64 (1 : Int), .slice A51 1 c52] → 1 ≤ c76 → post name A57 1 c58 A63 1 c64 A69 1
  c70 A75 1 c76 H77) ∧ (decide (Int.tmod n49 (6 : Int) = (1 : Int)) = false → (decide (Int.tmod n49 (6 : Int) = (2 : Int)) = true → ∀ (A83 : Option Addr) (c84 : Nat) (H85 : Heap), Heap.le H45
  H85 → Cells H85 A83 0 [.int .i64 (1 : Int), .int .i64 (2 : Int)] → 2 ≤ c84 → ∀ (A89 : Option Addr) (c90 : Nat) (H91 : Heap), Heap.le H85 H91 → Cells H91 A89 0 [.int .i64 n5, .int .i64 n6,
  .slice A21 n7 c22] → 1 ≤ c90 → ∀ (A95 : Option Addr) (c96 : Nat) (H97 : Heap), Heap.le H91 H97 → Cells H97 A95 0 [.int .i64 (1 : Int)] → 1 ≤ c96 → ∀ (A101 : Option Addr) (c102 : Nat) (H103
  : Heap), Heap.le H97 H103 → Cells H103 A101 0 [.slice A37 1 c38, .string s35, .slice A43 1 c44] → 1 ≤ c102 → ∀ (A107 : Option Addr) (c108 : Nat) (H109 : Heap), Heap.le H103 H109 → Cells
  H109 A107 0 [.int .i64 (2 : Int), .slice A83 2 c84] → 1 ≤ c108 → post name A89 1 c90 A95 1 c96 A101 1 c102 A107 1 c108 H109) ∧ (decide (Int.tmod n49 (6 : Int) = (2 : Int)) = false → ∀ (A114
  : Option Addr) (c115 : Nat) (H116 : Heap), Heap.le H45 H116 → Cells H116 A114 0 [.int .i64 n5, .int .i64 n6, .slice A21 n7 c22] → 1 ≤ c115 → ∀ (A120 : Option Addr) (c121 : Nat) (H122 :
  Heap), Heap.le H116 H122 → Cells H122 A120 0 [.int .i64 (1 : Int)] → 1 ≤ c121 → ∀ (A126 : Option Addr) (c127 : Nat) (H128 : Heap), Heap.le H122 H128 → Cells H128 A126 0 [.slice A37 1 c38,
  .string s35, .slice A43 1 c44] → 1 ≤ c127 → post name A114 1 c115 A120 1 c121 A126 1 c127 none 0 0 H128))) ∧ (decide (Int.tmod n29 (5 : Int) = (1 : Int)) = false → (0 : Int) ≤ (3 : Int) ∧
  (3 : Int) < (↑4 : Int) ∧ ∃ (n133 : Int), win [.int .u16 p10, .int .u16 p11, .int .u16 p12, .int .u16 p13] (Int.toNat (3 : Int) * 1) 1 = [.int .u16 n133] ∧ (6 : Int) ≠ (0 : Int) ∧ (decide
  (Int.tmod n133 (6 : Int) = (1 : Int)) = true → ∀ (A135 : Option Addr) (c136 : Nat) (H137 : Heap), Heap.le H23 H137 → Cells H137 A135 0 [.int .i64 (2 : Int)] → 1 ≤ c136 → ∀ (A141 : Option
  Addr) (c142 : Nat) (H143 : Heap), Heap.le H137 H143 → Cells H143 A141 0 [.int .i64 n5, .int .i64 n6, .slice A21 n7 c22] → 1 ≤ c142 → ∀ (A147 : Option Addr) (c148 : Nat) (H149 : Heap),
  Heap.le H143 H149 → Cells H149 A147 0 [.int .i64 (1 : Int)] → 1 ≤ c148 → ∀ (A153 : Option Addr) (c154 : Nat) (H155 : Heap), Heap.le H149 H155 → Cells H155 A153 0 [.int .i64 (1 : Int),
  .slice A135 1 c136] → 1 ≤ c154 → post name A141 1 c142 A147 1 c148 none 0 0 A153 1 c154 H155) ∧ (decide (Int.tmod n133 (6 : Int) = (1 : Int)) = false → (decide (Int.tmod n133 (6 : Int) = (2
  : Int)) = true → ∀ (A161 : Option Addr) (c162 : Nat) (H163 : Heap), Heap.le H23 H163 → Cells H163 A161 0 [.int .i64 (1 : Int), .int .i64 (2 : Int)] → 2 ≤ c162 → ∀ (A167 : Option Addr) (c168
  : Nat) (H169 : Heap), Heap.le H163 H169 → Cells H169 A167 0 [.int .i64 n5, .int .i64 n6, .slice A21 n7 c22] → 1 ≤ c168 → ∀ (A173 : Option Addr) (c174 : Nat) (H175 : Heap), Heap.le H169 H175
  → Cells H175 A173 0 [.int .i64 (1 : Int)] → 1 ≤ c174 → ∀ (A179 : Option Addr) (c180 : Nat) (H181 : Heap), Heap.le H175 H181 → Cells H181 A179 0 [.int .i64 (2 : Int), .slice A161 2 c162] → 1
  ≤ c180 → post name A167 1 c168 A173 1 c174 none 0 0 A179 1 c180 H181) ∧ (decide (Int.tmod n133 (6 : Int) = (2 : Int)) = false → ∀ (A186 : Option Addr) (c187 : Nat) (H188 : Heap), Heap.le
  H23 H188 → Cells H188 A186 0 [.int .i64 n5, .int .i64 n6, .slice A21 n7 c22] → 1 ≤ c187 → ∀ (A192 : Option Addr) (c193 : Nat) (H194 : Heap), Heap.le H188 H194 → Cells H194 A192 0 [.int .i64
  (1 : Int)] → 1 ≤ c193 → post name A186 1 c187 A192 1 c193 none 0 0 none 0 0 H194)))) ∧ (decide (Int.tmod n27 (5 : Int) = (1 : Int)) = false → (decide (Int.tmod n27 (5 : Int) = (2 : Int)) =
  true → (0 : Int) ≤ (2 : Int) ∧ (2 : Int) < (↑4 : Int) ∧ ∃ (n200 : Int), win [.int .u16 p10, .int .u16 p11, .int .u16 p12, .int .u16 p13] (Int.toNat (2 : Int) * 1) 1 = [.int .u16 n200] ∧ (5
  : Int) ≠ (0 : Int) ∧ (decide (Int.tmod n200 (5 : Int) = (1 : Int)) = true → (0 : Int) ≤ (2 : Int) ∧ (2 : Int) < (↑4 : Int) ∧ ∃ (n202 : Int), win [.int .u16 p10, .int .u16 p11, .int .u16
  p12, .int .u16 p13] (Int.toNat (2 : Int) * 1) 1 = [.int .u16 n202] ∧ (5 : Int) ≠ (0 : Int) ∧ rng .u16 (Int.tdiv n202 (5 : Int)) ∧ ∃ (post203 : ByteArray → Heap → Prop), ConT P 73 [.int .u16
  (Int.tdiv n202 (5 : Int))] H23 ⟨false, [(false, [.str])]⟩ post203 ∧ ∀ (H204 : Heap), Heap.le H23 H204 → ∀ (s206 : ByteArray), post203 s206 H204 → ∀ (A208 : Option Addr) (c209 : Nat) (H210 :
  Heap), Heap.le H204 H210 → Cells H210 A208 0 [.int .i64 (1 : Int)] → 1 ≤ c209 → ∀ (A214 : Option Addr) (c215 : Nat) (H216 : Heap), Heap.le H210 H216 → Cells H216 A214 0 [.int .i64 (1 :
  Int)] → 1 ≤ c215 → (0 : Int) ≤ (3 : Int) ∧ (3 : Int) < (↑4 : Int) ∧ ∃ (n220 : Int), win [.int .u16 p10, .int .u16 p11, .int .u16 p12, .int .u16 p13] (Int.toNat (3 : Int) * 1) 1 = [.int .u16
  n220] ∧ (6 : Int) ≠ (0 : Int) ∧ (decide (Int.tmod n220 (6 : Int) = (1 : Int)) = true → ∀ (A222 : Option Addr) (c223 : Nat) (H224 : Heap), Heap.le H216 H224 → Cells H224 A222 0 [.int .i64 (2
  : Int)] → 1 ≤ c223 → ∀ (A228 : Option Addr) (c229 : Nat) (H230 : Heap), Heap.le H224 H230 → Cells H230 A228 0 [.int .i64 n5, .int .i64 n6, .slice A21 n7 c22] → 1 ≤ c229 → ∀ (A234 : Option
  Addr) (c235 : Nat) (H236 : Heap), Heap.le H230 H236 → Cells H236 A234 0 [.int .i64 (2 : Int), .int .i64 (1 : Int)] → 2 ≤ c235 → ∀ (A240 : Option Addr) (c241 : Nat) (H242 : Heap), Heap.le
  H236 H242 → Cells H242 A240 0 [.slice A208 1 c209, .string s206, .slice A214 1 c215] → 1 ≤ c241 → ∀ (A246 : Option Addr) (c247 : Nat) (H248 : Heap), Heap.le H242 H248 → Cells H248 A246 0
  [.int .i64 (1 : Int), .slice A222 1 c223] → 1 ≤ c247 → post name A228 1 c229 A234 2 c235 A240 1 c241 A246 1 c247 H248) ∧ (decide (Int.tmod n220 (6 : Int) = (1 : Int)) = false → (decide
  (Int.tmod n220 (6 : Int) = (2 : Int)) = true → ∀ (A254 : Option Addr) (c255 : Nat) (H256 : Heap), Heap.le H216 H256 → Cells H256 A254 0 [.int .i64 (1 : Int), .int .i64 (2 : Int)] → 2 ≤ c255
  → ∀ (A260 : Option Addr) (c261 : Nat) (H262 : Heap), Heap.le H256 H262 → Cells H262 A260 0 [.int .i64 n5, .int .i64 n6, .slice A21 n7 c22] → 1 ≤ c261 → ∀ (A266 : Option Addr) (c267 : Nat)
  (H268 : Heap), Heap.le H262 H268 → Cells H268 A266 0 [.int .i64 (2 : Int), .int .i64 (1 : Int)] → 2 ≤ c267 → ∀ (A272 : Option Addr) (c273 : Nat) (H274 : Heap), Heap.le H268 H274 → Cells
  H274 A272 0 [.slice A208 1 c209, .string s206, .slice A214 1 c215] → 1 ≤ c273 → ∀ (A278 : Option Addr) (c279 : Nat) (H280 : Heap), Heap.le H274 H280 → Cells H280 A278 0 [.int .i64 (2 :
  Int), .slice A254 2 c255] → 1 ≤ c279 → post name A260 1 c261 A266 2 c267 A272 1 c273 A278 1 c279 H280) ∧ (decide (Int.tmod n220 (6 : Int) = (2 : Int)) = false → ∀ (A285 : Option Addr) (c286
  : Nat) (H287 : Heap), Heap.le H216 H287 → Cells H287 A285 0 [.int .i64 n5, .int .i64 n6, .slice A21 n7 c22] → 1 ≤ c286 → ∀ (A291 : Option Addr) (c292 : Nat) (H293 : Heap), Heap.le H287 H293
  → Cells H293 A291 0 [.int .i64 (2 : Int), .int .i64 (1 : Int)] → 2 ≤ c292 → ∀ (A297 : Option Addr) (c298 : Nat) (H299 : Heap), Heap.le H293 H299 → Cells H299 A297 0 [.slice A208 1 c209,
  .string s206, .slice A214 1 c215] → 1 ≤ c298 → post name A285 1 c286 A291 2 c292 A297 1 c298 none 0 0 H299))) ∧ (decide (Int.tmod n200 (5 : Int) = (1 : Int)) = false → (0 : Int) ≤ (3 : Int)
  ∧ (3 : Int) < (↑4 : Int) ∧ ∃ (n304 : Int), win [.int .u16 p10, .int .u16 p11, .int .u16 p12, .int .u16 p13] (Int.toNat (3 : Int) * 1) 1 = [.int .u16 n304] ∧ (6 : Int) ≠ (0 : Int) ∧ (decide
  (Int.tmod n304 (6 : Int) = (1 : Int)) = true → ∀ (A306 : Option Addr) (c307 : Nat) (H308 : Heap), Heap.le H23 H308 → Cells H308 A306 0 [.int .i64 (2 : Int)] → 1 ≤ c307 → ∀ (A312 : Option
  Addr) (c313 : Nat) (H314 : Heap), Heap.le H308 H314 → Cells H314 A312 0 [.int .i64 n5, .int .i64 n6, .slice A21 n7 c22] → 1 ≤ c313 → ∀ (A318 : Option Addr) (c319 : Nat) (H320 : Heap),
  Heap.le H314 H320 → Cells H320 A318 0 [.int .i64 (2 : Int), .int .i64 (1 : Int)] → 2 ≤ c319 → ∀ (A324 : Option Addr) (c325 : Nat) (H326 : Heap), Heap.le H320 H326 → Cells H326 A324 0 [.int
  .i64 (1 : Int), .slice A306 1 c307] → 1 ≤ c325 → post name A312 1 c313 A318 2 c319 none 0 0 A324 1 c325 H326) ∧ (decide (Int.tmod n304 (6 : Int) = (1 : Int)) = false → (decide (Int.tmod
  n304 (6 : Int) = (2 : Int)) = true → ∀ (A332 : Option Addr) (c333 : Nat) (H334 : Heap), Heap.le H23 H334 → Cells H334 A332 0 [.int .i64 (1 : Int), .int .i64 (2 : Int)] → 2 ≤ c333 → ∀ (A338
  : Option Addr) (c339 : Nat) (H340 : Heap), Heap.le H334 H340 → Cells H340 A338 0 [.int .i64 n5, .int .i64 n6, .slice A21 n7 c22] → 1 ≤ c339 → ∀ (A344 : Option Addr) (c345 : Nat) (H346 :
  Heap), Heap.le H340 H346 → Cells H346 A344 0 [.int .i64 (2 : Int), .int .i64 (1 : Int)] → 2 ≤ c345 → ∀ (A350 : Option Addr) (c351 : Nat) (H352 : Heap), Heap.le H346 H352 → Cells H352 A350 0
  [.int .i64 (2 : Int), .slice A332 2 c333] → 1 ≤ c351 → post name A338 1 c339 A344 2 c345 none 0 0 A350 1 c351 H352) ∧ (decide (Int.tmod n304 (6 : Int) = (2 : Int)) = false → ∀ (A357 :
  Option Addr) (c358 : Nat) (H359 : Heap), Heap.le H23 H359 → Cells H359 A357 0 [.int .i64 n5, .int .i64 n6, .slice A21 n7 c22] → 1 ≤ c358 → ∀ (A363 : Option Addr) (c364 : Nat) (H365 : Heap),
  Heap.le H359 H365 → Cells H365 A363 0 [.int .i64 (2 : Int), .int .i64 (1 : Int)] → 2 ≤ c364 → post name A357 1 c358 A363 2 c364 none 0 0 none 0 0 H365)))) ∧ (decide (Int.tmod n27 (5 : Int)
  = (2 : Int)) = false → (0 : Int) ≤ (2 : Int) ∧ (2 : Int) < (↑4 : Int) ∧ ∃ (n370 : Int), win [.int .u16 p10, .int .u16 p11, .int .u16 p12, .int .u16 p13] (Int.toNat (2 : Int) * 1) 1 = [.int
  .u16 n370] ∧ (5 : Int) ≠ (0 : Int) ∧ (decide (Int.tmod n370 (5 : Int) = (1 : Int)) = true → (0 : Int) ≤ (2 : Int) ∧ (2 : Int) < (↑4 : Int) ∧ ∃ (n372 : Int), win [.int .u16 p10, .int .u16
  p11, .int .u16 p12, .int .u16 p13] (Int.toNat (2 : Int) * 1) 1 = [.int .u16 n372] ∧ (5 : Int) ≠ (0 : Int) ∧ rng .u16 (Int.tdiv n372 (5 : Int)) ∧ ∃ (post373 : ByteArray → Heap → Prop), ConT
  P 73 [.int .u16 (Int.tdiv n372 (5 : Int))] H23 ⟨false, [(false, [.str])]⟩ post373 ∧ ∀ (H374 : Heap), Heap.le H23 H374 → ∀ (s376 : ByteArray), post373 s376 H374 → ∀ (A378 : Option Addr)
  (c379 : Nat) (H380 : Heap), Heap.le H374 H380 → Cells H380 A378 0 [.int .i64 (1 : Int)] → 1 ≤ c379 → ∀ (A384 : Option Addr) (c385 : Nat) (H386 : Heap), Heap.le H380 H386 → Cells H386 A384 0
  [.int .i64 (1 : Int)] → 1 ≤ c385 → (0 : Int) ≤ (3 : Int) ∧ (3 : Int) < (↑4 : Int) ∧ ∃ (n390 : Int), win [.int .u16 p10, .int .u16 p11, .int .u16 p12, .int .u16 p13] (Int.toNat (3 : Int) *
  1) 1 = [.int .u16 n390] ∧ (6 : Int) ≠ (0 : Int) ∧ (decide (Int.tmod n390 (6 : Int) = (1 : Int)) = true → ∀ (A392 : Option Addr) (c393 : Nat) (H394 : Heap), Heap.le H386 H394 → Cells H394
  A392 0 [.int .i64 (2 : Int)] → 1 ≤ c393 → ∀ (A398 : Option Addr) (c399 : Nat) (H400 : Heap), Heap.le H394 H400 → Cells H400 A398 0 [.int .i64 n5, .int .i64 n6, .slice A21 n7 c22] → 1 ≤ c399
  → ∀ (A404 : Option Addr) (c405 : Nat) (H406 : Heap), Heap.le H400 H406 → Cells H406 A404 0 [.slice A378 1 c379, .string s376, .slice A384 1 c385] → 1 ≤ c405 → ∀ (A410 : Option Addr) (c411 :
  Nat) (H412 : Heap), Heap.le H406 H412 → Cells H412 A410 0 [.int .i64 (1 : Int), .slice A392 1 c393] → 1 ≤ c411 → post name A398 1 c399 none 0 0 A404 1 c405 A410 1 c411 H412) ∧ (decide
  (Int.tmod n390 (6 : Int) = (1 : Int)) = false → (decide (Int.tmod n390 (6 : Int) = (2 : Int)) = true → ∀ (A418 : Option Addr) (c419 : Nat) (H420 : Heap), Heap.le H386 H420 → Cells H420 A418
  0 [.int .i64 (1 : Int), .int .i64 (2 : Int)] → 2 ≤ c419 → ∀ (A424 : Option Addr) (c425 : Nat) (H426 : Heap), Heap.le H420 H426 → Cells H426 A424 0 [.int .i64 n5, .int .i64 n6, .slice A21 n7
  c22] → 1 ≤ c425 → ∀ (A430 : Option Addr) (c431 : Nat) (H432 : Heap), Heap.le H426 H432 → Cells H432 A430 0 [.slice A378 1 c379, .string s376, .slice A384 1 c385] → 1 ≤ c431 → ∀ (A436 :
  Option Addr) (c437 : Nat) (H438 : Heap), Heap.le H432 H438 → Cells H438 A436 0 [.int .i64 (2 : Int), .slice A418 2 c419] → 1 ≤ c437 → post name A424 1 c425 none 0 0 A430 1 c431 A436 1 c437
  H438) ∧ (decide (Int.tmod n390 (6 : Int) = (2 : Int)) = false → ∀ (A443 : Option Addr) (c444 : Nat) (H445 : Heap), Heap.le H386 H445 → Cells H445 A443 0 [.int .i64 n5, .int .i64 n6, .slice
  A21 n7 c22] → 1 ≤ c444 → ∀ (A449 : Option Addr) (c450 : Nat) (H451 : Heap), Heap.le H445 H451 → Cells H451 A449 0 [.slice A378 1 c379, .string s376, .slice A384 1 c385] → 1 ≤ c450 → post
  name A443 1 c444 none 0 0 A449 1 c450 none 0 0 H451))) ∧ (decide (Int.tmod n370 (5 : Int) = (1 : Int)) = false → (0 : Int) ≤ (3 : Int) ∧ (3 : Int) < (↑4 : Int) ∧ ∃ (n456 : Int), win [.int
  .u16 p10, .int .u16 p11, .int .u16 p12, .int .u16 p13] (Int.toNat (3 : Int) * 1) 1 = [.int .u16 n456] ∧ (6 : Int) ≠ (0 : Int) ∧ (decide (Int.tmod n456 (6 : Int) = (1 : Int)) = true → ∀
  (A458 : Option Addr) (c459 : Nat) (H460 : Heap), Heap.le H23 H460 → Cells H460 A458 0 [.int .i64 (2 : Int)] → 1 ≤ c459 → ∀ (A464 : Option Addr) (c465 : Nat) (H466 : Heap), Heap.le H460 H466
  → Cells H466 A464 0 [.int .i64 n5, .int .i64 n6, .slice A21 n7 c22] → 1 ≤ c465 → ∀ (A470 : Option Addr) (c471 : Nat) (H472 : Heap), Heap.le H466 H472 → Cells H472 A470 0 [.int .i64 (1 :
  Int), .slice A458 1 c459] → 1 ≤ c471 → post name A464 1 c465 none 0 0 none 0 0 A470 1 c471 H472) ∧ (decide (Int.tmod n456 (6 : Int) = (1 : Int)) = false → (decide (Int.tmod n456 (6 : Int) =
  (2 : Int)) = true → ∀ (A478 : Option Addr) (c479 : Nat) (H480 : Heap), Heap.le H23 H480 → Cells H480 A478 0 [.int .i64 (1 : Int), .int .i64 (2 : Int)] → 2 ≤ c479 → ∀ (A484 : Option Addr)
  (c485 : Nat) (H486 : Heap), Heap.le H480 H486 → Cells H486 A484 0 [.int .i64 n5, .int .i64 n6, .slice A21 n7 c22] → 1 ≤ c485 → ∀ (A490 : Option Addr) (c491 : Nat) (H492 : Heap), Heap.le
  H486 H492 → Cells H492 A490 0 [.int .i64 (2 : Int), .slice A478 2 c479] → 1 ≤ c491 → post name A484 1 c485 none 0 0 none 0 0 A490 1 c491 H492) ∧ (decide (Int.tmod n456 (6 : Int) = (2 :
  Int)) = false → ∀ (A497 : Option Addr) (c498 : Nat) (H499 : Heap), Heap.le H23 H499 → Cells H499 A497 0 [.int .i64 n5, .int .i64 n6, .slice A21 n7 c22] → 1 ≤ c498 → post name A497 1 c498
  none 0 0 none 0 0 none 0 0 H499))))))) := by kernel_rfl
set_option maxHeartbeats 4000000 in
theorem law0_Schema {H : Heap} {nm : ByteArray} {a b c d : Int} (hn : str nm) (ha : rng .u16 a) (hb : rng .u16 b) (hc : rng .u16 c) (hd : rng .u16 d) :
    ConT Try.prog 34 [.string nm, .agg ⟨[.int .u16 a, .int .u16 b, .int .u16 c, .int .u16 d]⟩] H shTS
      (fun nm' A' n' c' B' m' d' E' k' e' F' l' f' H' => IsTSch H' nm' A' n' c' B' m' d' E' k' e' F' l' f' (mkSchema nm a b c d)) := by
  refine con_of_vc (an := an34) (fn := Try.f34) mix tabOK Try.func34 (by kernel_rfl) (extra := 1) ?_
  rw [vc34]
  simp only [rng] at ha hb hc hd
  have e0 : a.tmod 2 = a % 2 := Int.tmod_eq_emod_of_nonneg ha.1
  have hq : 0 ≤ c.tdiv 5 ∧ c.tdiv 5 ≤ 65535 := by rw [Int.tdiv_eq_ediv_of_nonneg hc.1]; omega
  refine ⟨fun i lo hi n xs H' => 0 ≤ i ∧ i ≤ 2 + a.tmod 2 ∧ lo = 0 ∧ hi = 1099511627776 ∧ n = i.toNat ∧ Row H' xs (mkCols i.toNat), fun i _ _ _ _ => (2 + a.tmod 2 - i).toNat, ⟨by omega, by omega, rfl, rfl, rfl, rfl⟩, ?_⟩
  rintro H2 l2 i _ _ _ xs ⟨i0, i1, rfl, rfl, rfl, hr⟩
  refine ⟨by decide, by decide, _, rfl, by decide, a.tmod 2, IntWalk.i64_in _ (by omega), by simp only [rng]; omega, fun hlt => ?_, fun hge => ?_⟩
  · have hlt := of_decide_eq_true hlt
    refine ⟨_, law0_Column i0 (by omega), ?_⟩
    rintro H3 l3 p q r ⟨h1, h2, h3, h4⟩
    refine ⟨by omega, by simp only [rng]; omega, ⟨by omega, by omega, rfl, rfl, by omega, ?_⟩, by dsimp only; omega⟩
    rw [show (i + 1).toNat = i.toNat + 1 by omega, mkCols, List.range_succ, List.map_append]
    refine (hr.mono l3).append (Row.one ?_)
    show Rep.rel H3 _ (mkCol ((i.toNat : Nat) : Int))
    rw [show ((i.toNat : Nat) : Int) = i by omega, ← h1]
    exact ⟨rfl, h2, h3, h4⟩
  have hge := of_decide_eq_false hge
  have ei : i.toNat = 2 + (a.tmod 2).toNat := by omega
  rw [ei] at hr
  rw [ei]
  intro A3 c3 H3 l3 g3 hc3
  have hs : ∀ {H'}, Heap.le H3 H' → Sl H' A3 (2 + (a.tmod 2).toNat) c3 (mkCols (2 + (a.tmod 2).toNat)) := fun hle => (hr.sl l3 g3 (by simp [mkCols]) hc3 (by show _ * 32 ≤ _; omega) (by omega)).mono hle
  clear hge ei hr l3 g3 hc3 i0 i1 l2
  have leaf : ∀ {H' : Heap} {A1 : Option Addr} {c1 : Nat} {B1 : Option Addr} {m1 d1 : Nat} {E1 : Option Addr} {k1 e1 : Nat} {F1 : Option Addr} {l1 f1 : Nat} {H0 : Heap}, Cells H0 A1 0 [.int .i64 0, .int .i64 1099511627776, .slice A3 (2 + (a.tmod 2).toNat) c3] → Heap.le H0 H' → Heap.le H3 H' → 1 ≤ c1 →
      Sl H' B1 m1 d1 (mkKey b) → Sl H' E1 k1 e1 (mkFks c) → Sl H' F1 l1 f1 (mkCsts d) → IsTSch H' nm A1 1 c1 B1 m1 d1 E1 k1 e1 F1 l1 f1 (mkSchema nm a b c d) := by
    intro H' A1 c1 B1 m1 d1 E1 k1 e1 F1 l1 f1 H0 h3 h2 h1 h4 h5 h6 h7
    exact ⟨rfl, hn, sl_one h3 h2 h4 ⟨A3, _, c3, rfl, by simp [rng], by simp [rng], hs h1⟩ (by decide), h5, h6, h7⟩
  have k1 : ∀ {H0 H' : Heap} {A : Option Addr} {c1 : Nat}, decide (b.tmod 5 = 1) = true → Cells H0 A 0 [.int .i64 1] → Heap.le H0 H' → 1 ≤ c1 → Sl H' A 1 c1 (mkKey b) := fun h h1 h2 h3 => by
    rw [mkKey, if_pos (of_decide_eq_true h)]; exact sl_one h1 h2 h3 ⟨rfl, by simp [rng]⟩ (by decide)
  have k2 : ∀ {H0 H' : Heap} {A : Option Addr} {c1 : Nat}, decide (b.tmod 5 = 1) = false → decide (b.tmod 5 = 2) = true → Cells H0 A 0 [.int .i64 2, .int .i64 1] → Heap.le H0 H' → 2 ≤ c1 → Sl H' A 2 c1 (mkKey b) := fun h h' h1 h2 h3 => by
    rw [mkKey, if_neg (of_decide_eq_false h), if_pos (of_decide_eq_true h')]; exact sl_two h1 h2 h3 (by simp [rng]) (by simp [rng])
  have k3 : ∀ {H' : Heap}, decide (b.tmod 5 = 1) = false → decide (b.tmod 5 = 2) = false → Sl H' none 0 0 (mkKey b) := fun h h' => by
    rw [mkKey, if_neg (of_decide_eq_false h), if_neg (of_decide_eq_false h')]; exact Sl.nil
  have f1 : ∀ {H0 H1 H2 H' : Heap} {A B C : Option Addr} {c1 c2 c3 : Nat}, decide (c.tmod 5 = 1) = true → Cells H0 A 0 [.slice B 1 c2, .string (tableName (c.tdiv 5)), .slice C 1 c3] → Heap.le H0 H' → 1 ≤ c1 → Cells H1 B 0 [.int .i64 1] → Heap.le H1 H' → 1 ≤ c2 →
      Cells H2 C 0 [.int .i64 1] → Heap.le H2 H' → 1 ≤ c3 → str (tableName (c.tdiv 5)) → Sl H' A 1 c1 (mkFks c) := fun h h1 h2 h3 h4 h5 h6 h7 h8 h9 h10 => by
    rw [mkFks, if_pos (of_decide_eq_true h)]
    exact sl_one h1 h2 h3 ⟨_, _, _, _, _, _, rfl, sl_one (T := Int) h4 h5 h6 ⟨rfl, by simp [rng]⟩ (by decide), h10, sl_one (T := Int) h7 h8 h9 ⟨rfl, by simp [rng]⟩ (by decide)⟩ (by decide)
  have f2 : ∀ {H' : Heap}, decide (c.tmod 5 = 1) = false → Sl H' none 0 0 (mkFks c) := fun h => by
    rw [mkFks, if_neg (of_decide_eq_false h)]; exact Sl.nil
  have g1 : ∀ {H0 H1 H' : Heap} {A B : Option Addr} {c1 c2 : Nat}, decide (d.tmod 6 = 1) = true → Cells H0 A 0 [.int .i64 1, .slice B 1 c2] → Heap.le H0 H' → 1 ≤ c1 → Cells H1 B 0 [.int .i64 2] → Heap.le H1 H' → 1 ≤ c2 → Sl H' A 1 c1 (mkCsts d) := fun h h1 h2 h3 h4 h5 h6 => by
    rw [mkCsts, if_pos (of_decide_eq_true h)]
    exact sl_one h1 h2 h3 ⟨_, _, _, rfl, by simp [rng], sl_one (T := Int) h4 h5 h6 ⟨rfl, by simp [rng]⟩ (by decide)⟩ (by decide)
  have g2 : ∀ {H0 H1 H' : Heap} {A B : Option Addr} {c1 c2 : Nat}, decide (d.tmod 6 = 1) = false → decide (d.tmod 6 = 2) = true → Cells H0 A 0 [.int .i64 2, .slice B 2 c2] → Heap.le H0 H' → 1 ≤ c1 → Cells H1 B 0 [.int .i64 1, .int .i64 2] → Heap.le H1 H' → 2 ≤ c2 → Sl H' A 1 c1 (mkCsts d) :=
    fun h h' h1 h2 h3 h4 h5 h6 => by
    rw [mkCsts, if_neg (of_decide_eq_false h), if_pos (of_decide_eq_true h')]
    exact sl_one h1 h2 h3 ⟨_, _, _, rfl, by simp [rng], sl_two h4 h5 h6 (by simp [rng]) (by simp [rng])⟩ (by decide)
  have g3 : ∀ {H' : Heap}, decide (d.tmod 6 = 1) = false → decide (d.tmod 6 = 2) = false → Sl H' none 0 0 (mkCsts d) := fun h h' => by
    rw [mkCsts, if_neg (of_decide_eq_false h), if_neg (of_decide_eq_false h')]; exact Sl.nil
  clear hs ha hb hc hd e0 hn
  refine ⟨by decide, by decide, _, rfl, by decide, fun hb1 => ?_, fun hb1 => ⟨fun hb2 => ?_, fun hb2 => ?_⟩⟩
  all_goals
    refine ⟨by decide, by decide, _, rfl, by decide, fun hc1 => ⟨by decide, by decide, _, rfl, by decide, by simp only [rng]; omega, _, law0_table hq.1, ?_⟩, fun hc1 => ?_⟩
    all_goals try rintro H33 l33 s35 ⟨rfl, ht⟩ A37 c38 H39 l39 g39 q39 A43 c44 H45 l45 g45 q45
    all_goals
      refine ⟨by decide, by decide, _, rfl, by decide, fun hd1 => ?_, fun hd1 => ⟨fun hd2 => ?_, fun hd2 => ?_⟩⟩
      all_goals
        intros
        refine leaf (by assumption) (by repeat first | assumption | exact hle_refl _ | refine hle_trans (by assumption) ?_) (by repeat first | assumption | exact hle_refl _ | refine hle_trans (by assumption) ?_) (by assumption) ?_ ?_ ?_
        · first | exact k1 (by assumption) (by assumption) (by repeat first | assumption | exact hle_refl _ | refine hle_trans (by assumption) ?_) (by assumption) | exact k2 (by assumption) (by assumption) (by assumption) (by repeat first | assumption | exact hle_refl _ | refine hle_trans (by assumption) ?_) (by assumption) | exact k3 (by assumption) (by assumption)
        · first | exact f1 (by assumption) (by assumption) (by repeat first | assumption | exact hle_refl _ | refine hle_trans (by assumption) ?_) (by assumption) (by assumption) (by repeat first | assumption | exact hle_refl _ | refine hle_trans (by assumption) ?_) (by assumption) (by assumption) (by repeat first | assumption | exact hle_refl _ | refine hle_trans (by assumption) ?_) (by assumption) (by assumption) | exact f2 (by assumption)
        · first | exact g1 (by assumption) (by assumption) (by repeat first | assumption | exact hle_refl _ | refine hle_trans (by assumption) ?_) (by assumption) (by assumption) (by repeat first | assumption | exact hle_refl _ | refine hle_trans (by assumption) ?_) (by assumption) | exact g2 (by assumption) (by assumption) (by assumption) (by repeat first | assumption | exact hle_refl _ | refine hle_trans (by assumption) ?_) (by assumption) (by assumption) (by repeat first | assumption | exact hle_refl _ | refine hle_trans (by assumption) ?_) (by assumption) | exact g3 (by assumption) (by assumption)
def an9 : Ann where
  res := fun _ => none
  lend := fun | 66 => true | 71 => true | 74 => true | 77 => true | _ => false
  sch := fun _ => .done
  lt := fun _ => []
  tup := tups

theorem vc9 (P : Program) (H : Heap)  (post : Bool → Heap → Prop) :
  vcFn P tab an9 Try.f9 [] 0 H ⟨false, [(false, [.bool])]⟩ post =
  (  ∃ (post0 : ByteArray → Option Addr → Nat → Nat → Option Addr → Nat → Nat → Option Addr → Nat → Nat → Option Addr → Nat → Nat → Heap → Prop), ConT P 34 [.string { data := ⟨[(116 : UInt8)]⟩
  }, .agg ⟨[.int .u16 (0 : Int), .int .u16 (0 : Int), .int .u16 (0 : Int), .int .u16 (0 : Int)]⟩] H ⟨false, [(true, [.str, .sl, .sl, .sl, .sl])]⟩ post0 ∧ ∀ (H1 : Heap), Heap.le H H1 → ∀ (s3 :
  ByteArray) (A4 : Option Addr) (n5 c6 : Nat) (A7 : Option Addr) (n8 c9 : Nat) (A10 : Option Addr) (n11 c12 : Nat) (A13 : Option Addr) (n14 c15 : Nat), post0 s3 A4 n5 c6 A7 n8 c9 A10 n11 c12
  A13 n14 c15 H1 → ∃ (post17 : ByteArray → Option Addr → Nat → Nat → Option Addr → Nat → Nat → Option Addr → Nat → Nat → Option Addr → Nat → Nat → Int → Heap → Prop), ConT P 27 [.agg
  ⟨[.string s3, .slice A4 n5 c6, .slice A7 n8 c9, .slice A10 n11 c12, .slice A13 n14 c15]⟩, .int .i64 (3 : Int)] H1 ⟨true, [(true, [.str, .sl, .sl, .sl, .sl]), (false, [.int .i64])]⟩ post17 ∧
  ∀ (H18 : Heap), Heap.le H1 H18 → ∀ (s20 : ByteArray) (A21 : Option Addr) (n22 c23 : Nat) (A24 : Option Addr) (n25 c26 : Nat) (A27 : Option Addr) (n28 c29 : Nat) (A30 : Option Addr) (n31 c32
  : Nat) (n33 : Int), post17 s20 A21 n22 c23 A24 n25 c26 A27 n28 c29 A30 n31 c32 n33 H18 → ∃ (post35 : ByteArray → Option Addr → Nat → Nat → Option Addr → Nat → Nat → Option Addr → Nat → Nat
  → Option Addr → Nat → Nat → Int → Heap → Prop), ConT P 29 [.agg ⟨[.string s20, .slice A21 n22 c23, .slice A24 n25 c26, .slice A27 n28 c29, .slice A30 n31 c32]⟩, .agg ⟨[.int .i64 (0 : Int),
  .string { data := ⟨[(122 : UInt8)]⟩ }, .int .i64 (3 : Int)]⟩, .int .i64 (5 : Int)] H18 ⟨true, [(true, [.str, .sl, .sl, .sl, .sl]), (false, [.int .i64])]⟩ post35 ∧ ∀ (H36 : Heap), Heap.le
  H18 H36 → ∀ (s38 : ByteArray) (A39 : Option Addr) (n40 c41 : Nat) (A42 : Option Addr) (n43 c44 : Nat) (A45 : Option Addr) (n46 c47 : Nat) (A48 : Option Addr) (n49 c50 : Nat) (n51 : Int),
  post35 s38 A39 n40 c41 A42 n43 c44 A45 n46 c47 A48 n49 c50 n51 H36 → ∃ (post53 : Int → Int → Option Addr → Nat → Nat → Bool → Heap → Prop), ConT P 13 [.agg ⟨[.string s38, .slice A39 n40
  c41, .slice A42 n43 c44, .slice A45 n46 c47, .slice A48 n49 c50]⟩, .int .i64 (5 : Int)] H36 ⟨true, [(true, [.int .i64, .int .i64, .sl]), (false, [.bool])]⟩ post53 ∧ ∀ (H54 : Heap), Heap.le
  H36 H54 → ∀ (n56 n57 : Int) (A58 : Option Addr) (n59 c60 : Nat) (b61 : Bool), post53 n56 n57 A58 n59 c60 b61 H54 → ∃ (post63 : Int → Int → Option Addr → Nat → Nat → Bool → Heap → Prop),
  ConT P 13 [.agg ⟨[.string s38, .slice A39 n40 c41, .slice A42 n43 c44, .slice A45 n46 c47, .slice A48 n49 c50]⟩, .int .i64 (2 : Int)] H54 ⟨true, [(true, [.int .i64, .int .i64, .sl]),
  (false, [.bool])]⟩ post63 ∧ ∀ (H64 : Heap), Heap.le H54 H64 → ∀ (n66 n67 : Int) (A68 : Option Addr) (n69 c70 : Nat) (b71 : Bool), post63 n66 n67 A68 n69 c70 b71 H64 → (decide (n33 = (0 :
  Int)) = true → (decide (n51 = (0 : Int)) = true → (b61 = true → ((!b71) = true → (decide ((↑n40 : Int) = (2 : Int)) = true → (decide ((↑n59 : Int) = (3 : Int)) = true → someA A58 ∧ (0 :
  Int) ≤ (2 : Int) ∧ (2 : Int) < (↑n59 : Int) ∧ ∃ (n79 : Int), ∃ (s80 : ByteArray), ∃ (n81 : Int), Cells H64 A58 (Int.toNat (2 : Int) * 3) [.int .i64 n79, .string s80, .int .i64 n81] ∧
  ((decide (n79 = (3 : Int)) && (decide (s80 = { data := ⟨[(122 : UInt8)]⟩ }) && decide (n81 = (3 : Int)))) = true → ∃ (post83 : Int → Heap → Prop), ConT P 20 [.agg ⟨[.string s38, .slice A39
  n40 c41, .slice A42 n43 c44, .slice A45 n46 c47, .slice A48 n49 c50]⟩] H64 ⟨false, [(false, [.int .i64])]⟩ post83 ∧ ∀ (H84 : Heap), Heap.le H64 H84 → ∀ (n86 : Int), post83 n86 H84 → (decide
  (n86 = (3 : Int)) = true → ∃ (post89 : Bool → Heap → Prop), ConT P 17 [.agg ⟨[.string s38, .slice A39 n40 c41, .slice A42 n43 c44, .slice A45 n46 c47, .slice A48 n49 c50]⟩] H84 ⟨false,
  [(false, [.bool])]⟩ post89 ∧ ∀ (H90 : Heap), Heap.le H84 H90 → ∀ (b92 : Bool), post89 b92 H90 → (b92 = true → ∃ (post95 : Bool → Heap → Prop), ConT P 10 [.string { data := ⟨[(97 : UInt8),
  (95 : UInt8), (49 : UInt8)]⟩ }] H90 ⟨false, [(false, [.bool])]⟩ post95 ∧ ∀ (H96 : Heap), Heap.le H90 H96 → ∀ (b98 : Bool), post95 b98 H96 → (b98 = true → ∃ (post101 : Bool → Heap → Prop),
  ConT P 10 [.string { data := ⟨[(65 : UInt8)]⟩ }] H96 ⟨false, [(false, [.bool])]⟩ post101 ∧ ∀ (H102 : Heap), Heap.le H96 H102 → ∀ (b104 : Bool), post101 b104 H102 → post (!b104) H102) ∧ (b98
  = false → post false H96)) ∧ (b92 = false → post false H90)) ∧ (decide (n86 = (3 : Int)) = false → post false H84)) ∧ ((decide (n79 = (3 : Int)) && (decide (s80 = { data := ⟨[(122 :
  UInt8)]⟩ }) && decide (n81 = (3 : Int)))) = false → post false H64)) ∧ (decide ((↑n59 : Int) = (3 : Int)) = false → post false H64)) ∧ (decide ((↑n40 : Int) = (2 : Int)) = false → post
  false H64)) ∧ ((!b71) = false → post false H64)) ∧ (b61 = false → post false H64)) ∧ (decide (n51 = (0 : Int)) = false → post false H64)) ∧ (decide (n33 = (0 : Int)) = false → post false
  H64)) := by kernel_rfl
set_option maxRecDepth 100000 in
theorem law21_awake {H : Heap} : ConT Try.prog 9 [] H shB (fun b _ => b = true) := by
  refine con_of_vc (an := an9) (fn := Try.f9) mix tabOK Try.func9 (by kernel_rfl) (extra := 0) ?_
  rw [vc9]
  refine ⟨_, law0_Schema (by simp [str, ByteArray.size]) (by simp [rng]) (by simp [rng]) (by simp [rng]) (by simp [rng]), ?_⟩
  intro H1 l1 nm A n c B m d E k e F l f hs
  refine ⟨_, schema_Create hs, ?_⟩
  rintro H2 l2 nm A n c B m d E k e F l f _ ⟨hs, rfl⟩
  generalize hs1 : createSch (mkSchema ⟨⟨[116]⟩⟩ 0 0 0 0) 3 = s1 at hs
  have e1 : s1 = (⟨⟨⟨[116]⟩⟩, [⟨⟨3, 1099511627776⟩, [mkCol 0, mkCol 1]⟩], [], [], []⟩, 0) := by rw [← hs1]; decide
  subst e1
  dsimp only at hs
  refine ⟨_, schema_AddColumn hs (by simp [str, ByteArray.size]) (by simp [rng]) (by simp [rng]) (by simp), ?_⟩
  rintro H3 l3 nm A n c B m d E k e F l f _ ⟨hs, rfl⟩
  generalize hs2 : addCol ⟨⟨⟨[116]⟩⟩, [⟨⟨3, 1099511627776⟩, [mkCol 0, mkCol 1]⟩], [], [], []⟩ ⟨0, ⟨⟨[122]⟩⟩, 3⟩ 5 = s2 at hs
  have e2 : s2 = (⟨⟨⟨[116]⟩⟩, [⟨⟨3, 5⟩, [mkCol 0, mkCol 1]⟩, ⟨⟨5, 1099511627776⟩, [mkCol 0, mkCol 1, ⟨3, ⟨⟨[122]⟩⟩, 3⟩]⟩], [], [], []⟩, 0) := by rw [← hs2]; decide
  subst e2
  dsimp only at hs
  refine ⟨_, schema_At hs, ?_⟩
  rintro H4 l4 p q A4 n4 c4 ok ⟨rfl, hp, hq, l5, h5, h6⟩
  refine ⟨_, schema_At (hs.mono l4), ?_⟩
  rintro H5 l5' p' q' A5 n5 c5 ok' ⟨rfl, hp', hq', l6, h7, h8⟩
  have hn := hs.vers.len
  simp only [List.length_cons, List.length_nil] at hn
  have el : l5 = [mkCol 0, mkCol 1, ⟨3, ⟨⟨[122]⟩⟩, 3⟩] := (Ver.mk.inj h6).2
  subst el
  have hl := h5.len
  simp only [List.length_cons, List.length_nil] at hl
  obtain ⟨hi, hA, _, hcc, rfl, -⟩ := h5.at l5' (i := 2) (by omega) (by omega)
  refine ⟨fun _ => ⟨fun _ => ⟨fun _ => ⟨fun _ => ⟨fun _ => ⟨fun _ => ⟨hA, by omega, by omega, _, _, _, hcc, fun _ => ⟨_, schema_Width (hs.mono (hle_trans l4 l5')), ?_⟩, fun h => ?_⟩, fun h => ?_⟩, fun h => ?_⟩, fun h => ?_⟩, fun h => ?_⟩, fun h => ?_⟩, fun h => ?_⟩
  · rintro H6 l6 _ ⟨rfl, -⟩
    refine ⟨fun _ => ⟨_, schema_Validate (hs.mono (hle_trans (hle_trans l4 l5') l6)), ?_⟩, fun h => absurd h (by decide)⟩
    rintro H7 l7 _ rfl
    refine ⟨fun _ => ⟨_, schema_ValidName, ?_⟩, fun h => absurd h (by decide)⟩
    rintro H8 l8 _ rfl
    refine ⟨fun _ => ⟨_, schema_ValidName, ?_⟩, fun h => absurd h (by decide)⟩
    rintro H9 l9 _ rfl
    decide
  · exact absurd (show (true : Bool) = false from h) (by decide)
  · exact absurd (of_decide_eq_false h) (by omega)
  · exact absurd (of_decide_eq_false h) (by omega)
  · exact absurd h (by decide)
  · exact absurd h (by decide)
  · exact absurd h (by decide)
  · exact absurd h (by decide)
end Go.Vc

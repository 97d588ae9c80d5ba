/- SchemaPast: a change does not alter the columns at any earlier instant; an ID never denotes two different columns. No conditions. -/
import Derived.Test.YthbapbapcnafhaaP7
import Derived.Test.YthbapbapcnafhaaU1
set_option linter.unusedSectionVars false
set_option linter.unusedSimpArgs false
set_option linter.unusedVariables false
namespace Go.Vc
open Go Go.Proofs
/- what the law knows: for each number the column that was seen under it -/
structure Known (H : Heap) (xs : List Value) (s : TSch) (kn : List Col) : Prop where
  row : Row H xs kn
  len : kn.length = 13
  ok : ∀ (j : Nat) (hj : j < kn.length), kn[j].id ≠ 0 → kn[j].id = (j : Nat) ∧ uni s kn[j]
theorem Known.mono {H H' : Heap} {xs : List Value} {s : TSch} {kn : List Col} (h : Known H xs s kn) (hle : Heap.le H H') : Known H' xs s kn := ⟨h.row.mono hle, h.len, h.ok⟩
theorem getD_cols (o : Option Ver) : (o.getD ver0).cols = (o.map (·.cols)).getD [] := by cases o <;> rfl
theorem getD_uni {s : TSch} {x : Int} {c : Col} (h : c ∈ ((verAt x s.vers).getD ver0).cols) : uni s c := by
  cases hv : verAt x s.vers with
  | none => rw [hv] at h; cases h
  | some v => rw [hv] at h; exact ⟨v, verAt_mem hv, h⟩
def an8 : Ann where
  res := fun _ => none
  lend := fun | 85 => true | 135 => true | _ => false
  sch := fun | 10 => (tk [0, 1, 2, 3, 4, 5] (.alt 6 (tk [7, 8, 9] (.alt 10 (.alt 11 (tk [12] .done) .fin) .fin)) (.alt 10 (.alt 6 (tk [7, 8, 9] (.alt 11 (tk [12] .done) .fin)) .fin) .fin))) | 22 => (tk [0, 1, 2, 3, 4, 5, 6, 7, 8, 9, 10, 11, 12, 13, 14, 15, 16, 17, 18, 19, 20, 21, 22, 23] .done) | _ => .done
  lt := fun | 7 => [.slot 9 false [.int .i64], .slot 11 false [.int .i64], .box 7 29 [.str, .sl, .sl, .sl, .sl], .arr 10 70] | 19 => [.slot 19 false [.int .i64], .arr 10 70] | _ => []
  tup := tups

theorem vc8 (P : Program) (H : Heap) (x0 : Int) (x1 : Int) (x2 : Int) (x3 : Int) (p1A : Option Addr) (p1N p1C : Nat) (p2 : Int) (post : Bool → Heap → Prop) :
  vcFn P tab an8 Try.f8 [.agg #[.int .u16 x0, .int .u16 x1, .int .u16 x2, .int .u16 x3], .slice p1A p1N p1C, .int .u16 p2] 0 H ⟨false, [(false, [.bool])]⟩ post =
  (  ∃ (n0 : Int), ∃ (n1 : Int), ∃ (n2 : Int), ∃ (n3 : Int), win [.int .u16 x0, .int .u16 x1, .int .u16 x2, .int .u16 x3] 0 4 = [.int .u16 n0, .int .u16 n1, .int .u16 n2, .int .u16 n3] ∧ ∃
  (post4 : ByteArray → Option Addr → Nat → Nat → Option Addr → Nat → Nat → Option Addr → Nat → Nat → Option Addr → Nat → Nat → Heap → Prop), ConT P 34 [.string { data := ⟨[(116 : UInt8)]⟩ },
  .agg ⟨[.int .u16 n0, .int .u16 n1, .int .u16 n2, .int .u16 n3]⟩] H ⟨false, [(true, [.str, .sl, .sl, .sl, .sl])]⟩ post4 ∧ ∀ (H5 : Heap), Heap.le H H5 → ∀ (s7 : ByteArray) (A8 : Option Addr)
  (n9 c10 : Nat) (A11 : Option Addr) (n12 c13 : Nat) (A14 : Option Addr) (n15 c16 : Nat) (A17 : Option Addr) (n18 c19 : Nat), post4 s7 A8 n9 c10 A11 n12 c13 A14 n15 c16 A17 n18 c19 H5 → ∃
  (post21 : ByteArray → Option Addr → Nat → Nat → Option Addr → Nat → Nat → Option Addr → Nat → Nat → Option Addr → Nat → Nat → Int → Heap → Prop), ConT P 27 [.agg ⟨[.string s7, .slice A8 n9
  c10, .slice A11 n12 c13, .slice A14 n15 c16, .slice A17 n18 c19]⟩, .int .i64 (2 : Int)] H5 ⟨true, [(true, [.str, .sl, .sl, .sl, .sl]), (false, [.int .i64])]⟩ post21 ∧ ∀ (H22 : Heap),
  Heap.le H5 H22 → ∀ (s24 : ByteArray) (A25 : Option Addr) (n26 c27 : Nat) (A28 : Option Addr) (n29 c30 : Nat) (A31 : Option Addr) (n32 c33 : Nat) (A34 : Option Addr) (n35 c36 : Nat) (n37 :
  Int), post21 s24 A25 n26 c27 A28 n29 c30 A31 n32 c33 A34 n35 c36 n37 H22 → ((!decide (n37 = (0 : Int))) = true → post false H22) ∧ ((!decide (n37 = (0 : Int))) = false → ∃ (inv41 : Int →
  Int → ByteArray → Option Addr → Nat → Nat → Option Addr → Nat → Nat → Option Addr → Nat → Nat → Option Addr → Nat → Nat → List Value → Heap → Prop), ∃ (m42 : Int → Int → ByteArray → Option
  Addr → Nat → Nat → Option Addr → Nat → Nat → Option Addr → Nat → Nat → Option Addr → Nat → Nat → List Value → Nat), inv41 (2 : Int) (0 : Int) s24 A25 n26 c27 A28 n29 c30 A31 n32 c33 A34 n35
  c36 [.int .i64 (0 : Int), .string ⟨⟨[]⟩⟩, .int .i64 (0 : Int), .int .i64 (0 : Int), .string ⟨⟨[]⟩⟩, .int .i64 (0 : Int), .int .i64 (0 : Int), .string ⟨⟨[]⟩⟩, .int .i64 (0 : Int), .int .i64
  (0 : Int), .string ⟨⟨[]⟩⟩, .int .i64 (0 : Int), .int .i64 (0 : Int), .string ⟨⟨[]⟩⟩, .int .i64 (0 : Int), .int .i64 (0 : Int), .string ⟨⟨[]⟩⟩, .int .i64 (0 : Int), .int .i64 (0 : Int),
  .string ⟨⟨[]⟩⟩, .int .i64 (0 : Int), .int .i64 (0 : Int), .string ⟨⟨[]⟩⟩, .int .i64 (0 : Int), .int .i64 (0 : Int), .string ⟨⟨[]⟩⟩, .int .i64 (0 : Int), .int .i64 (0 : Int), .string ⟨⟨[]⟩⟩,
  .int .i64 (0 : Int), .int .i64 (0 : Int), .string ⟨⟨[]⟩⟩, .int .i64 (0 : Int), .int .i64 (0 : Int), .string ⟨⟨[]⟩⟩, .int .i64 (0 : Int), .int .i64 (0 : Int), .string ⟨⟨[]⟩⟩, .int .i64 (0 :
  Int)] H22 ∧ ∀ (H43 : Heap), Heap.le H22 H43 → ∀ (n45 n46 : Int) (s47 : ByteArray) (A48 : Option Addr) (n49 c50 : Nat) (A51 : Option Addr) (n52 c53 : Nat) (A54 : Option Addr) (n55 c56 : Nat)
  (A57 : Option Addr) (n58 c59 : Nat) (xs60 : List Value), inv41 n45 n46 s47 A48 n49 c50 A51 n52 c53 A54 n55 c56 A57 n58 c59 xs60 H43 → (decide (n46 < (↑p1N : Int)) = true → (decide (n46 <
  (30 : Int)) = true → someA p1A ∧ (0 : Int) ≤ n46 ∧ n46 < (↑p1N : Int) ∧ (0 : Int) ≤ (1 : Int) ∧ (1 : Int) < (↑4 : Int) ∧ ∃ (n64 : Int), Cells H43 p1A (Int.toNat n46 * 4 + Int.toNat (1 :
  Int) * 1) [.int .u16 n64] ∧ (3 : Int) ≠ (0 : Int) ∧ ∃ (e65 : Int), IntKind.wrap IntKind.i64 (Int.tmod n64 (3 : Int)) = e65 ∧ rng .i64 (n45 + e65) ∧ someA p1A ∧ (0 : Int) ≤ n46 ∧ n46 < (↑p1N
  : Int) ∧ ∃ (n66 : Int), ∃ (n67 : Int), ∃ (n68 : Int), ∃ (n69 : Int), Cells H43 p1A (Int.toNat n46 * 4) [.int .u16 n66, .int .u16 n67, .int .u16 n68, .int .u16 n69] ∧ (∃ (post70 : ByteArray
  → Option Addr → Nat → Nat → Option Addr → Nat → Nat → Option Addr → Nat → Nat → Option Addr → Nat → Nat → Int → Heap → Prop), ConT P 35 [.agg ⟨[.string s47, .slice A48 n49 c50, .slice A51
  n52 c53, .slice A54 n55 c56, .slice A57 n58 c59]⟩, .agg ⟨[.int .u16 n66, .int .u16 n67, .int .u16 n68, .int .u16 n69]⟩, .int .i64 (n45 + e65)] H43 ⟨true, [(true, [.str, .sl, .sl, .sl,
  .sl]), (false, [.int .i64])]⟩ post70 ∧ ∀ (H71 : Heap), Heap.le H43 H71 → ∀ (s73 : ByteArray) (A74 : Option Addr) (n75 c76 : Nat) (A77 : Option Addr) (n78 c79 : Nat) (A80 : Option Addr) (n81
  c82 : Nat) (A83 : Option Addr) (n84 c85 : Nat) (n86 : Int), post70 s73 A74 n75 c76 A77 n78 c79 A80 n81 c82 A83 n84 c85 n86 H71 → ((!decide (n86 = (0 : Int))) = true → rng .i64 (n46 + (1 :
  Int)) ∧ inv41 (n45 + e65) (n46 + (1 : Int)) s47 A48 n49 c50 A51 n52 c53 A54 n55 c56 A57 n58 c59 xs60 H71 ∧ m42 (n45 + e65) (n46 + (1 : Int)) s47 A48 n49 c50 A51 n52 c53 A54 n55 c56 A57 n58
  c59 xs60 < m42 n45 n46 s47 A48 n49 c50 A51 n52 c53 A54 n55 c56 A57 n58 c59 xs60) ∧ ((!decide (n86 = (0 : Int))) = false → ∃ (e90 : Int), IntKind.wrap IntKind.i64 p2 = e90 ∧ max (n45 + e65)
  (1 : Int) ≠ (0 : Int) ∧ ∃ (post91 : Int → Int → Option Addr → Nat → Nat → Bool → Heap → Prop), ConT P 13 [.agg ⟨[.string s47, .slice A48 n49 c50, .slice A51 n52 c53, .slice A54 n55 c56,
  .slice A57 n58 c59]⟩, .int .i64 (Int.tmod e90 (max (n45 + e65) (1 : Int)))] H71 ⟨true, [(true, [.int .i64, .int .i64, .sl]), (false, [.bool])]⟩ post91 ∧ ∀ (H92 : Heap), Heap.le H71 H92 → ∀
  (n94 n95 : Int) (A96 : Option Addr) (n97 c98 : Nat) (b99 : Bool), post91 n94 n95 A96 n97 c98 b99 H92 → ∃ (post101 : Int → Int → Option Addr → Nat → Nat → Bool → Heap → Prop), ConT P 13
  [.agg ⟨[.string s73, .slice A74 n75 c76, .slice A77 n78 c79, .slice A80 n81 c82, .slice A83 n84 c85]⟩, .int .i64 (Int.tmod e90 (max (n45 + e65) (1 : Int)))] H92 ⟨true, [(true, [.int .i64,
  .int .i64, .sl]), (false, [.bool])]⟩ post101 ∧ ∀ (H102 : Heap), Heap.le H92 H102 → ∀ (n104 n105 : Int) (A106 : Option Addr) (n107 c108 : Nat) (b109 : Bool), post101 n104 n105 A106 n107 c108
  b109 H102 → ((!b99 == b109) = true → post false H102) ∧ ((!b99 == b109) = false → ∃ (post113 : Bool → Heap → Prop), ConT P 37 [.slice A96 n97 c98, .slice A106 n107 c108] H102 ⟨false,
  [(false, [.bool])]⟩ post113 ∧ ∀ (H114 : Heap), Heap.le H102 H114 → ∀ (b116 : Bool), post113 b116 H114 → ((!b116) = true → post false H114) ∧ ((!b116) = false → ∃ (post120 : Int → Int →
  Option Addr → Nat → Nat → Bool → Heap → Prop), ConT P 13 [.agg ⟨[.string s73, .slice A74 n75 c76, .slice A77 n78 c79, .slice A80 n81 c82, .slice A83 n84 c85]⟩, .int .i64 (n45 + e65)] H114
  ⟨true, [(true, [.int .i64, .int .i64, .sl]), (false, [.bool])]⟩ post120 ∧ ∀ (H121 : Heap), Heap.le H114 H121 → ∀ (n123 n124 : Int) (A125 : Option Addr) (n126 c127 : Nat) (b128 : Bool),
  post120 n123 n124 A125 n126 c127 b128 H121 → ∃ (inv130 : Int → List Value → Heap → Prop), ∃ (m131 : Int → List Value → Nat), inv130 (0 : Int) xs60 H121 ∧ ∀ (H132 : Heap), Heap.le H121 H132
  → ∀ (n134 : Int) (xs135 : List Value), inv130 n134 xs135 H132 → (decide (n134 < (↑n126 : Int)) = true → someA A125 ∧ (0 : Int) ≤ n134 ∧ n134 < (↑n126 : Int) ∧ ∃ (n138 : Int), ∃ (s139 :
  ByteArray), ∃ (n140 : Int), Cells H132 A125 (Int.toNat n134 * 3) [.int .i64 n138, .string s139, .int .i64 n140] ∧ (decide (n138 < (1 : Int)) = true → post false H132) ∧ (decide (n138 < (1 :
  Int)) = false → (decide ((12 : Int) < n138) = true → post false H132) ∧ (decide ((12 : Int) < n138) = false → (0 : Int) ≤ n138 ∧ n138 < (↑13 : Int) ∧ ∃ (n145 : Int), win xs135 (Int.toNat
  n138 * 3 + 0) 1 = [.int .i64 n145] ∧ ((!decide (n145 = (0 : Int))) = true → (0 : Int) ≤ n138 ∧ n138 < (↑13 : Int) ∧ ∃ (n147 : Int), ∃ (s148 : ByteArray), ∃ (n149 : Int), win xs135
  (Int.toNat n138 * 3) 3 = [.int .i64 n147, .string s148, .int .i64 n149] ∧ ((!(decide (n147 = n138) && (decide (s148 = s139) && decide (n149 = n140)))) = true → post false H132) ∧ ((!(decide
  (n147 = n138) && (decide (s148 = s139) && decide (n149 = n140)))) = false → (0 : Int) ≤ n138 ∧ n138 < (↑13 : Int) ∧ Int.toNat n138 * 3 + 3 ≤ List.length xs135 ∧ rng .i64 (n134 + (1 : Int))
  ∧ inv130 (n134 + (1 : Int)) (splice xs135 (Int.toNat n138 * 3) [.int .i64 n138, .string s139, .int .i64 n140]) H132 ∧ m131 (n134 + (1 : Int)) (splice xs135 (Int.toNat n138 * 3) [.int .i64
  n138, .string s139, .int .i64 n140]) < m131 n134 xs135)) ∧ ((!decide (n145 = (0 : Int))) = false → (0 : Int) ≤ n138 ∧ n138 < (↑13 : Int) ∧ Int.toNat n138 * 3 + 3 ≤ List.length xs135 ∧ rng
  .i64 (n134 + (1 : Int)) ∧ inv130 (n134 + (1 : Int)) (splice xs135 (Int.toNat n138 * 3) [.int .i64 n138, .string s139, .int .i64 n140]) H132 ∧ m131 (n134 + (1 : Int)) (splice xs135
  (Int.toNat n138 * 3) [.int .i64 n138, .string s139, .int .i64 n140]) < m131 n134 xs135)))) ∧ (decide (n134 < (↑n126 : Int)) = false → rng .i64 (n46 + (1 : Int)) ∧ inv41 (n45 + e65) (n46 +
  (1 : Int)) s73 A74 n75 c76 A77 n78 c79 A80 n81 c82 A83 n84 c85 xs135 H132 ∧ m42 (n45 + e65) (n46 + (1 : Int)) s73 A74 n75 c76 A77 n78 c79 A80 n81 c82 A83 n84 c85 xs135 < m42 n45 n46 s47 A48
  n49 c50 A51 n52 c53 A54 n55 c56 A57 n58 c59 xs60))))) ∧ ∃ (post154 : ByteArray → Option Addr → Nat → Nat → Option Addr → Nat → Nat → Option Addr → Nat → Nat → Option Addr → Nat → Nat → Int
  → Heap → Prop), ConT P 35 [.agg ⟨[.string s47, .slice A48 n49 c50, .slice A51 n52 c53, .slice A54 n55 c56, .slice A57 n58 c59]⟩, .agg ⟨[.int .u16 n66, .int .u16 n67, .int .u16 n68, .int
  .u16 n69]⟩, .int .i64 (n45 + e65)] H43 ⟨true, [(true, [.str, .sl, .sl, .sl, .sl]), (false, [.int .i64])]⟩ post154 ∧ ∀ (H155 : Heap), Heap.le H43 H155 → ∀ (s157 : ByteArray) (A158 : Option
  Addr) (n159 c160 : Nat) (A161 : Option Addr) (n162 c163 : Nat) (A164 : Option Addr) (n165 c166 : Nat) (A167 : Option Addr) (n168 c169 : Nat) (n170 : Int), post154 s157 A158 n159 c160 A161
  n162 c163 A164 n165 c166 A167 n168 c169 n170 H155 → ((!decide (n170 = (0 : Int))) = true → rng .i64 (n46 + (1 : Int)) ∧ inv41 (n45 + e65) (n46 + (1 : Int)) s47 A48 n49 c50 A51 n52 c53 A54
  n55 c56 A57 n58 c59 xs60 H155 ∧ m42 (n45 + e65) (n46 + (1 : Int)) s47 A48 n49 c50 A51 n52 c53 A54 n55 c56 A57 n58 c59 xs60 < m42 n45 n46 s47 A48 n49 c50 A51 n52 c53 A54 n55 c56 A57 n58 c59
  xs60) ∧ ((!decide (n170 = (0 : Int))) = false → ∃ (e174 : Int), IntKind.wrap IntKind.i64 p2 = e174 ∧ max (n45 + e65) (1 : Int) ≠ (0 : Int) ∧ ∃ (post175 : Int → Int → Option Addr → Nat → Nat
  → Bool → Heap → Prop), ConT P 13 [.agg ⟨[.string s47, .slice A48 n49 c50, .slice A51 n52 c53, .slice A54 n55 c56, .slice A57 n58 c59]⟩, .int .i64 (Int.tmod e174 (max (n45 + e65) (1 :
  Int)))] H155 ⟨true, [(true, [.int .i64, .int .i64, .sl]), (false, [.bool])]⟩ post175 ∧ ∀ (H176 : Heap), Heap.le H155 H176 → ∀ (n178 n179 : Int) (A180 : Option Addr) (n181 c182 : Nat) (b183
  : Bool), post175 n178 n179 A180 n181 c182 b183 H176 → ∃ (post185 : Int → Int → Option Addr → Nat → Nat → Bool → Heap → Prop), ConT P 13 [.agg ⟨[.string s157, .slice A158 n159 c160, .slice
  A161 n162 c163, .slice A164 n165 c166, .slice A167 n168 c169]⟩, .int .i64 (Int.tmod e174 (max (n45 + e65) (1 : Int)))] H176 ⟨true, [(true, [.int .i64, .int .i64, .sl]), (false, [.bool])]⟩
  post185 ∧ ∀ (H186 : Heap), Heap.le H176 H186 → ∀ (n188 n189 : Int) (A190 : Option Addr) (n191 c192 : Nat) (b193 : Bool), post185 n188 n189 A190 n191 c192 b193 H186 → ((!b183 == b193) = true
  → post false H186) ∧ ((!b183 == b193) = false → ∃ (post197 : Bool → Heap → Prop), ConT P 37 [.slice A180 n181 c182, .slice A190 n191 c192] H186 ⟨false, [(false, [.bool])]⟩ post197 ∧ ∀ (H198
  : Heap), Heap.le H186 H198 → ∀ (b200 : Bool), post197 b200 H198 → ((!b200) = true → post false H198) ∧ ((!b200) = false → ∃ (post204 : Int → Int → Option Addr → Nat → Nat → Bool → Heap →
  Prop), ConT P 13 [.agg ⟨[.string s157, .slice A158 n159 c160, .slice A161 n162 c163, .slice A164 n165 c166, .slice A167 n168 c169]⟩, .int .i64 (n45 + e65)] H198 ⟨true, [(true, [.int .i64,
  .int .i64, .sl]), (false, [.bool])]⟩ post204 ∧ ∀ (H205 : Heap), Heap.le H198 H205 → ∀ (n207 n208 : Int) (A209 : Option Addr) (n210 c211 : Nat) (b212 : Bool), post204 n207 n208 A209 n210
  c211 b212 H205 → ∃ (inv214 : Int → List Value → Heap → Prop), ∃ (m215 : Int → List Value → Nat), inv214 (0 : Int) xs60 H205 ∧ ∀ (H216 : Heap), Heap.le H205 H216 → ∀ (n218 : Int) (xs219 :
  List Value), inv214 n218 xs219 H216 → (decide (n218 < (↑n210 : Int)) = true → someA A209 ∧ (0 : Int) ≤ n218 ∧ n218 < (↑n210 : Int) ∧ ∃ (n222 : Int), ∃ (s223 : ByteArray), ∃ (n224 : Int),
  Cells H216 A209 (Int.toNat n218 * 3) [.int .i64 n222, .string s223, .int .i64 n224] ∧ (decide (n222 < (1 : Int)) = true → post false H216) ∧ (decide (n222 < (1 : Int)) = false → (decide
  ((12 : Int) < n222) = true → post false H216) ∧ (decide ((12 : Int) < n222) = false → (0 : Int) ≤ n222 ∧ n222 < (↑13 : Int) ∧ ∃ (n229 : Int), win xs219 (Int.toNat n222 * 3 + 0) 1 = [.int
  .i64 n229] ∧ ((!decide (n229 = (0 : Int))) = true → (0 : Int) ≤ n222 ∧ n222 < (↑13 : Int) ∧ ∃ (n231 : Int), ∃ (s232 : ByteArray), ∃ (n233 : Int), win xs219 (Int.toNat n222 * 3) 3 = [.int
  .i64 n231, .string s232, .int .i64 n233] ∧ ((!(decide (n231 = n222) && (decide (s232 = s223) && decide (n233 = n224)))) = true → post false H216) ∧ ((!(decide (n231 = n222) && (decide (s232
  = s223) && decide (n233 = n224)))) = false → (0 : Int) ≤ n222 ∧ n222 < (↑13 : Int) ∧ Int.toNat n222 * 3 + 3 ≤ List.length xs219 ∧ rng .i64 (n218 + (1 : Int)) ∧ inv214 (n218 + (1 : Int))
  (splice xs219 (Int.toNat n222 * 3) [.int .i64 n222, .string s223, .int .i64 n224]) H216 ∧ m215 (n218 + (1 : Int)) (splice xs219 (Int.toNat n222 * 3) [.int .i64 n222, .string s223, .int .i64
  n224]) < m215 n218 xs219)) ∧ ((!decide (n229 = (0 : Int))) = false → (0 : Int) ≤ n222 ∧ n222 < (↑13 : Int) ∧ Int.toNat n222 * 3 + 3 ≤ List.length xs219 ∧ rng .i64 (n218 + (1 : Int)) ∧
  inv214 (n218 + (1 : Int)) (splice xs219 (Int.toNat n222 * 3) [.int .i64 n222, .string s223, .int .i64 n224]) H216 ∧ m215 (n218 + (1 : Int)) (splice xs219 (Int.toNat n222 * 3) [.int .i64
  n222, .string s223, .int .i64 n224]) < m215 n218 xs219)))) ∧ (decide (n218 < (↑n210 : Int)) = false → rng .i64 (n46 + (1 : Int)) ∧ inv41 (n45 + e65) (n46 + (1 : Int)) s157 A158 n159 c160
  A161 n162 c163 A164 n165 c166 A167 n168 c169 xs219 H216 ∧ m42 (n45 + e65) (n46 + (1 : Int)) s157 A158 n159 c160 A161 n162 c163 A164 n165 c166 A167 n168 c169 xs219 < m42 n45 n46 s47 A48 n49
  c50 A51 n52 c53 A54 n55 c56 A57 n58 c59 xs60))))) ∧ (decide (n46 < (30 : Int)) = false → ∃ (post239 : Bool → Heap → Prop), ConT P 9 [] H43 ⟨false, [(false, [.bool])]⟩ post239 ∧ ∀ (H240 :
  Heap), Heap.le H43 H240 → ∀ (b242 : Bool), post239 b242 H240 → post b242 H240)) ∧ (decide (n46 < (↑p1N : Int)) = false → ∃ (post245 : Bool → Heap → Prop), ConT P 9 [] H43 ⟨false, [(false,
  [.bool])]⟩ post245 ∧ ∀ (H246 : Heap), Heap.le H43 H246 → ∀ (b248 : Bool), post245 b248 H246 → post b248 H246))) := by kernel_rfl
set_option maxHeartbeats 4000000 in
theorem law21_SchemaPast {H : Heap} {a b c d p : Int} {B : Option Addr} {m e : Nat} {l : List U4} (ha : rng .u16 a) (hb : rng .u16 b) (hc : rng .u16 c) (hd : rng .u16 d) (ht : Sl H B m e l) (hp : rng .u16 p) :
    ConT Try.prog 8 [.agg ⟨[.int .u16 a, .int .u16 b, .int .u16 c, .int .u16 d]⟩, .slice B m e, .int .u16 p] H shB (fun r _ => r = true) := by
  refine con_of_vc (an := an8) (fn := Try.f8) mix tabOK Try.func8 (by kernel_rfl) (extra := 0) ?_
  rw [vc8]
  have t1 := ht.bn; have t2 := ht.len
  obtain ⟨k0, k1, k2⟩ := create_law (b := b) (d := d) ha hc
  refine ⟨a, b, c, d, rfl, _, law0_Schema (by simp [str, ByteArray.size]) ha hb hc hd, ?_⟩
  intro H1 l1 _ _ _ _ _ _ _ _ _ _ _ _ _ hs
  refine ⟨_, schema_Create hs, ?_⟩
  rintro H2 l2 s1 A1 n1 c1 B1 m1 d1 E1 u1 e1 F1 v1 f1 _ ⟨hs, rfl⟩
  have L2 := hle_trans l1 l2
  generalize createSch (mkSchema ⟨⟨[116]⟩⟩ a b c d) 2 = z at k0 k1 k2 hs
  refine ⟨fun h => by rw [k0] at h; simp at h, fun _ => ?_⟩
  refine ⟨fun now i nm A n c B m d E k e F l f xs H' => 0 ≤ i ∧ i ≤ 30 ∧ 2 ≤ now ∧ now ≤ 2 + 2 * i ∧ ∃ s kn, IsTSch H' nm A n c B m d E k e F l f s ∧ schemaValid s = true ∧ s.vers.length ≤ 1 + i.toNat ∧ Known H' xs s kn,
    fun _ i _ _ _ _ _ _ _ _ _ _ _ _ _ _ => 30 - i.toNat, ⟨by omega, by omega, by omega, by omega, z.1, List.replicate 13 col0, hs, k1, by omega, Row.zeros rep_col0 13, by simp, fun j hj h => absurd (by rw [List.getElem_replicate]; rfl) h⟩, ?_⟩
  rintro H3 l3 now i nm A n c' B' m' d' E k e' F l' f xs ⟨i0, i1, w0, w1, s, kn, hs, hv, hlen, hkn⟩
  have L3 := hle_trans L2 l3
  refine ⟨fun hlt => ⟨fun hlt3 => ?_, fun _ => ⟨_, law21_awake, fun _ _ _ h => h⟩⟩, fun _ => ⟨_, law21_awake, fun _ _ _ h => h⟩⟩
  have hlt := of_decide_eq_true hlt
  have hlt3 := of_decide_eq_true hlt3
  obtain ⟨hi, hA, _, hcc, ⟨rfl, r0, r1, r2, r3⟩⟩ := ht.at L3 i0 hlt
  generalize l[i.toNat] = u at hcc r0 r1 r2 r3
  have u3 := u16_tmod r1 3 (by omega)
  have hp' := hp
  simp only [rng] at hp'
  have hnow : rng .i64 (now + u.b.tmod 3) := by simp only [rng]; omega
  refine ⟨hA, i0, hlt, by decide, by decide, u.b, hcc.at1 (k := 1) rfl, by decide, u.b.tmod 3, IntWalk.i64_in _ (by omega), hnow, hA, i0, hlt, _, _, _, _, hcc, ?_, ?_⟩
  all_goals
    refine ⟨_, law21_step hs r0 r2 r3 hnow (by omega), ?_⟩
    generalize hN : now + u.b.tmod 3 = N at hnow
    have hN2 : 2 ≤ N ∧ N ≤ 2 + 2 * (i + 1) := by omega
    rintro H4 l4 s4 A4 n4 c4 B4 m4 d4 E4 u4 e4 F4 v4 f4 _ ⟨q1, rfl⟩
    refine ⟨fun _ => ⟨by simp only [rng]; omega, ⟨by omega, by omega, by omega, by omega, s, kn, hs.mono l4, hv, by omega, hkn.mono l4⟩, by dsimp only; omega⟩, fun hok => ?_⟩
    have hok : (stepSch s u.a u.c u.d N).2 = 0 := by simpa using hok
    have hval := step_valid hok
    have hl := step_length (s := s) (a := u.a) (c := u.c) (d := u.d) (now := N)
    have huni := fun {e : Col} => step_uni (e := e) hok
    have hpast := fun {t : Int} => step_past (t := t) hok
    generalize (stepSch s u.a u.c u.d N).1 = s' at q1 hval hl huni hpast
    have hmax : max N 1 = N := by omega
    have hmod : p.tmod N < N := by rw [Int.tmod_eq_emod_of_nonneg hp'.1]; exact Int.emod_lt_of_pos _ (by omega)
    have hpst := hpast hmod
    refine ⟨p, IntWalk.i64_in _ (by omega), by omega, ?_⟩
    rw [hmax]
    refine ⟨_, schema_At (hs.mono l4), ?_⟩
    rintro H5 l5 a5 b5 A5 n5 c5 _ ⟨rfl, -, -, y5, hy5, e5⟩
    refine ⟨_, schema_At (q1.mono l5), ?_⟩
    rintro H6 l6 a6 b6 A6 n6 c6 _ ⟨rfl, -, -, y6, hy6, e6⟩
    have hsome : (verAt (p.tmod N) s.vers).isSome = (verAt (p.tmod N) s'.vers).isSome := by
      have := congrArg Option.isSome hpst
      simpa using this.symm
    have hcols : y5 = y6 := by
      have h5 := congrArg Ver.cols e5
      have h6 := congrArg Ver.cols e6
      rw [getD_cols] at h5 h6
      rw [hpst] at h6
      exact h5.trans h6.symm
    subst hcols
    refine ⟨fun h => by rw [hsome] at h; simp at h, fun _ => ⟨_, ref21_SameColumns (hy5.mono l6) hy6, ?_⟩⟩
    rintro H7 l7 _ rfl
    refine ⟨fun h => by simp at h, fun _ => ⟨_, schema_At (q1.mono (hle_trans l5 (hle_trans l6 l7))), ?_⟩⟩
    rintro H8 l8 a8 b8 A8 n8 c8 _ ⟨-, -, -, y8, hy8, e8⟩
    have L8 := hle_trans l4 (hle_trans l5 (hle_trans l6 (hle_trans l7 l8)))
    have hu8 : ∀ c ∈ y8, uni s' c := fun c hc => getD_uni (x := N) (by rw [← e8]; exact hc)
    have z1 := hy8.bn; have z2 := hy8.len
    refine ⟨fun j ys H' => 0 ≤ j ∧ j ≤ n8 ∧ ∃ kn', Known H' ys s' kn', fun j _ => n8 - j.toNat, ⟨by omega, by omega, kn, (hkn.mono L8).row, hkn.len, fun j hj hn => ⟨(hkn.ok j hj hn).1, huni (hkn.ok j hj hn).2⟩⟩, ?_⟩
    rintro H9 l9 j ys ⟨j0, j1, kn', hk'⟩
    refine ⟨fun jlt => ?_, fun _ => ⟨by simp only [rng]; omega, ⟨by omega, by omega, by omega, by omega, s', kn', q1.mono (hle_trans l5 (hle_trans l6 (hle_trans l7 (hle_trans l8 l9)))), hval, by omega, hk'⟩, by dsimp only; omega⟩⟩
    have jlt := of_decide_eq_true jlt
    obtain ⟨ji, jA, _, jc, ⟨rfl, g1, g2, g3⟩⟩ := hy8.at l9 j0 jlt
    have hju := hu8 _ (List.getElem_mem ji)
    have hjid := uni_id hval hju
    generalize y8[j.toNat] = co at jc g1 g2 g3 hju hjid
    refine ⟨jA, j0, jlt, _, _, _, jc, fun h => absurd (of_decide_eq_true h) (by omega), fun _ => ⟨fun h => absurd (of_decide_eq_true h) (by omega), fun _ => ?_⟩⟩
    have hk13 := hk'.len
    have hci : co.id.toNat < kn'.length := by omega
    obtain ⟨vs, ⟨rfl, f1, f2, f3⟩, hw, -⟩ := hk'.row.getf hci
    have hwhole := (hk'.row.getw hci).1
    have hyl : ys.length = kn'.length * 3 := hk'.row.length
    have hrel : Rep.rel H9 [.int .i64 co.id, .string co.name, .int .i64 co.kind] co := ⟨rfl, g1, g2, g3⟩
    have hset : Known H9 (splice ys (co.id.toNat * 3) [.int .i64 co.id, .string co.name, .int .i64 co.kind]) s' (kn'.set co.id.toNat co) := by
      refine ⟨hk'.row.setw hci hrel, by rw [List.length_set]; exact hk13, fun q hq hn => ?_⟩
      rw [List.length_set] at hq
      by_cases hqe : co.id.toNat = q
      · subst hqe
        rw [List.getElem_set_self]
        exact ⟨by omega, hju⟩
      · rw [List.getElem_set_ne hqe] at hn ⊢
        exact hk'.ok q hq hn
    refine ⟨by omega, by omega, _, hw 0 1 (by decide), fun hne => ⟨by omega, by omega, _, _, _, hwhole, fun h => ?_, fun _ => ⟨by omega, by omega, by omega, by simp only [rng]; omega, ⟨by omega, by omega, _, hset⟩, by dsimp only; omega⟩⟩, fun _ => ⟨by omega, by omega, by omega, by simp only [rng]; omega, ⟨by omega, by omega, _, hset⟩, by dsimp only; omega⟩⟩
    have hne : kn'[co.id.toNat].id ≠ 0 := by simpa using hne
    obtain ⟨h1, h2⟩ := hk'.ok _ hci hne
    have := uni_one hval h2 hju (by omega)
    rw [this] at h
    simp at h
end Go.Vc
namespace Go.Proofs.Ythbapbapcnafhaa.schemaPast
open Go Go.Vc Go.RowKit Go.WideShapes Go.ChangeShapes
theorem oU4 : Opn Try.prog 64 U4 := opn_U4 Try.underlying64 Try.underlying63 (by kernel_rfl) (by kernel_rfl) (by kernel_rfl)
theorem oU4s : Opn Try.prog 65 (List U4) := opn_slice Try.underlying65 (by kernel_rfl) (by kernel_rfl) oU4
theorem oU16 : Opn Try.prog 63 U16 := opn_U16 Try.underlying63 (by kernel_rfl) (by kernel_rfl)
theorem sps : ∀ t ∈ Try.f8.params.toList, SpOK Try.prog t := by
  rw [Try.params8]
  exact List.forall_mem_cons.2 ⟨oU4.sp, List.forall_mem_cons.2 ⟨oU4s.sp, List.forall_mem_cons.2 ⟨oU16.sp, fun _ h => by cases h⟩⟩⟩
theorem own : ownKnob Try.prog.godebug = none := by kernel_rfl
set_option maxRecDepth 100000 in
theorem lifted (os : Os) (started : os.Started) (H : Type) (enc : TypeId × Value → H) :
    ReturnsInHanded {} Try.checked os 8 .any (Rows.schemaPastSpec.pre6 enc Try.prog Try.f8 Rows.schemaPastRow.domain false) (Rows.schemaPastSpec.post enc Try.prog Try.f8 false true false false) := by
  refine returnsInHanded_of_change_sized (C := Try.checked) own started (by kernel_rfl) Try.func8
    (ChangeSpec.witness6 (enc := enc) (C := Try.checked) false ⟨#[], #[.agg #[.int .u16 0, .int .u16 0, .int .u16 0, .int .u16 0], .slice none 0 0, .int .u16 0], []⟩ 8 (by kernel_rfl) (by kernel_rfl) (by kernel_rfl) (by kernel_rfl)) ?_
  intro W base args ds gs before hval0 hW hcnd hsz0 _
  have hval : ∀ (j : Nat) t v, Try.f8.params[j]? = some t → args[j]? = some v → Value.okWide Try.prog W .any base t v := hval0
  have hW' := hW
  obtain ⟨p, q, hA0, hV, rfl, hfz, hnd⟩ := hW
  have hA : DataW.TrodAll enc Try.prog W 0 (fun _ => true) true Try.f8.params.toList args.toList ds p := hA0
  have hsz : (DataW.weightsEach Try.prog (Try.f8.params.toList ++ Rows.schemaPastSpec.plain.varTypes Try.prog) (ds ++ gs)).all (· ≤ reachBytes) = true := hsz0
  have hA1 := hA
  obtain ⟨rfl, rfl⟩ := trodVars_none hV
  rw [Try.params8] at hA hval hsz
  obtain ⟨v0, vs0, d0, ds0, p0, q0, hargs, rfl, rfl, h0, r0⟩ := trodAll_cons hA
  obtain ⟨v1, vs1, d1, ds1, p1, q1, rfl, rfl, rfl, h1, r1⟩ := trodAll_cons r0
  obtain ⟨v2, vs2, d2, ds2, p2, q2, rfl, rfl, rfl, h2, r2⟩ := trodAll_cons r1
  obtain ⟨rfl, rfl, rfl⟩ := trodAll_nil r2
  obtain rfl : args = #[v0, v1, v2] := by cases args; simp_all
  have ok0 := hval 0 64 v0 rfl rfl
  have w0 := weightsEach_get (i := 0) hsz rfl rfl
  obtain ⟨cs0, rfl, -⟩ := okWide_array Try.underlying64 ok0
  obtain ⟨y0, hy0, hr01, hr02, hr03, hr04⟩ := arg_get oU4 h0 w0
  obtain rfl : cs0 = ⟨_⟩ := congrArg Array.mk hy0
  have ok1 := hval 1 65 v1 rfl rfl
  have w1 := weightsEach_get (i := 1) hsz rfl rfl
  obtain ⟨A11, n11, c11, rfl⟩ := okWide_slice Try.underlying65 ok1
  obtain ⟨y1, A12, n12, c12, hy1, hr1⟩ := arg_get oU4s h1 w1
  obtain ⟨rfl, rfl, rfl⟩ : A11 = A12 ∧ n11 = n12 ∧ c11 = c12 := by simpa [Value.cells] using hy1
  have ok2 := hval 2 63 v2 rfl rfl
  have w2 := weightsEach_get (i := 2) hsz rfl rfl
  obtain ⟨x2, rfl⟩ := okWide_int Try.underlying63 ok2
  obtain ⟨y2, hy2, hr2⟩ := arg_get oU16 h2 w2
  obtain rfl : x2 = y2.n := by simpa [Value.cells] using hy2
  refine (con_true (law21_SchemaPast hr01 hr02 hr03 hr04 hr1 hr2) (heapOf_snap W)).mono fun e W' ⟨he, hb⟩ => ?_
  subst he
  exact ⟨_, rfl, post_of_below (pa := _) (pv := []) hW' (fun _ _ _ => trodAll_mk1 (shut_bool Try.underlying4 _))
    (fun sp hsp => trodAll_sp sps hA1 (fun z hz => hb.same (hW'.lt z (by simpa using hz))) (fun z hz => hsp z (by simpa using hz))) (fun _ _ => rfl) rfl hb (ok_one (by kernel_rfl) rfl (okWide_bool_mk Try.underlying4 _))⟩
theorem proved : Rows.SchemaPastSaid :=
  OpenClaim.holds_of_wide 8 Try.f8 rfl rfl rfl rfl rfl rfl rfl ⟨rfl, rfl, rfl, rfl, rfl⟩ rfl rfl rfl rfl rfl (by kernel_rfl) Try.func8 (by kernel_rfl)
    (of_decide_eq_true (by kernel_rfl)) (by unfold Func.isWrapper; first | (rw [if_pos (by decide +kernel)]; kernel_rfl) | (rw [if_neg (by decide +kernel)]; exact ⟨rfl, rfl⟩))
    (fun os started H enc _ => lifted os started H enc)
#print axioms proved
end Go.Proofs.Ythbapbapcnafhaa.schemaPast

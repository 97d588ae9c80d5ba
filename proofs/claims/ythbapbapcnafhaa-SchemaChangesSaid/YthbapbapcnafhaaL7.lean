/- SchemaChanges: a sequence of changes of a valid schema gives exactly the schemas and errors of the definition; every schema on the way is valid. No conditions. -/
import Derived.Test.YthbapbapcnafhaaP6
import Derived.Test.YthbapbapcnafhaaU1
set_option linter.unusedSectionVars false
set_option linter.unusedSimpArgs false
set_option linter.unusedVariables false
namespace Go.Vc
open Go Go.Proofs
def an7 : Ann where
  res := fun _ => none
  lend := fun | 66 => true | 72 => true | 76 => true | 80 => true | _ => false
  sch := fun | 9 => (tk [0, 1, 2, 3, 4, 5] (.alt 6 (tk [7, 8, 9] (.alt 10 (.alt 11 (tk [12] .done) .fin) .fin)) (.alt 10 (.alt 6 (tk [7, 8, 9] (.alt 11 (tk [12] .done) .fin)) .fin) .fin))) | 10 => (tk [0, 1, 2, 3, 4, 5] (.alt 6 (tk [7, 8, 9] (.alt 10 (.alt 11 (tk [12] .done) .fin) .fin)) (.alt 10 (.alt 6 (tk [7, 8, 9] (.alt 11 (tk [12] .done) .fin)) .fin) .fin))) | _ => .done
  lt := fun | 6 => [.slot 7 false [.int .i64], .slot 8 false [.int .i64], .box 5 29 [.str, .sl, .sl, .sl, .sl]] | _ => []
  tup := tups

theorem vc7 (P : Program) (H : Heap) (x0 : Int) (x1 : Int) (x2 : Int) (x3 : Int) (p1A : Option Addr) (p1N p1C : Nat) (post : Bool → Heap → Prop) :
  vcFn P tab an7 Try.f7 [.agg #[.int .u16 x0, .int .u16 x1, .int .u16 x2, .int .u16 x3], .slice p1A p1N p1C] 0 H ⟨false, [(false, [.bool])]⟩ post =
  (  ∃ (n0 : Int), ∃ (n1 : Int), ∃ (n2 : Int), ∃ (n3 : Int), win [.int .u16 x0, .int .u16 x1, .int .u16 x2, .int .u16 x3] 0 4 = [.int .u16 n0, .int .u16 n1, .int .u16 n2, .int .u16 n3] ∧ ∃
  (post4 : ByteArray → Option Addr → Nat → Nat → Option Addr → Nat → Nat → Option Addr → Nat → Nat → Option Addr → Nat → Nat → Heap → Prop), ConT P 34 [.string { data := ⟨[(116 : UInt8)]⟩ },
  .agg ⟨[.int .u16 n0, .int .u16 n1, .int .u16 n2, .int .u16 n3]⟩] H ⟨false, [(true, [.str, .sl, .sl, .sl, .sl])]⟩ post4 ∧ ∀ (H5 : Heap), Heap.le H H5 → ∀ (s7 : ByteArray) (A8 : Option Addr)
  (n9 c10 : Nat) (A11 : Option Addr) (n12 c13 : Nat) (A14 : Option Addr) (n15 c16 : Nat) (A17 : Option Addr) (n18 c19 : Nat), post4 s7 A8 n9 c10 A11 n12 c13 A14 n15 c16 A17 n18 c19 H5 → ∃
  (post21 : ByteArray → Option Addr → Nat → Nat → Option Addr → Nat → Nat → Option Addr → Nat → Nat → Option Addr → Nat → Nat → Int → Heap → Prop), ConT P 27 [.agg ⟨[.string s7, .slice A8 n9
  c10, .slice A11 n12 c13, .slice A14 n15 c16, .slice A17 n18 c19]⟩, .int .i64 (2 : Int)] H5 ⟨true, [(true, [.str, .sl, .sl, .sl, .sl]), (false, [.int .i64])]⟩ post21 ∧ ∀ (H22 : Heap),
  Heap.le H5 H22 → ∀ (s24 : ByteArray) (A25 : Option Addr) (n26 c27 : Nat) (A28 : Option Addr) (n29 c30 : Nat) (A31 : Option Addr) (n32 c33 : Nat) (A34 : Option Addr) (n35 c36 : Nat) (n37 :
  Int), post21 s24 A25 n26 c27 A28 n29 c30 A31 n32 c33 A34 n35 c36 n37 H22 → ((!decide (n37 = (0 : Int))) = true → post false H22) ∧ ((!decide (n37 = (0 : Int))) = false → ∃ (inv41 : Int →
  Int → ByteArray → Option Addr → Nat → Nat → Option Addr → Nat → Nat → Option Addr → Nat → Nat → Option Addr → Nat → Nat → Heap → Prop), ∃ (m42 : Int → Int → ByteArray → Option Addr → Nat →
  Nat → Option Addr → Nat → Nat → Option Addr → Nat → Nat → Option Addr → Nat → Nat → Nat), inv41 (2 : Int) (0 : Int) s24 A25 n26 c27 A28 n29 c30 A31 n32 c33 A34 n35 c36 H22 ∧ ∀ (H43 : Heap),
  Heap.le H22 H43 → ∀ (n45 n46 : Int) (s47 : ByteArray) (A48 : Option Addr) (n49 c50 : Nat) (A51 : Option Addr) (n52 c53 : Nat) (A54 : Option Addr) (n55 c56 : Nat) (A57 : Option Addr) (n58
  c59 : Nat), inv41 n45 n46 s47 A48 n49 c50 A51 n52 c53 A54 n55 c56 A57 n58 c59 H43 → (decide (n46 < (↑p1N : Int)) = true → (decide (n46 < (30 : Int)) = true → someA p1A ∧ (0 : Int) ≤ n46 ∧
  n46 < (↑p1N : Int) ∧ (0 : Int) ≤ (1 : Int) ∧ (1 : Int) < (↑4 : Int) ∧ ∃ (n63 : Int), Cells H43 p1A (Int.toNat n46 * 4 + Int.toNat (1 : Int) * 1) [.int .u16 n63] ∧ (3 : Int) ≠ (0 : Int) ∧ ∃
  (e64 : Int), IntKind.wrap IntKind.i64 (Int.tmod n63 (3 : Int)) = e64 ∧ rng .i64 (n45 + e64) ∧ someA p1A ∧ (0 : Int) ≤ n46 ∧ n46 < (↑p1N : Int) ∧ ∃ (n65 : Int), ∃ (n66 : Int), ∃ (n67 : Int),
  ∃ (n68 : Int), Cells H43 p1A (Int.toNat n46 * 4) [.int .u16 n65, .int .u16 n66, .int .u16 n67, .int .u16 n68] ∧ (∃ (post69 : ByteArray → Option Addr → Nat → Nat → Option Addr → Nat → Nat →
  Option Addr → Nat → Nat → Option Addr → Nat → Nat → Int → Heap → Prop), ConT P 35 [.agg ⟨[.string s47, .slice A48 n49 c50, .slice A51 n52 c53, .slice A54 n55 c56, .slice A57 n58 c59]⟩, .agg
  ⟨[.int .u16 n65, .int .u16 n66, .int .u16 n67, .int .u16 n68]⟩, .int .i64 (n45 + e64)] H43 ⟨true, [(true, [.str, .sl, .sl, .sl, .sl]), (false, [.int .i64])]⟩ post69 ∧ ∀ (H70 : Heap),
  Heap.le H43 H70 → ∀ (s72 : ByteArray) (A73 : Option Addr) (n74 c75 : Nat) (A76 : Option Addr) (n77 c78 : Nat) (A79 : Option Addr) (n80 c81 : Nat) (A82 : Option Addr) (n83 c84 : Nat) (n85 :
  Int), post69 s72 A73 n74 c75 A76 n77 c78 A79 n80 c81 A82 n83 c84 n85 H70 → someA p1A ∧ (0 : Int) ≤ n46 ∧ n46 < (↑p1N : Int) ∧ ∃ (n87 : Int), ∃ (n88 : Int), ∃ (n89 : Int), ∃ (n90 : Int),
  Cells H70 p1A (Int.toNat n46 * 4) [.int .u16 n87, .int .u16 n88, .int .u16 n89, .int .u16 n90] ∧ (∃ (post91 : ByteArray → Option Addr → Nat → Nat → Option Addr → Nat → Nat → Option Addr →
  Nat → Nat → Option Addr → Nat → Nat → Int → Heap → Prop), ConT P 36 [.agg ⟨[.string s47, .slice A48 n49 c50, .slice A51 n52 c53, .slice A54 n55 c56, .slice A57 n58 c59]⟩, .agg ⟨[.int .u16
  n87, .int .u16 n88, .int .u16 n89, .int .u16 n90]⟩, .int .i64 (n45 + e64)] H70 ⟨true, [(true, [.str, .sl, .sl, .sl, .sl]), (false, [.int .i64])]⟩ post91 ∧ ∀ (H92 : Heap), Heap.le H70 H92 →
  ∀ (s94 : ByteArray) (A95 : Option Addr) (n96 c97 : Nat) (A98 : Option Addr) (n99 c100 : Nat) (A101 : Option Addr) (n102 c103 : Nat) (A104 : Option Addr) (n105 c106 : Nat) (n107 : Int),
  post91 s94 A95 n96 c97 A98 n99 c100 A101 n102 c103 A104 n105 c106 n107 H92 → ((!decide (n85 = n107)) = true → post false H92) ∧ ((!decide (n85 = n107)) = false → ∃ (post111 : Bool → Heap →
  Prop), ConT P 33 [.agg ⟨[.string s72, .slice A73 n74 c75, .slice A76 n77 c78, .slice A79 n80 c81, .slice A82 n83 c84]⟩, .agg ⟨[.string s94, .slice A95 n96 c97, .slice A98 n99 c100, .slice
  A101 n102 c103, .slice A104 n105 c106]⟩] H92 ⟨false, [(false, [.bool])]⟩ post111 ∧ ∀ (H112 : Heap), Heap.le H92 H112 → ∀ (b114 : Bool), post111 b114 H112 → ((!b114) = true → post false
  H112) ∧ ((!b114) = false → ((!decide (n85 = (0 : Int))) = true → rng .i64 (n46 + (1 : Int)) ∧ inv41 (n45 + e64) (n46 + (1 : Int)) s47 A48 n49 c50 A51 n52 c53 A54 n55 c56 A57 n58 c59 H112 ∧
  m42 (n45 + e64) (n46 + (1 : Int)) s47 A48 n49 c50 A51 n52 c53 A54 n55 c56 A57 n58 c59 < m42 n45 n46 s47 A48 n49 c50 A51 n52 c53 A54 n55 c56 A57 n58 c59) ∧ ((!decide (n85 = (0 : Int))) =
  false → ∃ (post120 : Bool → Heap → Prop), ConT P 17 [.agg ⟨[.string s72, .slice A73 n74 c75, .slice A76 n77 c78, .slice A79 n80 c81, .slice A82 n83 c84]⟩] H112 ⟨false, [(false, [.bool])]⟩
  post120 ∧ ∀ (H121 : Heap), Heap.le H112 H121 → ∀ (b123 : Bool), post120 b123 H121 → ((!b123) = true → post false H121) ∧ ((!b123) = false → ∃ (post127 : Bool → Heap → Prop), ConT P 18 [.agg
  ⟨[.string s72, .slice A73 n74 c75, .slice A76 n77 c78, .slice A79 n80 c81, .slice A82 n83 c84]⟩] H121 ⟨false, [(false, [.bool])]⟩ post127 ∧ ∀ (H128 : Heap), Heap.le H121 H128 → ∀ (b130 :
  Bool), post127 b130 H128 → ((!b130) = true → post false H128) ∧ ((!b130) = false → rng .i64 (n46 + (1 : Int)) ∧ inv41 (n45 + e64) (n46 + (1 : Int)) s72 A73 n74 c75 A76 n77 c78 A79 n80 c81
  A82 n83 c84 H128 ∧ m42 (n45 + e64) (n46 + (1 : Int)) s72 A73 n74 c75 A76 n77 c78 A79 n80 c81 A82 n83 c84 < m42 n45 n46 s47 A48 n49 c50 A51 n52 c53 A54 n55 c56 A57 n58 c59)))))) ∧ ∃ (post134
  : ByteArray → Option Addr → Nat → Nat → Option Addr → Nat → Nat → Option Addr → Nat → Nat → Option Addr → Nat → Nat → Int → Heap → Prop), ConT P 36 [.agg ⟨[.string s47, .slice A48 n49 c50,
  .slice A51 n52 c53, .slice A54 n55 c56, .slice A57 n58 c59]⟩, .agg ⟨[.int .u16 n87, .int .u16 n88, .int .u16 n89, .int .u16 n90]⟩, .int .i64 (n45 + e64)] H70 ⟨true, [(true, [.str, .sl, .sl,
  .sl, .sl]), (false, [.int .i64])]⟩ post134 ∧ ∀ (H135 : Heap), Heap.le H70 H135 → ∀ (s137 : ByteArray) (A138 : Option Addr) (n139 c140 : Nat) (A141 : Option Addr) (n142 c143 : Nat) (A144 :
  Option Addr) (n145 c146 : Nat) (A147 : Option Addr) (n148 c149 : Nat) (n150 : Int), post134 s137 A138 n139 c140 A141 n142 c143 A144 n145 c146 A147 n148 c149 n150 H135 → ((!decide (n85 =
  n150)) = true → post false H135) ∧ ((!decide (n85 = n150)) = false → ∃ (post154 : Bool → Heap → Prop), ConT P 33 [.agg ⟨[.string s72, .slice A73 n74 c75, .slice A76 n77 c78, .slice A79 n80
  c81, .slice A82 n83 c84]⟩, .agg ⟨[.string s137, .slice A138 n139 c140, .slice A141 n142 c143, .slice A144 n145 c146, .slice A147 n148 c149]⟩] H135 ⟨false, [(false, [.bool])]⟩ post154 ∧ ∀
  (H155 : Heap), Heap.le H135 H155 → ∀ (b157 : Bool), post154 b157 H155 → ((!b157) = true → post false H155) ∧ ((!b157) = false → ((!decide (n85 = (0 : Int))) = true → rng .i64 (n46 + (1 :
  Int)) ∧ inv41 (n45 + e64) (n46 + (1 : Int)) s47 A48 n49 c50 A51 n52 c53 A54 n55 c56 A57 n58 c59 H155 ∧ m42 (n45 + e64) (n46 + (1 : Int)) s47 A48 n49 c50 A51 n52 c53 A54 n55 c56 A57 n58 c59
  < m42 n45 n46 s47 A48 n49 c50 A51 n52 c53 A54 n55 c56 A57 n58 c59) ∧ ((!decide (n85 = (0 : Int))) = false → ∃ (post163 : Bool → Heap → Prop), ConT P 17 [.agg ⟨[.string s72, .slice A73 n74
  c75, .slice A76 n77 c78, .slice A79 n80 c81, .slice A82 n83 c84]⟩] H155 ⟨false, [(false, [.bool])]⟩ post163 ∧ ∀ (H164 : Heap), Heap.le H155 H164 → ∀ (b166 : Bool), post163 b166 H164 →
  ((!b166) = true → post false H164) ∧ ((!b166) = false → ∃ (post170 : Bool → Heap → Prop), ConT P 18 [.agg ⟨[.string s72, .slice A73 n74 c75, .slice A76 n77 c78, .slice A79 n80 c81, .slice
  A82 n83 c84]⟩] H164 ⟨false, [(false, [.bool])]⟩ post170 ∧ ∀ (H171 : Heap), Heap.le H164 H171 → ∀ (b173 : Bool), post170 b173 H171 → ((!b173) = true → post false H171) ∧ ((!b173) = false →
  rng .i64 (n46 + (1 : Int)) ∧ inv41 (n45 + e64) (n46 + (1 : Int)) s72 A73 n74 c75 A76 n77 c78 A79 n80 c81 A82 n83 c84 H171 ∧ m42 (n45 + e64) (n46 + (1 : Int)) s72 A73 n74 c75 A76 n77 c78 A79
  n80 c81 A82 n83 c84 < m42 n45 n46 s47 A48 n49 c50 A51 n52 c53 A54 n55 c56 A57 n58 c59)))))) ∧ ∃ (post177 : ByteArray → Option Addr → Nat → Nat → Option Addr → Nat → Nat → Option Addr → Nat
  → Nat → Option Addr → Nat → Nat → Int → Heap → Prop), ConT P 35 [.agg ⟨[.string s47, .slice A48 n49 c50, .slice A51 n52 c53, .slice A54 n55 c56, .slice A57 n58 c59]⟩, .agg ⟨[.int .u16 n65,
  .int .u16 n66, .int .u16 n67, .int .u16 n68]⟩, .int .i64 (n45 + e64)] H43 ⟨true, [(true, [.str, .sl, .sl, .sl, .sl]), (false, [.int .i64])]⟩ post177 ∧ ∀ (H178 : Heap), Heap.le H43 H178 → ∀
  (s180 : ByteArray) (A181 : Option Addr) (n182 c183 : Nat) (A184 : Option Addr) (n185 c186 : Nat) (A187 : Option Addr) (n188 c189 : Nat) (A190 : Option Addr) (n191 c192 : Nat) (n193 : Int),
  post177 s180 A181 n182 c183 A184 n185 c186 A187 n188 c189 A190 n191 c192 n193 H178 → someA p1A ∧ (0 : Int) ≤ n46 ∧ n46 < (↑p1N : Int) ∧ ∃ (n195 : Int), ∃ (n196 : Int), ∃ (n197 : Int), ∃
  (n198 : Int), Cells H178 p1A (Int.toNat n46 * 4) [.int .u16 n195, .int .u16 n196, .int .u16 n197, .int .u16 n198] ∧ (∃ (post199 : ByteArray → Option Addr → Nat → Nat → Option Addr → Nat →
  Nat → Option Addr → Nat → Nat → Option Addr → Nat → Nat → Int → Heap → Prop), ConT P 36 [.agg ⟨[.string s47, .slice A48 n49 c50, .slice A51 n52 c53, .slice A54 n55 c56, .slice A57 n58
  c59]⟩, .agg ⟨[.int .u16 n195, .int .u16 n196, .int .u16 n197, .int .u16 n198]⟩, .int .i64 (n45 + e64)] H178 ⟨true, [(true, [.str, .sl, .sl, .sl, .sl]), (false, [.int .i64])]⟩ post199 ∧ ∀
  (H200 : Heap), Heap.le H178 H200 → ∀ (s202 : ByteArray) (A203 : Option Addr) (n204 c205 : Nat) (A206 : Option Addr) (n207 c208 : Nat) (A209 : Option Addr) (n210 c211 : Nat) (A212 : Option
  Addr) (n213 c214 : Nat) (n215 : Int), post199 s202 A203 n204 c205 A206 n207 c208 A209 n210 c211 A212 n213 c214 n215 H200 → ((!decide (n193 = n215)) = true → post false H200) ∧ ((!decide
  (n193 = n215)) = false → ∃ (post219 : Bool → Heap → Prop), ConT P 33 [.agg ⟨[.string s180, .slice A181 n182 c183, .slice A184 n185 c186, .slice A187 n188 c189, .slice A190 n191 c192]⟩, .agg
  ⟨[.string s202, .slice A203 n204 c205, .slice A206 n207 c208, .slice A209 n210 c211, .slice A212 n213 c214]⟩] H200 ⟨false, [(false, [.bool])]⟩ post219 ∧ ∀ (H220 : Heap), Heap.le H200 H220 →
  ∀ (b222 : Bool), post219 b222 H220 → ((!b222) = true → post false H220) ∧ ((!b222) = false → ((!decide (n193 = (0 : Int))) = true → rng .i64 (n46 + (1 : Int)) ∧ inv41 (n45 + e64) (n46 + (1
  : Int)) s47 A48 n49 c50 A51 n52 c53 A54 n55 c56 A57 n58 c59 H220 ∧ m42 (n45 + e64) (n46 + (1 : Int)) s47 A48 n49 c50 A51 n52 c53 A54 n55 c56 A57 n58 c59 < m42 n45 n46 s47 A48 n49 c50 A51
  n52 c53 A54 n55 c56 A57 n58 c59) ∧ ((!decide (n193 = (0 : Int))) = false → ∃ (post228 : Bool → Heap → Prop), ConT P 17 [.agg ⟨[.string s180, .slice A181 n182 c183, .slice A184 n185 c186,
  .slice A187 n188 c189, .slice A190 n191 c192]⟩] H220 ⟨false, [(false, [.bool])]⟩ post228 ∧ ∀ (H229 : Heap), Heap.le H220 H229 → ∀ (b231 : Bool), post228 b231 H229 → ((!b231) = true → post
  false H229) ∧ ((!b231) = false → ∃ (post235 : Bool → Heap → Prop), ConT P 18 [.agg ⟨[.string s180, .slice A181 n182 c183, .slice A184 n185 c186, .slice A187 n188 c189, .slice A190 n191
  c192]⟩] H229 ⟨false, [(false, [.bool])]⟩ post235 ∧ ∀ (H236 : Heap), Heap.le H229 H236 → ∀ (b238 : Bool), post235 b238 H236 → ((!b238) = true → post false H236) ∧ ((!b238) = false → rng .i64
  (n46 + (1 : Int)) ∧ inv41 (n45 + e64) (n46 + (1 : Int)) s180 A181 n182 c183 A184 n185 c186 A187 n188 c189 A190 n191 c192 H236 ∧ m42 (n45 + e64) (n46 + (1 : Int)) s180 A181 n182 c183 A184
  n185 c186 A187 n188 c189 A190 n191 c192 < m42 n45 n46 s47 A48 n49 c50 A51 n52 c53 A54 n55 c56 A57 n58 c59)))))) ∧ ∃ (post242 : ByteArray → Option Addr → Nat → Nat → Option Addr → Nat → Nat
  → Option Addr → Nat → Nat → Option Addr → Nat → Nat → Int → Heap → Prop), ConT P 36 [.agg ⟨[.string s47, .slice A48 n49 c50, .slice A51 n52 c53, .slice A54 n55 c56, .slice A57 n58 c59]⟩,
  .agg ⟨[.int .u16 n195, .int .u16 n196, .int .u16 n197, .int .u16 n198]⟩, .int .i64 (n45 + e64)] H178 ⟨true, [(true, [.str, .sl, .sl, .sl, .sl]), (false, [.int .i64])]⟩ post242 ∧ ∀ (H243 :
  Heap), Heap.le H178 H243 → ∀ (s245 : ByteArray) (A246 : Option Addr) (n247 c248 : Nat) (A249 : Option Addr) (n250 c251 : Nat) (A252 : Option Addr) (n253 c254 : Nat) (A255 : Option Addr)
  (n256 c257 : Nat) (n258 : Int), post242 s245 A246 n247 c248 A249 n250 c251 A252 n253 c254 A255 n256 c257 n258 H243 → ((!decide (n193 = n258)) = true → post false H243) ∧ ((!decide (n193 =
  n258)) = false → ∃ (post262 : Bool → Heap → Prop), ConT P 33 [.agg ⟨[.string s180, .slice A181 n182 c183, .slice A184 n185 c186, .slice A187 n188 c189, .slice A190 n191 c192]⟩, .agg
  ⟨[.string s245, .slice A246 n247 c248, .slice A249 n250 c251, .slice A252 n253 c254, .slice A255 n256 c257]⟩] H243 ⟨false, [(false, [.bool])]⟩ post262 ∧ ∀ (H263 : Heap), Heap.le H243 H263 →
  ∀ (b265 : Bool), post262 b265 H263 → ((!b265) = true → post false H263) ∧ ((!b265) = false → ((!decide (n193 = (0 : Int))) = true → rng .i64 (n46 + (1 : Int)) ∧ inv41 (n45 + e64) (n46 + (1
  : Int)) s47 A48 n49 c50 A51 n52 c53 A54 n55 c56 A57 n58 c59 H263 ∧ m42 (n45 + e64) (n46 + (1 : Int)) s47 A48 n49 c50 A51 n52 c53 A54 n55 c56 A57 n58 c59 < m42 n45 n46 s47 A48 n49 c50 A51
  n52 c53 A54 n55 c56 A57 n58 c59) ∧ ((!decide (n193 = (0 : Int))) = false → ∃ (post271 : Bool → Heap → Prop), ConT P 17 [.agg ⟨[.string s180, .slice A181 n182 c183, .slice A184 n185 c186,
  .slice A187 n188 c189, .slice A190 n191 c192]⟩] H263 ⟨false, [(false, [.bool])]⟩ post271 ∧ ∀ (H272 : Heap), Heap.le H263 H272 → ∀ (b274 : Bool), post271 b274 H272 → ((!b274) = true → post
  false H272) ∧ ((!b274) = false → ∃ (post278 : Bool → Heap → Prop), ConT P 18 [.agg ⟨[.string s180, .slice A181 n182 c183, .slice A184 n185 c186, .slice A187 n188 c189, .slice A190 n191
  c192]⟩] H272 ⟨false, [(false, [.bool])]⟩ post278 ∧ ∀ (H279 : Heap), Heap.le H272 H279 → ∀ (b281 : Bool), post278 b281 H279 → ((!b281) = true → post false H279) ∧ ((!b281) = false → rng .i64
  (n46 + (1 : Int)) ∧ inv41 (n45 + e64) (n46 + (1 : Int)) s180 A181 n182 c183 A184 n185 c186 A187 n188 c189 A190 n191 c192 H279 ∧ m42 (n45 + e64) (n46 + (1 : Int)) s180 A181 n182 c183 A184
  n185 c186 A187 n188 c189 A190 n191 c192 < m42 n45 n46 s47 A48 n49 c50 A51 n52 c53 A54 n55 c56 A57 n58 c59)))))) ∧ (decide (n46 < (30 : Int)) = false → ∃ (post286 : Bool → Heap → Prop), ConT
  P 9 [] H43 ⟨false, [(false, [.bool])]⟩ post286 ∧ ∀ (H287 : Heap), Heap.le H43 H287 → ∀ (b289 : Bool), post286 b289 H287 → post b289 H287)) ∧ (decide (n46 < (↑p1N : Int)) = false → ∃
  (post292 : Bool → Heap → Prop), ConT P 9 [] H43 ⟨false, [(false, [.bool])]⟩ post292 ∧ ∀ (H293 : Heap), Heap.le H43 H293 → ∀ (b295 : Bool), post292 b295 H293 → post b295 H293))) := by kernel_rfl
set_option maxHeartbeats 4000000 in
theorem law21_SchemaChanges {H : Heap} {a b c d : Int} {B : Option Addr} {m e : Nat} {l : List U4} (ha : rng .u16 a) (hb : rng .u16 b) (hc : rng .u16 c) (hd : rng .u16 d) (ht : Sl H B m e l) :
    ConT Try.prog 7 [.agg ⟨[.int .u16 a, .int .u16 b, .int .u16 c, .int .u16 d]⟩, .slice B m e] H shB (fun r _ => r = true) := by
  refine con_of_vc (an := an7) (fn := Try.f7) mix tabOK Try.func7 (by kernel_rfl) (extra := 0) ?_
  rw [vc7]
  have t1 := ht.bn; have t2 := ht.len
  obtain ⟨k0, k1, k2⟩ := create_law (b := b) (d := d) ha hc
  refine ⟨a, b, c, d, rfl, _, law0_Schema (by simp [str, ByteArray.size]) ha hb hc hd, ?_⟩
  intro H1 l1 _ _ _ _ _ _ _ _ _ _ _ _ _ hs
  refine ⟨_, schema_Create hs, ?_⟩
  rintro H2 l2 s1 A1 n1 c1 B1 m1 d1 E1 u1 e1 F1 v1 f1 _ ⟨hs, rfl⟩
  have L2 := hle_trans l1 l2
  generalize createSch (mkSchema ⟨⟨[116]⟩⟩ a b c d) 2 = z at k0 k1 k2 hs
  refine ⟨fun h => by rw [k0] at h; simp at h, fun _ => ?_⟩
  refine ⟨fun now i nm A n c B m d E k e F l f H' => 0 ≤ i ∧ i ≤ 30 ∧ 0 ≤ now ∧ now ≤ 2 + 2 * i ∧ ∃ s, IsTSch H' nm A n c B m d E k e F l f s ∧ schemaValid s = true ∧ s.vers.length ≤ 1 + i.toNat,
    fun _ i _ _ _ _ _ _ _ _ _ _ _ _ _ => 30 - i.toNat, ⟨by omega, by omega, by omega, by omega, z.1, hs, k1, by omega⟩, ?_⟩
  rintro H3 l3 now i nm A n c' B' m' d' E k e' F l' f ⟨i0, i1, w0, w1, s, hs, hv, hlen⟩
  have L3 := hle_trans L2 l3
  refine ⟨fun hlt => ⟨fun hlt3 => ?_, fun _ => ⟨_, law21_awake, fun _ _ _ h => h⟩⟩, fun _ => ⟨_, law21_awake, fun _ _ _ h => h⟩⟩
  have hlt := of_decide_eq_true hlt
  have hlt3 := of_decide_eq_true hlt3
  obtain ⟨hi, hA, _, hcc, ⟨rfl, r0, r1, r2, r3⟩⟩ := ht.at L3 i0 hlt
  generalize l[i.toNat] = u at hcc r0 r1 r2 r3
  have u3 := u16_tmod r1 3 (by omega)
  have hnow : rng .i64 (now + u.b.tmod 3) := by simp only [rng]; omega
  refine ⟨hA, i0, hlt, by decide, by decide, u.b, hcc.at1 (k := 1) rfl, by decide, u.b.tmod 3, IntWalk.i64_in _ (by omega), hnow, hA, i0, hlt, _, _, _, _, hcc, ?_, ?_⟩
  all_goals
    refine ⟨_, law21_step hs r0 r2 r3 hnow (by omega), ?_⟩
    rintro H4 l4 s4 A4 n4 c4 B4 m4 d4 E4 u4 e4 F4 v4 f4 _ ⟨q1, rfl⟩
    refine ⟨hA, i0, hlt, _, _, _, _, hcc.mono l4, ?_, ?_⟩
  all_goals
    refine ⟨_, law21_same (hs.mono l4) r0 r2 r3 hnow (by omega), ?_⟩
    rintro H5 l5 s5 A5 n5 c5 B5 m5 d5 E5 u5 e5 F5 v5 f5 _ ⟨q2, rfl⟩
    refine ⟨fun h => by simp at h, fun _ => ⟨_, ref21_SameSchema (q1.mono l5) q2, ?_⟩⟩
    rintro H6 l6 _ rfl
    have L6 := hle_trans l4 (hle_trans l5 l6)
    refine ⟨fun h => by simp at h, fun _ => ⟨fun _ => ⟨by simp only [rng]; omega, ⟨by omega, by omega, by omega, by omega, s, hs.mono L6, hv, by omega⟩, by dsimp only; omega⟩, fun hok => ⟨_, schema_Validate (q1.mono (hle_trans l5 l6)), ?_⟩⟩⟩
    have hok : (stepSch s u.a u.c u.d (now + u.b.tmod 3)).2 = 0 := by simpa using hok
    have hval := step_valid hok
    have hl := step_length (s := s) (a := u.a) (c := u.c) (d := u.d) (now := now + u.b.tmod 3)
    rintro H7 l7 _ rfl
    refine ⟨fun h => by rw [hval] at h; simp at h, fun _ => ⟨_, ref21_Validate (q1.mono (hle_trans l5 (hle_trans l6 l7))), ?_⟩⟩
    rintro H8 l8 _ rfl
    refine ⟨fun h => by rw [← valid_eq, hval] at h; simp at h, fun _ => ⟨by simp only [rng]; omega, ⟨by omega, by omega, by omega, by omega, _, q1.mono (hle_trans l5 (hle_trans l6 (hle_trans l7 l8))), hval, by omega⟩, by dsimp only; omega⟩⟩
end Go.Vc
namespace Go.Proofs.Ythbapbapcnafhaa.schemaChanges
open Go Go.Vc Go.RowKit Go.WideShapes Go.ChangeShapes
theorem oU4 : Opn Try.prog 64 U4 := opn_U4 Try.underlying64 Try.underlying63 (by kernel_rfl) (by kernel_rfl) (by kernel_rfl)
theorem oU4s : Opn Try.prog 65 (List U4) := opn_slice Try.underlying65 (by kernel_rfl) (by kernel_rfl) oU4
theorem sps : ∀ t ∈ Try.f7.params.toList, SpOK Try.prog t := by
  rw [Try.params7]
  exact List.forall_mem_cons.2 ⟨oU4.sp, List.forall_mem_cons.2 ⟨oU4s.sp, fun _ h => by cases h⟩⟩
theorem own : ownKnob Try.prog.godebug = none := by kernel_rfl
set_option maxRecDepth 100000 in
theorem lifted (os : Os) (started : os.Started) (H : Type) (enc : TypeId × Value → H) :
    ReturnsInHanded {} Try.checked os 7 .any (Rows.schemaChangesSpec.pre6 enc Try.prog Try.f7 Rows.schemaChangesRow.domain false) (Rows.schemaChangesSpec.post enc Try.prog Try.f7 false true false false) := by
  refine returnsInHanded_of_change_sized (C := Try.checked) own started (by kernel_rfl) Try.func7
    (ChangeSpec.witness6 (enc := enc) (C := Try.checked) false ⟨#[], #[.agg #[.int .u16 0, .int .u16 0, .int .u16 0, .int .u16 0], .slice none 0 0], []⟩ 8 (by kernel_rfl) (by kernel_rfl) (by kernel_rfl) (by kernel_rfl)) ?_
  intro W base args ds gs before hval0 hW hcnd hsz0 _
  have hval : ∀ (j : Nat) t v, Try.f7.params[j]? = some t → args[j]? = some v → Value.okWide Try.prog W .any base t v := hval0
  have hW' := hW
  obtain ⟨p, q, hA0, hV, rfl, hfz, hnd⟩ := hW
  have hA : DataW.TrodAll enc Try.prog W 0 (fun _ => true) true Try.f7.params.toList args.toList ds p := hA0
  have hsz : (DataW.weightsEach Try.prog (Try.f7.params.toList ++ Rows.schemaChangesSpec.plain.varTypes Try.prog) (ds ++ gs)).all (· ≤ reachBytes) = true := hsz0
  have hA1 := hA
  obtain ⟨rfl, rfl⟩ := trodVars_none hV
  rw [Try.params7] at hA hval hsz
  obtain ⟨v0, vs0, d0, ds0, p0, q0, hargs, rfl, rfl, h0, r0⟩ := trodAll_cons hA
  obtain ⟨v1, vs1, d1, ds1, p1, q1, rfl, rfl, rfl, h1, r1⟩ := trodAll_cons r0
  obtain ⟨rfl, rfl, rfl⟩ := trodAll_nil r1
  obtain rfl : args = #[v0, v1] := by cases args; simp_all
  have ok0 := hval 0 64 v0 rfl rfl
  have w0 := weightsEach_get (i := 0) hsz rfl rfl
  obtain ⟨cs0, rfl, -⟩ := okWide_array Try.underlying64 ok0
  obtain ⟨y0, hy0, hr01, hr02, hr03, hr04⟩ := arg_get oU4 h0 w0
  obtain rfl : cs0 = ⟨_⟩ := congrArg Array.mk hy0
  have ok1 := hval 1 65 v1 rfl rfl
  have w1 := weightsEach_get (i := 1) hsz rfl rfl
  obtain ⟨A11, n11, c11, rfl⟩ := okWide_slice Try.underlying65 ok1
  obtain ⟨y1, A12, n12, c12, hy1, hr1⟩ := arg_get oU4s h1 w1
  obtain ⟨rfl, rfl, rfl⟩ : A11 = A12 ∧ n11 = n12 ∧ c11 = c12 := by simpa [Value.cells] using hy1
  refine (con_true (law21_SchemaChanges hr01 hr02 hr03 hr04 hr1) (heapOf_snap W)).mono fun e W' ⟨he, hb⟩ => ?_
  subst he
  exact ⟨_, rfl, post_of_below (pa := _) (pv := []) hW' (fun _ _ _ => trodAll_mk1 (shut_bool Try.underlying4 _))
    (fun sp hsp => trodAll_sp sps hA1 (fun z hz => hb.same (hW'.lt z (by simpa using hz))) (fun z hz => hsp z (by simpa using hz))) (fun _ _ => rfl) rfl hb (ok_one (by kernel_rfl) rfl (okWide_bool_mk Try.underlying4 _))⟩
theorem proved : Rows.SchemaChangesSaid :=
  OpenClaim.holds_of_wide 7 Try.f7 rfl rfl rfl rfl rfl rfl rfl ⟨rfl, rfl, rfl, rfl, rfl⟩ rfl rfl rfl rfl rfl (by kernel_rfl) Try.func7 (by kernel_rfl)
    (of_decide_eq_true (by kernel_rfl)) (by unfold Func.isWrapper; first | (rw [if_pos (by decide +kernel)]; kernel_rfl) | (rw [if_neg (by decide +kernel)]; exact ⟨rfl, rfl⟩))
    (fun os started H enc _ => lifted os started H enc)
#print axioms proved
end Go.Proofs.Ythbapbapcnafhaa.schemaChanges

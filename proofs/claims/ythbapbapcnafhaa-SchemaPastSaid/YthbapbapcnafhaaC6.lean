/- Changes of a schema. -/
import Derived.Test.YthbapbapcnafhaaC5
set_option linter.unusedSectionVars false
set_option linter.unusedSimpArgs false
set_option linter.unusedVariables false
namespace Go.Vc
open Go Go.Proofs
theorem take_at {T : Type} {l : List T} {i : Int} (h0 : 0 ≤ i) (hi : i.toNat < l.length) : l.take (i + 1).toNat = l.take i.toNat ++ [l[i.toNat]] := by
  rw [show (i + 1).toNat = i.toNat + 1 by omega, List.take_succ_eq_append_getElem hi]
theorem take_end {T : Type} {l : List T} {i : Int} {n : Nat} (h : ¬ i < n) (hl : l.length = n) : l.take i.toNat = l := List.take_of_length_le (by omega)
def empty : ByteArray := ⟨⟨[]⟩⟩
def sch0 : TSch := ⟨empty, [], [], [], []⟩
abbrev shTS : RSh := ⟨false, [(true, [.str, .sl, .sl, .sl, .sl])]⟩
abbrev shTSI : RSh := ⟨true, [(true, [.str, .sl, .sl, .sl, .sl]), (false, [.int .i64])]⟩
def an61_row : Ann where
  res := fun _ => none
  lend := fun _ => false
  sch := fun _ => .done
  lt := fun _ => []
  tup := tups

theorem vc61_row (P : Program) (H : Heap) (sA : Option Addr) (sN sC : Nat) (ri0 : Nat) (post : Nat → List Value → Heap → Prop) :
  vcFn P tab an61_row Try.f61 [.slice sA sN sC] 0 H ⟨false, [(false, [.row ri0 51])]⟩ post =
  (  (Option.isNone sA = true → post 0 [] H) ∧ (Option.isNone sA = false → ∃ (ys2 : List Value), Cells H sA 0 ys2 ∧ List.length ys2 = sN * 3 ∧ (0 + sN) * 32 ≤ 140737488355328 ∧ post (0 + sN) ([]
  ++ ys2) H)) := by kernel_rfl
theorem Clone_Col_row {H : Heap} {A : Option Addr} {n c i : Nat} {l : List Col} (hs : Sl H A n c l) :
    ConT Try.prog 61 [.slice A n c] H ⟨false, [(false, [.row i 51])]⟩ (fun n' xs H' => n' = n ∧ Row H' xs l) := by
  refine con_of_vc (an := an61_row) (fn := Try.f61) mix tabOK Try.func61 (by kernel_rfl) (extra := 0) ?_
  rw [vc61_row]
  refine ⟨fun hA => ?_, fun hA => ?_⟩
  · have : n = 0 := by
      rcases Nat.eq_zero_or_pos n with h | h
      · exact h
      · obtain ⟨b, o, e⟩ := hs.someA h; simp [e] at hA
    subst this
    rw [List.eq_nil_of_length_eq_zero hs.len]; exact ⟨rfl, rfl⟩
  · obtain ⟨ys, h1, h2⟩ := hs.row
    refine ⟨ys, h1, by rw [h2.length, hs.len]; rfl, by have := hs.bnd; rw [Nat.zero_add]; exact this, Nat.zero_add _, by simpa using h2⟩
section
variable {H : Heap} {nm : ByteArray} {A : Option Addr} {n c : Nat} {B : Option Addr} {m d : Nat} {E : Option Addr} {k e : Nat} {F : Option Addr} {l f : Nat} {s : TSch}
theorem is_sch0 : IsTSch H ⟨⟨[]⟩⟩ none 0 0 none 0 0 none 0 0 none 0 0 sch0 := ⟨rfl, by simp [str, sch0, empty, ByteArray.size], Sl.nil, Sl.nil, Sl.nil, Sl.nil⟩
def an56 : Ann where
  res := fun _ => none
  lend := fun _ => false
  sch := fun | 1 => (tk [0, 1, 2, 3] (.alt 4 (tk [5] (.alt 6 (.alt 7 .done .fin) .fin)) (.alt 6 (.alt 4 (tk [5] (.alt 7 .done .fin)) .fin) .fin))) | 5 => (tk [0, 1, 2] (.alt 3 (.alt 4 (.alt 5 (tk [6] (.alt 7 .done .fin)) .fin) .fin) .fin)) | 10 => (tk [0, 1, 2, 3, 5, 6, 7, 8] (.alt 4 (.alt 9 (tk [10] (.alt 11 (.alt 12 (tk [13] (.alt 14 .done .fin)) .fin) .fin)) .fin) .fin)) | 15 => (tk [0, 1, 2, 3, 4, 5] (.alt 6 (tk [7] (.alt 8 (.alt 9 (tk [10] (.alt 11 .done .fin)) .fin) .fin)) .fin)) | _ => .done
  lt := fun | 3 => [.slot 19 false [.int .i64], .box 3 29 [.str, .row 73 35, .sl, .row 74 75, .row 75 77]] | 8 => [.slot 34 false [.int .i64], .box 3 29 [.str, .row 76 35, .sl, .row 77 75, .row 78 77]] | 13 => [.slot 56 false [.int .i64], .box 3 29 [.str, .row 79 35, .sl, .row 80 75, .row 81 77]] | _ => []
  tup := tups

theorem vc56 (P : Program) (H : Heap) (sName : ByteArray) (sVersionsA : Option Addr) (sVersionsN sVersionsC : Nat) (sKeyA : Option Addr) (sKeyN sKeyC : Nat) (sForeignKeysA : Option Addr) (sForeignKeysN sForeignKeysC : Nat) (sConstraintsA : Option Addr) (sConstraintsN sConstraintsC : Nat) (ri1 : Nat) (post : ByteArray → Nat → List Value → Option Addr → Nat → Nat → Option Addr → Nat → Nat → Option Addr → Nat → Nat → Heap → Prop) :
  vcFn P tab an56 Try.f56 [.agg #[.string sName, .slice sVersionsA sVersionsN sVersionsC, .slice sKeyA sKeyN sKeyC, .slice sForeignKeysA sForeignKeysN sForeignKeysC, .slice sConstraintsA sConstraintsN sConstraintsC]] 9 H ⟨false, [(true, [.str, .row ri1 35, .sl, .sl, .sl])]⟩ post =
  (  (∃ (post0 : Option Addr → Nat → Nat → Heap → Prop), ConT P 80 [.slice sKeyA sKeyN sKeyC] H ⟨false, [(false, [.sl])]⟩ post0 ∧ ∀ (H1 : Heap), Heap.le H H1 → ∀ (A3 : Option Addr) (n4 c5 :
  Nat), post0 A3 n4 c5 H1 → ∃ (inv7 : Int → ByteArray → Nat → List Value → Option Addr → Nat → Nat → Nat → List Value → Nat → List Value → Heap → Prop), ∃ (m8 : Int → ByteArray → Nat → List
  Value → Option Addr → Nat → Nat → Nat → List Value → Nat → List Value → Nat), inv7 (0 : Int) sName 0 [] A3 n4 c5 0 [] 0 [] H1 ∧ ∀ (H9 : Heap), Heap.le H1 H9 → ∀ (n11 : Int) (s12 :
  ByteArray) (n13 : Nat) (xs14 : List Value) (A15 : Option Addr) (n16 c17 n18 : Nat) (xs19 : List Value) (n20 : Nat) (xs21 : List Value), inv7 n11 s12 n13 xs14 A15 n16 c17 n18 xs19 n20 xs21
  H9 → (decide (n11 < (↑sVersionsN : Int)) = true → someA sVersionsA ∧ (0 : Int) ≤ n11 ∧ n11 < (↑sVersionsN : Int) ∧ ∃ (n24 : Int), ∃ (n25 : Int), ∃ (A26 : Option Addr), ∃ (n27 : Nat), ∃ (c28
  : Nat), Cells H9 sVersionsA (Int.toNat n11 * 3) [.int .i64 n24, .int .i64 n25, .slice A26 n27 c28] ∧ ∃ (post29 : Int → Int → Option Addr → Nat → Nat → Heap → Prop), ConT P 39 [.agg ⟨[.int
  .i64 n24, .int .i64 n25, .slice A26 n27 c28]⟩] H9 ⟨false, [(true, [.int .i64, .int .i64, .sl])]⟩ post29 ∧ ∀ (H30 : Heap), Heap.le H9 H30 → ∀ (n32 n33 : Int) (A34 : Option Addr) (n35 c36 :
  Nat), post29 n32 n33 A34 n35 c36 H30 → (n13 + 1) * 40 ≤ 140737488355328 ∧ rng .i64 (n11 + (1 : Int)) ∧ inv7 (n11 + (1 : Int)) s12 (n13 + 1) (xs14 ++ [.int .i64 n32, .int .i64 n33, .slice
  A34 n35 c36]) A15 n16 c17 n18 xs19 n20 xs21 H30 ∧ m8 (n11 + (1 : Int)) s12 (n13 + 1) (xs14 ++ [.int .i64 n32, .int .i64 n33, .slice A34 n35 c36]) A15 n16 c17 n18 xs19 n20 xs21 < m8 n11 s12
  n13 xs14 A15 n16 c17 n18 xs19 n20 xs21) ∧ (decide (n11 < (↑sVersionsN : Int)) = false → ∃ (inv39 : Int → ByteArray → Nat → List Value → Option Addr → Nat → Nat → Nat → List Value → Nat →
  List Value → Heap → Prop), ∃ (m40 : Int → ByteArray → Nat → List Value → Option Addr → Nat → Nat → Nat → List Value → Nat → List Value → Nat), inv39 (0 : Int) s12 n13 xs14 A15 n16 c17 n18
  xs19 n20 xs21 H9 ∧ ∀ (H41 : Heap), Heap.le H9 H41 → ∀ (n43 : Int) (s44 : ByteArray) (n45 : Nat) (xs46 : List Value) (A47 : Option Addr) (n48 c49 n50 : Nat) (xs51 : List Value) (n52 : Nat)
  (xs53 : List Value), inv39 n43 s44 n45 xs46 A47 n48 c49 n50 xs51 n52 xs53 H41 → (decide (n43 < (↑sForeignKeysN : Int)) = true → someA sForeignKeysA ∧ (0 : Int) ≤ n43 ∧ n43 < (↑sForeignKeysN
  : Int) ∧ ∃ (A56 : Option Addr), ∃ (n57 : Nat), ∃ (c58 : Nat), ∃ (s59 : ByteArray), ∃ (A60 : Option Addr), ∃ (n61 : Nat), ∃ (c62 : Nat), Cells H41 sForeignKeysA (Int.toNat n43 * 3) [.slice
  A56 n57 c58, .string s59, .slice A60 n61 c62] ∧ ∃ (post63 : Option Addr → Nat → Nat → Heap → Prop), ConT P 80 [.slice A56 n57 c58] H41 ⟨false, [(false, [.sl])]⟩ post63 ∧ ∀ (H64 : Heap),
  Heap.le H41 H64 → ∀ (A66 : Option Addr) (n67 c68 : Nat), post63 A66 n67 c68 H64 → ∃ (post70 : Option Addr → Nat → Nat → Heap → Prop), ConT P 80 [.slice A60 n61 c62] H64 ⟨false, [(false,
  [.sl])]⟩ post70 ∧ ∀ (H71 : Heap), Heap.le H64 H71 → ∀ (A73 : Option Addr) (n74 c75 : Nat), post70 A73 n74 c75 H71 → (n50 + 1) * 64 ≤ 140737488355328 ∧ rng .i64 (n43 + (1 : Int)) ∧ inv39
  (n43 + (1 : Int)) s44 n45 xs46 A47 n48 c49 (n50 + 1) (xs51 ++ [.slice A66 n67 c68, .string s59, .slice A73 n74 c75]) n52 xs53 H71 ∧ m40 (n43 + (1 : Int)) s44 n45 xs46 A47 n48 c49 (n50 + 1)
  (xs51 ++ [.slice A66 n67 c68, .string s59, .slice A73 n74 c75]) n52 xs53 < m40 n43 s44 n45 xs46 A47 n48 c49 n50 xs51 n52 xs53) ∧ (decide (n43 < (↑sForeignKeysN : Int)) = false → ∃ (inv78 :
  Int → ByteArray → Nat → List Value → Option Addr → Nat → Nat → Nat → List Value → Nat → List Value → Heap → Prop), ∃ (m79 : Int → ByteArray → Nat → List Value → Option Addr → Nat → Nat →
  Nat → List Value → Nat → List Value → Nat), inv78 (0 : Int) s44 n45 xs46 A47 n48 c49 n50 xs51 n52 xs53 H41 ∧ ∀ (H80 : Heap), Heap.le H41 H80 → ∀ (n82 : Int) (s83 : ByteArray) (n84 : Nat)
  (xs85 : List Value) (A86 : Option Addr) (n87 c88 n89 : Nat) (xs90 : List Value) (n91 : Nat) (xs92 : List Value), inv78 n82 s83 n84 xs85 A86 n87 c88 n89 xs90 n91 xs92 H80 → (decide (n82 <
  (↑sConstraintsN : Int)) = true → someA sConstraintsA ∧ (0 : Int) ≤ n82 ∧ n82 < (↑sConstraintsN : Int) ∧ ∃ (n95 : Int), ∃ (A96 : Option Addr), ∃ (n97 : Nat), ∃ (c98 : Nat), Cells H80
  sConstraintsA (Int.toNat n82 * 2) [.int .i64 n95, .slice A96 n97 c98] ∧ ∃ (post99 : Option Addr → Nat → Nat → Heap → Prop), ConT P 80 [.slice A96 n97 c98] H80 ⟨false, [(false, [.sl])]⟩
  post99 ∧ ∀ (H100 : Heap), Heap.le H80 H100 → ∀ (A102 : Option Addr) (n103 c104 : Nat), post99 A102 n103 c104 H100 → (n91 + 1) * 32 ≤ 140737488355328 ∧ rng .i64 (n82 + (1 : Int)) ∧ inv78
  (n82 + (1 : Int)) s83 n84 xs85 A86 n87 c88 n89 xs90 (n91 + 1) (xs92 ++ [.int .i64 n95, .slice A102 n103 c104]) H100 ∧ m79 (n82 + (1 : Int)) s83 n84 xs85 A86 n87 c88 n89 xs90 (n91 + 1) (xs92
  ++ [.int .i64 n95, .slice A102 n103 c104]) < m79 n82 s83 n84 xs85 A86 n87 c88 n89 xs90 n91 xs92) ∧ (decide (n82 < (↑sConstraintsN : Int)) = false → ∀ (A107 : Option Addr) (c108 : Nat) (H109
  : Heap), Heap.le H80 H109 → Cells H109 A107 0 xs90 → n89 ≤ c108 → ∀ (A113 : Option Addr) (c114 : Nat) (H115 : Heap), Heap.le H109 H115 → Cells H115 A113 0 xs92 → n91 ≤ c114 → post s83 n84
  xs85 A86 n87 c88 A107 n89 c108 A113 n91 c114 H115)))) ∧ ∃ (post119 : Option Addr → Nat → Nat → Heap → Prop), ConT P 80 [.slice sKeyA sKeyN sKeyC] H ⟨false, [(false, [.sl])]⟩ post119 ∧ ∀
  (H120 : Heap), Heap.le H H120 → ∀ (A122 : Option Addr) (n123 c124 : Nat), post119 A122 n123 c124 H120 → ∃ (inv126 : Int → ByteArray → Nat → List Value → Option Addr → Nat → Nat → Nat → List
  Value → Nat → List Value → Heap → Prop), ∃ (m127 : Int → ByteArray → Nat → List Value → Option Addr → Nat → Nat → Nat → List Value → Nat → List Value → Nat), inv126 (0 : Int) sName 0 []
  A122 n123 c124 0 [] 0 [] H120 ∧ ∀ (H128 : Heap), Heap.le H120 H128 → ∀ (n130 : Int) (s131 : ByteArray) (n132 : Nat) (xs133 : List Value) (A134 : Option Addr) (n135 c136 n137 : Nat) (xs138 :
  List Value) (n139 : Nat) (xs140 : List Value), inv126 n130 s131 n132 xs133 A134 n135 c136 n137 xs138 n139 xs140 H128 → (decide (n130 < (↑sVersionsN : Int)) = true → someA sVersionsA ∧ (0 :
  Int) ≤ n130 ∧ n130 < (↑sVersionsN : Int) ∧ ∃ (n143 : Int), ∃ (n144 : Int), ∃ (A145 : Option Addr), ∃ (n146 : Nat), ∃ (c147 : Nat), Cells H128 sVersionsA (Int.toNat n130 * 3) [.int .i64
  n143, .int .i64 n144, .slice A145 n146 c147] ∧ ∃ (post148 : Int → Int → Option Addr → Nat → Nat → Heap → Prop), ConT P 39 [.agg ⟨[.int .i64 n143, .int .i64 n144, .slice A145 n146 c147]⟩]
  H128 ⟨false, [(true, [.int .i64, .int .i64, .sl])]⟩ post148 ∧ ∀ (H149 : Heap), Heap.le H128 H149 → ∀ (n151 n152 : Int) (A153 : Option Addr) (n154 c155 : Nat), post148 n151 n152 A153 n154
  c155 H149 → (n132 + 1) * 40 ≤ 140737488355328 ∧ rng .i64 (n130 + (1 : Int)) ∧ inv126 (n130 + (1 : Int)) s131 (n132 + 1) (xs133 ++ [.int .i64 n151, .int .i64 n152, .slice A153 n154 c155])
  A134 n135 c136 n137 xs138 n139 xs140 H149 ∧ m127 (n130 + (1 : Int)) s131 (n132 + 1) (xs133 ++ [.int .i64 n151, .int .i64 n152, .slice A153 n154 c155]) A134 n135 c136 n137 xs138 n139 xs140 <
  m127 n130 s131 n132 xs133 A134 n135 c136 n137 xs138 n139 xs140) ∧ (decide (n130 < (↑sVersionsN : Int)) = false → ∃ (inv158 : Int → ByteArray → Nat → List Value → Option Addr → Nat → Nat →
  Nat → List Value → Nat → List Value → Heap → Prop), ∃ (m159 : Int → ByteArray → Nat → List Value → Option Addr → Nat → Nat → Nat → List Value → Nat → List Value → Nat), inv158 (0 : Int)
  s131 n132 xs133 A134 n135 c136 n137 xs138 n139 xs140 H128 ∧ ∀ (H160 : Heap), Heap.le H128 H160 → ∀ (n162 : Int) (s163 : ByteArray) (n164 : Nat) (xs165 : List Value) (A166 : Option Addr)
  (n167 c168 n169 : Nat) (xs170 : List Value) (n171 : Nat) (xs172 : List Value), inv158 n162 s163 n164 xs165 A166 n167 c168 n169 xs170 n171 xs172 H160 → (decide (n162 < (↑sForeignKeysN :
  Int)) = true → someA sForeignKeysA ∧ (0 : Int) ≤ n162 ∧ n162 < (↑sForeignKeysN : Int) ∧ ∃ (A175 : Option Addr), ∃ (n176 : Nat), ∃ (c177 : Nat), ∃ (s178 : ByteArray), ∃ (A179 : Option Addr),
  ∃ (n180 : Nat), ∃ (c181 : Nat), Cells H160 sForeignKeysA (Int.toNat n162 * 3) [.slice A175 n176 c177, .string s178, .slice A179 n180 c181] ∧ ∃ (post182 : Option Addr → Nat → Nat → Heap →
  Prop), ConT P 80 [.slice A175 n176 c177] H160 ⟨false, [(false, [.sl])]⟩ post182 ∧ ∀ (H183 : Heap), Heap.le H160 H183 → ∀ (A185 : Option Addr) (n186 c187 : Nat), post182 A185 n186 c187 H183
  → ∃ (post189 : Option Addr → Nat → Nat → Heap → Prop), ConT P 80 [.slice A179 n180 c181] H183 ⟨false, [(false, [.sl])]⟩ post189 ∧ ∀ (H190 : Heap), Heap.le H183 H190 → ∀ (A192 : Option Addr)
  (n193 c194 : Nat), post189 A192 n193 c194 H190 → (n169 + 1) * 64 ≤ 140737488355328 ∧ rng .i64 (n162 + (1 : Int)) ∧ inv158 (n162 + (1 : Int)) s163 n164 xs165 A166 n167 c168 (n169 + 1) (xs170
  ++ [.slice A185 n186 c187, .string s178, .slice A192 n193 c194]) n171 xs172 H190 ∧ m159 (n162 + (1 : Int)) s163 n164 xs165 A166 n167 c168 (n169 + 1) (xs170 ++ [.slice A185 n186 c187,
  .string s178, .slice A192 n193 c194]) n171 xs172 < m159 n162 s163 n164 xs165 A166 n167 c168 n169 xs170 n171 xs172) ∧ (decide (n162 < (↑sForeignKeysN : Int)) = false → ∃ (inv197 : Int →
  ByteArray → Nat → List Value → Option Addr → Nat → Nat → Nat → List Value → Nat → List Value → Heap → Prop), ∃ (m198 : Int → ByteArray → Nat → List Value → Option Addr → Nat → Nat → Nat →
  List Value → Nat → List Value → Nat), inv197 (0 : Int) s163 n164 xs165 A166 n167 c168 n169 xs170 n171 xs172 H160 ∧ ∀ (H199 : Heap), Heap.le H160 H199 → ∀ (n201 : Int) (s202 : ByteArray)
  (n203 : Nat) (xs204 : List Value) (A205 : Option Addr) (n206 c207 n208 : Nat) (xs209 : List Value) (n210 : Nat) (xs211 : List Value), inv197 n201 s202 n203 xs204 A205 n206 c207 n208 xs209
  n210 xs211 H199 → (decide (n201 < (↑sConstraintsN : Int)) = true → someA sConstraintsA ∧ (0 : Int) ≤ n201 ∧ n201 < (↑sConstraintsN : Int) ∧ ∃ (n214 : Int), ∃ (A215 : Option Addr), ∃ (n216 :
  Nat), ∃ (c217 : Nat), Cells H199 sConstraintsA (Int.toNat n201 * 2) [.int .i64 n214, .slice A215 n216 c217] ∧ ∃ (post218 : Option Addr → Nat → Nat → Heap → Prop), ConT P 80 [.slice A215
  n216 c217] H199 ⟨false, [(false, [.sl])]⟩ post218 ∧ ∀ (H219 : Heap), Heap.le H199 H219 → ∀ (A221 : Option Addr) (n222 c223 : Nat), post218 A221 n222 c223 H219 → (n210 + 1) * 32 ≤
  140737488355328 ∧ rng .i64 (n201 + (1 : Int)) ∧ inv197 (n201 + (1 : Int)) s202 n203 xs204 A205 n206 c207 n208 xs209 (n210 + 1) (xs211 ++ [.int .i64 n214, .slice A221 n222 c223]) H219 ∧ m198
  (n201 + (1 : Int)) s202 n203 xs204 A205 n206 c207 n208 xs209 (n210 + 1) (xs211 ++ [.int .i64 n214, .slice A221 n222 c223]) < m198 n201 s202 n203 xs204 A205 n206 c207 n208 xs209 n210 xs211)
  ∧ (decide (n201 < (↑sConstraintsN : Int)) = false → ∀ (A226 : Option Addr) (c227 : Nat) (H228 : Heap), Heap.le H199 H228 → Cells H228 A226 0 xs209 → n208 ≤ c227 → ∀ (A232 : Option Addr)
  (c233 : Nat) (H234 : Heap), Heap.le H228 H234 → Cells H234 A232 0 xs211 → n210 ≤ c233 → post s202 n203 xs204 A205 n206 c207 A226 n208 c227 A232 n210 c233 H234)))) := by kernel_rfl
set_option maxHeartbeats 1000000 in
theorem schema_clone {i : Nat} (hs : IsTSch H nm A n c B m d E k e F l f s) :
    ConT Try.prog 56 [.agg ⟨[.string nm, .slice A n c, .slice B m d, .slice E k e, .slice F l f]⟩] H ⟨false, [(true, [.str, .row i 35, .sl, .sl, .sl])]⟩
      (fun nm' n' xs B' m' d' E' k' e' F' l' f' H' => nm' = s.name ∧ n' = s.vers.length ∧ Row H' xs s.vers ∧ Sl H' B' m' d' s.key ∧ Sl H' E' k' e' s.fks ∧ Sl H' F' l' f' s.csts) := by
  refine con_of_vc (an := an56) (fn := Try.f56) mix tabOK Try.func56 (by kernel_rfl) (extra := 9) ?_
  rw [vc56]
  obtain ⟨rfl, hstr, hv, hk, hf, hc⟩ := hs
  have v1 := hv.bn; have v2 := hv.len; have v3 := hv.bnd; have f1 := hf.bn; have f2 := hf.len; have f3 := hf.bnd; have c1 := hc.bn; have c2 := hc.len; have cb := hc.bnd
  refine ⟨⟨_, Clone_int hk, ?_⟩, ⟨_, Clone_int hk, ?_⟩⟩
  all_goals
    intro H1 L1 A' n' c' k1
    refine ⟨fun i nm' nv xv A'' n'' c'' nf xf nc xc H' => 0 ≤ i ∧ i ≤ n ∧ nm' = s.name ∧ nv = i.toNat ∧ Row H' xv (s.vers.take i.toNat) ∧ Sl H' A'' n'' c'' s.key ∧ nf = 0 ∧ xf = [] ∧ nc = 0 ∧ xc = [],
      fun i _ _ _ _ _ _ _ _ _ _ => n - i.toNat, ⟨by omega, by omega, rfl, rfl, rfl, k1, rfl, rfl, rfl, rfl⟩, ?_⟩
    rintro H2 l2 i _ _ xv A'' n'' c'' _ _ _ _ ⟨i0, i1, rfl, rfl, rv, k2, rfl, rfl, rfl, rfl⟩
    have L2 := hle_trans L1 l2
    refine ⟨fun hlt => ?_, fun hge => ?_⟩
    · have hlt := of_decide_eq_true hlt
      obtain ⟨hi, hA, _, hcc, ⟨A3, n3, c3, rfl, r1, r2, r3⟩⟩ := hv.at L2 i0 hlt
      refine ⟨hA, i0, hlt, _, _, _, _, _, hcc, _, schema_cloneVersion r3, ?_⟩
      rintro H3 l3 _ _ A4 n4 c4 ⟨rfl, rfl, r4⟩
      have v4 : n * 40 ≤ 140737488355328 := v3
      refine ⟨by omega, by simp only [rng]; omega, ⟨by omega, by omega, rfl, by omega, ?_, k2.mono l3, rfl, rfl, rfl, rfl⟩, by dsimp only; omega⟩
      rw [take_at i0 hi]
      exact (rv.mono l3).append (Row.one ⟨A4, n4, c4, rfl, r1, r2, r4⟩)
    rw [take_end (of_decide_eq_false hge) v2] at rv
    have ei : i.toNat = s.vers.length := by have := of_decide_eq_false hge; omega
    refine ⟨fun j nm' nv xv A'' n'' c'' nf xf nc xc H' => 0 ≤ j ∧ j ≤ k ∧ nm' = s.name ∧ nv = s.vers.length ∧ Row H' xv s.vers ∧ Sl H' A'' n'' c'' s.key ∧ nf = j.toNat ∧ Row H' xf (s.fks.take j.toNat) ∧ nc = 0 ∧ xc = [],
      fun j _ _ _ _ _ _ _ _ _ _ => k - j.toNat, ⟨by omega, by omega, rfl, ei, rv, k2, rfl, rfl, rfl, rfl⟩, ?_⟩
    rintro H3 l3 j _ _ xv3 A3 n3 c3 _ xf3 _ _ ⟨j0, j1, rfl, rfl, rv3, k3, rfl, rf3, rfl, rfl⟩
    have L3 := hle_trans L2 l3
    refine ⟨fun jlt => ?_, fun jge => ?_⟩
    · have jlt := of_decide_eq_true jlt
      obtain ⟨ji, jA, _, jc, ⟨A4, n4, c4, B4, m4, d4, rfl, r1, r2, r3⟩⟩ := hf.at L3 j0 jlt
      refine ⟨jA, j0, jlt, _, _, _, _, _, _, _, jc, _, Clone_int r1, ?_⟩
      intro H4 l4 A5 n5 c5 r5
      refine ⟨_, Clone_int (r3.mono l4), ?_⟩
      intro H5 l5 A6 n6 c6 r6
      have L5 := hle_trans l4 l5
      have f4 : k * 64 ≤ 140737488355328 := f3
      refine ⟨by omega, by simp only [rng]; omega, ⟨by omega, by omega, rfl, rfl, rv3.mono L5, k3.mono L5, by omega, ?_, rfl, rfl⟩, by dsimp only; omega⟩
      rw [take_at j0 ji]
      exact (rf3.mono L5).append (Row.one ⟨A5, n5, c5, A6, n6, c6, rfl, r5.mono l5, r2, r6⟩)
    rw [take_end (of_decide_eq_false jge) f2] at rf3
    have ej : j.toNat = s.fks.length := by have := of_decide_eq_false jge; omega
    refine ⟨fun j nm' nv xv A'' n'' c'' nf xf nc xc H' => 0 ≤ j ∧ j ≤ l ∧ nm' = s.name ∧ nv = s.vers.length ∧ Row H' xv s.vers ∧ Sl H' A'' n'' c'' s.key ∧ nf = s.fks.length ∧ Row H' xf s.fks ∧ nc = j.toNat ∧ Row H' xc (s.csts.take j.toNat),
      fun j _ _ _ _ _ _ _ _ _ _ => l - j.toNat, ⟨by omega, by omega, rfl, rfl, rv3, k3, ej, rf3, rfl, rfl⟩, ?_⟩
    rintro H4 l4 q _ _ xv4 A4 n4 c4 _ xf4 _ xc4 ⟨q0, q1, rfl, rfl, rv4, k4, rfl, rf4, rfl, rc4⟩
    have L4 := hle_trans L3 l4
    refine ⟨fun qlt => ?_, fun qge => ?_⟩
    · have qlt := of_decide_eq_true qlt
      obtain ⟨qi, qA, _, qc, ⟨A5, n5, c5, rfl, r1, r2⟩⟩ := hc.at L4 q0 qlt
      refine ⟨qA, q0, qlt, _, _, _, _, qc, _, Clone_int r2, ?_⟩
      intro H5 l5 A6 n6 c6 r6
      have c4 : l * 32 ≤ 140737488355328 := cb
      refine ⟨by omega, by simp only [rng]; omega, ⟨by omega, by omega, rfl, rfl, rv4.mono l5, k4.mono l5, rfl, rf4.mono l5, by omega, ?_⟩, by dsimp only; omega⟩
      rw [take_at q0 qi]
      exact (rc4.mono l5).append (Row.one ⟨A6, n6, c6, rfl, r1, r6⟩)
    rw [take_end (of_decide_eq_false qge) c2] at rc4
    have eq : q.toNat = s.csts.length := by have := of_decide_eq_false qge; omega
    intro A5 c5 H5 l5 q5 g5 A6 c6 H6 l6 q6 g6
    have e1 : s.fks.length = k := f2
    have e2 : s.csts.length = l := c2
    exact ⟨rfl, rfl, rv4.mono (hle_trans l5 l6), k4.mono (hle_trans l5 l6), (rf4.sl l5 q5 rfl g5 (by rw [e1]; exact f3) (by omega)).mono l6, rc4.sl (hle_trans l5 l6) q6 eq.symm g6 (by rw [eq, e2]; exact cb) (by omega)⟩
def changeVers (l : List Ver) (cols : List Col) (x : Int) : List Ver := match l.getLast? with
  | none => l
  | some v => if v.rc.lo = x then l.dropLast ++ [⟨v.rc, cols⟩] else l.dropLast ++ [⟨⟨v.rc.lo, x⟩, v.cols⟩, ⟨⟨x, 1099511627776⟩, cols⟩]
theorem set_last {T : Type} (l : List T) (t : T) (h : l ≠ []) : l.set (l.length - 1) t = l.dropLast ++ [t] := by
  have : l = l.dropLast ++ [l.getLast h] := (List.dropLast_concat_getLast h).symm
  rw [this, List.set_append_right _ _ (by simp)]
  simp
theorem getLast?_at {T : Type} (l : List T) {i : Nat} (hi : i < l.length) (e : i = l.length - 1) : l.getLast? = some l[i] := by
  rw [List.getLast?_eq_getElem?, ← e, List.getElem?_eq_getElem hi]
def an60 : Ann where
  res := fun | 11 => some ⟨false, [(true, [.str, .row 47 35, .sl, .sl, .sl])]⟩ | _ => none
  lend := fun _ => false
  sch := fun _ => .done
  lt := fun _ => []
  tup := tups

theorem vc60 (P : Program) (H : Heap) (sName : ByteArray) (sVersionsA : Option Addr) (sVersionsN sVersionsC : Nat) (sKeyA : Option Addr) (sKeyN sKeyC : Nat) (sForeignKeysA : Option Addr) (sForeignKeysN sForeignKeysC : Nat) (sConstraintsA : Option Addr) (sConstraintsN sConstraintsC : Nat) (columnsA : Option Addr) (columnsN columnsC : Nat) (at0 : Int) (post : ByteArray → Option Addr → Nat → Nat → Option Addr → Nat → Nat → Option Addr → Nat → Nat → Option Addr → Nat → Nat → Heap → Prop) :
  vcFn P tab an60 Try.f60 [.agg #[.string sName, .slice sVersionsA sVersionsN sVersionsC, .slice sKeyA sKeyN sKeyC, .slice sForeignKeysA sForeignKeysN sForeignKeysC, .slice sConstraintsA sConstraintsN sConstraintsC], .slice columnsA columnsN columnsC, .int .i64 at0] 1 H ⟨false, [(true, [.str, .sl, .sl, .sl, .sl])]⟩ post =
  (  ∃ (post0 : ByteArray → Nat → List Value → Option Addr → Nat → Nat → Option Addr → Nat → Nat → Option Addr → Nat → Nat → Heap → Prop), ConT P 56 [.agg ⟨[.string sName, .slice sVersionsA
  sVersionsN sVersionsC, .slice sKeyA sKeyN sKeyC, .slice sForeignKeysA sForeignKeysN sForeignKeysC, .slice sConstraintsA sConstraintsN sConstraintsC]⟩] H ⟨false, [(true, [.str, .row 47 35,
  .sl, .sl, .sl])]⟩ post0 ∧ ∀ (H1 : Heap), Heap.le H H1 → ∀ (s3 : ByteArray) (n4 : Nat) (xs5 : List Value) (A6 : Option Addr) (n7 c8 : Nat) (A9 : Option Addr) (n10 c11 : Nat) (A12 : Option
  Addr) (n13 c14 : Nat), post0 s3 n4 xs5 A6 n7 c8 A9 n10 c11 A12 n13 c14 H1 → rng .i64 ((↑n4 : Int) - (1 : Int)) ∧ (0 : Int) ≤ (↑n4 : Int) - (1 : Int) ∧ (↑n4 : Int) - (1 : Int) < (↑n4 : Int)
  ∧ ∃ (n16 : Int), win xs5 (Int.toNat ((↑n4 : Int) - (1 : Int)) * 3 + 0 + 0) 1 = [.int .i64 n16] ∧ (decide (n16 = at0) = true → Int.toNat ((↑n4 : Int) - (1 : Int)) * 3 + 2 + 1 ≤ List.length
  xs5 ∧ ∀ (A18 : Option Addr) (c19 : Nat) (H20 : Heap), Heap.le H1 H20 → Cells H20 A18 0 (splice xs5 (Int.toNat ((↑n4 : Int) - (1 : Int)) * 3 + 2) [.slice columnsA columnsN columnsC]) → n4 ≤
  c19 → post s3 A18 n4 c19 A6 n7 c8 A9 n10 c11 A12 n13 c14 H20) ∧ (decide (n16 = at0) = false → Int.toNat ((↑n4 : Int) - (1 : Int)) * 3 + 0 + 1 + 1 ≤ List.length xs5 ∧ (n4 + 1) * 40 ≤
  140737488355328 ∧ ∀ (A25 : Option Addr) (c26 : Nat) (H27 : Heap), Heap.le H1 H27 → Cells H27 A25 0 (splice xs5 (Int.toNat ((↑n4 : Int) - (1 : Int)) * 3 + 0 + 1) [.int .i64 at0] ++ [.int
  .i64 at0, .int .i64 (1099511627776 : Int), .slice columnsA columnsN columnsC]) → n4 + 1 ≤ c26 → post s3 A25 (n4 + 1) c26 A6 n7 c8 A9 n10 c11 A12 n13 c14 H27)) := by kernel_rfl
theorem schema_change {C : Option Addr} {p q : Nat} {cols : List Col} {x : Int} (hs : IsTSch H nm A n c B m d E k e F l f s) (hc : Sl H C p q cols) (hx : rng .i64 x) (hn : s.vers ≠ []) (hb : s.vers.length ≤ 3000000000000) :
    ConT Try.prog 60 [.agg ⟨[.string nm, .slice A n c, .slice B m d, .slice E k e, .slice F l f]⟩, .slice C p q, .int .i64 x] H shTS
      (fun nm' A' n' c' B' m' d' E' k' e' F' l' f' H' => IsTSch H' nm' A' n' c' B' m' d' E' k' e' F' l' f' { s with vers := changeVers s.vers cols x }) := by
  refine con_of_vc (an := an60) (fn := Try.f60) mix tabOK Try.func60 (by kernel_rfl) (extra := 1) ?_
  rw [vc60]
  refine ⟨_, schema_clone hs, ?_⟩
  rintro H1 l1 _ _ xs B1 m1 d1 E1 k1 e1 F1 l1' f1 ⟨rfl, rfl, hr, h1, h2, h3⟩
  have hlen : 0 < s.vers.length := List.length_pos_iff.2 hn
  have b1 := hs.vers.bn; have b2 := hs.vers.len
  have hi : ((s.vers.length : Int) - 1).toNat < s.vers.length := by omega
  have ei : ((s.vers.length : Int) - 1).toNat = s.vers.length - 1 := by omega
  have hlast := getLast?_at s.vers hi ei
  obtain ⟨vs, ⟨A', n', c', rfl, r1, r2, r3⟩, hw, hsp⟩ := hr.getf hi
  have hxl := hr.length
  have hxl : xs.length = s.vers.length * 3 := hxl
  have hset : ∀ t, s.vers.set ((s.vers.length : Int) - 1).toNat t = s.vers.dropLast ++ [t] := fun t => by rw [ei]; exact set_last _ _ hn
  refine ⟨by simp only [rng]; omega, by omega, by omega, _, hw 0 1 (by decide), fun he => ⟨by omega, ?_⟩, fun he => ⟨by omega, by omega, ?_⟩⟩
  · intro A2 c2 H2 l2 g2 hc2
    have he := of_decide_eq_true he
    have := hsp 2 [.slice C p q] ⟨s.vers[((s.vers.length : Int) - 1).toNat].rc, cols⟩ (Nat.le_of_ble_eq_true rfl) ⟨C, p, q, rfl, r1, r2, hc.mono l1⟩
    rw [hset] at this
    refine ⟨rfl, hs.str, ?_, h1.mono l2, h2.mono l2, h3.mono l2⟩
    simp only [changeVers, hlast]
    rw [if_pos he]
    exact this.sl l2 g2 (by simp; omega) hc2 (by show _ * 40 ≤ _; omega) (by omega)
  · intro A2 c2 H2 l2 g2 hc2
    have he := of_decide_eq_false he
    have := hsp 1 [.int .i64 x] ⟨⟨s.vers[((s.vers.length : Int) - 1).toNat].rc.lo, x⟩, s.vers[((s.vers.length : Int) - 1).toNat].cols⟩ (Nat.le_of_ble_eq_true rfl) ⟨A', n', c', rfl, r1, hx, r3⟩
    rw [hset] at this
    have := this.append (Row.one (t := (⟨⟨x, 1099511627776⟩, cols⟩ : Ver)) ⟨C, p, q, rfl, hx, by simp [rng], hc.mono l1⟩)
    refine ⟨rfl, hs.str, ?_, h1.mono l2, h2.mono l2, h3.mono l2⟩
    simp only [changeVers, hlast]
    rw [if_neg he]
    rw [List.append_assoc] at this
    exact this.sl l2 g2 (by simp; omega) hc2 (by show _ * 40 ≤ _; omega) (by omega)

def createSch (s : TSch) (x : Int) : TSch × Int :=
  if x < 0 ∨ 1099511627776 ≤ x then (sch0, 1)
  else if schemaValid s = false then (sch0, 18)
  else match s.vers with
    | [v] => if v.rc = ⟨0, 1099511627776⟩ then ({ s with vers := [⟨⟨x, v.rc.hi⟩, v.cols⟩] }, 0) else (sch0, 18)
    | _ => (sch0, 18)
def an27 : Ann where
  res := fun | 36 => some ⟨false, [(true, [.str, .row 44 35, .sl, .sl, .sl])]⟩ | _ => none
  lend := fun | 17 => true | _ => false
  sch := fun | 4 => (tk [0] (.alt 1 (tk [2, 3, 4, 5, 6, 7, 8, 9, 10, 11, 12, 13, 14, 15, 16, 17] .done) .fin)) | _ => .done
  lt := fun _ => []
  tup := tups

theorem vc27 (P : Program) (H : Heap) (sName : ByteArray) (sVersionsA : Option Addr) (sVersionsN sVersionsC : Nat) (sKeyA : Option Addr) (sKeyN sKeyC : Nat) (sForeignKeysA : Option Addr) (sForeignKeysN sForeignKeysC : Nat) (sConstraintsA : Option Addr) (sConstraintsN sConstraintsC : Nat) (at0 : Int) (post : ByteArray → Option Addr → Nat → Nat → Option Addr → Nat → Nat → Option Addr → Nat → Nat → Option Addr → Nat → Nat → Int → Heap → Prop) :
  vcFn P tab an27 Try.f27 [.agg #[.string sName, .slice sVersionsA sVersionsN sVersionsC, .slice sKeyA sKeyN sKeyC, .slice sForeignKeysA sForeignKeysN sForeignKeysC, .slice sConstraintsA sConstraintsN sConstraintsC], .int .i64 at0] 1 H ⟨true, [(true, [.str, .sl, .sl, .sl, .sl]), (false, [.int .i64])]⟩ post =
  (  (decide (at0 < (0 : Int)) = true → post ⟨⟨[]⟩⟩ none 0 0 none 0 0 none 0 0 none 0 0 (1 : Int) H) ∧ (decide (at0 < (0 : Int)) = false → (decide ((1099511627776 : Int) ≤ at0) = true → post
  ⟨⟨[]⟩⟩ none 0 0 none 0 0 none 0 0 none 0 0 (1 : Int) H) ∧ (decide ((1099511627776 : Int) ≤ at0) = false → ∃ (post4 : Bool → Heap → Prop), ConT P 17 [.agg ⟨[.string sName, .slice sVersionsA
  sVersionsN sVersionsC, .slice sKeyA sKeyN sKeyC, .slice sForeignKeysA sForeignKeysN sForeignKeysC, .slice sConstraintsA sConstraintsN sConstraintsC]⟩] H ⟨false, [(false, [.bool])]⟩ post4 ∧
  ∀ (H5 : Heap), Heap.le H H5 → ∀ (b7 : Bool), post4 b7 H5 → ((!b7) = true → post ⟨⟨[]⟩⟩ none 0 0 none 0 0 none 0 0 none 0 0 (18 : Int) H5) ∧ ((!b7) = false → ((!decide ((↑sVersionsN : Int) =
  (1 : Int))) = true → post ⟨⟨[]⟩⟩ none 0 0 none 0 0 none 0 0 none 0 0 (18 : Int) H5) ∧ ((!decide ((↑sVersionsN : Int) = (1 : Int))) = false → someA sVersionsA ∧ (0 : Int) ≤ (0 : Int) ∧ (0 :
  Int) < (↑sVersionsN : Int) ∧ ∃ (n13 : Int), ∃ (n14 : Int), Cells H5 sVersionsA (Int.toNat (0 : Int) * 3 + 0) [.int .i64 n13, .int .i64 n14] ∧ ((!(decide (n13 = (0 : Int)) && decide (n14 =
  (1099511627776 : Int)))) = true → post ⟨⟨[]⟩⟩ none 0 0 none 0 0 none 0 0 none 0 0 (18 : Int) H5) ∧ ((!(decide (n13 = (0 : Int)) && decide (n14 = (1099511627776 : Int)))) = false → ∃ (post17
  : ByteArray → Nat → List Value → Option Addr → Nat → Nat → Option Addr → Nat → Nat → Option Addr → Nat → Nat → Heap → Prop), ConT P 56 [.agg ⟨[.string sName, .slice sVersionsA sVersionsN
  sVersionsC, .slice sKeyA sKeyN sKeyC, .slice sForeignKeysA sForeignKeysN sForeignKeysC, .slice sConstraintsA sConstraintsN sConstraintsC]⟩] H5 ⟨false, [(true, [.str, .row 44 35, .sl, .sl,
  .sl])]⟩ post17 ∧ ∀ (H18 : Heap), Heap.le H5 H18 → ∀ (s20 : ByteArray) (n21 : Nat) (xs22 : List Value) (A23 : Option Addr) (n24 c25 : Nat) (A26 : Option Addr) (n27 c28 : Nat) (A29 : Option
  Addr) (n30 c31 : Nat), post17 s20 n21 xs22 A23 n24 c25 A26 n27 c28 A29 n30 c31 H18 → (0 : Int) ≤ (0 : Int) ∧ (0 : Int) < (↑n21 : Int) ∧ Int.toNat (0 : Int) * 3 + 0 + 0 + 1 ≤ List.length
  xs22 ∧ ∀ (A33 : Option Addr) (c34 : Nat) (H35 : Heap), Heap.le H18 H35 → Cells H35 A33 0 (splice xs22 (Int.toNat (0 : Int) * 3 + 0 + 0) [.int .i64 at0]) → n21 ≤ c34 → post s20 A33 n21 c34
  A23 n24 c25 A26 n27 c28 A29 n30 c31 (0 : Int) H35)))))) := by kernel_rfl
theorem schema_Create {x : Int} (hs : IsTSch H nm A n c B m d E k e F l f s) :
    ConT Try.prog 27 [.agg ⟨[.string nm, .slice A n c, .slice B m d, .slice E k e, .slice F l f]⟩, .int .i64 x] H shTSI
      (fun nm' A' n' c' B' m' d' E' k' e' F' l' f' r H' => IsTSch H' nm' A' n' c' B' m' d' E' k' e' F' l' f' (createSch s x).1 ∧ r = (createSch s x).2) := by
  refine con_of_vc (an := an27) (fn := Try.f27) mix tabOK Try.func27 (by kernel_rfl) (extra := 1) ?_
  rw [vc27]
  unfold createSch
  have b1 := hs.vers.bn; have b2 := hs.vers.len
  refine ⟨fun h => ?_, fun h => ⟨fun h' => ?_, fun h' => ⟨_, schema_Validate hs, ?_⟩⟩⟩
  · rw [if_pos (.inl (of_decide_eq_true h))]; exact ⟨is_sch0, rfl⟩
  · rw [if_pos (.inr (of_decide_eq_true h'))]; exact ⟨is_sch0, rfl⟩
  have h := of_decide_eq_false h; have h' := of_decide_eq_false h'
  rw [if_neg (by omega)]
  rintro H1 l1 _ rfl
  refine ⟨fun hf => ?_, fun ht => ?_⟩
  · simp only [Bool.not_eq_true'] at hf
    rw [if_pos hf]; exact ⟨is_sch0, rfl⟩
  simp only [Bool.not_eq_false'] at ht
  rw [if_neg (by simp [ht])]
  refine ⟨fun hl => ?_, fun hl => ?_⟩
  · have hl : ¬ s.vers.length = 1 := by simp at hl; omega
    have : ∀ v, s.vers ≠ [v] := fun v e => hl (by rw [e]; rfl)
    split
    · rename_i v hv; exact absurd hv (this v)
    · exact ⟨is_sch0, rfl⟩
  have hl : s.vers.length = 1 := by simp at hl; omega
  match hv : s.vers, hl with
  | [v], _ =>
    obtain ⟨hi, hA, _, hcc, hrel⟩ := hs.vers.at l1 (i := 0) (by omega) (by omega)
    have e0 : s.vers[(0 : Int).toNat] = v := by simp [hv]
    rw [e0] at hrel
    obtain ⟨A1, n1, c1, rfl, r1, r2, r3⟩ := hrel
    refine ⟨hA, by omega, by omega, _, _, hcc.at2 (k := 0) rfl rfl, fun hf => ?_, fun hp => ?_⟩
    · dsimp only
      rw [if_neg (fun hh => by rw [hh] at hf; simp at hf)]
      exact ⟨is_sch0, rfl⟩
    · have hp : v.rc = ⟨0, 1099511627776⟩ := by
        generalize v.rc = z at hp
        cases z; simp at hp; simp [hp]
      dsimp only
      rw [if_pos hp]
      refine ⟨_, schema_clone (hs.mono l1), ?_⟩
      rintro H2 l2 _ _ xs B1 m1 d1 E1 k1 e1 F1 l1' f1 ⟨rfl, rfl, hr, h1, h2, h3⟩
      rw [hv] at hr
      have hxl : xs.length = 1 * 3 := hr.length
      have hi : (0 : Int).toNat < [v].length := by simp
      obtain ⟨vs, hrel, hw, hsp⟩ := hr.getf hi
      obtain ⟨A2, n2, c2, rfl, q1, q2, q3⟩ := hrel
      refine ⟨by omega, by rw [hv]; simp, by rw [hxl]; simp, ?_⟩
      intro A3 c3 H3 l3 g3 hc3
      have := hsp 0 [.int .i64 x] ⟨⟨x, v.rc.hi⟩, v.cols⟩ (Nat.le_of_ble_eq_true rfl) ⟨A2, n2, c2, rfl, by simp only [rng]; omega, q2, q3⟩
      refine ⟨⟨rfl, hs.str, ?_, h1.mono l3, h2.mono l3, h3.mono l3⟩, rfl⟩
      exact Row.sl (l := [(⟨⟨x, v.rc.hi⟩, v.cols⟩ : Ver)]) this l3 g3 (by simp [hv]) hc3 (by rw [hv]; show 1 * 40 ≤ _; omega) (by rw [hv]; simp)
def changeable (s : TSch) (x : Int) : Bool := schemaValid s && (match s.vers.getLast? with | none => false | some v => decide (v.rc.lo ≤ x)) && decide (x < 1099511627776)
theorem schemaValid_ne {s : TSch} (h : schemaValid s = true) : s.vers ≠ [] := by
  intro e
  simp [schemaValid, validPeriods, lastHi, e] at h
theorem schemaValid_cols {s : TSch} (h : schemaValid s = true) {v : Ver} (hv : v ∈ s.vers) : v.cols.length ≤ 12 ∧ 1 ≤ v.cols.length := by
  simp only [schemaValid, Bool.and_eq_true] at h
  obtain ⟨⟨⟨⟨⟨⟨_, h⟩, _⟩, _⟩, _⟩, _⟩, _⟩ := h
  have := List.all_eq_true.1 h v hv
  simp only [validColumns, Bool.and_eq_true, decide_eq_true_eq] at this
  omega
def an57 : Ann where
  res := fun _ => none
  lend := fun | 6 => true | _ => false
  sch := fun _ => .done
  lt := fun _ => []
  tup := tups

theorem vc57 (P : Program) (H : Heap) (sName : ByteArray) (sVersionsA : Option Addr) (sVersionsN sVersionsC : Nat) (sKeyA : Option Addr) (sKeyN sKeyC : Nat) (sForeignKeysA : Option Addr) (sForeignKeysN sForeignKeysC : Nat) (sConstraintsA : Option Addr) (sConstraintsN sConstraintsC : Nat) (at0 : Int) (post : Bool → Heap → Prop) :
  vcFn P tab an57 Try.f57 [.agg #[.string sName, .slice sVersionsA sVersionsN sVersionsC, .slice sKeyA sKeyN sKeyC, .slice sForeignKeysA sForeignKeysN sForeignKeysC, .slice sConstraintsA sConstraintsN sConstraintsC], .int .i64 at0] 0 H ⟨false, [(false, [.bool])]⟩ post =
  (  ∃ (post0 : Bool → Heap → Prop), ConT P 17 [.agg ⟨[.string sName, .slice sVersionsA sVersionsN sVersionsC, .slice sKeyA sKeyN sKeyC, .slice sForeignKeysA sForeignKeysN sForeignKeysC, .slice
  sConstraintsA sConstraintsN sConstraintsC]⟩] H ⟨false, [(false, [.bool])]⟩ post0 ∧ ∀ (H1 : Heap), Heap.le H H1 → ∀ (b3 : Bool), post0 b3 H1 → (b3 = true → rng .i64 ((↑sVersionsN : Int) - (1
  : Int)) ∧ someA sVersionsA ∧ (0 : Int) ≤ (↑sVersionsN : Int) - (1 : Int) ∧ (↑sVersionsN : Int) - (1 : Int) < (↑sVersionsN : Int) ∧ ∃ (n6 : Int), Cells H1 sVersionsA (Int.toNat ((↑sVersionsN
  : Int) - (1 : Int)) * 3 + 0 + 0) [.int .i64 n6] ∧ (decide (n6 ≤ at0) = true → post (decide (at0 < (1099511627776 : Int))) H1) ∧ (decide (n6 ≤ at0) = false → post false H1)) ∧ (b3 = false →
  post false H1)) := by kernel_rfl
theorem schema_changeable {x : Int} (hs : IsTSch H nm A n c B m d E k e F l f s) :
    ConT Try.prog 57 [.agg ⟨[.string nm, .slice A n c, .slice B m d, .slice E k e, .slice F l f]⟩, .int .i64 x] H shB (fun r _ => r = changeable s x) := by
  refine con_of_vc (an := an57) (fn := Try.f57) mix tabOK Try.func57 (by kernel_rfl) (extra := 0) ?_
  rw [vc57]
  have b1 := hs.vers.bn; have b2 := hs.vers.len
  refine ⟨_, schema_Validate hs, ?_⟩
  rintro H1 l1 _ rfl
  unfold changeable
  refine ⟨fun ht => ?_, fun hf => by rw [hf]; rfl⟩
  have hlen : 0 < s.vers.length := List.length_pos_iff.2 (schemaValid_ne ht)
  obtain ⟨hi, hA, _, hcc, ⟨A1, n1, c1, rfl, r1, r2, r3⟩⟩ := hs.vers.at l1 (i := (n : Int) - 1) (by omega) (by omega)
  have hlast := getLast?_at s.vers hi (by omega)
  rw [ht, hlast]
  refine ⟨by simp only [rng]; omega, hA, by omega, by omega, _, hcc.at1 (k := 0) rfl, fun h => ?_, fun h => ?_⟩
  · simp only [Bool.true_and, h]
  · simp only [Bool.true_and, h]; rfl
def addCol (s : TSch) (c : Col) (x : Int) : TSch × Int :=
  if changeable s x = false then (sch0, 1)
  else if columnName c.name = false then (sch0, 8)
  else if columnKind c.kind = false then (sch0, 7)
  else match s.vers.getLast? with
    | none => (sch0, 1)
    | some v => if (v.cols.any fun o => decide (o.name = c.name)) = true then (sch0, 9)
      else if width s = 12 then (sch0, 12)
      else ({ s with vers := changeVers s.vers (v.cols ++ [⟨width s + 1, c.name, c.kind⟩]) x }, 0)
def an29 : Ann where
  res := fun | 54 => some ⟨false, [(false, [.row 60 51])]⟩ | _ => none
  lend := fun | 12 => true | 24 => true | 28 => true | 34 => true | 41 => true | _ => false
  sch := fun | 14 => (tk [0, 1, 2, 4, 7] (.alt 3 (.alt 5 (.alt 6 (.alt 8 (.alt 9 (tk [10] .done) .fin) .fin) .fin) .fin) (.alt 5 (.alt 3 (.alt 6 (.alt 8 (.alt 9 (tk [10] .done) .fin) .fin) .fin) .fin) .fin))) | _ => .done
  lt := fun _ => []
  tup := tups

theorem vc29 (P : Program) (H : Heap) (sName : ByteArray) (sVersionsA : Option Addr) (sVersionsN sVersionsC : Nat) (sKeyA : Option Addr) (sKeyN sKeyC : Nat) (sForeignKeysA : Option Addr) (sForeignKeysN sForeignKeysC : Nat) (sConstraintsA : Option Addr) (sConstraintsN sConstraintsC : Nat) (cID : Int) (cName : ByteArray) (cKind : Int) (at0 : Int) (post : ByteArray → Option Addr → Nat → Nat → Option Addr → Nat → Nat → Option Addr → Nat → Nat → Option Addr → Nat → Nat → Int → Heap → Prop) :
  vcFn P tab an29 Try.f29 [.agg #[.string sName, .slice sVersionsA sVersionsN sVersionsC, .slice sKeyA sKeyN sKeyC, .slice sForeignKeysA sForeignKeysN sForeignKeysC, .slice sConstraintsA sConstraintsN sConstraintsC], .agg #[.int .i64 cID, .string cName, .int .i64 cKind], .int .i64 at0] 1 H ⟨true, [(true, [.str, .sl, .sl, .sl, .sl]), (false, [.int .i64])]⟩ post =
  (  ∃ (post0 : Bool → Heap → Prop), ConT P 57 [.agg ⟨[.string sName, .slice sVersionsA sVersionsN sVersionsC, .slice sKeyA sKeyN sKeyC, .slice sForeignKeysA sForeignKeysN sForeignKeysC, .slice
  sConstraintsA sConstraintsN sConstraintsC]⟩, .int .i64 at0] H ⟨false, [(false, [.bool])]⟩ post0 ∧ ∀ (H1 : Heap), Heap.le H H1 → ∀ (b3 : Bool), post0 b3 H1 → ((!b3) = true → post ⟨⟨[]⟩⟩ none
  0 0 none 0 0 none 0 0 none 0 0 (1 : Int) H1) ∧ ((!b3) = false → rng .i64 ((↑sVersionsN : Int) - (1 : Int)) ∧ someA sVersionsA ∧ (0 : Int) ≤ (↑sVersionsN : Int) - (1 : Int) ∧ (↑sVersionsN :
  Int) - (1 : Int) < (↑sVersionsN : Int) ∧ ∃ (n7 : Int), ∃ (n8 : Int), ∃ (A9 : Option Addr), ∃ (n10 : Nat), ∃ (c11 : Nat), Cells H1 sVersionsA (Int.toNat ((↑sVersionsN : Int) - (1 : Int)) *
  3) [.int .i64 n7, .int .i64 n8, .slice A9 n10 c11] ∧ ∃ (post12 : Int → Heap → Prop), ConT P 20 [.agg ⟨[.string sName, .slice sVersionsA sVersionsN sVersionsC, .slice sKeyA sKeyN sKeyC,
  .slice sForeignKeysA sForeignKeysN sForeignKeysC, .slice sConstraintsA sConstraintsN sConstraintsC]⟩] H1 ⟨false, [(false, [.int .i64])]⟩ post12 ∧ ∀ (H13 : Heap), Heap.le H1 H13 → ∀ (n15 :
  Int), post12 n15 H13 → ∃ (post17 : Bool → Heap → Prop), ConT P 58 [.string cName] H13 ⟨false, [(false, [.bool])]⟩ post17 ∧ ∀ (H18 : Heap), Heap.le H13 H18 → ∀ (b20 : Bool), post17 b20 H18 →
  ((!b20) = true → post ⟨⟨[]⟩⟩ none 0 0 none 0 0 none 0 0 none 0 0 (8 : Int) H18) ∧ ((!b20) = false → ∃ (post24 : Bool → Heap → Prop), ConT P 59 [.int .i64 cKind] H18 ⟨false, [(false,
  [.bool])]⟩ post24 ∧ ∀ (H25 : Heap), Heap.le H18 H25 → ∀ (b27 : Bool), post24 b27 H25 → ((!b27) = true → post ⟨⟨[]⟩⟩ none 0 0 none 0 0 none 0 0 none 0 0 (7 : Int) H25) ∧ ((!b27) = false → ∃
  (post31 : Int → Heap → Prop), ConT P 15 [.agg ⟨[.int .i64 n7, .int .i64 n8, .slice A9 n10 c11]⟩, .string cName] H25 ⟨false, [(false, [.int .i64])]⟩ post31 ∧ ∀ (H32 : Heap), Heap.le H25 H32
  → ∀ (n34 : Int), post31 n34 H32 → (decide ((0 : Int) ≤ n34) = true → post ⟨⟨[]⟩⟩ none 0 0 none 0 0 none 0 0 none 0 0 (9 : Int) H32) ∧ (decide ((0 : Int) ≤ n34) = false → (decide (n15 = (12
  : Int)) = true → post ⟨⟨[]⟩⟩ none 0 0 none 0 0 none 0 0 none 0 0 (12 : Int) H32) ∧ (decide (n15 = (12 : Int)) = false → rng .i64 (n15 + (1 : Int)) ∧ (∃ (post40 : Nat → List Value → Heap →
  Prop), ConT P 61 [.slice A9 n10 c11] H32 ⟨false, [(false, [.row 60 51])]⟩ post40 ∧ ∀ (H41 : Heap), Heap.le H32 H41 → ∀ (n43 : Nat) (xs44 : List Value), post40 n43 xs44 H41 → (n43 + 1) * 32
  ≤ 140737488355328 ∧ ∀ (A46 : Option Addr) (c47 : Nat) (H48 : Heap), Heap.le H41 H48 → Cells H48 A46 0 (xs44 ++ [.int .i64 (n15 + (1 : Int)), .string cName, .int .i64 cKind]) → n43 + 1 ≤ c47
  → ∃ (post52 : ByteArray → Option Addr → Nat → Nat → Option Addr → Nat → Nat → Option Addr → Nat → Nat → Option Addr → Nat → Nat → Heap → Prop), ConT P 60 [.agg ⟨[.string sName, .slice
  sVersionsA sVersionsN sVersionsC, .slice sKeyA sKeyN sKeyC, .slice sForeignKeysA sForeignKeysN sForeignKeysC, .slice sConstraintsA sConstraintsN sConstraintsC]⟩, .slice A46 (n43 + 1) c47,
  .int .i64 at0] H48 ⟨false, [(true, [.str, .sl, .sl, .sl, .sl])]⟩ post52 ∧ ∀ (H53 : Heap), Heap.le H48 H53 → ∀ (s55 : ByteArray) (A56 : Option Addr) (n57 c58 : Nat) (A59 : Option Addr) (n60
  c61 : Nat) (A62 : Option Addr) (n63 c64 : Nat) (A65 : Option Addr) (n66 c67 : Nat), post52 s55 A56 n57 c58 A59 n60 c61 A62 n63 c64 A65 n66 c67 H53 → post s55 A56 n57 c58 A59 n60 c61 A62 n63
  c64 A65 n66 c67 (0 : Int) H53) ∧ ∃ (post69 : Nat → List Value → Heap → Prop), ConT P 61 [.slice A9 n10 c11] H32 ⟨false, [(false, [.row 60 51])]⟩ post69 ∧ ∀ (H70 : Heap), Heap.le H32 H70 → ∀
  (n72 : Nat) (xs73 : List Value), post69 n72 xs73 H70 → (n72 + 1) * 32 ≤ 140737488355328 ∧ ∀ (A75 : Option Addr) (c76 : Nat) (H77 : Heap), Heap.le H70 H77 → Cells H77 A75 0 (xs73 ++ [.int
  .i64 (n15 + (1 : Int)), .string cName, .int .i64 cKind]) → n72 + 1 ≤ c76 → ∃ (post81 : ByteArray → Option Addr → Nat → Nat → Option Addr → Nat → Nat → Option Addr → Nat → Nat → Option Addr
  → Nat → Nat → Heap → Prop), ConT P 60 [.agg ⟨[.string sName, .slice sVersionsA sVersionsN sVersionsC, .slice sKeyA sKeyN sKeyC, .slice sForeignKeysA sForeignKeysN sForeignKeysC, .slice
  sConstraintsA sConstraintsN sConstraintsC]⟩, .slice A75 (n72 + 1) c76, .int .i64 at0] H77 ⟨false, [(true, [.str, .sl, .sl, .sl, .sl])]⟩ post81 ∧ ∀ (H82 : Heap), Heap.le H77 H82 → ∀ (s84 :
  ByteArray) (A85 : Option Addr) (n86 c87 : Nat) (A88 : Option Addr) (n89 c90 : Nat) (A91 : Option Addr) (n92 c93 : Nat) (A94 : Option Addr) (n95 c96 : Nat), post81 s84 A85 n86 c87 A88 n89
  c90 A91 n92 c93 A94 n95 c96 H82 → post s84 A85 n86 c87 A88 n89 c90 A91 n92 c93 A94 n95 c96 (0 : Int) H82)))))) := by kernel_rfl
set_option maxHeartbeats 1000000 in
theorem schema_AddColumn {x a b : Int} {u : ByteArray} (hs : IsTSch H nm A n c B m d E k e F l f s) (hu : str u) (hb : rng .i64 b) (hx : rng .i64 x) (hlim : s.vers.length ≤ 3000000000000) :
    ConT Try.prog 29 [.agg ⟨[.string nm, .slice A n c, .slice B m d, .slice E k e, .slice F l f]⟩, .agg ⟨[.int .i64 a, .string u, .int .i64 b]⟩, .int .i64 x] H shTSI
      (fun nm' A' n' c' B' m' d' E' k' e' F' l' f' r H' => IsTSch H' nm' A' n' c' B' m' d' E' k' e' F' l' f' (addCol s ⟨a, u, b⟩ x).1 ∧ r = (addCol s ⟨a, u, b⟩ x).2) := by
  refine con_of_vc (an := an29) (fn := Try.f29) mix tabOK Try.func29 (by kernel_rfl) (extra := 1) ?_
  rw [vc29]
  have b1 := hs.vers.bn; have b2 := hs.vers.len
  unfold addCol
  refine ⟨_, schema_changeable hs, ?_⟩
  rintro H1 l1 _ rfl
  refine ⟨fun hf => ?_, fun ht => ?_⟩
  · simp only [Bool.not_eq_true'] at hf
    rw [if_pos hf]; exact ⟨is_sch0, rfl⟩
  simp only [Bool.not_eq_false'] at ht
  rw [if_neg (by simp [ht])]
  have hval : schemaValid s = true := by simp only [changeable, Bool.and_eq_true] at ht; exact ht.1.1
  have hlen : 0 < s.vers.length := List.length_pos_iff.2 (schemaValid_ne hval)
  obtain ⟨hi, hA, _, hcc, ⟨A1, n1, c1, rfl, r1, r2, r3⟩⟩ := hs.vers.at l1 (i := (n : Int) - 1) (by omega) (by omega)
  have hlast := getLast?_at s.vers hi (by omega)
  have hcols := schemaValid_cols hval (List.getElem_mem hi)
  rw [hlast]
  dsimp only
  generalize s.vers[((n : Int) - 1).toNat] = v at hcc r1 r2 r3 hcols hlast
  have d1 := r3.len; have d2 := r3.bn
  refine ⟨by simp only [rng]; omega, hA, by omega, by omega, _, _, _, _, _, hcc, _, schema_Width (hs.mono l1), ?_⟩
  rintro H2 l2 _ ⟨rfl, hw⟩
  refine ⟨_, schema_columnName, ?_⟩
  rintro H3 l3 _ rfl
  refine ⟨fun hf => ?_, fun h1 => ⟨_, schema_columnKind, ?_⟩⟩
  · simp only [Bool.not_eq_true'] at hf
    rw [if_pos hf]; exact ⟨is_sch0, rfl⟩
  simp only [Bool.not_eq_false'] at h1
  rw [if_neg (by simp [h1])]
  rintro H4 l4 _ rfl
  refine ⟨fun hf => ?_, fun h2 => ?_⟩
  · simp only [Bool.not_eq_true'] at hf
    rw [if_pos hf]; exact ⟨is_sch0, rfl⟩
  simp only [Bool.not_eq_false'] at h2
  rw [if_neg (by simp [h2])]
  have L4 := hle_trans l2 (hle_trans l3 l4)
  refine ⟨_, schema_Index (r3.mono L4), ?_⟩
  rintro H5 l5 _ rfl
  rw [decide_eq_true_eq, decide_eq_false_iff_not, idxOf_ge _ _ _ (by omega)]
  refine ⟨fun h => ?_, fun h3 => ⟨fun h => ?_, fun h4 => ?_⟩⟩
  · rw [if_pos h]; exact ⟨is_sch0, rfl⟩
  · rw [if_neg h3, if_pos (of_decide_eq_true h)]; exact ⟨is_sch0, rfl⟩
  have h4 := of_decide_eq_false h4
  rw [if_neg h3, if_neg h4]
  have hwid : rng .i64 (width s + 1) := by
    have hmax : width s ≤ 12 := by
      have hall : ∀ v ∈ s.vers, ∀ c ∈ v.cols, c.id ≤ 12 := fun v hv c hc => (goodIDs_of (by simp only [schemaValid, Bool.and_eq_true] at hval; exact hval.1.1.1.1.1.2) v hv c hc).2
      have w1 : ∀ (l : List Col) (w : Int), w ≤ 12 → (∀ c ∈ l, c.id ≤ 12) → widthCols w l ≤ 12 := by
        intro l; induction l with
        | nil => intro w hw _; exact hw
        | cons c r ih => intro w hw hc; exact ih _ (by have := hc c (by simp); omega) (fun c h => hc c (by simp [h]))
      have w2 : ∀ (l : List Ver) (w : Int), w ≤ 12 → (∀ v ∈ l, ∀ c ∈ v.cols, c.id ≤ 12) → widthGo w l ≤ 12 := by
        intro l; induction l with
        | nil => intro w hw _; exact hw
        | cons v r ih => intro w hw hc; exact ih _ (w1 _ _ hw (hc v (by simp))) (fun v h => hc v (by simp [h]))
      exact w2 _ _ (by omega) hall
    simp only [rng] at hw ⊢; omega
  have key : ∃ post : Nat → List Value → Heap → Prop, ConT Try.prog 61 [.slice A1 n1 c1] H5 ⟨false, [(false, [.row 60 51])]⟩ post ∧ ∀ (H41 : Heap), Heap.le H5 H41 → ∀ (n43 : Nat) (xs44 : List Value), post n43 xs44 H41 →
      (n43 + 1) * 32 ≤ 140737488355328 ∧ ∀ (A46 : Option Addr) (c47 : Nat) (H48 : Heap), Heap.le H41 H48 → Cells H48 A46 0 (xs44 ++ [.int .i64 (width s + 1), .string u, .int .i64 b]) → n43 + 1 ≤ c47 →
        ∃ (post52 : ByteArray → Option Addr → Nat → Nat → Option Addr → Nat → Nat → Option Addr → Nat → Nat → Option Addr → Nat → Nat → Heap → Prop), ConT Try.prog 60 [.agg ⟨[.string nm, .slice A n c, .slice B m d, .slice E k e, .slice F l f]⟩, .slice A46 (n43 + 1) c47, .int .i64 x] H48 shTS post52 ∧
          ∀ (H53 : Heap), Heap.le H48 H53 → ∀ (s55 : ByteArray) (A56 : Option Addr) (n57 c58 : Nat) (A59 : Option Addr) (n60 c61 : Nat) (A62 : Option Addr) (n63 c64 : Nat) (A65 : Option Addr) (n66 c67 : Nat), post52 s55 A56 n57 c58 A59 n60 c61 A62 n63 c64 A65 n66 c67 H53 →
            IsTSch H53 s55 A56 n57 c58 A59 n60 c61 A62 n63 c64 A65 n66 c67 { s with vers := changeVers s.vers (v.cols ++ [⟨width s + 1, u, b⟩]) x } ∧ (0 : Int) = 0 := by
    refine ⟨_, Clone_Col_row (r3.mono (hle_trans L4 l5)), ?_⟩
    rintro H6 l6 n9 xs ⟨hn9, hr⟩
    obtain rfl : n1 = n9 := hn9.symm
    refine ⟨by omega, ?_⟩
    intro A7 c7 H7 l7 g7 hc7
    have L7 := hle_trans l1 (hle_trans L4 (hle_trans l5 (hle_trans l6 l7)))
    have hsl : Sl H7 A7 (n1 + 1) c7 (v.cols ++ [⟨width s + 1, u, b⟩]) := (hr.append (Row.one (t := (⟨width s + 1, u, b⟩ : Col)) ⟨rfl, hwid, hu, hb⟩)).sl l7 g7 (by simp [d1]) hc7 (by show _ * 32 ≤ _; omega) (by omega)
    refine ⟨_, schema_change (hs.mono L7) hsl hx (schemaValid_ne hval) hlim, ?_⟩
    intro H8 l8 _ _ _ _ _ _ _ _ _ _ _ _ _ h
    exact ⟨h, rfl⟩
  exact ⟨hwid, key, key⟩
end
end Go.Vc

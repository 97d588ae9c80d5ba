/- The reference's Validate; small schemas. -/
import Derived.Test.YthbapbapcnafhaaR2
set_option linter.unusedSectionVars false
set_option linter.unusedSimpArgs false
set_option linter.unusedVariables false
namespace Go.Vc
open Go Go.Proofs
def refGo : Option Ver → Int → List Ver → Bool
  | _, _, [] => true
  | p, g, v :: r => rver v && (match p with | none => true | some a => follows a v g) && refGo (some v) (widthCols g v.cols) r
theorem refGo_cons (p : Option Ver) (g : Int) (v : Ver) (r : List Ver) : refGo p g (v :: r) = (rver v && (match p with | none => true | some a => follows a v g) && refGo (some v) (widthCols g v.cols) r) := by cases p <;> rfl
def inIDs (l : List Int) : Bool := l.all fun x => decide (1 ≤ x) && decide (x ≤ 12)
def rfk (l : List Ver) (f : FKey) : Bool := decide (f.cols.length ≠ 0) && distinct f.cols && permanent l f.cols && validName f.table && decide (f.refs.length = f.cols.length) && distinct f.refs && inIDs f.refs
def rcst (l : List Ver) (f : Cst) : Bool := (decide (f.kind = 1) || decide (f.kind = 2)) && decide (f.cols.length ≠ 0) && distinct f.cols && permanent l f.cols
def refValid (s : TSch) : Bool := validName s.name && lastHi s.vers && refGo none 0 s.vers && distinct s.key && permanent s.vers s.key && decide (s.fks.length ≤ 4) && decide (s.csts.length ≤ 4) && (s.fks.all (rfk s.vers)) && (s.csts.all (rcst s.vers))
section
variable {H : Heap} {nm : ByteArray} {A : Option Addr} {n c : Nat} {B : Option Addr} {m d : Nat} {E : Option Addr} {k e : Nat} {F : Option Addr} {l f : Nat} {s : TSch}
def an18 : Ann where
  res := fun _ => none
  lend := fun | 13 => true | 46 => true | 64 => true | 93 => true | 99 => true | 133 => true | 140 => true | 146 => true | 161 => true | 214 => true | 221 => true | _ => false
  sch := fun | 7 => (tk [0, 1, 2, 3, 4] (.alt 5 (tk [6, 7, 8, 9, 10, 11, 12, 13, 14, 15, 16, 17, 18, 19, 20, 21, 22] (.alt 23 (tk [24, 25, 26] .done) .fin)) .fin)) | _ => .done
  lt := fun | 5 => [.slot 3 false [.int .i64], .slot 4 false [.int .i64]] | 10 => [.slot 3 false [.int .i64], .slot 5 false [.int .i64]] | 16 => [.slot 6 false [.int .i64]] | 22 => [.slot 8 false [.int .i64]] | 27 => [.slot 9 false [.int .i64]] | _ => []
  tup := tups

theorem vc18 (P : Program) (H : Heap) (sName : ByteArray) (sVersionsA : Option Addr) (sVersionsN sVersionsC : Nat) (sKeyA : Option Addr) (sKeyN sKeyC : Nat) (sForeignKeysA : Option Addr) (sForeignKeysN sForeignKeysC : Nat) (sConstraintsA : Option Addr) (sConstraintsN sConstraintsC : Nat) (post : Bool → Heap → Prop) :
  vcFn P tab an18 Try.f18 [.agg #[.string sName, .slice sVersionsA sVersionsN sVersionsC, .slice sKeyA sKeyN sKeyC, .slice sForeignKeysA sForeignKeysN sForeignKeysC, .slice sConstraintsA sConstraintsN sConstraintsC]] 0 H ⟨false, [(false, [.bool])]⟩ post =
  (  ∃ (post0 : Bool → Heap → Prop), ConT P 11 [.string sName] H ⟨false, [(false, [.bool])]⟩ post0 ∧ ∀ (H1 : Heap), Heap.le H H1 → ∀ (b3 : Bool), post0 b3 H1 → ((!b3) = true → post false H1) ∧
  ((!b3) = false → (decide ((↑sVersionsN : Int) = (0 : Int)) = true → post false H1) ∧ (decide ((↑sVersionsN : Int) = (0 : Int)) = false → rng .i64 ((↑sVersionsN : Int) - (1 : Int)) ∧ someA
  sVersionsA ∧ (0 : Int) ≤ (↑sVersionsN : Int) - (1 : Int) ∧ (↑sVersionsN : Int) - (1 : Int) < (↑sVersionsN : Int) ∧ ∃ (n9 : Int), Cells H1 sVersionsA (Int.toNat ((↑sVersionsN : Int) - (1 :
  Int)) * 3 + 0 + 1) [.int .i64 n9] ∧ ((!decide (n9 = (1099511627776 : Int))) = true → post false H1) ∧ ((!decide (n9 = (1099511627776 : Int))) = false → ∃ (inv12 : Int → Int → Heap → Prop),
  ∃ (m13 : Int → Int → Nat), inv12 (0 : Int) (0 : Int) H1 ∧ ∀ (H14 : Heap), Heap.le H1 H14 → ∀ (n16 n17 : Int), inv12 n16 n17 H14 → (decide (n17 < (↑sVersionsN : Int)) = true → someA
  sVersionsA ∧ (0 : Int) ≤ n17 ∧ n17 < (↑sVersionsN : Int) ∧ ∃ (n20 : Int), ∃ (n21 : Int), ∃ (A22 : Option Addr), ∃ (n23 : Nat), ∃ (c24 : Nat), Cells H14 sVersionsA (Int.toNat n17 * 3) [.int
  .i64 n20, .int .i64 n21, .slice A22 n23 c24] ∧ ∃ (post25 : Bool → Heap → Prop), ConT P 49 [.agg ⟨[.int .i64 n20, .int .i64 n21, .slice A22 n23 c24]⟩] H14 ⟨false, [(false, [.bool])]⟩ post25
  ∧ ∀ (H26 : Heap), Heap.le H14 H26 → ∀ (b28 : Bool), post25 b28 H26 → ((!b28) = true → post false H26) ∧ ((!b28) = false → (decide ((0 : Int) < n17) = true → rng .i64 (n17 - (1 : Int)) ∧
  someA sVersionsA ∧ (0 : Int) ≤ n17 - (1 : Int) ∧ n17 - (1 : Int) < (↑sVersionsN : Int) ∧ ∃ (n33 : Int), ∃ (n34 : Int), ∃ (A35 : Option Addr), ∃ (n36 : Nat), ∃ (c37 : Nat), Cells H26
  sVersionsA (Int.toNat (n17 - (1 : Int)) * 3) [.int .i64 n33, .int .i64 n34, .slice A35 n36 c37] ∧ someA sVersionsA ∧ (0 : Int) ≤ n17 ∧ n17 < (↑sVersionsN : Int) ∧ ∃ (n38 : Int), ∃ (n39 :
  Int), ∃ (A40 : Option Addr), ∃ (n41 : Nat), ∃ (c42 : Nat), Cells H26 sVersionsA (Int.toNat n17 * 3) [.int .i64 n38, .int .i64 n39, .slice A40 n41 c42] ∧ ∃ (post43 : Bool → Heap → Prop),
  ConT P 50 [.agg ⟨[.int .i64 n33, .int .i64 n34, .slice A35 n36 c37]⟩, .agg ⟨[.int .i64 n38, .int .i64 n39, .slice A40 n41 c42]⟩, .int .i64 n16] H26 ⟨false, [(false, [.bool])]⟩ post43 ∧ ∀
  (H44 : Heap), Heap.le H26 H44 → ∀ (b46 : Bool), post43 b46 H44 → ((!b46) = true → post false H44) ∧ ((!b46) = false → ∃ (inv50 : Int → Int → Heap → Prop), ∃ (m51 : Int → Int → Nat), inv50
  n16 (0 : Int) H44 ∧ ∀ (H52 : Heap), Heap.le H44 H52 → ∀ (n54 n55 : Int), inv50 n54 n55 H52 → someA sVersionsA ∧ (0 : Int) ≤ n17 ∧ n17 < (↑sVersionsN : Int) ∧ ∃ (A57 : Option Addr), ∃ (n58 :
  Nat), ∃ (c59 : Nat), Cells H52 sVersionsA (Int.toNat n17 * 3 + 2) [.slice A57 n58 c59] ∧ (decide (n55 < (↑n58 : Int)) = true → someA sVersionsA ∧ (0 : Int) ≤ n17 ∧ n17 < (↑sVersionsN : Int)
  ∧ ∃ (A61 : Option Addr), ∃ (n62 : Nat), ∃ (c63 : Nat), Cells H52 sVersionsA (Int.toNat n17 * 3 + 2) [.slice A61 n62 c63] ∧ someA A61 ∧ (0 : Int) ≤ n55 ∧ n55 < (↑n62 : Int) ∧ ∃ (n64 : Int),
  Cells H52 A61 (Int.toNat n55 * 3 + 0) [.int .i64 n64] ∧ rng .i64 (n55 + (1 : Int)) ∧ inv50 (max n54 n64) (n55 + (1 : Int)) H52 ∧ m51 (max n54 n64) (n55 + (1 : Int)) < m51 n54 n55) ∧ (decide
  (n55 < (↑n58 : Int)) = false → rng .i64 (n17 + (1 : Int)) ∧ inv12 n54 (n17 + (1 : Int)) H52 ∧ m13 n54 (n17 + (1 : Int)) < m13 n16 n17))) ∧ (decide ((0 : Int) < n17) = false → ∃ (inv67 : Int
  → Int → Heap → Prop), ∃ (m68 : Int → Int → Nat), inv67 n16 (0 : Int) H26 ∧ ∀ (H69 : Heap), Heap.le H26 H69 → ∀ (n71 n72 : Int), inv67 n71 n72 H69 → someA sVersionsA ∧ (0 : Int) ≤ n17 ∧ n17
  < (↑sVersionsN : Int) ∧ ∃ (A74 : Option Addr), ∃ (n75 : Nat), ∃ (c76 : Nat), Cells H69 sVersionsA (Int.toNat n17 * 3 + 2) [.slice A74 n75 c76] ∧ (decide (n72 < (↑n75 : Int)) = true → someA
  sVersionsA ∧ (0 : Int) ≤ n17 ∧ n17 < (↑sVersionsN : Int) ∧ ∃ (A78 : Option Addr), ∃ (n79 : Nat), ∃ (c80 : Nat), Cells H69 sVersionsA (Int.toNat n17 * 3 + 2) [.slice A78 n79 c80] ∧ someA A78
  ∧ (0 : Int) ≤ n72 ∧ n72 < (↑n79 : Int) ∧ ∃ (n81 : Int), Cells H69 A78 (Int.toNat n72 * 3 + 0) [.int .i64 n81] ∧ rng .i64 (n72 + (1 : Int)) ∧ inv67 (max n71 n81) (n72 + (1 : Int)) H69 ∧ m68
  (max n71 n81) (n72 + (1 : Int)) < m68 n71 n72) ∧ (decide (n72 < (↑n75 : Int)) = false → rng .i64 (n17 + (1 : Int)) ∧ inv12 n71 (n17 + (1 : Int)) H69 ∧ m13 n71 (n17 + (1 : Int)) < m13 n16
  n17)))) ∧ (decide (n17 < (↑sVersionsN : Int)) = false → ∃ (post84 : Bool → Heap → Prop), ConT P 51 [.slice sKeyA sKeyN sKeyC] H14 ⟨false, [(false, [.bool])]⟩ post84 ∧ ∀ (H85 : Heap),
  Heap.le H14 H85 → ∀ (b87 : Bool), post84 b87 H85 → ((!b87) = true → post false H85) ∧ ((!b87) = false → ∃ (post91 : Bool → Heap → Prop), ConT P 52 [.agg ⟨[.string sName, .slice sVersionsA
  sVersionsN sVersionsC, .slice sKeyA sKeyN sKeyC, .slice sForeignKeysA sForeignKeysN sForeignKeysC, .slice sConstraintsA sConstraintsN sConstraintsC]⟩, .slice sKeyA sKeyN sKeyC] H85 ⟨false,
  [(false, [.bool])]⟩ post91 ∧ ∀ (H92 : Heap), Heap.le H85 H92 → ∀ (b94 : Bool), post91 b94 H92 → ((!b94) = true → post false H92) ∧ ((!b94) = false → (decide ((4 : Int) < (↑sForeignKeysN :
  Int)) = true → post false H92) ∧ (decide ((4 : Int) < (↑sForeignKeysN : Int)) = false → (decide ((4 : Int) < (↑sConstraintsN : Int)) = true → post false H92) ∧ (decide ((4 : Int) <
  (↑sConstraintsN : Int)) = false → ∃ (inv102 : Int → Heap → Prop), ∃ (m103 : Int → Nat), inv102 (0 : Int) H92 ∧ ∀ (H104 : Heap), Heap.le H92 H104 → ∀ (n106 : Int), inv102 n106 H104 → (decide
  (n106 < (↑sForeignKeysN : Int)) = true → someA sForeignKeysA ∧ (0 : Int) ≤ n106 ∧ n106 < (↑sForeignKeysN : Int) ∧ ∃ (A109 : Option Addr), ∃ (n110 : Nat), ∃ (c111 : Nat), ∃ (s112 :
  ByteArray), ∃ (A113 : Option Addr), ∃ (n114 : Nat), ∃ (c115 : Nat), Cells H104 sForeignKeysA (Int.toNat n106 * 3) [.slice A109 n110 c111, .string s112, .slice A113 n114 c115] ∧ (decide
  ((↑n110 : Int) = (0 : Int)) = true → post false H104) ∧ (decide ((↑n110 : Int) = (0 : Int)) = false → ∃ (post118 : Bool → Heap → Prop), ConT P 51 [.slice A109 n110 c111] H104 ⟨false,
  [(false, [.bool])]⟩ post118 ∧ ∀ (H119 : Heap), Heap.le H104 H119 → ∀ (b121 : Bool), post118 b121 H119 → ((!b121) = true → post false H119) ∧ ((!b121) = false → ∃ (post125 : Bool → Heap →
  Prop), ConT P 52 [.agg ⟨[.string sName, .slice sVersionsA sVersionsN sVersionsC, .slice sKeyA sKeyN sKeyC, .slice sForeignKeysA sForeignKeysN sForeignKeysC, .slice sConstraintsA
  sConstraintsN sConstraintsC]⟩, .slice A109 n110 c111] H119 ⟨false, [(false, [.bool])]⟩ post125 ∧ ∀ (H126 : Heap), Heap.le H119 H126 → ∀ (b128 : Bool), post125 b128 H126 → ((!b128) = true →
  post false H126) ∧ ((!b128) = false → ∃ (post132 : Bool → Heap → Prop), ConT P 11 [.string s112] H126 ⟨false, [(false, [.bool])]⟩ post132 ∧ ∀ (H133 : Heap), Heap.le H126 H133 → ∀ (b135 :
  Bool), post132 b135 H133 → ((!b135) = true → post false H133) ∧ ((!b135) = false → ((!decide ((↑n114 : Int) = (↑n110 : Int))) = true → post false H133) ∧ ((!decide ((↑n114 : Int) = (↑n110 :
  Int))) = false → ∃ (post141 : Bool → Heap → Prop), ConT P 51 [.slice A113 n114 c115] H133 ⟨false, [(false, [.bool])]⟩ post141 ∧ ∀ (H142 : Heap), Heap.le H133 H142 → ∀ (b144 : Bool), post141
  b144 H142 → ((!b144) = true → post false H142) ∧ ((!b144) = false → ∃ (inv148 : Int → Heap → Prop), ∃ (m149 : Int → Nat), inv148 (0 : Int) H142 ∧ ∀ (H150 : Heap), Heap.le H142 H150 → ∀
  (n152 : Int), inv148 n152 H150 → (decide (n152 < (↑n114 : Int)) = true → someA A113 ∧ (0 : Int) ≤ n152 ∧ n152 < (↑n114 : Int) ∧ ∃ (n155 : Int), Cells H150 A113 (Int.toNat n152 * 1) [.int
  .i64 n155] ∧ (decide (n155 < (1 : Int)) = true → post false H150) ∧ (decide (n155 < (1 : Int)) = false → someA A113 ∧ (0 : Int) ≤ n152 ∧ n152 < (↑n114 : Int) ∧ ∃ (n158 : Int), Cells H150
  A113 (Int.toNat n152 * 1) [.int .i64 n158] ∧ (decide ((12 : Int) < n158) = true → post false H150) ∧ (decide ((12 : Int) < n158) = false → rng .i64 (n152 + (1 : Int)) ∧ inv148 (n152 + (1 :
  Int)) H150 ∧ m149 (n152 + (1 : Int)) < m149 n152))) ∧ (decide (n152 < (↑n114 : Int)) = false → rng .i64 (n106 + (1 : Int)) ∧ inv102 (n106 + (1 : Int)) H150 ∧ m103 (n106 + (1 : Int)) < m103
  n106)))))))) ∧ (decide (n106 < (↑sForeignKeysN : Int)) = false → ∃ (inv163 : Int → Heap → Prop), ∃ (m164 : Int → Nat), inv163 (0 : Int) H104 ∧ ∀ (H165 : Heap), Heap.le H104 H165 → ∀ (n167 :
  Int), inv163 n167 H165 → (decide (n167 < (↑sConstraintsN : Int)) = true → someA sConstraintsA ∧ (0 : Int) ≤ n167 ∧ n167 < (↑sConstraintsN : Int) ∧ ∃ (n170 : Int), ∃ (A171 : Option Addr), ∃
  (n172 : Nat), ∃ (c173 : Nat), Cells H165 sConstraintsA (Int.toNat n167 * 2) [.int .i64 n170, .slice A171 n172 c173] ∧ ((!decide (n170 = (1 : Int))) = true → ((!decide (n170 = (2 : Int))) =
  true → post false H165) ∧ ((!decide (n170 = (2 : Int))) = false → (decide ((↑n172 : Int) = (0 : Int)) = true → post false H165) ∧ (decide ((↑n172 : Int) = (0 : Int)) = false → ∃ (post179 :
  Bool → Heap → Prop), ConT P 51 [.slice A171 n172 c173] H165 ⟨false, [(false, [.bool])]⟩ post179 ∧ ∀ (H180 : Heap), Heap.le H165 H180 → ∀ (b182 : Bool), post179 b182 H180 → ((!b182) = true →
  post false H180) ∧ ((!b182) = false → ∃ (post186 : Bool → Heap → Prop), ConT P 52 [.agg ⟨[.string sName, .slice sVersionsA sVersionsN sVersionsC, .slice sKeyA sKeyN sKeyC, .slice
  sForeignKeysA sForeignKeysN sForeignKeysC, .slice sConstraintsA sConstraintsN sConstraintsC]⟩, .slice A171 n172 c173] H180 ⟨false, [(false, [.bool])]⟩ post186 ∧ ∀ (H187 : Heap), Heap.le
  H180 H187 → ∀ (b189 : Bool), post186 b189 H187 → ((!b189) = true → post false H187) ∧ ((!b189) = false → rng .i64 (n167 + (1 : Int)) ∧ inv163 (n167 + (1 : Int)) H187 ∧ m164 (n167 + (1 :
  Int)) < m164 n167))))) ∧ ((!decide (n170 = (1 : Int))) = false → (decide ((↑n172 : Int) = (0 : Int)) = true → post false H165) ∧ (decide ((↑n172 : Int) = (0 : Int)) = false → ∃ (post196 :
  Bool → Heap → Prop), ConT P 51 [.slice A171 n172 c173] H165 ⟨false, [(false, [.bool])]⟩ post196 ∧ ∀ (H197 : Heap), Heap.le H165 H197 → ∀ (b199 : Bool), post196 b199 H197 → ((!b199) = true →
  post false H197) ∧ ((!b199) = false → ∃ (post203 : Bool → Heap → Prop), ConT P 52 [.agg ⟨[.string sName, .slice sVersionsA sVersionsN sVersionsC, .slice sKeyA sKeyN sKeyC, .slice
  sForeignKeysA sForeignKeysN sForeignKeysC, .slice sConstraintsA sConstraintsN sConstraintsC]⟩, .slice A171 n172 c173] H197 ⟨false, [(false, [.bool])]⟩ post203 ∧ ∀ (H204 : Heap), Heap.le
  H197 H204 → ∀ (b206 : Bool), post203 b206 H204 → ((!b206) = true → post false H204) ∧ ((!b206) = false → rng .i64 (n167 + (1 : Int)) ∧ inv163 (n167 + (1 : Int)) H204 ∧ m164 (n167 + (1 :
  Int)) < m164 n167))))) ∧ (decide (n167 < (↑sConstraintsN : Int)) = false → post true H165))))))))))) := by kernel_rfl
set_option maxHeartbeats 4000000 in
theorem ref21_Validate (hs : IsTSch H nm A n c B m d E k e F l f s) :
    ConT Try.prog 18 [.agg ⟨[.string nm, .slice A n c, .slice B m d, .slice E k e, .slice F l f]⟩] H shB (fun r _ => r = refValid s) := by
  refine con_of_vc (an := an18) (fn := Try.f18) mix tabOK Try.func18 (by kernel_rfl) (extra := 0) ?_
  rw [vc18]
  obtain ⟨rfl, hstr, hv, hk, hf, hc⟩ := id hs
  have v1 := hv.bn; have v2 := hv.len; have f1 := hf.bn; have f2 := hf.len; have c1 := hc.bn; have c2 := hc.len
  unfold refValid
  refine ⟨_, ref21_ValidName, ?_⟩
  rintro H1 L1 _ rfl
  refine ⟨fun h => by simp only [Bool.not_eq_true'] at h; simp [h], fun t1 => ⟨fun h => ?_, fun t2 => ?_⟩⟩
  · have h := of_decide_eq_true h
    rw [List.eq_nil_of_length_eq_zero (by omega : s.vers.length = 0)]
    simp [lastHi]
  simp only [Bool.not_eq_false'] at t1
  have t2 := of_decide_eq_false t2
  obtain ⟨ji, jA, _, jc, ⟨_, _, _, rfl, _, _, _⟩⟩ := hv.at L1 (i := (n : Int) - 1) (by omega) (by omega)
  have hlast := getLast?_at s.vers ji (by omega)
  have elh : lastHi s.vers = decide (s.vers[((n : Int) - 1).toNat].rc.hi = 1099511627776) := by rw [lastHi, hlast]
  refine ⟨by simp only [rng]; omega, jA, by omega, by omega, _, jc.at1 (k := 1) rfl, fun h => ?_, fun t3 => ?_⟩
  · simp only [Bool.not_eq_true'] at h
    rw [elh, h]; simp
  simp only [Bool.not_eq_false'] at t3
  rw [t1, elh, t3]
  simp only [Bool.true_and]
  refine ⟨fun g i _ => 0 ≤ i ∧ i ≤ n ∧ rng .i64 g ∧ refGo none 0 s.vers = refGo (if i ≤ 0 then none else s.vers[(i - 1).toNat]?) g (s.vers.drop i.toNat), fun _ i => n - i.toNat, ⟨by omega, by omega, by simp [rng], rfl⟩, ?_⟩
  rintro H2 l2 g i ⟨i0, i1, hg, g2⟩
  have L2 := hle_trans L1 l2
  refine ⟨fun hlt => ?_, fun hge => ?_⟩
  · have hlt := of_decide_eq_true hlt
    obtain ⟨hi, hA, _, hcc, ⟨A', n', c', rfl, r1, r2, hvi⟩⟩ := hv.at L2 i0 hlt
    rw [drop_at i0 hi, refGo_cons] at g2
    have e1 : (if i + 1 ≤ 0 then none else s.vers[(i + 1 - 1).toNat]?) = some s.vers[i.toNat] := by
      rw [if_neg (by omega), show (i + 1 - 1).toNat = i.toNat by omega, List.getElem?_eq_getElem hi]
    have hbd : s.vers[i.toNat].cols.length ≤ 140737488355328 := by have := hvi.bn; have := hvi.len; omega
    refine ⟨hA, i0, hlt, _, _, _, _, _, hcc, _, ref21_validVersion hvi, ?_⟩
    rintro H3 l3 _ rfl
    have L3 := hle_trans L2 l3
    refine ⟨fun h => ?_, fun u1 => ⟨fun hp => ?_, fun hp => ?_⟩⟩
    · simp only [Bool.not_eq_true'] at h
      rw [g2, show rver s.vers[i.toNat] = false from h]; simp
    · have hp := of_decide_eq_true hp
      simp only [Bool.not_eq_false'] at u1
      obtain ⟨pi, pA, _, pc, ⟨A'', n'', c'', rfl, p1, p2, hvp⟩⟩ := hv.at L3 (i := i - 1) (by omega) (by omega)
      obtain ⟨hi', hA', _, hcc', ⟨A3, n3, c3, rfl, r1', r2', hvi'⟩⟩ := hv.at L3 i0 hlt
      refine ⟨by simp only [rng]; omega, pA, by omega, by omega, _, _, _, _, _, pc, hA', i0, hlt, _, _, _, _, _, hcc', _, ref21_follows hvp hvi', ?_⟩
      rintro H4 l4 _ rfl
      rw [if_neg (by omega), List.getElem?_eq_getElem pi, show rver s.vers[i.toNat] = true from u1] at g2
      refine ⟨fun h => ?_, fun u2 => ?_⟩
      · simp only [Bool.not_eq_true'] at h
        rw [g2]; simp only [show follows s.vers[(i - 1).toNat] s.vers[i.toNat] g = false from h]; simp
      · simp only [Bool.not_eq_false'] at u2
        simp only [show follows s.vers[(i - 1).toNat] s.vers[i.toNat] g = true from u2, Bool.true_and] at g2
        have L4 := hle_trans L3 l4
        refine ⟨fun w' j _ => 0 ≤ j ∧ j ≤ s.vers[i.toNat].cols.length ∧ rng .i64 w' ∧ widthCols g s.vers[i.toNat].cols = widthCols w' (s.vers[i.toNat].cols.drop j.toNat), fun _ j => s.vers[i.toNat].cols.length - j.toNat, ⟨by omega, by omega, hg, rfl⟩, ?_⟩
        rintro H5 l5 w' j ⟨j0, j1, jw, j2⟩
        obtain ⟨hi5, hA5, _, hcc5, ⟨A5, n5, c5, rfl, r15, r25, hvi5⟩⟩ := hv.at (hle_trans L4 l5) i0 hlt
        have d1 := hvi5.bn; have d2 := hvi5.len
        refine ⟨hA5, i0, hlt, _, _, _, hcc5.at1 (k := 2) rfl, fun jlt => ?_, fun jge => ?_⟩
        · have jlt := of_decide_eq_true jlt
          obtain ⟨ji, jA, _, jc, rfl, q1, q2, q3⟩ := hvi5.at (hle_refl _) j0 jlt
          rw [drop_at j0 ji, widthCols] at j2
          exact ⟨hA5, i0, hlt, _, _, _, hcc5.at1 (k := 2) rfl, jA, j0, jlt, _, jc.at1 (k := 0) rfl, by simp only [rng]; omega, ⟨by omega, by omega, by simp only [rng] at *; omega, j2⟩, by dsimp only; omega⟩
        · rw [drop_end (of_decide_eq_false jge) d2, widthCols] at j2
          exact ⟨by simp only [rng]; omega, ⟨by omega, by omega, jw, by rw [g2, j2, e1]⟩, by dsimp only; omega⟩
    · have hp := of_decide_eq_false hp
      simp only [Bool.not_eq_false'] at u1
      rw [if_pos (by omega), show rver s.vers[i.toNat] = true from u1] at g2
      simp only [Bool.true_and] at g2
      refine ⟨fun w' j _ => 0 ≤ j ∧ j ≤ s.vers[i.toNat].cols.length ∧ rng .i64 w' ∧ widthCols g s.vers[i.toNat].cols = widthCols w' (s.vers[i.toNat].cols.drop j.toNat), fun _ j => s.vers[i.toNat].cols.length - j.toNat, ⟨by omega, by omega, hg, rfl⟩, ?_⟩
      rintro H5 l5 w' j ⟨j0, j1, jw, j2⟩
      obtain ⟨hi5, hA5, _, hcc5, ⟨A5, n5, c5, rfl, r15, r25, hvi5⟩⟩ := hv.at (hle_trans L3 l5) i0 hlt
      have d1 := hvi5.bn; have d2 := hvi5.len
      refine ⟨hA5, i0, hlt, _, _, _, hcc5.at1 (k := 2) rfl, fun jlt => ?_, fun jge => ?_⟩
      · have jlt := of_decide_eq_true jlt
        obtain ⟨ji, jA, _, jc, rfl, q1, q2, q3⟩ := hvi5.at (hle_refl _) j0 jlt
        rw [drop_at j0 ji, widthCols] at j2
        exact ⟨hA5, i0, hlt, _, _, _, hcc5.at1 (k := 2) rfl, jA, j0, jlt, _, jc.at1 (k := 0) rfl, by simp only [rng]; omega, ⟨by omega, by omega, by simp only [rng] at *; omega, j2⟩, by dsimp only; omega⟩
      · rw [drop_end (of_decide_eq_false jge) d2, widthCols] at j2
        exact ⟨by simp only [rng]; omega, ⟨by omega, by omega, jw, by rw [g2, j2, e1]⟩, by dsimp only; omega⟩
  rw [drop_end (of_decide_eq_false hge) v2] at g2
  rw [g2, show ∀ p q, refGo p q [] = true from fun _ _ => rfl, Bool.true_and]
  refine ⟨_, ref21_distinct (hk.mono L2), ?_⟩
  rintro H3 l3 _ rfl
  have L3 := hle_trans L2 l3
  refine ⟨fun h => by simp only [Bool.not_eq_true'] at h; simp [h], fun t4 => ⟨_, ref21_everywhere (hs.mono L3) (hk.mono L3), ?_⟩⟩
  simp only [Bool.not_eq_false'] at t4
  rintro H4 l4 _ rfl
  have L4 := hle_trans L3 l4
  refine ⟨fun h => by simp only [Bool.not_eq_true'] at h; simp [h], fun t5 => ⟨fun h => ?_, fun t6 => ⟨fun h => ?_, fun t7 => ?_⟩⟩⟩
  · have h := of_decide_eq_true h
    rw [decide_eq_false (p := s.fks.length ≤ 4) (by omega)]; simp
  · have h := of_decide_eq_true h
    rw [decide_eq_false (p := s.csts.length ≤ 4) (by omega)]; simp
  simp only [Bool.not_eq_false'] at t5
  have t6 := of_decide_eq_false t6
  have t7 := of_decide_eq_false t7
  rw [t4, t5, decide_eq_true (p := s.fks.length ≤ 4) (by omega), decide_eq_true (p := s.csts.length ≤ 4) (by omega)]
  simp only [Bool.true_and]
  refine ⟨fun i _ => 0 ≤ i ∧ i ≤ k ∧ (s.fks.all (rfk s.vers)) = ((s.fks.drop i.toNat).all (rfk s.vers)), fun i => k - i.toNat, ⟨by omega, by omega, rfl⟩, ?_⟩
  rintro H5 l5 i ⟨i0, i1, g2⟩
  have L5 := hle_trans L4 l5
  refine ⟨fun hlt => ?_, fun hge => ?_⟩
  · have hlt := of_decide_eq_true hlt
    obtain ⟨hi, hA, _, hcc, ⟨A', n', c', B', m', d', rfl, r1, r2, r3⟩⟩ := hf.at L5 i0 hlt
    rw [drop_at i0 hi, List.all_cons] at g2
    have e1 := r1.len; have e2 := r3.len; have e3 := r3.bn
    generalize s.fks[i.toNat] = y at *
    refine ⟨hA, i0, hlt, _, _, _, _, _, _, _, hcc, fun h => ?_, fun u1 => ⟨_, ref21_distinct r1, ?_⟩⟩
    · have h := of_decide_eq_true h
      have : rfk s.vers y = false := by unfold rfk; rw [decide_eq_false (p := y.cols.length ≠ 0) (by omega)]; simp
      rw [g2, this]; rfl
    have u1 := of_decide_eq_false u1
    have er : rfk s.vers y = (distinct y.cols && permanent s.vers y.cols && validName y.table && decide (y.refs.length = y.cols.length) && distinct y.refs && inIDs y.refs) := by
      unfold rfk; rw [decide_eq_true (p := y.cols.length ≠ 0) (by omega)]; simp
    rintro H6 l6 _ rfl
    refine ⟨fun h => ?_, fun u2 => ⟨_, ref21_everywhere (hs.mono (hle_trans L5 l6)) (r1.mono l6), ?_⟩⟩
    · simp only [Bool.not_eq_true'] at h
      rw [g2, er, h]; simp
    simp only [Bool.not_eq_false'] at u2
    rintro H7 l7 _ rfl
    refine ⟨fun h => ?_, fun u3 => ⟨_, ref21_ValidName, ?_⟩⟩
    · simp only [Bool.not_eq_true'] at h
      rw [g2, er, h]; simp
    simp only [Bool.not_eq_false'] at u3
    rintro H8 l8 _ rfl
    refine ⟨fun h => ?_, fun u4 => ⟨fun h => ?_, fun u5 => ⟨_, ref21_distinct (r3.mono (hle_trans l6 (hle_trans l7 l8))), ?_⟩⟩⟩
    · simp only [Bool.not_eq_true'] at h
      rw [g2, er, h]; simp
    · have h : ¬ (m' : Int) = n' := by simpa using h
      rw [g2, er, decide_eq_false (p := y.refs.length = y.cols.length) (by omega)]; simp
    simp only [Bool.not_eq_false'] at u4
    have u5 : (m' : Int) = n' := by simpa using u5
    rintro H9 l9 _ rfl
    refine ⟨fun h => ?_, fun u6 => ?_⟩
    · simp only [Bool.not_eq_true'] at h
      rw [g2, er, h]; simp
    simp only [Bool.not_eq_false'] at u6
    rw [u2, u3, u4, u6, decide_eq_true (p := y.refs.length = y.cols.length) (by omega)] at er
    simp only [Bool.true_and] at er
    have L9 := hle_trans l6 (hle_trans l7 (hle_trans l8 l9))
    refine ⟨fun j _ => 0 ≤ j ∧ j ≤ m' ∧ inIDs y.refs = inIDs (y.refs.drop j.toNat), fun j => m' - j.toNat, ⟨by omega, by omega, rfl⟩, ?_⟩
    rintro H10 l10 j ⟨j0, j1, j2⟩
    refine ⟨fun jlt => ?_, fun jge => ?_⟩
    · have jlt := of_decide_eq_true jlt
      obtain ⟨ji, jA, _, jc, rfl, -⟩ := r3.at (hle_trans L9 l10) j0 jlt
      rw [drop_at j0 ji, inIDs, inIDs, List.all_cons, ← inIDs, ← inIDs] at j2
      refine ⟨jA, j0, jlt, _, jc, fun h => ?_, fun w1 => ⟨jA, j0, jlt, _, jc, fun h => ?_, fun w2 => ⟨by simp only [rng]; omega, ⟨by omega, by omega, ?_⟩, by dsimp only; omega⟩⟩⟩
      · rw [g2, er, j2, decide_eq_false (p := 1 ≤ y.refs[j.toNat]) (by have := of_decide_eq_true h; omega)]; simp
      · rw [g2, er, j2, decide_eq_false (p := y.refs[j.toNat] ≤ 12) (by have := of_decide_eq_true h; omega)]; simp
      · rw [j2, decide_eq_true (p := 1 ≤ y.refs[j.toNat]) (by have := of_decide_eq_false w1; omega), decide_eq_true (p := y.refs[j.toNat] ≤ 12) (by have := of_decide_eq_false w2; omega)]; rfl
    · rw [drop_end (of_decide_eq_false jge) e2] at j2
      refine ⟨by simp only [rng]; omega, ⟨by omega, by omega, ?_⟩, by dsimp only; omega⟩
      rw [g2, er, j2]; rfl
  rw [drop_end (of_decide_eq_false hge) f2, List.all_nil] at g2
  rw [g2, Bool.true_and]
  refine ⟨fun i _ => 0 ≤ i ∧ i ≤ l ∧ (s.csts.all (rcst s.vers)) = ((s.csts.drop i.toNat).all (rcst s.vers)), fun i => l - i.toNat, ⟨by omega, by omega, rfl⟩, ?_⟩
  rintro H6 l6 i ⟨i0, i1, g3⟩
  have L6 := hle_trans L5 l6
  refine ⟨fun hlt => ?_, fun hge => ?_⟩
  · have hlt := of_decide_eq_true hlt
    obtain ⟨hi, hA, _, hcc, ⟨A', n', c', rfl, r1, r2⟩⟩ := hc.at L6 i0 hlt
    rw [drop_at i0 hi, List.all_cons] at g3
    have e1 := r2.len
    generalize s.csts[i.toNat] = y at *
    refine ⟨hA, i0, hlt, _, _, _, _, hcc, fun k1 => ⟨fun k2 => ?_, fun k2 => ?_⟩, fun k1 => ?_⟩
    · have : rcst s.vers y = false := by
        unfold rcst; simp only [Bool.not_eq_true'] at k1 k2; rw [k1, k2]; simp
      rw [g3, this]; rfl
    all_goals
      have kk : (decide (y.kind = 1) || decide (y.kind = 2)) = true := by
        simp only [Bool.not_eq_false'] at *; simp [*]
      refine ⟨fun h => ?_, fun u1 => ⟨_, ref21_distinct r2, ?_⟩⟩
      · have h := of_decide_eq_true h
        have : rcst s.vers y = false := by unfold rcst; rw [decide_eq_false (p := y.cols.length ≠ 0) (by omega)]; simp
        rw [g3, this]; rfl
      have u1 := of_decide_eq_false u1
      have er : rcst s.vers y = (distinct y.cols && permanent s.vers y.cols) := by
        unfold rcst; rw [kk, decide_eq_true (p := y.cols.length ≠ 0) (by omega)]; simp
      rintro H7 l7 _ rfl
      refine ⟨fun h => ?_, fun u2 => ⟨_, ref21_everywhere (hs.mono (hle_trans L6 l7)) (r2.mono l7), ?_⟩⟩
      · simp only [Bool.not_eq_true'] at h
        rw [g3, er, h]; simp
      simp only [Bool.not_eq_false'] at u2
      rintro H8 l8 _ rfl
      refine ⟨fun h => ?_, fun u3 => ⟨by simp only [rng]; omega, ⟨by omega, by omega, ?_⟩, by dsimp only; omega⟩⟩
      · simp only [Bool.not_eq_true'] at h
        rw [g3, er, h]; simp
      · simp only [Bool.not_eq_false'] at u3
        rw [g3, er, u2, u3]; rfl
  rw [drop_end (of_decide_eq_false hge) c2, List.all_nil] at g3
  exact g3.symm
end
end Go.Vc

/- A schema's validity; the version at an instant; the width. -/
import Derived.Test.YthbapbapcnafhaaC4
set_option linter.unusedSectionVars false
set_option linter.unusedSimpArgs false
set_option linter.unusedVariables false
namespace Go.Vc
open Go Go.Proofs
def schemaValid (s : TSch) : Bool := validName s.name && validPeriods s.vers && decide (s.fks.length ≤ 4) && decide (s.csts.length ≤ 4) && (s.vers.all fun v => validColumns v.cols) && validHistory s.vers && distinctIDs s.key &&
  permanent s.vers s.key && (s.fks.all fun f => fkValid s.vers f) && (s.csts.all fun c => cstValid s.vers c)
theorem vcols_ids : ∀ (l : List Col) (last : Int) (pre : List Col), 0 ≤ last → vcols last pre l = true → ∀ c ∈ l, 1 ≤ c.id ∧ c.id ≤ 12
  | [], _, _, _, _, c, h => by cases h
  | x :: r, last, pre, h0, h, c, hc => by
    simp only [vcols, Bool.and_eq_true, Bool.not_eq_true', Bool.or_eq_false_iff, decide_eq_false_iff_not] at h
    obtain ⟨⟨⟨⟨⟨h1, h2⟩, h3⟩, h4⟩, h5⟩, h6⟩ := h
    rcases List.mem_cons.1 hc with rfl | hc
    · omega
    · exact vcols_ids r x.id _ (by omega) h6 c hc
theorem goodIDs_of {l : List Ver} (h : (l.all fun v => validColumns v.cols) = true) : goodIDs l := by
  intro v hv c hc
  have := List.all_eq_true.1 h v hv
  simp only [validColumns, Bool.and_eq_true] at this
  exact vcols_ids _ _ _ (by omega) this.2 c hc
/- the arguments that make up a schema -/
structure IsTSch (H : Heap) (nm : ByteArray) (A : Option Addr) (n c : Nat) (B : Option Addr) (m d : Nat) (E : Option Addr) (k e : Nat) (F : Option Addr) (l f : Nat) (s : TSch) : Prop where
  name : nm = s.name
  str : str s.name
  vers : Sl H A n c s.vers
  key : Sl H B m d s.key
  fks : Sl H E k e s.fks
  csts : Sl H F l f s.csts
section
variable {H : Heap} {nm : ByteArray} {A : Option Addr} {n c : Nat} {B : Option Addr} {m d : Nat} {E : Option Addr} {k e : Nat} {F : Option Addr} {l f : Nat} {s : TSch}
theorem IsTSch.mono {H' : Heap} (h : IsTSch H nm A n c B m d E k e F l f s) (hle : Heap.le H H') : IsTSch H' nm A n c B m d E k e F l f s :=
  ⟨h.name, h.str, h.vers.mono hle, h.key.mono hle, h.fks.mono hle, h.csts.mono hle⟩
def an17 : Ann where
  res := fun _ => none
  lend := fun | 11 => true | 16 => true | 40 => true | 45 => true | 50 => true | 58 => true | 71 => true | 84 => true | _ => false
  sch := fun _ => .done
  lt := fun | 4 => [.slot 34 false [.int .i64]] | 12 => [.slot 64 false [.int .i64]] | 18 => [.slot 77 false [.int .i64]] | _ => []
  tup := tups

theorem vc17 (P : Program) (H : Heap) (sName : ByteArray) (sVersionsA : Option Addr) (sVersionsN sVersionsC : Nat) (sKeyA : Option Addr) (sKeyN sKeyC : Nat) (sForeignKeysA : Option Addr) (sForeignKeysN sForeignKeysC : Nat) (sConstraintsA : Option Addr) (sConstraintsN sConstraintsC : Nat) (post : Bool → Heap → Prop) :
  vcFn P tab an17 Try.f17 [.agg #[.string sName, .slice sVersionsA sVersionsN sVersionsC, .slice sKeyA sKeyN sKeyC, .slice sForeignKeysA sForeignKeysN sForeignKeysC, .slice sConstraintsA sConstraintsN sConstraintsC]] 0 H ⟨false, [(false, [.bool])]⟩ post =
  (  ∃ (post0 : Bool → Heap → Prop), ConT P 10 [.string sName] H ⟨false, [(false, [.bool])]⟩ post0 ∧ ∀ (H1 : Heap), Heap.le H H1 → ∀ (b3 : Bool), post0 b3 H1 → ((!b3) = true → post false H1) ∧
  ((!b3) = false → ∃ (post7 : Bool → Heap → Prop), ConT P 42 [.slice sVersionsA sVersionsN sVersionsC] H1 ⟨false, [(false, [.bool])]⟩ post7 ∧ ∀ (H8 : Heap), Heap.le H1 H8 → ∀ (b10 : Bool),
  post7 b10 H8 → ((!b10) = true → post false H8) ∧ ((!b10) = false → (decide ((4 : Int) < (↑sForeignKeysN : Int)) = true → post false H8) ∧ (decide ((4 : Int) < (↑sForeignKeysN : Int)) =
  false → (decide ((4 : Int) < (↑sConstraintsN : Int)) = true → post false H8) ∧ (decide ((4 : Int) < (↑sConstraintsN : Int)) = false → ∃ (inv18 : Int → Heap → Prop), ∃ (m19 : Int → Nat),
  inv18 (0 : Int) H8 ∧ ∀ (H20 : Heap), Heap.le H8 H20 → ∀ (n22 : Int), inv18 n22 H20 → (decide (n22 < (↑sVersionsN : Int)) = true → someA sVersionsA ∧ (0 : Int) ≤ n22 ∧ n22 < (↑sVersionsN :
  Int) ∧ ∃ (n25 : Int), ∃ (n26 : Int), ∃ (A27 : Option Addr), ∃ (n28 : Nat), ∃ (c29 : Nat), Cells H20 sVersionsA (Int.toNat n22 * 3) [.int .i64 n25, .int .i64 n26, .slice A27 n28 c29] ∧ ∃
  (post30 : Bool → Heap → Prop), ConT P 43 [.slice A27 n28 c29] H20 ⟨false, [(false, [.bool])]⟩ post30 ∧ ∀ (H31 : Heap), Heap.le H20 H31 → ∀ (b33 : Bool), post30 b33 H31 → ((!b33) = true →
  post false H31) ∧ ((!b33) = false → rng .i64 (n22 + (1 : Int)) ∧ inv18 (n22 + (1 : Int)) H31 ∧ m19 (n22 + (1 : Int)) < m19 n22)) ∧ (decide (n22 < (↑sVersionsN : Int)) = false → ∃ (post38 :
  Bool → Heap → Prop), ConT P 44 [.slice sVersionsA sVersionsN sVersionsC] H20 ⟨false, [(false, [.bool])]⟩ post38 ∧ ∀ (H39 : Heap), Heap.le H20 H39 → ∀ (b41 : Bool), post38 b41 H39 → ((!b41)
  = true → post false H39) ∧ ((!b41) = false → ∃ (post45 : Bool → Heap → Prop), ConT P 45 [.slice sKeyA sKeyN sKeyC] H39 ⟨false, [(false, [.bool])]⟩ post45 ∧ ∀ (H46 : Heap), Heap.le H39 H46 →
  ∀ (b48 : Bool), post45 b48 H46 → ((!b48) = true → post false H46) ∧ ((!b48) = false → ∃ (post52 : Bool → Heap → Prop), ConT P 46 [.slice sVersionsA sVersionsN sVersionsC, .slice sKeyA sKeyN
  sKeyC] H46 ⟨false, [(false, [.bool])]⟩ post52 ∧ ∀ (H53 : Heap), Heap.le H46 H53 → ∀ (b55 : Bool), post52 b55 H53 → ((!b55) = true → post false H53) ∧ ((!b55) = false → ∃ (inv59 : Int → Heap
  → Prop), ∃ (m60 : Int → Nat), inv59 (0 : Int) H53 ∧ ∀ (H61 : Heap), Heap.le H53 H61 → ∀ (n63 : Int), inv59 n63 H61 → (decide (n63 < (↑sForeignKeysN : Int)) = true → someA sForeignKeysA ∧ (0
  : Int) ≤ n63 ∧ n63 < (↑sForeignKeysN : Int) ∧ ∃ (A66 : Option Addr), ∃ (n67 : Nat), ∃ (c68 : Nat), ∃ (s69 : ByteArray), ∃ (A70 : Option Addr), ∃ (n71 : Nat), ∃ (c72 : Nat), Cells H61
  sForeignKeysA (Int.toNat n63 * 3) [.slice A66 n67 c68, .string s69, .slice A70 n71 c72] ∧ ∃ (post73 : Bool → Heap → Prop), ConT P 47 [.slice sVersionsA sVersionsN sVersionsC, .agg ⟨[.slice
  A66 n67 c68, .string s69, .slice A70 n71 c72]⟩] H61 ⟨false, [(false, [.bool])]⟩ post73 ∧ ∀ (H74 : Heap), Heap.le H61 H74 → ∀ (b76 : Bool), post73 b76 H74 → ((!b76) = true → post false H74)
  ∧ ((!b76) = false → rng .i64 (n63 + (1 : Int)) ∧ inv59 (n63 + (1 : Int)) H74 ∧ m60 (n63 + (1 : Int)) < m60 n63)) ∧ (decide (n63 < (↑sForeignKeysN : Int)) = false → ∃ (inv81 : Int → Heap →
  Prop), ∃ (m82 : Int → Nat), inv81 (0 : Int) H61 ∧ ∀ (H83 : Heap), Heap.le H61 H83 → ∀ (n85 : Int), inv81 n85 H83 → (decide (n85 < (↑sConstraintsN : Int)) = true → someA sConstraintsA ∧ (0 :
  Int) ≤ n85 ∧ n85 < (↑sConstraintsN : Int) ∧ ∃ (n88 : Int), ∃ (A89 : Option Addr), ∃ (n90 : Nat), ∃ (c91 : Nat), Cells H83 sConstraintsA (Int.toNat n85 * 2) [.int .i64 n88, .slice A89 n90
  c91] ∧ ∃ (post92 : Bool → Heap → Prop), ConT P 48 [.slice sVersionsA sVersionsN sVersionsC, .agg ⟨[.int .i64 n88, .slice A89 n90 c91]⟩] H83 ⟨false, [(false, [.bool])]⟩ post92 ∧ ∀ (H93 :
  Heap), Heap.le H83 H93 → ∀ (b95 : Bool), post92 b95 H93 → ((!b95) = true → post false H93) ∧ ((!b95) = false → rng .i64 (n85 + (1 : Int)) ∧ inv81 (n85 + (1 : Int)) H93 ∧ m82 (n85 + (1 :
  Int)) < m82 n85)) ∧ (decide (n85 < (↑sConstraintsN : Int)) = false → post true H83))))))))))) := by kernel_rfl
theorem schema_Validate (hs : IsTSch H nm A n c B m d E k e F l f s) :
    ConT Try.prog 17 [.agg ⟨[.string nm, .slice A n c, .slice B m d, .slice E k e, .slice F l f]⟩] H shB (fun r _ => r = schemaValid s) := by
  refine con_of_vc (an := an17) (fn := Try.f17) mix tabOK Try.func17 (by kernel_rfl) (extra := 0) ?_
  rw [vc17]
  obtain ⟨rfl, hstr, hv, hk, hf, hc⟩ := hs
  have v1 := hv.bn; have v2 := hv.len; have f1 := hf.bn; have f2 := hf.len; have c1 := hc.bn; have c2 := hc.len
  unfold schemaValid
  refine ⟨_, schema_ValidName, ?_⟩
  rintro H1 l1 _ rfl
  refine ⟨fun a1 => by simp only [Bool.not_eq_true'] at a1; simp [a1], fun a1 => ⟨_, schema_validPeriods (hv.mono l1), ?_⟩⟩
  have a1 : validName s.name = true := by simpa using a1
  rintro H2 l2 _ rfl
  refine ⟨fun a2 => by simp only [Bool.not_eq_true'] at a2; simp [a2], fun a2 => ⟨fun a3 => ?_, fun a3 => ⟨fun a4 => ?_, fun a4 => ?_⟩⟩⟩
  · have a3 := of_decide_eq_true a3
    rw [decide_eq_false (p := s.fks.length ≤ 4) (by omega)]; simp
  · have a4 := of_decide_eq_true a4
    rw [decide_eq_false (p := s.csts.length ≤ 4) (by omega)]; simp
  have a2 : validPeriods s.vers = true := by simpa using a2
  have a3 := of_decide_eq_false a3
  have a4 := of_decide_eq_false a4
  rw [a1, a2, decide_eq_true (p := s.fks.length ≤ 4) (by omega), decide_eq_true (p := s.csts.length ≤ 4) (by omega)]
  have L2 := hle_trans l1 l2
  simp only [Bool.true_and]
  refine ⟨fun i _ => 0 ≤ i ∧ i ≤ n ∧ (s.vers.all fun v => validColumns v.cols) = ((s.vers.drop i.toNat).all fun v => validColumns v.cols), fun i => n - i.toNat, ⟨by omega, by omega, rfl⟩, ?_⟩
  rintro H3 l3 i ⟨h0, h1, h2⟩
  have L3 := hle_trans L2 l3
  refine ⟨fun hlt => ?_, fun hge => ?_⟩
  · have hlt := of_decide_eq_true hlt
    obtain ⟨hi, hA, _, hcc, ⟨A', n', c', rfl, r1, r2, hvi⟩⟩ := hv.at L3 h0 hlt
    rw [drop_at h0 hi, List.all_cons] at h2
    refine ⟨hA, h0, hlt, _, _, _, _, _, hcc, _, schema_validColumns hvi, ?_⟩
    rintro H4 l4 _ rfl
    refine ⟨fun b1 => ?_, fun b1 => ⟨by simp only [rng]; omega, ⟨by omega, by omega, ?_⟩, by dsimp only; omega⟩⟩
    · simp only [Bool.not_eq_true'] at b1
      rw [h2, b1]; simp
    · simp only [Bool.not_eq_false'] at b1
      rw [h2, b1, Bool.true_and]
  rw [drop_end (of_decide_eq_false hge) v2, List.all_nil] at h2
  rw [h2, Bool.true_and]
  refine ⟨_, schema_validHistory (hv.mono L3) (goodIDs_of h2), ?_⟩
  rintro H4 l4 _ rfl
  have L4 := hle_trans L3 l4
  refine ⟨fun a5 => by simp only [Bool.not_eq_true'] at a5; simp [a5], fun a5 => ⟨_, schema_distinctIDs (hk.mono L4), ?_⟩⟩
  simp only [Bool.not_eq_false'] at a5
  rintro H5 l5 _ rfl
  have L5 := hle_trans L4 l5
  refine ⟨fun a6 => by simp only [Bool.not_eq_true'] at a6; simp [a6], fun a6 => ⟨_, schema_permanent (hv.mono L5) (hk.mono L5), ?_⟩⟩
  simp only [Bool.not_eq_false'] at a6
  rintro H6 l6 _ rfl
  have L6 := hle_trans L5 l6
  refine ⟨fun a7 => by simp only [Bool.not_eq_true'] at a7; simp [a7], fun a7 => ?_⟩
  simp only [Bool.not_eq_false'] at a7
  rw [a5, a6, a7]
  simp only [Bool.true_and]
  refine ⟨fun i _ => 0 ≤ i ∧ i ≤ k ∧ (s.fks.all fun v => fkValid s.vers v) = ((s.fks.drop i.toNat).all fun v => fkValid s.vers v), fun i => k - i.toNat, ⟨by omega, by omega, rfl⟩, ?_⟩
  rintro H7 l7 i ⟨h0, h1, h2⟩
  have L7 := hle_trans L6 l7
  refine ⟨fun hlt => ?_, fun hge => ?_⟩
  · have hlt := of_decide_eq_true hlt
    obtain ⟨hi, hA, _, hcc, ⟨A', n', c', B', m', d', rfl, r1, r2, r3⟩⟩ := hf.at L7 h0 hlt
    rw [drop_at h0 hi, List.all_cons] at h2
    refine ⟨hA, h0, hlt, _, _, _, _, _, _, _, hcc, _, schema_validForeignKey (hv.mono L7) r1 r3, ?_⟩
    rintro H8 l8 _ rfl
    refine ⟨fun b1 => ?_, fun b1 => ⟨by simp only [rng]; omega, ⟨by omega, by omega, ?_⟩, by dsimp only; omega⟩⟩
    · simp only [Bool.not_eq_true'] at b1
      rw [h2, b1]; simp
    · simp only [Bool.not_eq_false'] at b1
      rw [h2, b1, Bool.true_and]
  rw [drop_end (of_decide_eq_false hge) f2, List.all_nil] at h2
  rw [h2, Bool.true_and]
  refine ⟨fun i _ => 0 ≤ i ∧ i ≤ l ∧ (s.csts.all fun v => cstValid s.vers v) = ((s.csts.drop i.toNat).all fun v => cstValid s.vers v), fun i => l - i.toNat, ⟨by omega, by omega, rfl⟩, ?_⟩
  rintro H8 l8 i ⟨h0, h1, h2⟩
  have L8 := hle_trans L7 l8
  refine ⟨fun hlt => ?_, fun hge => ?_⟩
  · have hlt := of_decide_eq_true hlt
    obtain ⟨hi, hA, _, hcc, ⟨A', n', c', rfl, r1, r2⟩⟩ := hc.at L8 h0 hlt
    rw [drop_at h0 hi, List.all_cons] at h2
    refine ⟨hA, h0, hlt, _, _, _, _, hcc, _, schema_validConstraint (hv.mono L8) r2, ?_⟩
    rintro H9 l9 _ rfl
    refine ⟨fun b1 => ?_, fun b1 => ⟨by simp only [rng]; omega, ⟨by omega, by omega, ?_⟩, by dsimp only; omega⟩⟩
    · simp only [Bool.not_eq_true'] at b1
      rw [h2, b1]; simp
    · simp only [Bool.not_eq_false'] at b1
      rw [h2, b1, Bool.true_and]
  rw [drop_end (of_decide_eq_false hge) c2, List.all_nil] at h2
  exact h2.symm

def an39 : Ann where
  res := fun _ => none
  lend := fun _ => false
  sch := fun _ => .done
  lt := fun _ => []
  tup := tups

theorem vc39 (P : Program) (H : Heap) (vRecordedFrom : Int) (vRecordedTo : Int) (vColumnsA : Option Addr) (vColumnsN vColumnsC : Nat) (post : Int → Int → Option Addr → Nat → Nat → Heap → Prop) :
  vcFn P tab an39 Try.f39 [.agg #[.int .i64 vRecordedFrom, .int .i64 vRecordedTo, .slice vColumnsA vColumnsN vColumnsC]] 0 H ⟨false, [(true, [.int .i64, .int .i64, .sl])]⟩ post =
  (  ∃ (post0 : Option Addr → Nat → Nat → Heap → Prop), ConT P 61 [.slice vColumnsA vColumnsN vColumnsC] H ⟨false, [(false, [.sl])]⟩ post0 ∧ ∀ (H1 : Heap), Heap.le H H1 → ∀ (A3 : Option Addr)
  (n4 c5 : Nat), post0 A3 n4 c5 H1 → post vRecordedFrom vRecordedTo A3 n4 c5 H1) := by kernel_rfl
theorem schema_cloneVersion {a b : Int} {l : List Col} (hs : Sl H A n c l) :
    ConT Try.prog 39 [.agg ⟨[.int .i64 a, .int .i64 b, .slice A n c]⟩] H ⟨false, [(true, [.int .i64, .int .i64, .sl])]⟩ (fun a' b' A' n' c' H' => a' = a ∧ b' = b ∧ Sl H' A' n' c' l) := by
  refine con_of_vc (an := an39) (fn := Try.f39) mix tabOK Try.func39 (by kernel_rfl) (extra := 0) ?_
  rw [vc39]
  refine ⟨_, Clone_Col hs, ?_⟩
  intro H1 l1 A' n' c' h
  exact ⟨rfl, rfl, h⟩
def ver0 : Ver := ⟨⟨0, 0⟩, []⟩
def verAt (x : Int) : List Ver → Option Ver
  | [] => none
  | v :: r => if v.rc.lo ≤ x ∧ x < v.rc.hi then some v else verAt x r
def an13 : Ann where
  res := fun _ => none
  lend := fun _ => false
  sch := fun _ => .done
  lt := fun | 2 => [.slot 11 false [.int .i64], .box 4 35 [.int .i64, .int .i64, .sl]] | _ => []
  tup := tups

theorem vc13 (P : Program) (H : Heap) (sName : ByteArray) (sVersionsA : Option Addr) (sVersionsN sVersionsC : Nat) (sKeyA : Option Addr) (sKeyN sKeyC : Nat) (sForeignKeysA : Option Addr) (sForeignKeysN sForeignKeysC : Nat) (sConstraintsA : Option Addr) (sConstraintsN sConstraintsC : Nat) (at0 : Int) (post : Int → Int → Option Addr → Nat → Nat → Bool → Heap → Prop) :
  vcFn P tab an13 Try.f13 [.agg #[.string sName, .slice sVersionsA sVersionsN sVersionsC, .slice sKeyA sKeyN sKeyC, .slice sForeignKeysA sForeignKeysN sForeignKeysC, .slice sConstraintsA sConstraintsN sConstraintsC], .int .i64 at0] 0 H ⟨true, [(true, [.int .i64, .int .i64, .sl]), (false, [.bool])]⟩ post =
  (  ∃ (inv0 : Int → Int → Int → Option Addr → Nat → Nat → Heap → Prop), ∃ (m1 : Int → Int → Int → Option Addr → Nat → Nat → Nat), inv0 (0 : Int) (0 : Int) (0 : Int) none 0 0 H ∧ ∀ (H2 : Heap),
  Heap.le H H2 → ∀ (n4 n5 n6 : Int) (A7 : Option Addr) (n8 c9 : Nat), inv0 n4 n5 n6 A7 n8 c9 H2 → (decide (n4 < (↑sVersionsN : Int)) = true → someA sVersionsA ∧ (0 : Int) ≤ n4 ∧ n4 <
  (↑sVersionsN : Int) ∧ ∃ (n12 : Int), ∃ (n13 : Int), ∃ (A14 : Option Addr), ∃ (n15 : Nat), ∃ (c16 : Nat), Cells H2 sVersionsA (Int.toNat n4 * 3) [.int .i64 n12, .int .i64 n13, .slice A14 n15
  c16] ∧ (decide (n12 ≤ at0) = true → (decide (at0 < n13) = true → ∃ (post19 : Int → Int → Option Addr → Nat → Nat → Heap → Prop), ConT P 39 [.agg ⟨[.int .i64 n12, .int .i64 n13, .slice A14
  n15 c16]⟩] H2 ⟨false, [(true, [.int .i64, .int .i64, .sl])]⟩ post19 ∧ ∀ (H20 : Heap), Heap.le H2 H20 → ∀ (n22 n23 : Int) (A24 : Option Addr) (n25 c26 : Nat), post19 n22 n23 A24 n25 c26 H20
  → post n22 n23 A24 n25 c26 true H20) ∧ (decide (at0 < n13) = false → rng .i64 (n4 + (1 : Int)) ∧ inv0 (n4 + (1 : Int)) n5 n6 A7 n8 c9 H2 ∧ m1 (n4 + (1 : Int)) n5 n6 A7 n8 c9 < m1 n4 n5 n6
  A7 n8 c9)) ∧ (decide (n12 ≤ at0) = false → rng .i64 (n4 + (1 : Int)) ∧ inv0 (n4 + (1 : Int)) n5 n6 A7 n8 c9 H2 ∧ m1 (n4 + (1 : Int)) n5 n6 A7 n8 c9 < m1 n4 n5 n6 A7 n8 c9)) ∧ (decide (n4 <
  (↑sVersionsN : Int)) = false → post (0 : Int) (0 : Int) none 0 0 false H2)) := by kernel_rfl
theorem schema_At {x : Int} (hs : IsTSch H nm A n c B m d E k e F l f s) :
    ConT Try.prog 13 [.agg ⟨[.string nm, .slice A n c, .slice B m d, .slice E k e, .slice F l f]⟩, .int .i64 x] H ⟨true, [(true, [.int .i64, .int .i64, .sl]), (false, [.bool])]⟩
      (fun a b A' n' c' ok H' => ok = (verAt x s.vers).isSome ∧ rng .i64 a ∧ rng .i64 b ∧ ∃ l, Sl H' A' n' c' l ∧ (⟨⟨a, b⟩, l⟩ : Ver) = (verAt x s.vers).getD ver0) := by
  refine con_of_vc (an := an13) (fn := Try.f13) mix tabOK Try.func13 (by kernel_rfl) (extra := 0) ?_
  rw [vc13]
  have hv := hs.vers
  have v1 := hv.bn; have v2 := hv.len
  refine ⟨fun i _ _ _ _ _ _ => 0 ≤ i ∧ i ≤ n ∧ verAt x s.vers = verAt x (s.vers.drop i.toNat), fun i _ _ _ _ _ => n - i.toNat, ⟨by omega, by omega, rfl⟩, ?_⟩
  rintro H2 hle i _ _ _ _ _ ⟨h0, h1, h2⟩
  refine ⟨fun hlt => ?_, fun hge => ?_⟩
  · have hlt := of_decide_eq_true hlt
    obtain ⟨hi, hA, _, hcc, ⟨A', n', c', rfl, r1, r2, hvi⟩⟩ := hv.at hle h0 hlt
    rw [drop_at h0 hi, verAt] at h2
    refine ⟨hA, h0, hlt, _, _, _, _, _, hcc, fun b1 => ⟨fun b2 => ?_, fun b2 => ?_⟩, fun b1 => ?_⟩
    · rw [if_pos ⟨of_decide_eq_true b1, of_decide_eq_true b2⟩] at h2
      refine ⟨_, schema_cloneVersion hvi, ?_⟩
      rintro H3 l3 _ _ A'' n'' c'' ⟨rfl, rfl, h⟩
      rw [h2]
      exact ⟨rfl, r1, r2, _, h, rfl⟩
    · rw [if_neg (fun h => of_decide_eq_false b2 h.2)] at h2
      exact ⟨by simp only [rng]; omega, ⟨by omega, by omega, h2⟩, by dsimp only; omega⟩
    · rw [if_neg (fun h => of_decide_eq_false b1 h.1)] at h2
      exact ⟨by simp only [rng]; omega, ⟨by omega, by omega, h2⟩, by dsimp only; omega⟩
  · rw [drop_end (of_decide_eq_false hge) v2, verAt] at h2
    rw [h2]
    exact ⟨rfl, by simp [rng], by simp [rng], [], Sl.nil, rfl⟩
def widthCols : Int → List Col → Int
  | w, [] => w
  | w, c :: r => widthCols (max w c.id) r
def widthGo : Int → List Ver → Int
  | w, [] => w
  | w, v :: r => widthGo (widthCols w v.cols) r
def width (s : TSch) : Int := widthGo 0 s.vers
def an20 : Ann where
  res := fun _ => none
  lend := fun _ => false
  sch := fun _ => .done
  lt := fun | 3 => [.slot 3 false [.int .i64], .slot 11 false [.int .i64]] | 6 => [.slot 3 false [.int .i64], .slot 18 false [.int .i64]] | _ => []
  tup := tups

theorem vc20 (P : Program) (H : Heap) (sName : ByteArray) (sVersionsA : Option Addr) (sVersionsN sVersionsC : Nat) (sKeyA : Option Addr) (sKeyN sKeyC : Nat) (sForeignKeysA : Option Addr) (sForeignKeysN sForeignKeysC : Nat) (sConstraintsA : Option Addr) (sConstraintsN sConstraintsC : Nat) (post : Int → Heap → Prop) :
  vcFn P tab an20 Try.f20 [.agg #[.string sName, .slice sVersionsA sVersionsN sVersionsC, .slice sKeyA sKeyN sKeyC, .slice sForeignKeysA sForeignKeysN sForeignKeysC, .slice sConstraintsA sConstraintsN sConstraintsC]] 0 H ⟨false, [(false, [.int .i64])]⟩ post =
  (  ∃ (inv0 : Int → Int → Heap → Prop), ∃ (m1 : Int → Int → Nat), inv0 (0 : Int) (0 : Int) H ∧ ∀ (H2 : Heap), Heap.le H H2 → ∀ (n4 n5 : Int), inv0 n4 n5 H2 → (decide (n5 < (↑sVersionsN : Int))
  = true → someA sVersionsA ∧ (0 : Int) ≤ n5 ∧ n5 < (↑sVersionsN : Int) ∧ ∃ (n8 : Int), ∃ (n9 : Int), ∃ (A10 : Option Addr), ∃ (n11 : Nat), ∃ (c12 : Nat), Cells H2 sVersionsA (Int.toNat n5 *
  3) [.int .i64 n8, .int .i64 n9, .slice A10 n11 c12] ∧ ∃ (inv13 : Int → Int → Heap → Prop), ∃ (m14 : Int → Int → Nat), inv13 n4 (0 : Int) H2 ∧ ∀ (H15 : Heap), Heap.le H2 H15 → ∀ (n17 n18 :
  Int), inv13 n17 n18 H15 → (decide (n18 < (↑n11 : Int)) = true → someA A10 ∧ (0 : Int) ≤ n18 ∧ n18 < (↑n11 : Int) ∧ ∃ (n21 : Int), ∃ (s22 : ByteArray), ∃ (n23 : Int), Cells H15 A10
  (Int.toNat n18 * 3) [.int .i64 n21, .string s22, .int .i64 n23] ∧ rng .i64 (n18 + (1 : Int)) ∧ inv13 (max n17 n21) (n18 + (1 : Int)) H15 ∧ m14 (max n17 n21) (n18 + (1 : Int)) < m14 n17 n18)
  ∧ (decide (n18 < (↑n11 : Int)) = false → rng .i64 (n5 + (1 : Int)) ∧ inv0 n17 (n5 + (1 : Int)) H15 ∧ m1 n17 (n5 + (1 : Int)) < m1 n4 n5)) ∧ (decide (n5 < (↑sVersionsN : Int)) = false → post
  n4 H2)) := by kernel_rfl
theorem schema_Width (hs : IsTSch H nm A n c B m d E k e F l f s) :
    ConT Try.prog 20 [.agg ⟨[.string nm, .slice A n c, .slice B m d, .slice E k e, .slice F l f]⟩] H shI (fun r _ => r = width s ∧ rng .i64 r) := by
  refine con_of_vc (an := an20) (fn := Try.f20) mix tabOK Try.func20 (by kernel_rfl) (extra := 0) ?_
  rw [vc20]
  have hv := hs.vers
  have v1 := hv.bn; have v2 := hv.len
  unfold width
  refine ⟨fun w i _ => 0 ≤ i ∧ i ≤ n ∧ rng .i64 w ∧ widthGo 0 s.vers = widthGo w (s.vers.drop i.toNat), fun _ i => n - i.toNat, ⟨by omega, by omega, by simp [rng], rfl⟩, ?_⟩
  rintro H2 hle w i ⟨h0, h1, hw, h2⟩
  refine ⟨fun hlt => ?_, fun hge => ?_⟩
  · have hlt := of_decide_eq_true hlt
    obtain ⟨hi, hA, _, hcc, ⟨A', n', c', rfl, r1, r2, hvi⟩⟩ := hv.at hle h0 hlt
    rw [drop_at h0 hi, widthGo] at h2
    have d1 := hvi.bn; have d2 := hvi.len
    generalize s.vers[i.toNat].cols = cs at h2 hvi d2
    refine ⟨hA, h0, hlt, _, _, _, _, _, hcc, fun w' j _ => 0 ≤ j ∧ j ≤ n' ∧ rng .i64 w' ∧ widthCols w cs = widthCols w' (cs.drop j.toNat), fun _ j => n' - j.toNat, ⟨by omega, by omega, hw, rfl⟩, ?_⟩
    rintro H3 hle3 w' j ⟨j0, j1, jw, j2⟩
    refine ⟨fun jlt => ?_, fun jge => ?_⟩
    · have jlt := of_decide_eq_true jlt
      obtain ⟨ji, jA, _, jc, rfl, q1, q2, q3⟩ := hvi.at hle3 j0 jlt
      rw [drop_at j0 ji, widthCols] at j2
      exact ⟨jA, j0, jlt, _, _, _, jc, by simp only [rng]; omega, ⟨by omega, by omega, by simp only [rng] at *; omega, j2⟩, by dsimp only; omega⟩
    · rw [drop_end (of_decide_eq_false jge) d2, widthCols] at j2
      exact ⟨by simp only [rng]; omega, ⟨by omega, by omega, jw, by rw [h2, j2]⟩, by dsimp only; omega⟩
  · rw [drop_end (of_decide_eq_false hge) v2, widthGo] at h2
    exact ⟨h2.symm, hw⟩
end
end Go.Vc

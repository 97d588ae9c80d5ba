/- Small schemas. -/
import Derived.Test.YthbapbapcnafhaaP2
set_option linter.unusedSectionVars false
set_option linter.unusedSimpArgs false
set_option linter.unusedVariables false
namespace Go.Vc
open Go Go.Proofs
def few (s : TSch) : Bool := decide (s.name.size ≤ 200) && decide (s.vers.length ≤ 12) && decide (s.key.length ≤ 20) && decide (s.fks.length ≤ 10) && decide (s.csts.length ≤ 10) && (s.vers.all fun v => decide (v.cols.length ≤ 20)) &&
  (s.fks.all fun f => decide (f.cols.length ≤ 20) && decide (f.refs.length ≤ 20)) && (s.csts.all fun c => decide (c.cols.length ≤ 20))
section
variable {H : Heap} {nm : ByteArray} {A : Option Addr} {n c : Nat} {B : Option Addr} {m d : Nat} {E : Option Addr} {k e : Nat} {F : Option Addr} {l f : Nat} {s : TSch}
def an12 : Ann where
  res := fun _ => none
  lend := fun _ => false
  sch := fun _ => .done
  lt := fun | 4 => [.slot 3 false [.int .i64]] | 9 => [.slot 4 false [.int .i64]] | 14 => [.slot 5 false [.int .i64]] | _ => []
  tup := tups

theorem vc12 (P : Program) (H : Heap) (sName : ByteArray) (sVersionsA : Option Addr) (sVersionsN sVersionsC : Nat) (sKeyA : Option Addr) (sKeyN sKeyC : Nat) (sForeignKeysA : Option Addr) (sForeignKeysN sForeignKeysC : Nat) (sConstraintsA : Option Addr) (sConstraintsN sConstraintsC : Nat) (post : Bool → Heap → Prop) :
  vcFn P tab an12 Try.f12 [.agg #[.string sName, .slice sVersionsA sVersionsN sVersionsC, .slice sKeyA sKeyN sKeyC, .slice sForeignKeysA sForeignKeysN sForeignKeysC, .slice sConstraintsA sConstraintsN sConstraintsC]] 0 H ⟨false, [(false, [.bool])]⟩ post =
  (  (decide ((200 : Int) < (↑(ByteArray.size sName) : Int)) = true → post false H) ∧ (decide ((200 : Int) < (↑(ByteArray.size sName) : Int)) = false → (decide ((12 : Int) < (↑sVersionsN : Int))
  = true → post false H) ∧ (decide ((12 : Int) < (↑sVersionsN : Int)) = false → (decide ((20 : Int) < (↑sKeyN : Int)) = true → post false H) ∧ (decide ((20 : Int) < (↑sKeyN : Int)) = false →
  (decide ((10 : Int) < (↑sForeignKeysN : Int)) = true → post false H) ∧ (decide ((10 : Int) < (↑sForeignKeysN : Int)) = false → (decide ((10 : Int) < (↑sConstraintsN : Int)) = true → post
  false H) ∧ (decide ((10 : Int) < (↑sConstraintsN : Int)) = false → ∃ (inv10 : Int → Heap → Prop), ∃ (m11 : Int → Nat), inv10 (0 : Int) H ∧ ∀ (H12 : Heap), Heap.le H H12 → ∀ (n14 : Int),
  inv10 n14 H12 → (decide (n14 < (↑sVersionsN : Int)) = true → someA sVersionsA ∧ (0 : Int) ≤ n14 ∧ n14 < (↑sVersionsN : Int) ∧ ∃ (A17 : Option Addr), ∃ (n18 : Nat), ∃ (c19 : Nat), Cells H12
  sVersionsA (Int.toNat n14 * 3 + 2) [.slice A17 n18 c19] ∧ (decide ((20 : Int) < (↑n18 : Int)) = true → post false H12) ∧ (decide ((20 : Int) < (↑n18 : Int)) = false → rng .i64 (n14 + (1 :
  Int)) ∧ inv10 (n14 + (1 : Int)) H12 ∧ m11 (n14 + (1 : Int)) < m11 n14)) ∧ (decide (n14 < (↑sVersionsN : Int)) = false → ∃ (inv23 : Int → Heap → Prop), ∃ (m24 : Int → Nat), inv23 (0 : Int)
  H12 ∧ ∀ (H25 : Heap), Heap.le H12 H25 → ∀ (n27 : Int), inv23 n27 H25 → (decide (n27 < (↑sForeignKeysN : Int)) = true → someA sForeignKeysA ∧ (0 : Int) ≤ n27 ∧ n27 < (↑sForeignKeysN : Int) ∧
  ∃ (A30 : Option Addr), ∃ (n31 : Nat), ∃ (c32 : Nat), Cells H25 sForeignKeysA (Int.toNat n27 * 3 + 0) [.slice A30 n31 c32] ∧ (decide ((20 : Int) < (↑n31 : Int)) = true → post false H25) ∧
  (decide ((20 : Int) < (↑n31 : Int)) = false → someA sForeignKeysA ∧ (0 : Int) ≤ n27 ∧ n27 < (↑sForeignKeysN : Int) ∧ ∃ (A35 : Option Addr), ∃ (n36 : Nat), ∃ (c37 : Nat), Cells H25
  sForeignKeysA (Int.toNat n27 * 3 + 2) [.slice A35 n36 c37] ∧ (decide ((20 : Int) < (↑n36 : Int)) = true → post false H25) ∧ (decide ((20 : Int) < (↑n36 : Int)) = false → rng .i64 (n27 + (1
  : Int)) ∧ inv23 (n27 + (1 : Int)) H25 ∧ m24 (n27 + (1 : Int)) < m24 n27))) ∧ (decide (n27 < (↑sForeignKeysN : Int)) = false → ∃ (inv41 : Int → Heap → Prop), ∃ (m42 : Int → Nat), inv41 (0 :
  Int) H25 ∧ ∀ (H43 : Heap), Heap.le H25 H43 → ∀ (n45 : Int), inv41 n45 H43 → (decide (n45 < (↑sConstraintsN : Int)) = true → someA sConstraintsA ∧ (0 : Int) ≤ n45 ∧ n45 < (↑sConstraintsN :
  Int) ∧ ∃ (A48 : Option Addr), ∃ (n49 : Nat), ∃ (c50 : Nat), Cells H43 sConstraintsA (Int.toNat n45 * 2 + 1) [.slice A48 n49 c50] ∧ (decide ((20 : Int) < (↑n49 : Int)) = true → post false
  H43) ∧ (decide ((20 : Int) < (↑n49 : Int)) = false → rng .i64 (n45 + (1 : Int)) ∧ inv41 (n45 + (1 : Int)) H43 ∧ m42 (n45 + (1 : Int)) < m42 n45)) ∧ (decide (n45 < (↑sConstraintsN : Int)) =
  false → post true H43))))))))) := by kernel_rfl
set_option maxHeartbeats 1000000 in
theorem law0_FewSchema (hs : IsTSch H nm A n c B m d E k e F l f s) :
    ConT Try.prog 12 [.agg ⟨[.string nm, .slice A n c, .slice B m d, .slice E k e, .slice F l f]⟩] H shB (fun r _ => r = few s) := by
  refine con_of_vc (an := an12) (fn := Try.f12) mix tabOK Try.func12 (by kernel_rfl) (extra := 0) ?_
  rw [vc12]
  obtain ⟨rfl, hstr, hv, hk, hf, hc⟩ := id hs
  have v1 := hv.bn; have v2 := hv.len; have f1 := hf.bn; have f2 := hf.len; have c1 := hc.bn; have c2 := hc.len; have k2 := hk.len
  unfold few
  refine ⟨fun h => ?_, fun t1 => ⟨fun h => ?_, fun t2 => ⟨fun h => ?_, fun t3 => ⟨fun h => ?_, fun t4 => ⟨fun h => ?_, fun t5 => ?_⟩⟩⟩⟩⟩
  · have h := of_decide_eq_true h
    rw [decide_eq_false (p := s.name.size ≤ 200) (by omega)]; simp
  · have h := of_decide_eq_true h
    rw [decide_eq_false (p := s.vers.length ≤ 12) (by omega)]; simp
  · have h := of_decide_eq_true h
    rw [decide_eq_false (p := s.key.length ≤ 20) (by omega)]; simp
  · have h := of_decide_eq_true h
    rw [decide_eq_false (p := s.fks.length ≤ 10) (by omega)]; simp
  · have h := of_decide_eq_true h
    rw [decide_eq_false (p := s.csts.length ≤ 10) (by omega)]; simp
  have t1 := of_decide_eq_false t1; have t2 := of_decide_eq_false t2; have t3 := of_decide_eq_false t3; have t4 := of_decide_eq_false t4; have t5 := of_decide_eq_false t5
  rw [decide_eq_true (p := s.name.size ≤ 200) (by omega), decide_eq_true (p := s.vers.length ≤ 12) (by omega), decide_eq_true (p := s.key.length ≤ 20) (by omega), decide_eq_true (p := s.fks.length ≤ 10) (by omega), decide_eq_true (p := s.csts.length ≤ 10) (by omega)]
  simp only [Bool.true_and]
  refine ⟨fun i _ => 0 ≤ i ∧ i ≤ n ∧ (s.vers.all fun v => decide (v.cols.length ≤ 20)) = ((s.vers.drop i.toNat).all fun v => decide (v.cols.length ≤ 20)), fun i => n - i.toNat, ⟨by omega, by omega, rfl⟩, ?_⟩
  rintro H2 L2 i ⟨i0, i1, g2⟩
  refine ⟨fun hlt => ?_, fun hge => ?_⟩
  · have hlt := of_decide_eq_true hlt
    obtain ⟨hi, hA, _, hcc, ⟨A', n', c', rfl, r1, r2, r3⟩⟩ := hv.at L2 i0 hlt
    have e1 := r3.len
    rw [drop_at i0 hi, List.all_cons] at g2
    refine ⟨hA, i0, hlt, _, _, _, hcc.at1 (k := 2) rfl, fun h => ?_, fun u => ⟨by simp only [rng]; omega, ⟨by omega, by omega, ?_⟩, by dsimp only; omega⟩⟩
    · have h := of_decide_eq_true h
      rw [g2, decide_eq_false (p := s.vers[i.toNat].cols.length ≤ 20) (by omega)]; simp
    · have u := of_decide_eq_false u
      rw [g2, decide_eq_true (p := s.vers[i.toNat].cols.length ≤ 20) (by omega)]; rfl
  rw [drop_end (of_decide_eq_false hge) v2, List.all_nil] at g2
  rw [g2, Bool.true_and]
  refine ⟨fun i _ => 0 ≤ i ∧ i ≤ k ∧ (s.fks.all fun f => decide (f.cols.length ≤ 20) && decide (f.refs.length ≤ 20)) = ((s.fks.drop i.toNat).all fun f => decide (f.cols.length ≤ 20) && decide (f.refs.length ≤ 20)), fun i => k - i.toNat, ⟨by omega, by omega, rfl⟩, ?_⟩
  rintro H3 l3 i ⟨i0, i1, g3⟩
  have L3 := hle_trans L2 l3
  refine ⟨fun hlt => ?_, fun hge => ?_⟩
  · have hlt := of_decide_eq_true hlt
    obtain ⟨hi, hA, _, hcc, ⟨A', n', c', B', m', d', rfl, r1, r2, r3⟩⟩ := hf.at L3 i0 hlt
    have e1 := r1.len
    have e2 := r3.len
    rw [drop_at i0 hi, List.all_cons] at g3
    refine ⟨hA, i0, hlt, _, _, _, hcc.at1 (k := 0) rfl, fun h => ?_, fun u => ⟨hA, i0, hlt, _, _, _, hcc.at1 (k := 2) rfl, fun h => ?_, fun u' => ⟨by simp only [rng]; omega, ⟨by omega, by omega, ?_⟩, by dsimp only; omega⟩⟩⟩
    · have h := of_decide_eq_true h
      rw [g3, decide_eq_false (p := s.fks[i.toNat].cols.length ≤ 20) (by omega)]; simp
    · have h := of_decide_eq_true h
      rw [g3, decide_eq_false (p := s.fks[i.toNat].refs.length ≤ 20) (by omega)]; simp
    · have u := of_decide_eq_false u
      have u' := of_decide_eq_false u'
      rw [g3, decide_eq_true (p := s.fks[i.toNat].cols.length ≤ 20) (by omega), decide_eq_true (p := s.fks[i.toNat].refs.length ≤ 20) (by omega)]; rfl
  rw [drop_end (of_decide_eq_false hge) f2, List.all_nil] at g3
  rw [g3, Bool.true_and]
  refine ⟨fun i _ => 0 ≤ i ∧ i ≤ l ∧ (s.csts.all fun v => decide (v.cols.length ≤ 20)) = ((s.csts.drop i.toNat).all fun v => decide (v.cols.length ≤ 20)), fun i => l - i.toNat, ⟨by omega, by omega, rfl⟩, ?_⟩
  rintro H4 l4 i ⟨i0, i1, g4⟩
  have L4 := hle_trans L3 l4
  refine ⟨fun hlt => ?_, fun hge => ?_⟩
  · have hlt := of_decide_eq_true hlt
    obtain ⟨hi, hA, _, hcc, ⟨A', n', c', rfl, r1, r3⟩⟩ := hc.at L4 i0 hlt
    have e1 := r3.len
    rw [drop_at i0 hi, List.all_cons] at g4
    refine ⟨hA, i0, hlt, _, _, _, hcc.at1 (k := 1) rfl, fun h => ?_, fun u => ⟨by simp only [rng]; omega, ⟨by omega, by omega, ?_⟩, by dsimp only; omega⟩⟩
    · have h := of_decide_eq_true h
      rw [g4, decide_eq_false (p := s.csts[i.toNat].cols.length ≤ 20) (by omega)]; simp
    · have u := of_decide_eq_false u
      rw [g4, decide_eq_true (p := s.csts[i.toNat].cols.length ≤ 20) (by omega)]; rfl
  rw [drop_end (of_decide_eq_false hge) c2, List.all_nil] at g4
  exact g4.symm
end
end Go.Vc

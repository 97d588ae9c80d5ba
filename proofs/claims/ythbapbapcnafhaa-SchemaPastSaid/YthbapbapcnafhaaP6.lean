/- The laws' own schemas are valid. -/
import Derived.Test.YthbapbapcnafhaaC9
set_option linter.unusedSectionVars false
set_option linter.unusedSimpArgs false
set_option linter.unusedVariables false
namespace Go.Vc
open Go
def smallS (n : Nat) (lo : Int) (key : List Int) (fks : List FKey) (csts : List Cst) : TSch := ⟨⟨⟨[116]⟩⟩, [⟨⟨lo, 1099511627776⟩, mkCols n⟩], key, fks, csts⟩
theorem small_valid : ([2, 3].all fun n => [0, 2].all fun lo => [[], [1], [2, 1]].all fun key => ([] :: tables.map fun t => [⟨[1], t, [1]⟩]).all fun fks => [[], [⟨1, [2]⟩], [⟨2, [1, 2]⟩]].all fun csts => schemaValid (smallS n lo key fks csts)) = true := by kernel_rfl
theorem mkSchema_small {a b c d : Int} (ha : rng .u16 a) (hc : rng .u16 c) : ∃ n ∈ [2, 3], ∃ key ∈ [[], [1], [2, 1]], ∃ fks ∈ ([] :: tables.map fun t => [⟨[1], t, [1]⟩] : List (List FKey)), ∃ csts ∈ ([[], [⟨1, [2]⟩], [⟨2, [1, 2]⟩]] : List (List Cst)),
    mkSchema ⟨⟨[116]⟩⟩ a b c d = smallS n 0 key fks csts := by
  have h2 := u16_tmod ha 2 (by omega)
  refine ⟨2 + (a.tmod 2).toNat, ?_, mkKey b, ?_, mkFks c, ?_, mkCsts d, ?_, rfl⟩
  · obtain h | h : a.tmod 2 = 0 ∨ a.tmod 2 = 1 := by omega
    all_goals rw [h]; decide
  · unfold mkKey; split
    · decide
    · split <;> decide
  · unfold mkFks; split
    · have h5 : 0 ≤ c.tdiv 5 := Int.tdiv_nonneg hc.1 (by omega)
      have e : (c.tdiv 5).tmod 3 = (c.tdiv 5) % 3 := Int.tmod_eq_emod_of_nonneg h5
      have h3 : 0 ≤ (c.tdiv 5) % 3 ∧ (c.tdiv 5) % 3 < 3 := ⟨Int.emod_nonneg _ (by omega), Int.emod_lt_of_pos _ (by omega)⟩
      unfold tableName
      rw [e]
      generalize (c.tdiv 5) % 3 = y at h3
      obtain rfl | rfl | rfl : y = 0 ∨ y = 1 ∨ y = 2 := by omega
      all_goals decide
    · simp
  · unfold mkCsts; split
    · decide
    · split <;> decide
theorem create_law {a b c d : Int} (ha : rng .u16 a) (hc : rng .u16 c) : (createSch (mkSchema ⟨⟨[116]⟩⟩ a b c d) 2).2 = 0 ∧ schemaValid (createSch (mkSchema ⟨⟨[116]⟩⟩ a b c d) 2).1 = true ∧ (createSch (mkSchema ⟨⟨[116]⟩⟩ a b c d) 2).1.vers.length = 1 := by
  obtain ⟨n, hn, key, hk, fks, hf, csts, hcs, e⟩ := mkSchema_small (b := b) (d := d) ha hc
  rw [e]
  have hv : ∀ lo ∈ [(0 : Int), 2], schemaValid (smallS n lo key fks csts) = true := fun lo hlo =>
    List.all_eq_true.1 (List.all_eq_true.1 (List.all_eq_true.1 (List.all_eq_true.1 (List.all_eq_true.1 small_valid n hn) lo hlo) key hk) fks hf) csts hcs
  have : createSch (smallS n 0 key fks csts) 2 = (smallS n 2 key fks csts, 0) := by
    unfold createSch
    rw [if_neg (by omega), if_neg (by rw [hv 0 (by simp)]; simp)]
    rfl
  rw [this]
  exact ⟨rfl, hv 2 (by simp), rfl⟩
theorem step_valid {s : TSch} {a c d now : Int} (h : (stepSch s a c d now).2 = 0) : schemaValid (stepSch s a c d now).1 = true := by
  unfold stepSch at h ⊢
  split
  · rename_i h0; rw [if_pos h0] at h; exact dropCol_valid h
  · rename_i h0; rw [if_neg h0] at h; exact addCol_valid h
theorem changeVers_length {l : List Ver} {cols : List Col} {x : Int} : (changeVers l cols x).length ≤ l.length + 1 := by
  unfold changeVers
  split
  · omega
  · rename_i v hv
    obtain ⟨init, rfl⟩ := last_split hv
    rw [List.dropLast_concat]
    split <;> simp
theorem step_length {s : TSch} {a c d now : Int} : (stepSch s a c d now).1.vers.length ≤ s.vers.length + 1 := by
  unfold stepSch dropCol addCol
  repeat' split
  all_goals first | exact Nat.zero_le _ | exact changeVers_length
end Go.Vc

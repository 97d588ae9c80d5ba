/- The arguments of the laws on timelines: how they are read. -/
import Derived.Test.YteogpcpleokfbaaGJAg19
import Derived.Test.YteogpcpleokfbaaGJAg20
set_option linter.unusedSectionVars false
set_option linter.unusedSimpArgs false
set_option linter.unusedVariables false
namespace Go.Vc
open Go Go.Proofs Go.Shelf
end Go.Vc
/- The arguments of the laws on timelines: arrays of six. -/
namespace Go.Vc
open Go Go.Proofs Go.Shelf
structure U16 where
  n : Int
instance : Rep U16 where
  sz := 1
  byt := 2
  rel _ vs v := vs = [.int .u16 v.n] ∧ rng .u16 v.n
  mono _ h := h
  len h := by simp [h.1]
  pos := by decide
  bpos := by decide
  one h := by rw [h.1]; simp [Value.oneCell']
theorem opn_U16 {P : Program} {t : TypeId} (ht : P.underlying t = some (.int .u16)) (hc : P.cellsOf t = 1) (hb : P.bytesOf t = 2) : Opn P t U16 :=
  ⟨hc, hb, sp_int ht, fun h _ => by obtain ⟨n, rfl, rfl, hw⟩ := DataW.trod_int ht h; exact ⟨⟨n⟩, rfl, wf_rng hw⟩⟩
theorem opn_U6 {P : Program} {t e : TypeId} (ht : P.underlying t = some (.array 6 e)) (he : P.underlying e = some (.int .u16)) (hce : P.cellsOf e = 1) (hc : P.cellsOf t = 6) (hb : P.bytesOf t = 12) : Opn P t U6 := by
  refine ⟨hc, hb, sp_array ht (sp_int he), fun {H enc w base fuel cs x} h hw => ?_⟩
  obtain ⟨xs, n, rfl, rfl, hl, hxl, hat⟩ := DataW.trod_array ht h
  rw [hc] at hl
  simp only [hce] at hat
  have hg : ∀ j, j < 6 → ∃ y, cs[j]? = some (.int .u16 y) ∧ rng .u16 y := by
    intro j hj
    have h1 := hat j hj
    obtain ⟨y, hy, -, hwf⟩ := DataW.trod_int he (h1.trans (List.getElem?_eq_getElem (by omega : j < xs.length)))
    refine ⟨y, ?_, wf_rng hwf⟩
    have : ((cs.drop (j * 1)).take 1)[0]? = some (.int .u16 y) := by rw [hy]; rfl
    rw [List.getElem?_take_of_lt (by omega), List.getElem?_drop] at this
    simpa using this
  obtain ⟨y0, h0, r0⟩ := hg 0 (by omega)
  obtain ⟨y1, h1, r1⟩ := hg 1 (by omega)
  obtain ⟨y2, h2, r2⟩ := hg 2 (by omega)
  obtain ⟨y3, h3, r3⟩ := hg 3 (by omega)
  obtain ⟨y4, h4, r4⟩ := hg 4 (by omega)
  obtain ⟨y5, h5, r5⟩ := hg 5 (by omega)
  clear hat hg h hw
  match cs, hl, h0, h1, h2, h3, h4, h5 with
  | [c0, c1, c2, c3, c4, c5], _, h0, h1, h2, h3, h4, h5 =>
    simp only [List.getElem?_cons_zero, List.getElem?_cons_succ, Option.some.injEq] at h0 h1 h2 h3 h4 h5
    subst h0 h1 h2 h3 h4 h5
    exact ⟨⟨y0, y1, y2, y3, y4, y5⟩, rfl, r0, r1, r2, r3, r4, r5⟩
theorem oU6 : Opn Try.prog 105 U6 := opn_U6 Try.underlying105 Try.underlying38 (by kernel_rfl) (by kernel_rfl) (by kernel_rfl)
theorem oU6s : Opn Try.prog 41 (List U6) := opn_slice Try.underlying41 (by kernel_rfl) (by kernel_rfl) oU6
theorem oU16 : Opn Try.prog 38 U16 := opn_U16 Try.underlying38 (by kernel_rfl) (by kernel_rfl)
end Go.Vc

/- ConstraintSplit: splitting does not change the violations of a constraint. -/
import Derived.Test.YtpgcjofhfaonpaaGreatDoorGJS17
import Derived.Test.YtpgcjofhfaonpaaGreatDoorGJS23
set_option linter.unusedSectionVars false
set_option linter.unusedSimpArgs false
set_option linter.unusedVariables false
namespace Go.Vc
open Go Go.Proofs Go.Shelf
theorem split_fit {l l' : List Tup} {cols : List Int} (h : SplitR l l') (hf : Fit l cols) (h1 : l'.length < 300) (h2 : (tlins l').length ≤ 100000) : Fit l' cols :=
  ⟨h1, hf.clen, by omega, fun t ht => by
    obtain ⟨s, hs, e, -⟩ := split_mem h t ht
    rw [e]; exact hf.keys s hs⟩
theorem lTups_fit3 {H : Heap} {A : Option Addr} {n c most : Nat} {l : List U5} (h : Sl H A n c l) (hm : most < 20) {cols : List Int} (hc : cols.length ≤ 2) : Fit (lTups l most) cols := by
  have h1 := lTups_len l most; have h2 := lTups_lins l most
  exact fit_of (by omega) hc (by omega) (lTups_val fun x hx => ⟨(u5_nn h x hx).2.2.1, (u5_nn h x hx).2.2.2⟩)
def an7 : Ann where
  res := fun _ => none
  lend := fun | 15 => true | 24 => true | 36 => true | _ => false
  sch := fun _ => .done
  lt := fun _ => []
  tup := tups

theorem vc7 (P : Program) (H : Heap) (aA : Option Addr) (aN aC : Nat) (x : Int) (kind : Int) (pointsA : Option Addr) (pointsN pointsC : Nat) (post : Bool → Heap → Prop) :
  vcFn P tab an7 Tryz.f7 [.slice aA aN aC, .int .u16 x, .int .u16 kind, .slice pointsA pointsN pointsC] 0 H ⟨false, [(false, [.bool])]⟩ post =
  (  (decide ((20 : Int) < (↑pointsN : Int)) = true → ∃ (post1 : Bool → Heap → Prop), ConT P 9 [] H ⟨false, [(false, [.bool])]⟩ post1 ∧ ∀ (H2 : Heap), Heap.le H H2 → ∀ (b4 : Bool), post1 b4 H2 →
  post b4 H2) ∧ (decide ((20 : Int) < (↑pointsN : Int)) = false → ∃ (post7 : Option Addr → Nat → Nat → Heap → Prop), ConT P 16 [.slice aA aN aC, .int .i64 (12 : Int)] H ⟨false, [(false,
  [.sl])]⟩ post7 ∧ ∀ (H8 : Heap), Heap.le H H8 → ∀ (A10 : Option Addr) (n11 c12 : Nat), post7 A10 n11 c12 H8 → ∃ (post14 : Option Addr → Nat → Nat → Heap → Prop), ConT P 17 [.int .u16 x] H8
  ⟨false, [(false, [.sl])]⟩ post14 ∧ ∀ (H15 : Heap), Heap.le H8 H15 → ∀ (A17 : Option Addr) (n18 c19 : Nat), post14 A17 n18 c19 H15 → (2 : Int) ≠ (0 : Int) ∧ ∃ (e21 : Int), IntKind.wrap
  IntKind.i64 (Int.tmod kind (2 : Int)) = e21 ∧ rng .i64 ((1 : Int) + e21) ∧ ∃ (post22 : Bool → Heap → Prop), ConT P 9 [] H15 ⟨false, [(false, [.bool])]⟩ post22 ∧ ∀ (H23 : Heap), Heap.le H15
  H23 → ∀ (b25 : Bool), post22 b25 H23 → (b25 = true → ∃ (post28 : Option Addr → Nat → Nat → Heap → Prop), ConT P 22 [.slice A10 n11 c12, .slice pointsA pointsN pointsC] H23 ⟨false, [(false,
  [.sl])]⟩ post28 ∧ ∀ (H29 : Heap), Heap.le H23 H29 → ∀ (A31 : Option Addr) (n32 c33 : Nat), post28 A31 n32 c33 H29 → ∃ (post35 : Option Addr → Nat → Nat → Heap → Prop), ConT P 14 [.slice A31
  n32 c33, .int .i64 ((1 : Int) + e21), .slice A17 n18 c19] H29 ⟨false, [(false, [.sl])]⟩ post35 ∧ ∀ (H36 : Heap), Heap.le H29 H36 → ∀ (A38 : Option Addr) (n39 c40 : Nat), post35 A38 n39 c40
  H36 → ∃ (post42 : Option Addr → Nat → Nat → Heap → Prop), ConT P 14 [.slice A10 n11 c12, .int .i64 ((1 : Int) + e21), .slice A17 n18 c19] H36 ⟨false, [(false, [.sl])]⟩ post42 ∧ ∀ (H43 :
  Heap), Heap.le H36 H43 → ∀ (A45 : Option Addr) (n46 c47 : Nat), post42 A45 n46 c47 H43 → ∃ (post49 : Bool → Heap → Prop), ConT P 11 [.slice A38 n39 c40, .slice A45 n46 c47] H43 ⟨false,
  [(false, [.bool])]⟩ post49 ∧ ∀ (H50 : Heap), Heap.le H43 H50 → ∀ (b52 : Bool), post49 b52 H50 → post b52 H50) ∧ (b25 = false → post false H23))) := by kernel_rfl
theorem law24_ConstraintSplit {H : Heap} {A B : Option Addr} {n c m d : Nat} {l : List U5} {x k : Int} {pts : List Int} (hT : TabH H) (hs : Sl H A n c l) (hx : rng .u16 x) (hk : rng .u16 k) (hp : Sl H B m d pts) :
    ConT Tryz.prog 7 [.slice A n c, .int .u16 x, .int .u16 k, .slice B m d] H shB (fun r _ => r = true) := by
  refine con_of_vc (an := an7) (fn := Tryz.f7) mix tabOK Tryz.func7 (by kernel_rfl) (extra := 0) ?_
  rw [vc7]
  refine ⟨fun _ => ⟨_, law24_awake hT, fun H2 l2 b h => h⟩, fun hfew => ?_⟩
  have hfew := of_decide_eq_false hfew
  have hpl := hp.len
  refine ⟨_, law0_Tuples (most := 12) hs (by decide), ?_⟩
  intro H8 l8 A10 n11 c12 h3
  have hts := lTups_len l 12
  have h3l := h3.len
  refine ⟨_, law24_columns hx.1, ?_⟩
  rintro H15 l15 A17 n18 c19 ⟨cols, hcols, hcn⟩
  have hf : Fit (lTups l 12) cols := lTups_fit3 hs (by decide) (by rw [hcols.len]; exact hcn)
  have h2 := tmod_bd hk.1 (m := 2) (by decide)
  refine ⟨by decide, _, wrap_i64 h2.1 (by omega), by simp only [rng]; omega, _, law24_awake (hT.mono (hle_trans l8 l15)), ?_⟩
  rintro H23 l23 _ rfl
  refine ⟨fun _ => ?_, fun h => by simp at h⟩
  have l823 := hle_trans l15 l23
  have hT23 := hT.mono (hle_trans l8 l823)
  refine ⟨_, splitter_SplitAt (h3.mono l823) (hp.mono (hle_trans l8 l823)) (by omega) (by omega), ?_⟩
  rintro H29 l29 A31 n32 c33 ⟨l', hl', hsp, hln⟩
  obtain ⟨s1, s2⟩ := split_size hsp hln (by omega)
  have hf' := split_fit hsp hf (by omega) (by omega)
  refine ⟨_, constraint_Violations (hT23.mono l29) hl' (hcols.mono (hle_trans l23 l29)) hf', ?_⟩
  intro H36 l36 A38 n39 c40 g1
  have l2336 := hle_trans l29 l36
  refine ⟨_, constraint_Violations (hT23.mono l2336) (h3.mono (hle_trans l823 l2336)) (hcols.mono (hle_trans l23 l2336)) hf, ?_⟩
  intro H43 l43 A45 n46 c47 g2
  rw [consV_days (split_at hsp)] at g1
  refine ⟨_, ref21_SameViolations (g1.mono l43) g2, ?_⟩
  rintro H50 l50 _ rfl
  simp
end Go.Vc

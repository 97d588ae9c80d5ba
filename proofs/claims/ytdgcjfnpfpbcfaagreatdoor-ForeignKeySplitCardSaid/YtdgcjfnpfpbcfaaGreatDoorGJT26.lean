/- ForeignKeySplit: splitting the parents, or the children, does not change the violations. -/
import Derived.Test.YtdgcjfnpfpbcfaaGreatDoorGJT17
import Derived.Test.YtdgcjfnpfpbcfaaGreatDoorGJT24
import Derived.Test.YtdgcjfnpfpbcfaaGreatDoorGJT25
set_option linter.unusedSectionVars false
set_option linter.unusedSimpArgs false
set_option linter.unusedVariables false
namespace Go.Vc
open Go Go.Proofs Go.Shelf
theorem fkF_days {S S' A A' : List Tup} (h1 : SameDays S S') (h2 : SameDays A A') (d : Int) : fkF S' A' d = fkF S A d := by
  obtain ⟨a1, a2⟩ := days_lins h1 d
  obtain ⟨b1, -⟩ := days_lins h2 d
  unfold fkF
  rw [a1, a2, b1]
theorem refV_days {S S' A A' : List Tup} (h1 : SameDays S S') (h2 : SameDays A A') (hS : ∀ x ∈ S, pOk x.p = true) (hS' : ∀ x ∈ S', pOk x.p = true) (hA : ∀ x ∈ A, pOk x.p = true) (hA' : ∀ x ∈ A', pOk x.p = true) : refV S' A' = refV S A := by
  obtain ⟨a1, a2⟩ := refV_lab hS' hA'
  obtain ⟨b1, b2⟩ := refV_lab hS hA
  refine normV_ext a1 b1 fun d x => ?_
  rw [a2, b2, fkF_days h1 h2]
theorem fkAll_days {c c' p p' : List Tup} (h1 : SameDays c c') (h2 : SameDays p p') (cols ref : List Int) : fkAll c' p' cols ref = fkAll c p cols ref := by
  unfold fkAll
  rw [keys_days h1]
  congr 1
  funext v
  exact refV_days (withK_days h1 cols v) (withK_days h2 ref v) (withK_pos c cols v) (withK_pos c' cols v) (withK_pos p ref v) (withK_pos p' ref v)
theorem lTups_fit4 {H : Heap} {A : Option Addr} {n c most : Nat} {l : List U5} (h : Sl H A n c l) (hm : most < 20) {cols : List Int} (hc : cols.length ≤ 2) : Fit (lTups l most) cols := by
  have h1 := lTups_len l most; have h2 := lTups_lins l most
  exact fit_of (by omega) hc (by omega) (lTups_val fun x hx => ⟨(u5_nn h x hx).2.2.1, (u5_nn h x hx).2.2.2⟩)
def an7 : Ann where
  res := fun _ => none
  lend := fun | 16 => true | 28 => true | 38 => true | 49 => true | _ => false
  sch := fun _ => .done
  lt := fun _ => []
  tup := tups

theorem vc7 (P : Program) (H : Heap) (aA : Option Addr) (aN aC : Nat) (bA : Option Addr) (bN bC : Nat) (x : Int) (pointsA : Option Addr) (pointsN pointsC : Nat) (post : Bool → Heap → Prop) :
  vcFn P tab an7 Tryz.f7 [.slice aA aN aC, .slice bA bN bC, .int .u16 x, .slice pointsA pointsN pointsC] 0 H ⟨false, [(false, [.bool])]⟩ post =
  (  (decide ((20 : Int) < (↑pointsN : Int)) = true → ∃ (post1 : Bool → Heap → Prop), ConT P 9 [] H ⟨false, [(false, [.bool])]⟩ post1 ∧ ∀ (H2 : Heap), Heap.le H H2 → ∀ (b4 : Bool), post1 b4 H2 →
  post b4 H2) ∧ (decide ((20 : Int) < (↑pointsN : Int)) = false → ∃ (post7 : Option Addr → Nat → Nat → Heap → Prop), ConT P 17 [.slice aA aN aC, .int .i64 (10 : Int)] H ⟨false, [(false,
  [.sl])]⟩ post7 ∧ ∀ (H8 : Heap), Heap.le H H8 → ∀ (A10 : Option Addr) (n11 c12 : Nat), post7 A10 n11 c12 H8 → ∃ (post14 : Option Addr → Nat → Nat → Heap → Prop), ConT P 17 [.slice bA bN bC,
  .int .i64 (10 : Int)] H8 ⟨false, [(false, [.sl])]⟩ post14 ∧ ∀ (H15 : Heap), Heap.le H8 H15 → ∀ (A17 : Option Addr) (n18 c19 : Nat), post14 A17 n18 c19 H15 → ∃ (post21 : Option Addr → Nat →
  Nat → Heap → Prop), ConT P 18 [.int .u16 x] H15 ⟨false, [(false, [.sl])]⟩ post21 ∧ ∀ (H22 : Heap), Heap.le H15 H22 → ∀ (A24 : Option Addr) (n25 c26 : Nat), post21 A24 n25 c26 H22 → ∃
  (post28 : Option Addr → Nat → Nat → Heap → Prop), ConT P 15 [.slice A10 n11 c12, .slice A17 n18 c19, .slice A24 n25 c26, .slice A24 n25 c26] H22 ⟨false, [(false, [.sl])]⟩ post28 ∧ ∀ (H29 :
  Heap), Heap.le H22 H29 → ∀ (A31 : Option Addr) (n32 c33 : Nat), post28 A31 n32 c33 H29 → ∃ (post35 : Bool → Heap → Prop), ConT P 9 [] H29 ⟨false, [(false, [.bool])]⟩ post35 ∧ ∀ (H36 :
  Heap), Heap.le H29 H36 → ∀ (b38 : Bool), post35 b38 H36 → (b38 = true → ∃ (post41 : Option Addr → Nat → Nat → Heap → Prop), ConT P 25 [.slice A17 n18 c19, .slice pointsA pointsN pointsC]
  H36 ⟨false, [(false, [.sl])]⟩ post41 ∧ ∀ (H42 : Heap), Heap.le H36 H42 → ∀ (A44 : Option Addr) (n45 c46 : Nat), post41 A44 n45 c46 H42 → ∃ (post48 : Option Addr → Nat → Nat → Heap → Prop),
  ConT P 15 [.slice A10 n11 c12, .slice A44 n45 c46, .slice A24 n25 c26, .slice A24 n25 c26] H42 ⟨false, [(false, [.sl])]⟩ post48 ∧ ∀ (H49 : Heap), Heap.le H42 H49 → ∀ (A51 : Option Addr)
  (n52 c53 : Nat), post48 A51 n52 c53 H49 → ∃ (post55 : Bool → Heap → Prop), ConT P 14 [.slice A51 n52 c53, .slice A31 n32 c33] H49 ⟨false, [(false, [.bool])]⟩ post55 ∧ ∀ (H56 : Heap),
  Heap.le H49 H56 → ∀ (b58 : Bool), post55 b58 H56 → (b58 = true → ∃ (post61 : Option Addr → Nat → Nat → Heap → Prop), ConT P 25 [.slice A10 n11 c12, .slice pointsA pointsN pointsC] H56
  ⟨false, [(false, [.sl])]⟩ post61 ∧ ∀ (H62 : Heap), Heap.le H56 H62 → ∀ (A64 : Option Addr) (n65 c66 : Nat), post61 A64 n65 c66 H62 → ∃ (post68 : Option Addr → Nat → Nat → Heap → Prop), ConT
  P 15 [.slice A64 n65 c66, .slice A17 n18 c19, .slice A24 n25 c26, .slice A24 n25 c26] H62 ⟨false, [(false, [.sl])]⟩ post68 ∧ ∀ (H69 : Heap), Heap.le H62 H69 → ∀ (A71 : Option Addr) (n72 c73
  : Nat), post68 A71 n72 c73 H69 → ∃ (post75 : Bool → Heap → Prop), ConT P 14 [.slice A71 n72 c73, .slice A31 n32 c33] H69 ⟨false, [(false, [.bool])]⟩ post75 ∧ ∀ (H76 : Heap), Heap.le H69 H76
  → ∀ (b78 : Bool), post75 b78 H76 → post b78 H76) ∧ (b58 = false → post false H56)) ∧ (b38 = false → post false H36))) := by kernel_rfl
theorem law23_ForeignKeySplit {H : Heap} {A B D : Option Addr} {n c m d k e : Nat} {a b : List U5} {x : Int} {pts : List Int} (hT : TabH H) (ha : Sl H A n c a) (hb : Sl H B m d b) (hx : rng .u16 x) (hp : Sl H D k e pts) :
    ConT Tryz.prog 7 [.slice A n c, .slice B m d, .int .u16 x, .slice D k e] H shB (fun r _ => r = true) := by
  refine con_of_vc (an := an7) (fn := Tryz.f7) mix tabOK Tryz.func7 (by kernel_rfl) (extra := 0) ?_
  rw [vc7]
  refine ⟨fun _ => ⟨_, law23_awake hT, fun H2 l2 b h => h⟩, fun hfew => ?_⟩
  have hfew := of_decide_eq_false hfew
  have hpl := hp.len
  refine ⟨_, law0_Tuples (most := 10) ha (by decide), ?_⟩
  intro H8 l8 A10 n11 c12 h1
  refine ⟨_, law0_Tuples (most := 10) (hb.mono l8) (by decide), ?_⟩
  intro H15 l15 A17 n18 c19 h2
  have n1 := lTups_len a 10; have n2 := lTups_len b 10
  have e1 := h1.len; have e2 := h2.len
  refine ⟨_, law23_columns hx.1, ?_⟩
  rintro H22 l22 A24 n25 c26 hc
  have hcl : (colsOf x).length ≤ 2 := colsOf_len x
  have f1 : Fit (lTups a 10) (colsOf x) := lTups_fit4 ha (by decide) hcl
  have f2 : Fit (lTups b 10) (colsOf x) := lTups_fit4 hb (by decide) hcl
  have k15 := hle_trans l8 l15
  have k22 := hle_trans k15 l22
  refine ⟨_, fk_Violations (hT.mono k22) (h1.mono (hle_trans l15 l22)) (h2.mono l22) hc hc f1 f2, ?_⟩
  intro H29 l29 A31 n32 c33 hw
  refine ⟨_, law23_awake (hT.mono (hle_trans k22 l29)), ?_⟩
  rintro H36 l36 _ rfl
  have l2236 := hle_trans l29 l36
  have l1536 := hle_trans l22 l2236
  have k36 := hle_trans k15 l1536
  refine ⟨fun _ => ?_, fun h => by simp at h⟩
  refine ⟨_, splitter_SplitAt (h2.mono l1536) (hp.mono k36) (by omega) (by omega), ?_⟩
  rintro H42 l42 A44 n45 c46 ⟨p', hp', sp, lp⟩
  obtain ⟨s1, s2⟩ := split_size sp lp (by omega)
  have f2' := split_fit sp f2 (by omega) (by omega)
  have l2242 := hle_trans l2236 l42
  refine ⟨_, fk_Violations (hT.mono (hle_trans k36 l42)) (h1.mono (hle_trans l15 (hle_trans l1536 l42))) hp' (hc.mono l2242) (hc.mono l2242) f1 f2', ?_⟩
  intro H49 l49 A51 n52 c53 g1
  rw [fkAll_days (fun _ => rfl) (split_at sp)] at g1
  have l3649 := hle_trans l42 l49
  refine ⟨_, ref21_SameViolations g1 (hw.mono (hle_trans l36 l3649)), ?_⟩
  rintro H56 l56 _ rfl
  have l3656 := hle_trans l3649 l56
  have k56 := hle_trans k36 l3656
  refine ⟨fun _ => ?_, fun h => by simp at h⟩
  have l1556 := hle_trans l1536 l3656
  refine ⟨_, splitter_SplitAt (h1.mono (hle_trans l15 l1556)) (hp.mono k56) (by omega) (by omega), ?_⟩
  rintro H62 l62 A64 n65 c66 ⟨c', hc', sc, lc⟩
  obtain ⟨t1, t2⟩ := split_size sc lc (by omega)
  have f1' := split_fit sc f1 (by omega) (by omega)
  have l2262 := hle_trans l2236 (hle_trans l3656 l62)
  refine ⟨_, fk_Violations (hT.mono (hle_trans k56 l62)) hc' (h2.mono (hle_trans l1556 l62)) (hc.mono l2262) (hc.mono l2262) f1' f2, ?_⟩
  intro H69 l69 A71 n72 c73 g2
  rw [fkAll_days (split_at sc) (fun _ => rfl)] at g2
  refine ⟨_, ref21_SameViolations g2 (hw.mono (hle_trans l36 (hle_trans l3656 (hle_trans l62 l69)))), ?_⟩
  rintro H76 l76 _ rfl
  simp
end Go.Vc

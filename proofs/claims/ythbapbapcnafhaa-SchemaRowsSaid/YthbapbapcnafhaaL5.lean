/- SchemaRows: Project and Expand agree with the definition for arbitrary arguments, and Project undoes Expand if the IDs are distinct. No conditions. -/
import Derived.Test.YthbapbapcnafhaaV2
import Derived.Test.YthbapbapcnafhaaO1
set_option linter.unusedSectionVars false
set_option linter.unusedSimpArgs false
set_option linter.unusedVariables false
namespace Go.Vc
open Go Go.Proofs
def an5 : Ann where
  res := fun _ => none
  lend := fun | 22 => true | 43 => true | 53 => true | 81 => true | 82 => true | 91 => true | _ => false
  sch := fun | 5 => (tk [0, 1, 2, 3, 4, 5] (.alt 6 (tk [7, 8, 9, 10, 11, 13, 14] (.alt 12 (.alt 15 (.alt 16 (tk [17, 18] .done) .fin) .fin) .fin)) .fin)) | 13 => (tk [0, 1, 2, 3, 4, 5, 6, 7, 8, 9, 10, 11, 12] .done) | _ => .done
  lt := fun | 8 => [.slot 11 false [.int .i64]] | 11 => [.slot 12 false [.int .i64]] | _ => []
  tup := tups

theorem vc5 (P : Program) (H : Heap) (vRecordedFrom : Int) (vRecordedTo : Int) (vColumnsA : Option Addr) (vColumnsN vColumnsC : Nat) (p1A : Option Addr) (p1N p1C : Nat) (p2 : Int) (post : Bool → Heap → Prop) :
  vcFn P tab an5 Try.f5 [.agg #[.int .i64 vRecordedFrom, .int .i64 vRecordedTo, .slice vColumnsA vColumnsN vColumnsC], .slice p1A p1N p1C, .int .i64 p2] 0 H ⟨false, [(false, [.bool])]⟩ post =
  (  (decide ((30 : Int) < (↑vColumnsN : Int)) = true → ∃ (post1 : Bool → Heap → Prop), ConT P 9 [] H ⟨false, [(false, [.bool])]⟩ post1 ∧ ∀ (H2 : Heap), Heap.le H H2 → ∀ (b4 : Bool), post1 b4 H2
  → post b4 H2) ∧ (decide ((30 : Int) < (↑vColumnsN : Int)) = false → (decide ((30 : Int) < (↑p1N : Int)) = true → ∃ (post8 : Bool → Heap → Prop), ConT P 9 [] H ⟨false, [(false, [.bool])]⟩
  post8 ∧ ∀ (H9 : Heap), Heap.le H H9 → ∀ (b11 : Bool), post8 b11 H9 → post b11 H9) ∧ (decide ((30 : Int) < (↑p1N : Int)) = false → ∃ (post14 : Option Addr → Nat → Nat → Int → Heap → Prop),
  ConT P 22 [.agg ⟨[.int .i64 vRecordedFrom, .int .i64 vRecordedTo, .slice vColumnsA vColumnsN vColumnsC]⟩, .slice p1A p1N p1C, .int .i64 p2] H ⟨true, [(false, [.sl]), (false, [.int .i64])]⟩
  post14 ∧ ∀ (H15 : Heap), Heap.le H H15 → ∀ (A17 : Option Addr) (n18 c19 : Nat) (n20 : Int), post14 A17 n18 c19 n20 H15 → ∃ (post22 : Option Addr → Nat → Nat → Int → Heap → Prop), ConT P 23
  [.agg ⟨[.int .i64 vRecordedFrom, .int .i64 vRecordedTo, .slice vColumnsA vColumnsN vColumnsC]⟩, .slice p1A p1N p1C, .int .i64 p2] H15 ⟨true, [(false, [.sl]), (false, [.int .i64])]⟩ post22 ∧
  ∀ (H23 : Heap), Heap.le H15 H23 → ∀ (A25 : Option Addr) (n26 c27 : Nat) (n28 : Int), post22 A25 n26 c27 n28 H23 → ((!decide (n20 = n28)) = true → post false H23) ∧ ((!decide (n20 = n28)) =
  false → ∃ (post32 : Int → Heap → Prop), ConT P 24 [.slice A17 n18 c19, .slice A25 n26 c27] H23 ⟨false, [(false, [.int .i64])]⟩ post32 ∧ ∀ (H33 : Heap), Heap.le H23 H33 → ∀ (n35 : Int),
  post32 n35 H33 → ((!decide (n35 = (0 : Int))) = true → post false H33) ∧ ((!decide (n35 = (0 : Int))) = false → ∃ (post39 : Option Addr → Nat → Nat → Heap → Prop), ConT P 25 [.agg ⟨[.int
  .i64 vRecordedFrom, .int .i64 vRecordedTo, .slice vColumnsA vColumnsN vColumnsC]⟩, .slice p1A p1N p1C] H33 ⟨false, [(false, [.sl])]⟩ post39 ∧ ∀ (H40 : Heap), Heap.le H33 H40 → ∀ (A42 :
  Option Addr) (n43 c44 : Nat), post39 A42 n43 c44 H40 → ∃ (post46 : Option Addr → Nat → Nat → Heap → Prop), ConT P 26 [.agg ⟨[.int .i64 vRecordedFrom, .int .i64 vRecordedTo, .slice vColumnsA
  vColumnsN vColumnsC]⟩, .slice p1A p1N p1C] H40 ⟨false, [(false, [.sl])]⟩ post46 ∧ ∀ (H47 : Heap), Heap.le H40 H47 → ∀ (A49 : Option Addr) (n50 c51 : Nat), post46 A49 n50 c51 H47 → ∃ (post53
  : Int → Heap → Prop), ConT P 24 [.slice A42 n43 c44, .slice A49 n50 c51] H47 ⟨false, [(false, [.int .i64])]⟩ post53 ∧ ∀ (H54 : Heap), Heap.le H47 H54 → ∀ (n56 : Int), post53 n56 H54 →
  ((!decide (n56 = (0 : Int))) = true → post false H54) ∧ ((!decide (n56 = (0 : Int))) = false → ∃ (inv60 : Int → Heap → Prop), ∃ (m61 : Int → Nat), inv60 (0 : Int) H54 ∧ ∀ (H62 : Heap),
  Heap.le H54 H62 → ∀ (n64 : Int), inv60 n64 H62 → (decide (n64 < (↑vColumnsN : Int)) = true → ∃ (inv67 : Int → Heap → Prop), ∃ (m68 : Int → Nat), inv67 (0 : Int) H62 ∧ ∀ (H69 : Heap),
  Heap.le H62 H69 → ∀ (n71 : Int), inv67 n71 H69 → (decide (n71 < n64) = true → someA vColumnsA ∧ (0 : Int) ≤ n64 ∧ n64 < (↑vColumnsN : Int) ∧ ∃ (n74 : Int), Cells H69 vColumnsA (Int.toNat
  n64 * 3 + 0) [.int .i64 n74] ∧ someA vColumnsA ∧ (0 : Int) ≤ n71 ∧ n71 < (↑vColumnsN : Int) ∧ ∃ (n75 : Int), Cells H69 vColumnsA (Int.toNat n71 * 3 + 0) [.int .i64 n75] ∧ (decide (n74 =
  n75) = true → ∃ (post77 : Bool → Heap → Prop), ConT P 9 [] H69 ⟨false, [(false, [.bool])]⟩ post77 ∧ ∀ (H78 : Heap), Heap.le H69 H78 → ∀ (b80 : Bool), post77 b80 H78 → post b80 H78) ∧
  (decide (n74 = n75) = false → rng .i64 (n71 + (1 : Int)) ∧ inv67 (n71 + (1 : Int)) H69 ∧ m68 (n71 + (1 : Int)) < m68 n71)) ∧ (decide (n71 < n64) = false → rng .i64 (n64 + (1 : Int)) ∧ inv60
  (n64 + (1 : Int)) H69 ∧ m61 (n64 + (1 : Int)) < m61 n64)) ∧ (decide (n64 < (↑vColumnsN : Int)) = false → ∃ (post85 : Bool → Heap → Prop), ConT P 9 [] H62 ⟨false, [(false, [.bool])]⟩ post85
  ∧ ∀ (H86 : Heap), Heap.le H62 H86 → ∀ (b88 : Bool), post85 b88 H86 → (b88 = true → ((!decide (n20 = (0 : Int))) = true → post true H86) ∧ ((!decide (n20 = (0 : Int))) = false → ∃ (post93 :
  Option Addr → Nat → Nat → Heap → Prop), ConT P 25 [.agg ⟨[.int .i64 vRecordedFrom, .int .i64 vRecordedTo, .slice vColumnsA vColumnsN vColumnsC]⟩, .slice A17 n18 c19] H86 ⟨false, [(false,
  [.sl])]⟩ post93 ∧ ∀ (H94 : Heap), Heap.le H86 H94 → ∀ (A96 : Option Addr) (n97 c98 : Nat), post93 A96 n97 c98 H94 → ∃ (post100 : Int → Heap → Prop), ConT P 24 [.slice A96 n97 c98, .slice
  p1A p1N p1C] H94 ⟨false, [(false, [.int .i64])]⟩ post100 ∧ ∀ (H101 : Heap), Heap.le H94 H101 → ∀ (n103 : Int), post100 n103 H101 → post (decide (n103 = (0 : Int))) H101)) ∧ (b88 = false →
  post false H86)))))))) := by kernel_rfl
set_option maxHeartbeats 1000000 in
theorem law21_SchemaRows {H : Heap} {a b w : Int} {A B : Option Addr} {n c m d : Nat} {cols : List Col} {vals : List Val} (hs : Sl H A n c cols) (ht : Sl H B m d vals) :
    ConT Try.prog 5 [.agg ⟨[.int .i64 a, .int .i64 b, .slice A n c]⟩, .slice B m d, .int .i64 w] H shB (fun r _ => r = true) := by
  refine con_of_vc (an := an5) (fn := Try.f5) mix tabOK Try.func5 (by kernel_rfl) (extra := 0) ?_
  rw [vc5]
  have b1 := hs.bn; have b2 := hs.len
  refine ⟨fun _ => ⟨_, law21_awake, fun _ _ _ h => h⟩, fun _ => ⟨fun _ => ⟨_, law21_awake, fun _ _ _ h => h⟩, fun _ => ⟨_, schema_Expand (w := w) hs ht, ?_⟩⟩⟩
  rintro H1 l1 A1 n1 c1 _ ⟨e1, rfl⟩
  refine ⟨_, ref21_Expand (hs.mono l1) (ht.mono l1), ?_⟩
  rintro H2 l2 A2 n2 c2 _ ⟨e2, rfl⟩
  have L2 := hle_trans l1 l2
  refine ⟨fun h => by simp at h, fun _ => ⟨_, ref6_CompareRows (e1.mono l2) e2, ?_⟩⟩
  rintro H3 l3 _ rfl
  have L3 := hle_trans L2 l3
  refine ⟨fun h => by rw [cmpRows_refl] at h; simp at h, fun _ => ⟨_, schema_Project (hs.mono L3) (ht.mono L3), ?_⟩⟩
  intro H4 l4 A4 n4 c4 e4
  refine ⟨_, ref21_Project (hs.mono (hle_trans L3 l4)) (ht.mono (hle_trans L3 l4)), ?_⟩
  intro H5 l5 A5 n5 c5 e5
  refine ⟨_, ref6_CompareRows (e4.mono l5) e5, ?_⟩
  rintro H6 l6 _ rfl
  have L6 := hle_trans L3 (hle_trans l4 (hle_trans l5 l6))
  refine ⟨fun h => by rw [cmpRows_refl] at h; simp at h, fun _ => ?_⟩
  refine ⟨fun i _ => 0 ≤ i ∧ i ≤ n ∧ (cols.take i.toNat).Pairwise (fun a b => a.id ≠ b.id), fun i => n - i.toNat, ⟨by omega, by omega, by simp⟩, ?_⟩
  rintro H7 l7 i ⟨i0, i1, g⟩
  have L7 := hle_trans L6 l7
  refine ⟨fun hlt => ?_, fun hge => ?_⟩
  · have hlt := of_decide_eq_true hlt
    have hi : i.toNat < cols.length := by omega
    refine ⟨fun k _ => 0 ≤ k ∧ k ≤ i ∧ ∀ x ∈ cols.take k.toNat, x.id ≠ cols[i.toNat].id, fun k => (i - k).toNat, ⟨by omega, by omega, by simp⟩, ?_⟩
    rintro H8 l8 k ⟨k0, k1, kg⟩
    refine ⟨fun klt => ?_, fun kge => ?_⟩
    · have klt := of_decide_eq_true klt
      obtain ⟨hi, hA, _, hc, rfl, -⟩ := hs.at (hle_trans L7 l8) i0 hlt
      obtain ⟨ki, kA, _, kc, rfl, -⟩ := hs.at (hle_trans L7 l8) k0 (by omega)
      refine ⟨hA, i0, hlt, _, hc.at1 (k := 0) rfl, hA, k0, by omega, _, kc.at1 (k := 0) rfl, fun _ => ⟨_, law21_awake, fun _ _ _ h => h⟩, fun hne => ⟨by simp only [rng]; omega, ⟨by omega, by omega, ?_⟩, by dsimp only; omega⟩⟩
      rw [take_at k0 ki]
      intro x hx
      rcases List.mem_append.1 hx with hx | hx
      · exact kg x hx
      · simp at hx; subst hx
        exact fun e => of_decide_eq_false hne e.symm
    · have kge := of_decide_eq_false kge
      obtain rfl : k = i := by omega
      refine ⟨by simp only [rng]; omega, ⟨by omega, by omega, ?_⟩, by dsimp only; omega⟩
      rw [take_at i0 hi]
      exact List.pairwise_append.2 ⟨g, by simp, fun x hx y hy => by simp at hy; subst hy; exact kg x hx⟩
  · rw [take_end (of_decide_eq_false hge) b2] at g
    refine ⟨_, law21_awake, ?_⟩
    rintro H8 l8 _ rfl
    refine ⟨fun _ => ⟨fun _ => rfl, fun h0 => ?_⟩, fun h => absurd h (by decide)⟩
    have h0 : (expand cols vals w).2 = 0 := by simpa using h0
    have L8 := hle_trans L7 l8
    refine ⟨_, schema_Project (hs.mono L8) (e1.mono (hle_trans l2 (hle_trans l3 (hle_trans l4 (hle_trans l5 (hle_trans l6 (hle_trans l7 l8))))))), ?_⟩
    intro H9 l9 A9 n9 c9 e9
    refine ⟨_, ref6_CompareRows e9 (ht.mono (hle_trans L8 l9)), ?_⟩
    rintro H10 l10 _ rfl
    rw [project_expand h0 g, cmpRows_refl]
    rfl
end Go.Vc
namespace Go.Proofs.Ythbapbapcnafhaa.schemaRows
open Go Go.Vc Go.RowKit Go.WideShapes Go.ChangeShapes
theorem oVal : Opn Try.prog 91 Val := opn_Val ⟨_, Try.underlying91, rfl⟩ oInt (opn_int Try.underlying2 (by kernel_rfl) (by kernel_rfl)) oStr (by kernel_rfl) (by kernel_rfl)
theorem oVals : Opn Try.prog 42 (List Val) := opn_slice Try.underlying42 (by kernel_rfl) (by kernel_rfl) oVal
theorem sps : ∀ t ∈ Try.f5.params.toList, SpOK Try.prog t := by
  rw [Try.params5]
  exact List.forall_mem_cons.2 ⟨oVer.sp, List.forall_mem_cons.2 ⟨oVals.sp, List.forall_mem_cons.2 ⟨oInt.sp, fun _ h => by cases h⟩⟩⟩
theorem own : ownKnob Try.prog.godebug = none := by kernel_rfl
set_option maxRecDepth 100000 in
theorem lifted (os : Os) (started : os.Started) (H : Type) (enc : TypeId × Value → H) :
    ReturnsInHanded {} Try.checked os 5 .any (Rows.schemaRowsSpec.pre6 enc Try.prog Try.f5 Rows.schemaRowsRow.domain false) (Rows.schemaRowsSpec.post enc Try.prog Try.f5 false true false false) := by
  refine returnsInHanded_of_change_sized (C := Try.checked) own started (by kernel_rfl) Try.func5
    (ChangeSpec.witness6 (enc := enc) (C := Try.checked) false ⟨#[], #[.agg #[.int .i64 0, .int .i64 0, .slice none 0 0], .slice none 0 0, .int .i64 0], []⟩ 8 (by kernel_rfl) (by kernel_rfl) (by kernel_rfl) (by kernel_rfl)) ?_
  intro W base args ds gs before hval0 hW hcnd hsz0 _
  have hval : ∀ (j : Nat) t v, Try.f5.params[j]? = some t → args[j]? = some v → Value.okWide Try.prog W .any base t v := hval0
  have hW' := hW
  obtain ⟨p, q, hA0, hV, rfl, hfz, hnd⟩ := hW
  have hA : DataW.TrodAll enc Try.prog W 0 (fun _ => true) true Try.f5.params.toList args.toList ds p := hA0
  have hsz : (DataW.weightsEach Try.prog (Try.f5.params.toList ++ Rows.schemaRowsSpec.plain.varTypes Try.prog) (ds ++ gs)).all (· ≤ reachBytes) = true := hsz0
  have hA1 := hA
  obtain ⟨rfl, rfl⟩ := trodVars_none hV
  rw [Try.params5] at hA hval hsz
  obtain ⟨v0, vs0, d0, ds0, p0, q0, hargs, rfl, rfl, h0, r0⟩ := trodAll_cons hA
  obtain ⟨v1, vs1, d1, ds1, p1, q1, rfl, rfl, rfl, h1, r1⟩ := trodAll_cons r0
  obtain ⟨v2, vs2, d2, ds2, p2, q2, rfl, rfl, rfl, h2, r2⟩ := trodAll_cons r1
  obtain ⟨rfl, rfl, rfl⟩ := trodAll_nil r2
  obtain rfl : args = #[v0, v1, v2] := by cases args; simp_all
  have ok0 := hval 0 35 v0 rfl rfl
  have w0 := weightsEach_get (i := 0) hsz rfl rfl
  obtain ⟨cs0, rfl, -⟩ := okWide_struct Try.underlying35 ok0
  obtain ⟨y0, A01, n01, c01, hy0, hr01, hr02, hr03⟩ := arg_get oVer h0 w0
  obtain rfl : cs0 = ⟨_⟩ := congrArg Array.mk hy0
  have ok1 := hval 1 42 v1 rfl rfl
  have w1 := weightsEach_get (i := 1) hsz rfl rfl
  obtain ⟨A11, n11, c11, rfl⟩ := okWide_slice Try.underlying42 ok1
  obtain ⟨y1, A12, n12, c12, hy1, hr1⟩ := arg_get oVals h1 w1
  obtain ⟨rfl, rfl, rfl⟩ : A11 = A12 ∧ n11 = n12 ∧ c11 = c12 := by simpa [Value.cells] using hy1
  have ok2 := hval 2 3 v2 rfl rfl
  have w2 := weightsEach_get (i := 2) hsz rfl rfl
  obtain ⟨x2, rfl⟩ := okWide_int Try.underlying3 ok2
  obtain ⟨y2, hy2, hr2⟩ := arg_get oInt h2 w2
  obtain rfl : x2 = y2 := by simpa [Value.cells] using hy2
  refine (con_true (law21_SchemaRows hr03 hr1) (heapOf_snap W)).mono fun e W' ⟨he, hb⟩ => ?_
  subst he
  exact ⟨_, rfl, post_of_below (pa := _) (pv := []) hW' (fun _ _ _ => trodAll_mk1 (shut_bool Try.underlying4 _))
    (fun sp hsp => trodAll_sp sps hA1 (fun z hz => hb.same (hW'.lt z (by simpa using hz))) (fun z hz => hsp z (by simpa using hz))) (fun _ _ => rfl) rfl hb (ok_one (by kernel_rfl) rfl (okWide_bool_mk Try.underlying4 _))⟩
theorem proved : Rows.SchemaRowsSaid :=
  OpenClaim.holds_of_wide 5 Try.f5 rfl rfl rfl rfl rfl rfl rfl ⟨rfl, rfl, rfl, rfl, rfl⟩ rfl rfl rfl rfl rfl (by kernel_rfl) Try.func5 (by kernel_rfl)
    (of_decide_eq_true (by kernel_rfl)) (by unfold Func.isWrapper; first | (rw [if_pos (by decide +kernel)]; kernel_rfl) | (rw [if_neg (by decide +kernel)]; exact ⟨rfl, rfl⟩))
    (fun os started H enc _ => lifted os started H enc)
#print axioms proved
end Go.Proofs.Ythbapbapcnafhaa.schemaRows

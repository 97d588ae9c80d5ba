/- SchemaRaw: Create, AddColumn and DropColumn agree with the definition, for arbitrary schemas. No conditions. -/
import Derived.Test.YthbapbapcnafhaaR7
import Derived.Test.YthbapbapcnafhaaO1
set_option linter.unusedSectionVars false
set_option linter.unusedSimpArgs false
set_option linter.unusedVariables false
namespace Go.Vc
open Go Go.Proofs
theorem few_vers {s : TSch} (h : few s = true) : s.vers.length ≤ 12 := by
  simp only [few, Bool.and_eq_true, decide_eq_true_eq] at h
  omega
section
variable {H : Heap} {nm : ByteArray} {A : Option Addr} {n c : Nat} {B : Option Addr} {m d : Nat} {E : Option Addr} {k e : Nat} {F : Option Addr} {l f : Nat} {s : TSch}
def an6 : Ann where
  res := fun _ => none
  lend := fun | 22 => true | 30 => true | 71 => true | 90 => true | 95 => true | 100 => true | _ => false
  sch := fun _ => .done
  lt := fun _ => []
  tup := tups

theorem vc6 (P : Program) (H : Heap) (sName : ByteArray) (sVersionsA : Option Addr) (sVersionsN sVersionsC : Nat) (sKeyA : Option Addr) (sKeyN sKeyC : Nat) (sForeignKeysA : Option Addr) (sForeignKeysN sForeignKeysC : Nat) (sConstraintsA : Option Addr) (sConstraintsN sConstraintsC : Nat) (p1ID : Int) (p1Name : ByteArray) (p1Kind : Int) (p2 : Int) (p3 : Int) (post : Bool → Heap → Prop) :
  vcFn P tab an6 Try.f6 [.agg #[.string sName, .slice sVersionsA sVersionsN sVersionsC, .slice sKeyA sKeyN sKeyC, .slice sForeignKeysA sForeignKeysN sForeignKeysC, .slice sConstraintsA sConstraintsN sConstraintsC], .agg #[.int .i64 p1ID, .string p1Name, .int .i64 p1Kind], .int .i64 p2, .int .i64 p3] 0 H ⟨false, [(false, [.bool])]⟩ post =
  (  ∃ (post0 : Bool → Heap → Prop), ConT P 12 [.agg ⟨[.string sName, .slice sVersionsA sVersionsN sVersionsC, .slice sKeyA sKeyN sKeyC, .slice sForeignKeysA sForeignKeysN sForeignKeysC, .slice
  sConstraintsA sConstraintsN sConstraintsC]⟩] H ⟨false, [(false, [.bool])]⟩ post0 ∧ ∀ (H1 : Heap), Heap.le H H1 → ∀ (b3 : Bool), post0 b3 H1 → ((!b3) = true → ∃ (post6 : Bool → Heap → Prop),
  ConT P 9 [] H1 ⟨false, [(false, [.bool])]⟩ post6 ∧ ∀ (H7 : Heap), Heap.le H1 H7 → ∀ (b9 : Bool), post6 b9 H7 → post b9 H7) ∧ ((!b3) = false → (decide ((200 : Int) < (↑(ByteArray.size
  p1Name) : Int)) = true → ∃ (post13 : Bool → Heap → Prop), ConT P 9 [] H1 ⟨false, [(false, [.bool])]⟩ post13 ∧ ∀ (H14 : Heap), Heap.le H1 H14 → ∀ (b16 : Bool), post13 b16 H14 → post b16 H14)
  ∧ (decide ((200 : Int) < (↑(ByteArray.size p1Name) : Int)) = false → ∃ (post19 : ByteArray → Option Addr → Nat → Nat → Option Addr → Nat → Nat → Option Addr → Nat → Nat → Option Addr → Nat
  → Nat → Int → Heap → Prop), ConT P 27 [.agg ⟨[.string sName, .slice sVersionsA sVersionsN sVersionsC, .slice sKeyA sKeyN sKeyC, .slice sForeignKeysA sForeignKeysN sForeignKeysC, .slice
  sConstraintsA sConstraintsN sConstraintsC]⟩, .int .i64 p3] H1 ⟨true, [(true, [.str, .sl, .sl, .sl, .sl]), (false, [.int .i64])]⟩ post19 ∧ ∀ (H20 : Heap), Heap.le H1 H20 → ∀ (s22 :
  ByteArray) (A23 : Option Addr) (n24 c25 : Nat) (A26 : Option Addr) (n27 c28 : Nat) (A29 : Option Addr) (n30 c31 : Nat) (A32 : Option Addr) (n33 c34 : Nat) (n35 : Int), post19 s22 A23 n24
  c25 A26 n27 c28 A29 n30 c31 A32 n33 c34 n35 H20 → ∃ (post37 : ByteArray → Option Addr → Nat → Nat → Option Addr → Nat → Nat → Option Addr → Nat → Nat → Option Addr → Nat → Nat → Int → Heap
  → Prop), ConT P 28 [.agg ⟨[.string sName, .slice sVersionsA sVersionsN sVersionsC, .slice sKeyA sKeyN sKeyC, .slice sForeignKeysA sForeignKeysN sForeignKeysC, .slice sConstraintsA
  sConstraintsN sConstraintsC]⟩, .int .i64 p3] H20 ⟨true, [(true, [.str, .sl, .sl, .sl, .sl]), (false, [.int .i64])]⟩ post37 ∧ ∀ (H38 : Heap), Heap.le H20 H38 → ∀ (s40 : ByteArray) (A41 :
  Option Addr) (n42 c43 : Nat) (A44 : Option Addr) (n45 c46 : Nat) (A47 : Option Addr) (n48 c49 : Nat) (A50 : Option Addr) (n51 c52 : Nat) (n53 : Int), post37 s40 A41 n42 c43 A44 n45 c46 A47
  n48 c49 A50 n51 c52 n53 H38 → ∃ (post55 : ByteArray → Option Addr → Nat → Nat → Option Addr → Nat → Nat → Option Addr → Nat → Nat → Option Addr → Nat → Nat → Int → Heap → Prop), ConT P 29
  [.agg ⟨[.string sName, .slice sVersionsA sVersionsN sVersionsC, .slice sKeyA sKeyN sKeyC, .slice sForeignKeysA sForeignKeysN sForeignKeysC, .slice sConstraintsA sConstraintsN
  sConstraintsC]⟩, .agg ⟨[.int .i64 p1ID, .string p1Name, .int .i64 p1Kind]⟩, .int .i64 p3] H38 ⟨true, [(true, [.str, .sl, .sl, .sl, .sl]), (false, [.int .i64])]⟩ post55 ∧ ∀ (H56 : Heap),
  Heap.le H38 H56 → ∀ (s58 : ByteArray) (A59 : Option Addr) (n60 c61 : Nat) (A62 : Option Addr) (n63 c64 : Nat) (A65 : Option Addr) (n66 c67 : Nat) (A68 : Option Addr) (n69 c70 : Nat) (n71 :
  Int), post55 s58 A59 n60 c61 A62 n63 c64 A65 n66 c67 A68 n69 c70 n71 H56 → ∃ (post73 : ByteArray → Option Addr → Nat → Nat → Option Addr → Nat → Nat → Option Addr → Nat → Nat → Option Addr
  → Nat → Nat → Int → Heap → Prop), ConT P 30 [.agg ⟨[.string sName, .slice sVersionsA sVersionsN sVersionsC, .slice sKeyA sKeyN sKeyC, .slice sForeignKeysA sForeignKeysN sForeignKeysC,
  .slice sConstraintsA sConstraintsN sConstraintsC]⟩, .agg ⟨[.int .i64 p1ID, .string p1Name, .int .i64 p1Kind]⟩, .int .i64 p3] H56 ⟨true, [(true, [.str, .sl, .sl, .sl, .sl]), (false, [.int
  .i64])]⟩ post73 ∧ ∀ (H74 : Heap), Heap.le H56 H74 → ∀ (s76 : ByteArray) (A77 : Option Addr) (n78 c79 : Nat) (A80 : Option Addr) (n81 c82 : Nat) (A83 : Option Addr) (n84 c85 : Nat) (A86 :
  Option Addr) (n87 c88 : Nat) (n89 : Int), post73 s76 A77 n78 c79 A80 n81 c82 A83 n84 c85 A86 n87 c88 n89 H74 → ∃ (post91 : ByteArray → Option Addr → Nat → Nat → Option Addr → Nat → Nat →
  Option Addr → Nat → Nat → Option Addr → Nat → Nat → Int → Heap → Prop), ConT P 31 [.agg ⟨[.string sName, .slice sVersionsA sVersionsN sVersionsC, .slice sKeyA sKeyN sKeyC, .slice
  sForeignKeysA sForeignKeysN sForeignKeysC, .slice sConstraintsA sConstraintsN sConstraintsC]⟩, .int .i64 p2, .int .i64 p3] H74 ⟨true, [(true, [.str, .sl, .sl, .sl, .sl]), (false, [.int
  .i64])]⟩ post91 ∧ ∀ (H92 : Heap), Heap.le H74 H92 → ∀ (s94 : ByteArray) (A95 : Option Addr) (n96 c97 : Nat) (A98 : Option Addr) (n99 c100 : Nat) (A101 : Option Addr) (n102 c103 : Nat) (A104
  : Option Addr) (n105 c106 : Nat) (n107 : Int), post91 s94 A95 n96 c97 A98 n99 c100 A101 n102 c103 A104 n105 c106 n107 H92 → ∃ (post109 : ByteArray → Option Addr → Nat → Nat → Option Addr →
  Nat → Nat → Option Addr → Nat → Nat → Option Addr → Nat → Nat → Int → Heap → Prop), ConT P 32 [.agg ⟨[.string sName, .slice sVersionsA sVersionsN sVersionsC, .slice sKeyA sKeyN sKeyC,
  .slice sForeignKeysA sForeignKeysN sForeignKeysC, .slice sConstraintsA sConstraintsN sConstraintsC]⟩, .int .i64 p2, .int .i64 p3] H92 ⟨true, [(true, [.str, .sl, .sl, .sl, .sl]), (false,
  [.int .i64])]⟩ post109 ∧ ∀ (H110 : Heap), Heap.le H92 H110 → ∀ (s112 : ByteArray) (A113 : Option Addr) (n114 c115 : Nat) (A116 : Option Addr) (n117 c118 : Nat) (A119 : Option Addr) (n120
  c121 : Nat) (A122 : Option Addr) (n123 c124 : Nat) (n125 : Int), post109 s112 A113 n114 c115 A116 n117 c118 A119 n120 c121 A122 n123 c124 n125 H110 → ∃ (post127 : Bool → Heap → Prop), ConT
  P 9 [] H110 ⟨false, [(false, [.bool])]⟩ post127 ∧ ∀ (H128 : Heap), Heap.le H110 H128 → ∀ (b130 : Bool), post127 b130 H128 → (b130 = true → (decide (n35 = n53) = true → (decide (n71 = n89) =
  true → (decide (n107 = n125) = true → ∃ (post136 : Bool → Heap → Prop), ConT P 33 [.agg ⟨[.string s22, .slice A23 n24 c25, .slice A26 n27 c28, .slice A29 n30 c31, .slice A32 n33 c34]⟩, .agg
  ⟨[.string s40, .slice A41 n42 c43, .slice A44 n45 c46, .slice A47 n48 c49, .slice A50 n51 c52]⟩] H128 ⟨false, [(false, [.bool])]⟩ post136 ∧ ∀ (H137 : Heap), Heap.le H128 H137 → ∀ (b139 :
  Bool), post136 b139 H137 → (b139 = true → ∃ (post142 : Bool → Heap → Prop), ConT P 33 [.agg ⟨[.string s58, .slice A59 n60 c61, .slice A62 n63 c64, .slice A65 n66 c67, .slice A68 n69 c70]⟩,
  .agg ⟨[.string s76, .slice A77 n78 c79, .slice A80 n81 c82, .slice A83 n84 c85, .slice A86 n87 c88]⟩] H137 ⟨false, [(false, [.bool])]⟩ post142 ∧ ∀ (H143 : Heap), Heap.le H137 H143 → ∀ (b145
  : Bool), post142 b145 H143 → (b145 = true → ∃ (post148 : Bool → Heap → Prop), ConT P 33 [.agg ⟨[.string s94, .slice A95 n96 c97, .slice A98 n99 c100, .slice A101 n102 c103, .slice A104 n105
  c106]⟩, .agg ⟨[.string s112, .slice A113 n114 c115, .slice A116 n117 c118, .slice A119 n120 c121, .slice A122 n123 c124]⟩] H143 ⟨false, [(false, [.bool])]⟩ post148 ∧ ∀ (H149 : Heap),
  Heap.le H143 H149 → ∀ (b151 : Bool), post148 b151 H149 → post b151 H149) ∧ (b145 = false → post false H143)) ∧ (b139 = false → post false H137)) ∧ (decide (n107 = n125) = false → post false
  H128)) ∧ (decide (n71 = n89) = false → post false H128)) ∧ (decide (n35 = n53) = false → post false H128)) ∧ (b130 = false → post false H128)))) := by kernel_rfl
set_option maxHeartbeats 1000000 in
theorem law21_SchemaRaw {co : Col} {i x : Int} (hs : IsTSch H nm A n c B m d E k e F l f s) (h1 : rng .i64 co.id) (hu : str co.name) (hb : rng .i64 co.kind) (hi : rng .i64 i) (hx : rng .i64 x) :
    ConT Try.prog 6 [.agg ⟨[.string nm, .slice A n c, .slice B m d, .slice E k e, .slice F l f]⟩, .agg ⟨[.int .i64 co.id, .string co.name, .int .i64 co.kind]⟩, .int .i64 i, .int .i64 x] H shB (fun r _ => r = true) := by
  refine con_of_vc (an := an6) (fn := Try.f6) mix tabOK Try.func6 (by kernel_rfl) (extra := 0) ?_
  rw [vc6]
  refine ⟨_, law0_FewSchema hs, ?_⟩
  rintro H1 l1 _ rfl
  refine ⟨fun _ => ⟨_, law21_awake, fun _ _ _ h => h⟩, fun hf => ⟨fun _ => ⟨_, law21_awake, fun _ _ _ h => h⟩, fun _ => ⟨_, schema_Create (hs.mono l1), ?_⟩⟩⟩
  simp only [Bool.not_eq_false'] at hf
  have hv := few_vers hf
  rintro H2 l2 _ _ _ _ _ _ _ _ _ _ _ _ _ _ ⟨q1, rfl⟩
  have L2 := hle_trans l1 l2
  refine ⟨_, ref21_Create (hs.mono L2) hx, ?_⟩
  rintro H3 l3 _ _ _ _ _ _ _ _ _ _ _ _ _ _ ⟨q2, rfl⟩
  have L3 := hle_trans L2 l3
  refine ⟨_, schema_AddColumn (hs.mono L3) hu hb hx (by omega), ?_⟩
  rintro H4 l4 _ _ _ _ _ _ _ _ _ _ _ _ _ _ ⟨q3, rfl⟩
  have L4 := hle_trans L3 l4
  refine ⟨_, ref21_AddColumn (hs.mono L4) hu hb hx (by omega), ?_⟩
  rintro H5 l5 _ _ _ _ _ _ _ _ _ _ _ _ _ _ ⟨q4, rfl⟩
  have L5 := hle_trans L4 l5
  refine ⟨_, schema_DropColumn (hs.mono L5) hx (by omega), ?_⟩
  rintro H6 l6 _ _ _ _ _ _ _ _ _ _ _ _ _ _ ⟨q5, rfl⟩
  have L6 := hle_trans L5 l6
  refine ⟨_, ref21_DropColumn (hs.mono L6) hx (by omega), ?_⟩
  rintro H7 l7 _ _ _ _ _ _ _ _ _ _ _ _ _ _ ⟨q6, rfl⟩
  refine ⟨_, law21_awake, ?_⟩
  rintro H8 l8 _ rfl
  refine ⟨fun _ => ⟨fun _ => ⟨fun _ => ⟨fun _ => ⟨_, ref21_SameSchema (q1.mono (hle_trans l3 (hle_trans l4 (hle_trans l5 (hle_trans l6 (hle_trans l7 l8)))))) (q2.mono (hle_trans l4 (hle_trans l5 (hle_trans l6 (hle_trans l7 l8))))), ?_⟩, fun h => by simp at h⟩, fun h => by simp at h⟩, fun h => by simp at h⟩, fun h => absurd h (by decide)⟩
  rintro H9 l9 _ rfl
  refine ⟨fun _ => ⟨_, ref21_SameSchema (q3.mono (hle_trans l5 (hle_trans l6 (hle_trans l7 (hle_trans l8 l9))))) (q4.mono (hle_trans l6 (hle_trans l7 (hle_trans l8 l9)))), ?_⟩, fun h => absurd h (by decide)⟩
  rintro H10 l10 _ rfl
  refine ⟨fun _ => ⟨_, ref21_SameSchema (q5.mono (hle_trans l7 (hle_trans l8 (hle_trans l9 l10)))) (q6.mono (hle_trans l8 (hle_trans l9 l10))), fun _ _ _ h => h⟩, fun h => absurd h (by decide)⟩
end
end Go.Vc
namespace Go.Proofs.Ythbapbapcnafhaa.schemaRaw
open Go Go.Vc Go.RowKit Go.WideShapes Go.ChangeShapes
theorem sps : ∀ t ∈ Try.f6.params.toList, SpOK Try.prog t := by
  rw [Try.params6]
  exact List.forall_mem_cons.2 ⟨oTSch.sp, List.forall_mem_cons.2 ⟨oCol.sp, List.forall_mem_cons.2 ⟨oInt.sp, List.forall_mem_cons.2 ⟨oInt.sp, fun _ h => by cases h⟩⟩⟩⟩
theorem own : ownKnob Try.prog.godebug = none := by kernel_rfl
set_option maxRecDepth 100000 in
theorem lifted (os : Os) (started : os.Started) (H : Type) (enc : TypeId × Value → H) :
    ReturnsInHanded {} Try.checked os 6 .any (Rows.schemaRawSpec.pre6 enc Try.prog Try.f6 Rows.schemaRawRow.domain false) (Rows.schemaRawSpec.post enc Try.prog Try.f6 false true false false) := by
  refine returnsInHanded_of_change_sized (C := Try.checked) own started (by kernel_rfl) Try.func6
    (ChangeSpec.witness6 (enc := enc) (C := Try.checked) false ⟨#[], #[.agg #[.string ⟨#[]⟩, .slice none 0 0, .slice none 0 0, .slice none 0 0, .slice none 0 0], .agg #[.int .i64 0, .string ⟨#[]⟩, .int .i64 0], .int .i64 0, .int .i64 0], []⟩ 8 (by kernel_rfl) (by kernel_rfl) (by kernel_rfl) (by kernel_rfl)) ?_
  intro W base args ds gs before hval0 hW hcnd hsz0 _
  have hval : ∀ (j : Nat) t v, Try.f6.params[j]? = some t → args[j]? = some v → Value.okWide Try.prog W .any base t v := hval0
  have hW' := hW
  obtain ⟨p, q, hA0, hV, rfl, hfz, hnd⟩ := hW
  have hA : DataW.TrodAll enc Try.prog W 0 (fun _ => true) true Try.f6.params.toList args.toList ds p := hA0
  have hsz : (DataW.weightsEach Try.prog (Try.f6.params.toList ++ Rows.schemaRawSpec.plain.varTypes Try.prog) (ds ++ gs)).all (· ≤ reachBytes) = true := hsz0
  have hA1 := hA
  obtain ⟨rfl, rfl⟩ := trodVars_none hV
  rw [Try.params6] at hA hval hsz
  obtain ⟨v0, vs0, d0, ds0, p0, q0, hargs, rfl, rfl, h0, r0⟩ := trodAll_cons hA
  obtain ⟨v1, vs1, d1, ds1, p1, q1, rfl, rfl, rfl, h1, r1⟩ := trodAll_cons r0
  obtain ⟨v2, vs2, d2, ds2, p2, q2, rfl, rfl, rfl, h2, r2⟩ := trodAll_cons r1
  obtain ⟨v3, vs3, d3, ds3, p3, q3, rfl, rfl, rfl, h3, r3⟩ := trodAll_cons r2
  obtain ⟨rfl, rfl, rfl⟩ := trodAll_nil r3
  obtain rfl : args = #[v0, v1, v2, v3] := by cases args; simp_all
  have ok0 := hval 0 29 v0 rfl rfl
  have w0 := weightsEach_get (i := 0) hsz rfl rfl
  obtain ⟨cs0, rfl, -⟩ := okWide_struct Try.underlying29 ok0
  obtain ⟨y0, A01, n01, c01, A02, n02, c02, A03, n03, c03, A04, n04, c04, hy0, hr01, hr02, hr03, hr04, hr05⟩ := arg_get oTSch h0 w0
  obtain rfl : cs0 = ⟨_⟩ := congrArg Array.mk hy0
  have ok1 := hval 1 51 v1 rfl rfl
  have w1 := weightsEach_get (i := 1) hsz rfl rfl
  obtain ⟨cs1, rfl, -⟩ := okWide_struct Try.underlying51 ok1
  obtain ⟨y1, hy1, hr11, hr12, hr13⟩ := arg_get oCol h1 w1
  obtain rfl : cs1 = ⟨_⟩ := congrArg Array.mk hy1
  have ok2 := hval 2 3 v2 rfl rfl
  have w2 := weightsEach_get (i := 2) hsz rfl rfl
  obtain ⟨x2, rfl⟩ := okWide_int Try.underlying3 ok2
  obtain ⟨y2, hy2, hr2⟩ := arg_get oInt h2 w2
  obtain rfl : x2 = y2 := by simpa [Value.cells] using hy2
  have ok3 := hval 3 3 v3 rfl rfl
  have w3 := weightsEach_get (i := 3) hsz rfl rfl
  obtain ⟨x3, rfl⟩ := okWide_int Try.underlying3 ok3
  obtain ⟨y3, hy3, hr3⟩ := arg_get oInt h3 w3
  obtain rfl : x3 = y3 := by simpa [Value.cells] using hy3
  refine (con_true (law21_SchemaRaw (s := y0) (co := y1) ⟨rfl, hr01, hr02, hr03, hr04, hr05⟩ hr11 hr12 hr13 hr2 hr3) (heapOf_snap W)).mono fun e W' ⟨he, hb⟩ => ?_
  subst he
  exact ⟨_, rfl, post_of_below (pa := _) (pv := []) hW' (fun _ _ _ => trodAll_mk1 (shut_bool Try.underlying4 _))
    (fun sp hsp => trodAll_sp sps hA1 (fun z hz => hb.same (hW'.lt z (by simpa using hz))) (fun z hz => hsp z (by simpa using hz))) (fun _ _ => rfl) rfl hb (ok_one (by kernel_rfl) rfl (okWide_bool_mk Try.underlying4 _))⟩
theorem proved : Rows.SchemaRawSaid :=
  OpenClaim.holds_of_wide 6 Try.f6 rfl rfl rfl rfl rfl rfl rfl ⟨rfl, rfl, rfl, rfl, rfl⟩ rfl rfl rfl rfl rfl (by kernel_rfl) Try.func6 (by kernel_rfl)
    (of_decide_eq_true (by kernel_rfl)) (by unfold Func.isWrapper; first | (rw [if_pos (by decide +kernel)]; kernel_rfl) | (rw [if_neg (by decide +kernel)]; exact ⟨rfl, rfl⟩))
    (fun os started H enc _ => lifted os started H enc)
#print axioms proved
end Go.Proofs.Ythbapbapcnafhaa.schemaRaw

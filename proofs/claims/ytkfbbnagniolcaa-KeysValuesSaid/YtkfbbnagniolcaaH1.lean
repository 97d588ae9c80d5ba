/- KeysValues: keys.Values agrees with the definition for arbitrary arguments. No conditions. -/
import Derived.Test.YtkfbbnagniolcaaB7
import Derived.Test.YtkfbbnagniolcaaBr
import Derived.Test.YtkfbbnagniolcaaRows
import Derived.ProofKit
set_option linter.unusedSectionVars false
set_option linter.unusedSimpArgs false
set_option linter.unusedVariables false
namespace Go.Vc
open Go Go.Proofs Go.Shelf
def an12 : Ann where
  res := fun _ => none
  lend := fun _ => false
  sch := fun _ => .done
  lt := fun | 3 => [.slot 5 false [.row 42 57], .slot 6 false [.int .i64]] | _ => []
  tup := tups

theorem vc12 (P : Program) (H : Heap) (valsA : Option Addr) (valsN valsC : Nat) (colsA : Option Addr) (colsN colsC : Nat) (post : Option Addr → Nat → Nat → Heap → Prop) :
  vcFn P tab an12 Try.f12 [.slice valsA valsN valsC, .slice colsA colsN colsC] 1 H ⟨false, [(false, [.sl])]⟩ post =
  (  ∃ (inv0 : Nat → List Value → Int → Heap → Prop), ∃ (m1 : Nat → List Value → Int → Nat), inv0 0 [] (0 : Int) H ∧ ∀ (H2 : Heap), Heap.le H H2 → ∀ (n4 : Nat) (xs5 : List Value) (n6 : Int),
  inv0 n4 xs5 n6 H2 → (decide (n6 < (↑colsN : Int)) = true → someA colsA ∧ (0 : Int) ≤ n6 ∧ n6 < (↑colsN : Int) ∧ ∃ (n9 : Int), Cells H2 colsA (Int.toNat n6 * 1) [.int .i64 n9] ∧ (decide ((0
  : Int) ≤ n9) = true → someA colsA ∧ (0 : Int) ≤ n6 ∧ n6 < (↑colsN : Int) ∧ ∃ (n11 : Int), Cells H2 colsA (Int.toNat n6 * 1) [.int .i64 n11] ∧ (decide (n11 < (↑valsN : Int)) = true → someA
  colsA ∧ (0 : Int) ≤ n6 ∧ n6 < (↑colsN : Int) ∧ ∃ (n13 : Int), Cells H2 colsA (Int.toNat n6 * 1) [.int .i64 n13] ∧ someA valsA ∧ (0 : Int) ≤ n13 ∧ n13 < (↑valsN : Int) ∧ ∃ (n14 : Int), ∃
  (n15 : Int), ∃ (s16 : ByteArray), Cells H2 valsA (Int.toNat n13 * 3) [.int .i64 n14, .int .i64 n15, .string s16] ∧ (n4 + 1) * 32 ≤ 140737488355328 ∧ rng .i64 (n6 + (1 : Int)) ∧ inv0 (n4 +
  1) (xs5 ++ [.int .i64 n14, .int .i64 n15, .string s16]) (n6 + (1 : Int)) H2 ∧ m1 (n4 + 1) (xs5 ++ [.int .i64 n14, .int .i64 n15, .string s16]) (n6 + (1 : Int)) < m1 n4 xs5 n6) ∧ (decide
  (n11 < (↑valsN : Int)) = false → (n4 + 1) * 32 ≤ 140737488355328 ∧ rng .i64 (n6 + (1 : Int)) ∧ inv0 (n4 + 1) (xs5 ++ [.int .i64 (0 : Int), .int .i64 (0 : Int), .string ⟨⟨[]⟩⟩]) (n6 + (1 :
  Int)) H2 ∧ m1 (n4 + 1) (xs5 ++ [.int .i64 (0 : Int), .int .i64 (0 : Int), .string ⟨⟨[]⟩⟩]) (n6 + (1 : Int)) < m1 n4 xs5 n6)) ∧ (decide ((0 : Int) ≤ n9) = false → (n4 + 1) * 32 ≤
  140737488355328 ∧ rng .i64 (n6 + (1 : Int)) ∧ inv0 (n4 + 1) (xs5 ++ [.int .i64 (0 : Int), .int .i64 (0 : Int), .string ⟨⟨[]⟩⟩]) (n6 + (1 : Int)) H2 ∧ m1 (n4 + 1) (xs5 ++ [.int .i64 (0 :
  Int), .int .i64 (0 : Int), .string ⟨⟨[]⟩⟩]) (n6 + (1 : Int)) < m1 n4 xs5 n6)) ∧ (decide (n6 < (↑colsN : Int)) = false → ∀ (A20 : Option Addr) (c21 : Nat) (H22 : Heap), Heap.le H2 H22 →
  Cells H22 A20 0 xs5 → n4 ≤ c21 → post A20 n4 c21 H22)) := by kernel_rfl
theorem ref21_KeyValues {H : Heap} {A B : Option Addr} {n c m d : Nat} {vals : List Val} {cols : List Int} (hs : Sl H A n c vals) (ht : Sl H B m d cols) (hb : m * 32 ≤ 140737488355328) :
    ConT Try.prog 12 [.slice A n c, .slice B m d] H shS (fun A' n' c' H' => Sl H' A' n' c' (keyVals vals cols)) := by
  refine con_of_vc (an := an12) (fn := Try.f12) mix tabOK Try.func12 (by kernel_rfl) (extra := 1) ?_
  rw [vc12]
  have hbn := ht.bn; have hl := hs.len; have hm := ht.len
  refine ⟨fun k xs i H' => 0 ≤ i ∧ i ≤ m ∧ k = i.toNat ∧ Row H' xs (keyVals vals (cols.take i.toNat)), fun _ _ i => m - i.toNat, ⟨by omega, by omega, rfl, rfl⟩, ?_⟩
  rintro H2 hle k xs i ⟨h0, h1, rfl, hr⟩
  have e1 : (i + 1).toNat = i.toNat + 1 := by omega
  refine ⟨fun hlt => ?_, fun hge => ?_⟩
  · have hlt := of_decide_eq_true hlt
    obtain ⟨hi, hA, _, hc, ⟨rfl, -⟩⟩ := ht.at hle h0 hlt
    have hsu : keyVals vals (cols.take (i + 1).toNat) = keyVals vals (cols.take i.toNat) ++ [keyVal vals cols[i.toNat]] := by
      rw [e1, List.take_succ_eq_append_getElem hi, keyVals, List.map_append]; rfl
    have zero : keyVal vals cols[i.toNat] = val0 → (i.toNat + 1) * 32 ≤ 140737488355328 ∧ rng .i64 (i + 1) ∧ (0 ≤ i + 1 ∧ i + 1 ≤ m ∧ i.toNat + 1 = (i + 1).toNat ∧ Row H2 (xs ++ [.int .i64 0, .int .i64 0, .string ⟨#[]⟩]) (keyVals vals (cols.take (i + 1).toNat))) ∧ m - (i + 1).toNat < m - i.toNat := fun hv =>
      ⟨by omega, by simp only [rng]; omega, ⟨by omega, by omega, by omega, by rw [hsu, hv]; exact hr.append ⟨[.int .i64 0, .int .i64 0, .string ⟨#[]⟩], [], rfl, ⟨rfl, by decide, by decide, by unfold str val0; decide⟩, rfl⟩⟩, by omega⟩
    refine ⟨hA, h0, hlt, _, hc, fun hp => ⟨hA, h0, hlt, _, hc, fun hq => ⟨hA, h0, hlt, _, hc, ?_⟩, fun hq => ?_⟩, fun hp => ?_⟩
    · have hp := of_decide_eq_true hp; have hq := of_decide_eq_true hq
      obtain ⟨hj, hB, _, hd, hv⟩ := hs.at hle hp hq
      have hkv : keyVal vals cols[i.toNat] = vals[cols[i.toNat].toNat] := by unfold keyVal; rw [if_pos hp, List.getD_eq_getElem?_getD, List.getElem?_eq_getElem hj]; rfl
      obtain ⟨rfl, q⟩ := id hv
      exact ⟨hB, hp, hq, _, _, _, hd, by omega, by simp only [rng]; omega, ⟨by omega, by omega, by omega, by rw [hsu, hkv]; exact hr.append ⟨_, [], by simp, hv, rfl⟩⟩, by dsimp only; omega⟩
    · have hp := of_decide_eq_true hp; have hq := of_decide_eq_false hq
      exact zero (by unfold keyVal; rw [if_pos hp, List.getD_eq_getElem?_getD, List.getElem?_eq_none (by omega)]; rfl)
    · have hp := of_decide_eq_false hp
      exact zero (by unfold keyVal; rw [if_neg hp])
  · have hge := of_decide_eq_false hge
    intro A2 c2 H3 l3 hc2 hn2
    rw [List.take_of_length_le (by omega)] at hr
    exact hr.sl l3 hc2 (by simp [keyVals]; omega) hn2 (by show i.toNat * 32 ≤ _; omega) (by omega)
def an3 : Ann where
  res := fun _ => none
  lend := fun | 13 => true | 14 => true | 22 => true | _ => false
  sch := fun _ => .done
  lt := fun _ => []
  tup := tups

theorem vc3 (P : Program) (H : Heap) (valsA : Option Addr) (valsN valsC : Nat) (colsA : Option Addr) (colsN colsC : Nat) (post : Bool → Heap → Prop) :
  vcFn P tab an3 Try.f3 [.slice valsA valsN valsC, .slice colsA colsN colsC] 0 H ⟨false, [(false, [.bool])]⟩ post =
  (  (decide ((30 : Int) < (↑valsN : Int)) = true → ∃ (post1 : Bool → Heap → Prop), ConT P 9 [] H ⟨false, [(false, [.bool])]⟩ post1 ∧ ∀ (H2 : Heap), Heap.le H H2 → ∀ (b4 : Bool), post1 b4 H2 →
  post b4 H2) ∧ (decide ((30 : Int) < (↑valsN : Int)) = false → (decide ((30 : Int) < (↑colsN : Int)) = true → ∃ (post8 : Bool → Heap → Prop), ConT P 9 [] H ⟨false, [(false, [.bool])]⟩ post8
  ∧ ∀ (H9 : Heap), Heap.le H H9 → ∀ (b11 : Bool), post8 b11 H9 → post b11 H9) ∧ (decide ((30 : Int) < (↑colsN : Int)) = false → ∃ (post14 : Bool → Heap → Prop), ConT P 9 [] H ⟨false, [(false,
  [.bool])]⟩ post14 ∧ ∀ (H15 : Heap), Heap.le H H15 → ∀ (b17 : Bool), post14 b17 H15 → (b17 = true → ∃ (post20 : Option Addr → Nat → Nat → Heap → Prop), ConT P 11 [.slice valsA valsN valsC,
  .slice colsA colsN colsC] H15 ⟨false, [(false, [.sl])]⟩ post20 ∧ ∀ (H21 : Heap), Heap.le H15 H21 → ∀ (A23 : Option Addr) (n24 c25 : Nat), post20 A23 n24 c25 H21 → ∃ (post27 : Option Addr →
  Nat → Nat → Heap → Prop), ConT P 12 [.slice valsA valsN valsC, .slice colsA colsN colsC] H21 ⟨false, [(false, [.sl])]⟩ post27 ∧ ∀ (H28 : Heap), Heap.le H21 H28 → ∀ (A30 : Option Addr) (n31
  c32 : Nat), post27 A30 n31 c32 H28 → ∃ (post34 : Int → Heap → Prop), ConT P 10 [.slice A23 n24 c25, .slice A30 n31 c32] H28 ⟨false, [(false, [.int .i64])]⟩ post34 ∧ ∀ (H35 : Heap), Heap.le
  H28 H35 → ∀ (n37 : Int), post34 n37 H35 → post (decide (n37 = (0 : Int))) H35) ∧ (b17 = false → post false H15)))) := by kernel_rfl
theorem law22_KeysValues {H : Heap} {A B : Option Addr} {n c m d : Nat} {vals : List Val} {cols : List Int} (hs : Sl H A n c vals) (ht : Sl H B m d cols) :
    ConT Try.prog 3 [.slice A n c, .slice B m d] H shB (fun r _ => r = true) := by
  refine con_of_vc (an := an3) (fn := Try.f3) mix tabOK Try.func3 (by kernel_rfl) (extra := 0) ?_
  rw [vc3]
  refine ⟨fun _ => ⟨_, law22_awake, fun _ _ _ h => h⟩, fun _ => ⟨fun _ => ⟨_, law22_awake, fun _ _ _ h => h⟩, fun hm => ⟨_, law22_awake, ?_⟩⟩⟩
  have hm := of_decide_eq_false hm
  rintro H1 l1 _ rfl
  refine ⟨fun _ => ?_, fun h => by simp at h⟩
  refine ⟨_, keys_Values (hs.mono l1) (ht.mono l1) (by omega), ?_⟩
  intro H2 l2 A2 n2 c2 h2
  have l12 := hle_trans l1 l2
  refine ⟨_, ref21_KeyValues (hs.mono l12) (ht.mono l12) (by omega), ?_⟩
  intro H3 l3 A3 n3 c3 h3
  refine ⟨_, ref6_CompareRows (h2.mono l3) h3, ?_⟩
  rintro H4 l4 _ rfl
  simp [cmpVs_ord.refl]
theorem oInt : Opn Try.prog 3 Int := opn_int Try.underlying3 (by kernel_rfl) (by kernel_rfl)
theorem oInts : Opn Try.prog 23 (List Int) := opn_slice Try.underlying23 (by kernel_rfl) (by kernel_rfl) oInt
theorem oStr : Opn Try.prog 9 ByteArray := opn_string Try.underlying9 (by kernel_rfl) (by kernel_rfl)
theorem oVal : Opn Try.prog 57 Val := opn_Val ⟨_, Try.underlying57, rfl⟩ oInt (opn_int Try.underlying2 (by kernel_rfl) (by kernel_rfl)) oStr (by kernel_rfl) (by kernel_rfl)
theorem oVals : Opn Try.prog 22 (List Val) := opn_slice Try.underlying22 (by kernel_rfl) (by kernel_rfl) oVal
end Go.Vc
namespace Go.Proofs.Ytkfbbnagniolcaa.keysValues
open Go Go.Vc Go.RowKit Go.WideShapes Go.ChangeShapes
theorem sps : ∀ t ∈ Try.f3.params.toList, SpOK Try.prog t := by
  rw [Try.params3]
  exact List.forall_mem_cons.2 ⟨oVals.sp, List.forall_mem_cons.2 ⟨oInts.sp, fun _ h => by cases h⟩⟩
theorem own : ownKnob Try.prog.godebug = none := by kernel_rfl
set_option maxRecDepth 100000 in
theorem lifted (os : Os) (started : os.Started) (H : Type) (enc : TypeId × Value → H) :
    ReturnsInHanded {} Try.checked os 3 .any (Rows.keysValuesSpec.pre6 enc Try.prog Try.f3 Rows.keysValuesRow.domain false) (Rows.keysValuesSpec.post enc Try.prog Try.f3 false true false false) := by
  refine returnsInHanded_of_change_sized (C := Try.checked) own started (by kernel_rfl) Try.func3
    (ChangeSpec.witness6 (enc := enc) (C := Try.checked) false ⟨#[], #[.slice none 0 0, .slice none 0 0], []⟩ 8 (by kernel_rfl) (by kernel_rfl) (by kernel_rfl) (by kernel_rfl)) ?_
  intro W base args ds gs before hval0 hW hcnd hsz0 _
  have hval : ∀ (j : Nat) t v, Try.f3.params[j]? = some t → args[j]? = some v → Value.okWide Try.prog W .any base t v := hval0
  have hW' := hW
  obtain ⟨p, q, hA0, hV, rfl, hfz, hnd⟩ := hW
  have hA : DataW.TrodAll enc Try.prog W 0 (fun _ => true) true Try.f3.params.toList args.toList ds p := hA0
  have hsz : (DataW.weightsEach Try.prog (Try.f3.params.toList ++ Rows.keysValuesSpec.plain.varTypes Try.prog) (ds ++ gs)).all (· ≤ reachBytes) = true := hsz0
  have hA1 := hA
  obtain ⟨rfl, rfl⟩ := trodVars_none hV
  rw [Try.params3] at hA hval hsz
  obtain ⟨v0, vs0, d0, ds0, p0, q0, hargs, rfl, rfl, h0, r0⟩ := trodAll_cons hA
  obtain ⟨v1, vs1, d1, ds1, p1, q1, rfl, rfl, rfl, h1, r1⟩ := trodAll_cons r0
  obtain ⟨rfl, rfl, rfl⟩ := trodAll_nil r1
  obtain rfl : args = #[v0, v1] := by cases args; simp_all
  have ok0 := hval 0 22 v0 rfl rfl
  have w0 := weightsEach_get (i := 0) hsz rfl rfl
  obtain ⟨A01, n01, c01, rfl⟩ := okWide_slice Try.underlying22 ok0
  obtain ⟨y0, A02, n02, c02, hy0, hr0⟩ := arg_get oVals h0 w0
  obtain ⟨rfl, rfl, rfl⟩ : A01 = A02 ∧ n01 = n02 ∧ c01 = c02 := by simpa [Value.cells] using hy0
  have ok1 := hval 1 23 v1 rfl rfl
  have w1 := weightsEach_get (i := 1) hsz rfl rfl
  obtain ⟨A11, n11, c11, rfl⟩ := okWide_slice Try.underlying23 ok1
  obtain ⟨y1, A12, n12, c12, hy1, hr1⟩ := arg_get oInts h1 w1
  obtain ⟨rfl, rfl, rfl⟩ : A11 = A12 ∧ n11 = n12 ∧ c11 = c12 := by simpa [Value.cells] using hy1
  refine (con_true (law22_KeysValues hr0 hr1) (heapOf_snap W)).mono fun e W' ⟨he, hb⟩ => ?_
  subst he
  exact ⟨_, rfl, post_of_below (pa := _) (pv := []) hW' (fun _ _ _ => trodAll_mk1 (shut_bool Try.underlying4 _))
    (fun sp hsp => trodAll_sp sps hA1 (fun z hz => hb.same (hW'.lt z (by simpa using hz))) (fun z hz => hsp z (by simpa using hz))) (fun _ _ => rfl) rfl hb (ok_one (by kernel_rfl) rfl (okWide_bool_mk Try.underlying4 _))⟩
theorem proved : Rows.KeysValuesSaid :=
  OpenClaim.holds_of_wide 3 Try.f3 rfl rfl rfl rfl rfl rfl rfl ⟨rfl, rfl, rfl, rfl, rfl⟩ rfl rfl rfl rfl rfl (by kernel_rfl) Try.func3 (by kernel_rfl)
    (of_decide_eq_true (by kernel_rfl)) (by unfold Func.isWrapper; first | (rw [if_pos (by decide +kernel)]; kernel_rfl) | (rw [if_neg (by decide +kernel)]; exact ⟨rfl, rfl⟩))
    (fun os started H enc _ => lifted os started H enc)
#print axioms proved
end Go.Proofs.Ytkfbbnagniolcaa.keysValues

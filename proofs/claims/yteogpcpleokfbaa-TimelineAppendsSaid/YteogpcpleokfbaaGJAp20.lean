/- Timelines: Append. -/
import Derived.Test.YteogpcpleokfbaaGJAp19
set_option linter.unusedSectionVars false
set_option linter.unusedSimpArgs false
set_option linter.unusedVariables false
namespace Go.Vc
open Go Go.Proofs Go.Shelf
section
variable {H : Heap} {O : OMap} {q0 q4 : Int} {q1N q3N bi1 bi3 : Nat} {q1Xs q3Xs : List Value} {q2 : Option Nat} {evs : List Ev}
set_option maxHeartbeats 2000000 in
theorem tl_Append {e : Ev} {es : List (Value × Value)} (hix : IxOK H q0 q1N q1Xs q3N q3Xs q4 evs) (hw : WfE evs) (hsd : evs.Pairwise fun a b => ¬ evLt b a) (hm : hasM O q2 65 es) (hlv : LvOK es evs) (hb : q1N ≤ 900) (r1 : rng .i64 e.tm) (r2 : rng .i64 e.id) (hr : refuse evs e = 0) :
    ConB Try.prog 15 [.me, .v (.agg #[.int .i64 e.tm, .int .i64 e.id, .bool e.fin])] 68 (ixC q0 q1N q1Xs q2 q3N q3Xs q4) H O (ixL bi1 bi3) shI
      (fun n0 n1 xs1 A2 n3 xs3 n4 r H' O' => n0 = q0 ∧ n4 = q4 ∧ r = 0 ∧ ∃ k, PutAt evs e k ∧ IxOK H' n0 n1 xs1 n3 xs3 n4 (evs.take k ++ e :: evs.drop k) ∧ ∃ es', hasM O' A2 65 es' ∧ LvOK es' (evs.take k ++ e :: evs.drop k)) := by
  refine conB_of_vc (k := 0) (an := an15) (fn := Try.f15) mix tabOK Try.func15 (by kernel_rfl) (extra := 5) ?_
  rw [vc15]
  intro a0
  obtain ⟨⟨iv1, iv2⟩, er, el, eb, ⟨cps, cr, cl, ck⟩, srt, ex⟩ := hix
  have hz := (refuse_zero hr).2.2.2.2
  have hfr := refuse_fresh hz
  refine ⟨_, tl_refusal (q0 := q0) (q4 := q4) (q3N := q3N) (q3Xs := q3Xs) er el eb hm hlv, ?_⟩
  rintro H2 l2 O4 n5 n6 xs7 A8 n9 xs10 n11 n12 ⟨⟨rfl, rfl, rfl, rfl, rfl, rfl, rfl⟩, rfl, rfl⟩
  obtain ⟨v, rfl⟩ : ∃ v : Nat, n5 = v := ⟨n5.toNat, by omega⟩
  rw [show ((v : Int)).toNat = v by omega] at *
  have hcl : cps.length ≤ 1001 := by
    rw [ck.len]
    have := Nat.div_le_self evs.length v
    omega
  refine ⟨fun h => by simp [hr] at h, fun _ => ⟨fun hf => ?_, fun hf => ?_⟩⟩
  · obtain ⟨fr, hl, -⟩ := refuse_end hz hf
    refine ⟨es, .inr hm, fr, false, ?_, es, hm, ?_⟩
    · unfold lkIs
      rw [hlv.look, hl]
      rfl
    rintro O21 ⟨bb, rfl, o1, o2⟩
    have hO : hasM O21 (some bb) 65 (mput es (.int .i64 e.id) (.agg #[.int .i64 fr, .bool true])) := ⟨bb, rfl, o1⟩
    have hLV := lv_end hlv hl hf
    refine ⟨_, fun A24 c25 H26 l26 hc hn => BinarySearchFunc_Ev (er.sl (hle_trans l2 l26) hc el hn (by show _ * 24 ≤ _; omega) (by omega)) (by omega) hsd, ?_⟩
    rintro H30 n31 b32 ⟨j0, j1, b1, b2⟩ A34 c35 H36 l36 hc hn
    obtain ⟨k, rfl⟩ : ∃ k : Nat, n31 = k := ⟨n31.toNat, by omega⟩
    have hpa : PutAt evs e k := ⟨by omega, fun j h hj => by
      rcases evLt_tri e evs[j] with h1 | h1 | h1
      · exact h1
      · exact absurd (by rw [h1]) (hfr evs[j] (List.getElem_mem h) (by rw [h1]))
      · exact absurd h1 (b2 j h (by omega)), fun j h hj hh => evLt_irrefl _ (evLt_trans hh (b1 j h (by omega)))⟩
    refine ⟨_, Insert_Ev (by omega) (by omega) rfl hc hn, ?_⟩
    rintro H41 l41 ys43 n44 xs45 ⟨rfl, rfl⟩
    have l41' := hle_trans l2 (hle_trans l36 l41)
    have hone : Row H41 [.int .i64 e.tm, .int .i64 e.id, .bool e.fin] [e] := Row.one ⟨rfl, r1, r2⟩
    have hrow := ((rowTake k (er.mono l41')).append hone).append (rowDrop k (er.mono l41'))
    rw [show Rep.sz Ev = 3 from rfl, show evs.take k ++ [e] ++ evs.drop k = evs.take k ++ e :: evs.drop k by simp] at hrow
    have hlen : (evs.take k ++ e :: evs.drop k).length = evs.length + 1 := by rw [hpa.perm.length_eq]; simp
    have cok : ∀ j (h : j < cps.length), j ≤ k / v → cps[j].l = stF ((evs.take k ++ e :: evs.drop k).take (j * v)) := by
      intro j h hj
      rw [ck.at_ j h]
      have h1 : j * v ≤ k := Nat.le_trans (Nat.mul_le_mul_right v hj) (Nat.div_mul_le_self k v)
      rw [List.take_append_of_le_length (by rw [List.length_take]; omega), List.take_take, Nat.min_eq_left h1]
    refine ⟨_, tl_build (v := v) (f := k) (by omega) iv2 hrow (by omega) (by omega) (cr.mono l41') cl cok (by omega) (by omega), ?_⟩
    rintro H48 l48 O50 n51 n52 xs53 A54 n55 xs56 n57 ⟨rfl, rfl, rfl, rfl, rfl, rfl, cps', c1, c2, c3⟩
    refine ⟨rfl, rfl, rfl, rfl, k, hpa, ⟨⟨iv1, iv2⟩, hrow.mono l48, by omega, by omega, ⟨cps', c1, c2, by simpa using c3⟩, (hpa.sorted hsd).imp fun h => notLt_tm h, ex⟩, _, hO, hLV.perm hpa.perm⟩
  · refine ⟨es, hm, ?_⟩
    rintro O21 ⟨bb, rfl, o1, o2⟩
    have hO : hasM O21 (some bb) 65 (mput es (.int .i64 e.id) (.agg #[.int .i64 e.tm, .bool false])) := ⟨bb, rfl, o1⟩
    have hLV := lv_start hw hlv hz hf
    refine ⟨_, fun A24 c25 H26 l26 hc hn => BinarySearchFunc_Ev (er.sl (hle_trans l2 l26) hc el hn (by show _ * 24 ≤ _; omega) (by omega)) (by omega) hsd, ?_⟩
    rintro H30 n31 b32 ⟨j0, j1, b1, b2⟩ A34 c35 H36 l36 hc hn
    obtain ⟨k, rfl⟩ : ∃ k : Nat, n31 = k := ⟨n31.toNat, by omega⟩
    have hpa : PutAt evs e k := ⟨by omega, fun j h hj => by
      rcases evLt_tri e evs[j] with h1 | h1 | h1
      · exact h1
      · exact absurd (by rw [h1]) (hfr evs[j] (List.getElem_mem h) (by rw [h1]))
      · exact absurd h1 (b2 j h (by omega)), fun j h hj hh => evLt_irrefl _ (evLt_trans hh (b1 j h (by omega)))⟩
    refine ⟨_, Insert_Ev (by omega) (by omega) rfl hc hn, ?_⟩
    rintro H41 l41 ys43 n44 xs45 ⟨rfl, rfl⟩
    have l41' := hle_trans l2 (hle_trans l36 l41)
    have hone : Row H41 [.int .i64 e.tm, .int .i64 e.id, .bool e.fin] [e] := Row.one ⟨rfl, r1, r2⟩
    have hrow := ((rowTake k (er.mono l41')).append hone).append (rowDrop k (er.mono l41'))
    rw [show Rep.sz Ev = 3 from rfl, show evs.take k ++ [e] ++ evs.drop k = evs.take k ++ e :: evs.drop k by simp] at hrow
    have hlen : (evs.take k ++ e :: evs.drop k).length = evs.length + 1 := by rw [hpa.perm.length_eq]; simp
    have cok : ∀ j (h : j < cps.length), j ≤ k / v → cps[j].l = stF ((evs.take k ++ e :: evs.drop k).take (j * v)) := by
      intro j h hj
      rw [ck.at_ j h]
      have h1 : j * v ≤ k := Nat.le_trans (Nat.mul_le_mul_right v hj) (Nat.div_mul_le_self k v)
      rw [List.take_append_of_le_length (by rw [List.length_take]; omega), List.take_take, Nat.min_eq_left h1]
    refine ⟨_, tl_build (v := v) (f := k) (by omega) iv2 hrow (by omega) (by omega) (cr.mono l41') cl cok (by omega) (by omega), ?_⟩
    rintro H48 l48 O50 n51 n52 xs53 A54 n55 xs56 n57 ⟨rfl, rfl, rfl, rfl, rfl, rfl, cps', c1, c2, c3⟩
    refine ⟨rfl, rfl, rfl, rfl, k, hpa, ⟨⟨iv1, iv2⟩, hrow.mono l48, by omega, by omega, ⟨cps', c1, c2, by simpa using c3⟩, (hpa.sorted hsd).imp fun h => notLt_tm h, ex⟩, _, hO, hLV.perm hpa.perm⟩
end
end Go.Vc
/- Timelines: events stay proper when one is appended. -/
namespace Go.Vc
open Go Go.Proofs Go.Shelf
theorem wf_append {evs : List Ev} {e : Ev} {k : Nat} (hw : WfE evs) (hsd : evs.Pairwise fun a b => ¬ evLt b a) (hr : refuse evs e = 0) (hpa : PutAt evs e k) : WfE (evs.take k ++ e :: evs.drop k) := by
  obtain ⟨-, -, -, hlast, hz⟩ := refuse_zero hr
  have hfr := refuse_fresh hz
  refine ⟨(hpa.sorted hsd).imp fun h => notLt_tm h, uniq_perm ?_ hpa.perm, fun f hf hff => ?_⟩
  · refine List.pairwise_append.2 ⟨hw.uniq, List.pairwise_singleton _ _, fun a ha b hb => ?_⟩
    rw [List.mem_singleton.1 hb]
    exact hfr a ha
  · have hf := hpa.perm.mem_iff.1 hf
    rcases List.mem_append.1 hf with hf | hf
    · obtain ⟨s, s1, s2⟩ := hw.par f hf hff
      exact ⟨s, hpa.perm.mem_iff.2 (List.mem_append.2 (.inl s1)), s2⟩
    · obtain rfl := List.mem_singleton.1 hf
      obtain ⟨fr, hl, hne⟩ := refuse_end hz hff
      obtain ⟨⟨s, s1, s2, s3, s4⟩, -⟩ := lifeOf_some hl
      refine ⟨s, hpa.perm.mem_iff.2 (List.mem_append.2 (.inl s1)), s2, s3, ?_⟩
      obtain ⟨i, hi, rfl⟩ := List.getElem_of_mem s1
      have h1 := hw.le hi (show evs.length - 1 < evs.length by omega) (by omega)
      have h2 := hlast evs[evs.length - 1] (by rw [List.getLast?_eq_getElem?, List.getElem?_eq_getElem (by omega)])
      omega
theorem put_eq {evs : List Ev} {e : Ev} {k j : Nat} (hsd : evs.Pairwise fun a b => ¬ evLt b a) (h1 : PutAt evs e k) (h2 : PutAt evs e j) : evs.take k ++ e :: evs.drop k = evs.take j ++ e :: evs.drop j :=
  ev_sorted_eq (h1.perm.trans h2.perm.symm) (h1.sorted hsd) (h2.sorted hsd)
theorem wf_nil : WfE [] := ⟨List.Pairwise.nil, List.Pairwise.nil, fun f hf => by cases hf⟩
theorem fnd_start {evs : List Ev} {id : Int} : (0 ≤ fndI evs id false) ↔ (lifeOf evs id).isSome = true := by
  refine Decidable.not_iff_not.1 ?_
  rw [show (¬ 0 ≤ fndI evs id false) ↔ fndI evs id false < 0 by omega, fndI_neg]
  rw [Bool.not_eq_true, Option.isSome_eq_false_iff, Option.isNone_iff_eq_none, lifeOf_none]
  exact ⟨fun h s hs hh => h s hs ⟨hh.2, hh.1⟩, fun h s hs hh => h s hs ⟨hh.2, hh.1⟩⟩
theorem fnd_end {evs : List Ev} {id : Int} : (0 ≤ fndI evs id true) ↔ (evs.any fun f => f.fin && decide (f.id = id)) = true := by
  refine Decidable.not_iff_not.1 ?_
  rw [show (¬ 0 ≤ fndI evs id true) ↔ fndI evs id true < 0 by omega, fndI_neg, List.any_eq_true]
  constructor
  · rintro h ⟨f, h1, h2⟩
    simp only [Bool.and_eq_true, decide_eq_true_eq] at h2
    exact h f h1 ⟨h2.2, h2.1⟩
  · intro h f hf hh
    exact h ⟨f, hf, by simp [hh.1, hh.2]⟩
end Go.Vc
/- Timelines: the reference's Append. -/
namespace Go.Vc
open Go Go.Proofs Go.Shelf
/- what the reference hands back -/
def RefApp (evs : List Ev) (e : Ev) (A : Option Addr) (n c : Nat) (r : Int) (H : Heap) : Prop :=
  r = refuse evs e ∧ (refuse evs e ≠ 0 → Sl H A n c evs) ∧ (refuse evs e = 0 → ∃ k, PutAt evs e k ∧ Sl H A n c (evs.take k ++ e :: evs.drop k))
def an14 : Ann where
  res := fun _ => none
  lend := fun | 10 => true | 62 => true | _ => false
  sch := fun | 4 => (tk [0, 1, 2, 3, 4, 5, 6, 7, 8, 9, 10, 11, 12, 13, 14, 15, 16, 17, 18, 19, 20, 21, 22, 23, 24, 25] .done) | 10 => (tk [0, 1, 2, 3, 4, 5, 6, 7, 8, 9, 10, 11, 12] .done) | _ => .done
  lt := fun _ => []
  tup := tups

theorem vc14 (P : Program) (H : Heap) (lA : Option Addr) (lN lC : Nat) (p1At : Int) (p1ID : Int) (p1End : Bool) (post : Option Addr → Nat → Nat → Int → Heap → Prop) :
  vcFn P tab an14 Try.f14 [.slice lA lN lC, .agg #[.int .i64 p1At, .int .i64 p1ID, .bool p1End]] 0 H ⟨true, [(false, [.sl]), (false, [.int .i64])]⟩ post =
  (  ∃ (post0 : Int → Heap → Prop), ConT P 35 [.slice lA lN lC, .int .i64 p1ID, .bool false] H ⟨false, [(false, [.int .i64])]⟩ post0 ∧ ∀ (H1 : Heap), Heap.le H H1 → ∀ (n3 : Int), post0 n3 H1 →
  (decide (p1ID < (1 : Int)) = true → post lA lN lC (1 : Int) H1) ∧ (decide (p1ID < (1 : Int)) = false → (decide (p1At < (0 : Int)) = true → post lA lN lC (10 : Int) H1) ∧ (decide (p1At < (0
  : Int)) = false → (decide ((1099511627776 : Int) ≤ p1At) = true → post lA lN lC (10 : Int) H1) ∧ (decide ((1099511627776 : Int) ≤ p1At) = false → (decide ((0 : Int) < (↑lN : Int)) = true →
  rng .i64 ((↑lN : Int) - (1 : Int)) ∧ someA lA ∧ (0 : Int) ≤ (↑lN : Int) - (1 : Int) ∧ (↑lN : Int) - (1 : Int) < (↑lN : Int) ∧ ∃ (n12 : Int), Cells H1 lA (Int.toNat ((↑lN : Int) - (1 : Int))
  * 3 + 0) [.int .i64 n12] ∧ (decide (p1At < n12) = true → post lA lN lC (10 : Int) H1) ∧ (decide (p1At < n12) = false → ((!p1End) = true → (decide ((0 : Int) ≤ n3) = true → post lA lN lC (9
  : Int) H1) ∧ (decide ((0 : Int) ≤ n3) = false → (p1End = true → (decide (n3 < (0 : Int)) = true → post lA lN lC (11 : Int) H1) ∧ (decide (n3 < (0 : Int)) = false → ∃ (post21 : Int → Heap →
  Prop), ConT P 35 [.slice lA lN lC, .int .i64 p1ID, .bool true] H1 ⟨false, [(false, [.int .i64])]⟩ post21 ∧ ∀ (H22 : Heap), Heap.le H1 H22 → ∀ (n24 : Int), post21 n24 H22 → (decide ((0 :
  Int) ≤ n24) = true → post lA lN lC (11 : Int) H22) ∧ (decide ((0 : Int) ≤ n24) = false → (p1End = true → someA lA ∧ (0 : Int) ≤ n3 ∧ n3 < (↑lN : Int) ∧ ∃ (n29 : Int), Cells H22 lA
  (Int.toNat n3 * 3 + 0) [.int .i64 n29] ∧ (decide (n29 = p1At) = true → post lA lN lC (18 : Int) H22) ∧ (decide (n29 = p1At) = false → ∃ (post32 : Option Addr → Nat → Nat → Heap → Prop),
  ConT P 34 [.slice lA lN lC, .agg ⟨[.int .i64 p1At, .int .i64 p1ID, .bool p1End]⟩] H22 ⟨false, [(false, [.sl])]⟩ post32 ∧ ∀ (H33 : Heap), Heap.le H22 H33 → ∀ (A35 : Option Addr) (n36 c37 :
  Nat), post32 A35 n36 c37 H33 → post A35 n36 c37 (0 : Int) H33)) ∧ (p1End = false → ∃ (post40 : Option Addr → Nat → Nat → Heap → Prop), ConT P 34 [.slice lA lN lC, .agg ⟨[.int .i64 p1At,
  .int .i64 p1ID, .bool p1End]⟩] H22 ⟨false, [(false, [.sl])]⟩ post40 ∧ ∀ (H41 : Heap), Heap.le H22 H41 → ∀ (A43 : Option Addr) (n44 c45 : Nat), post40 A43 n44 c45 H41 → post A43 n44 c45 (0 :
  Int) H41)))) ∧ (p1End = false → (p1End = true → someA lA ∧ (0 : Int) ≤ n3 ∧ n3 < (↑lN : Int) ∧ ∃ (n49 : Int), Cells H1 lA (Int.toNat n3 * 3 + 0) [.int .i64 n49] ∧ (decide (n49 = p1At) =
  true → post lA lN lC (18 : Int) H1) ∧ (decide (n49 = p1At) = false → ∃ (post52 : Option Addr → Nat → Nat → Heap → Prop), ConT P 34 [.slice lA lN lC, .agg ⟨[.int .i64 p1At, .int .i64 p1ID,
  .bool p1End]⟩] H1 ⟨false, [(false, [.sl])]⟩ post52 ∧ ∀ (H53 : Heap), Heap.le H1 H53 → ∀ (A55 : Option Addr) (n56 c57 : Nat), post52 A55 n56 c57 H53 → post A55 n56 c57 (0 : Int) H53)) ∧
  (p1End = false → ∃ (post60 : Option Addr → Nat → Nat → Heap → Prop), ConT P 34 [.slice lA lN lC, .agg ⟨[.int .i64 p1At, .int .i64 p1ID, .bool p1End]⟩] H1 ⟨false, [(false, [.sl])]⟩ post60 ∧
  ∀ (H61 : Heap), Heap.le H1 H61 → ∀ (A63 : Option Addr) (n64 c65 : Nat), post60 A63 n64 c65 H61 → post A63 n64 c65 (0 : Int) H61)))) ∧ ((!p1End) = false → (p1End = true → (decide (n3 < (0 :
  Int)) = true → post lA lN lC (11 : Int) H1) ∧ (decide (n3 < (0 : Int)) = false → ∃ (post71 : Int → Heap → Prop), ConT P 35 [.slice lA lN lC, .int .i64 p1ID, .bool true] H1 ⟨false, [(false,
  [.int .i64])]⟩ post71 ∧ ∀ (H72 : Heap), Heap.le H1 H72 → ∀ (n74 : Int), post71 n74 H72 → (decide ((0 : Int) ≤ n74) = true → post lA lN lC (11 : Int) H72) ∧ (decide ((0 : Int) ≤ n74) = false
  → (p1End = true → someA lA ∧ (0 : Int) ≤ n3 ∧ n3 < (↑lN : Int) ∧ ∃ (n79 : Int), Cells H72 lA (Int.toNat n3 * 3 + 0) [.int .i64 n79] ∧ (decide (n79 = p1At) = true → post lA lN lC (18 : Int)
  H72) ∧ (decide (n79 = p1At) = false → ∃ (post82 : Option Addr → Nat → Nat → Heap → Prop), ConT P 34 [.slice lA lN lC, .agg ⟨[.int .i64 p1At, .int .i64 p1ID, .bool p1End]⟩] H72 ⟨false,
  [(false, [.sl])]⟩ post82 ∧ ∀ (H83 : Heap), Heap.le H72 H83 → ∀ (A85 : Option Addr) (n86 c87 : Nat), post82 A85 n86 c87 H83 → post A85 n86 c87 (0 : Int) H83)) ∧ (p1End = false → ∃ (post90 :
  Option Addr → Nat → Nat → Heap → Prop), ConT P 34 [.slice lA lN lC, .agg ⟨[.int .i64 p1At, .int .i64 p1ID, .bool p1End]⟩] H72 ⟨false, [(false, [.sl])]⟩ post90 ∧ ∀ (H91 : Heap), Heap.le H72
  H91 → ∀ (A93 : Option Addr) (n94 c95 : Nat), post90 A93 n94 c95 H91 → post A93 n94 c95 (0 : Int) H91)))) ∧ (p1End = false → (p1End = true → someA lA ∧ (0 : Int) ≤ n3 ∧ n3 < (↑lN : Int) ∧ ∃
  (n99 : Int), Cells H1 lA (Int.toNat n3 * 3 + 0) [.int .i64 n99] ∧ (decide (n99 = p1At) = true → post lA lN lC (18 : Int) H1) ∧ (decide (n99 = p1At) = false → ∃ (post102 : Option Addr → Nat
  → Nat → Heap → Prop), ConT P 34 [.slice lA lN lC, .agg ⟨[.int .i64 p1At, .int .i64 p1ID, .bool p1End]⟩] H1 ⟨false, [(false, [.sl])]⟩ post102 ∧ ∀ (H103 : Heap), Heap.le H1 H103 → ∀ (A105 :
  Option Addr) (n106 c107 : Nat), post102 A105 n106 c107 H103 → post A105 n106 c107 (0 : Int) H103)) ∧ (p1End = false → ∃ (post110 : Option Addr → Nat → Nat → Heap → Prop), ConT P 34 [.slice
  lA lN lC, .agg ⟨[.int .i64 p1At, .int .i64 p1ID, .bool p1End]⟩] H1 ⟨false, [(false, [.sl])]⟩ post110 ∧ ∀ (H111 : Heap), Heap.le H1 H111 → ∀ (A113 : Option Addr) (n114 c115 : Nat), post110
  A113 n114 c115 H111 → post A113 n114 c115 (0 : Int) H111))))) ∧ (decide ((0 : Int) < (↑lN : Int)) = false → ((!p1End) = true → (decide ((0 : Int) ≤ n3) = true → post lA lN lC (9 : Int) H1)
  ∧ (decide ((0 : Int) ≤ n3) = false → (p1End = true → (decide (n3 < (0 : Int)) = true → post lA lN lC (11 : Int) H1) ∧ (decide (n3 < (0 : Int)) = false → ∃ (post124 : Int → Heap → Prop),
  ConT P 35 [.slice lA lN lC, .int .i64 p1ID, .bool true] H1 ⟨false, [(false, [.int .i64])]⟩ post124 ∧ ∀ (H125 : Heap), Heap.le H1 H125 → ∀ (n127 : Int), post124 n127 H125 → (decide ((0 :
  Int) ≤ n127) = true → post lA lN lC (11 : Int) H125) ∧ (decide ((0 : Int) ≤ n127) = false → (p1End = true → someA lA ∧ (0 : Int) ≤ n3 ∧ n3 < (↑lN : Int) ∧ ∃ (n132 : Int), Cells H125 lA
  (Int.toNat n3 * 3 + 0) [.int .i64 n132] ∧ (decide (n132 = p1At) = true → post lA lN lC (18 : Int) H125) ∧ (decide (n132 = p1At) = false → ∃ (post135 : Option Addr → Nat → Nat → Heap →
  Prop), ConT P 34 [.slice lA lN lC, .agg ⟨[.int .i64 p1At, .int .i64 p1ID, .bool p1End]⟩] H125 ⟨false, [(false, [.sl])]⟩ post135 ∧ ∀ (H136 : Heap), Heap.le H125 H136 → ∀ (A138 : Option Addr)
  (n139 c140 : Nat), post135 A138 n139 c140 H136 → post A138 n139 c140 (0 : Int) H136)) ∧ (p1End = false → ∃ (post143 : Option Addr → Nat → Nat → Heap → Prop), ConT P 34 [.slice lA lN lC,
  .agg ⟨[.int .i64 p1At, .int .i64 p1ID, .bool p1End]⟩] H125 ⟨false, [(false, [.sl])]⟩ post143 ∧ ∀ (H144 : Heap), Heap.le H125 H144 → ∀ (A146 : Option Addr) (n147 c148 : Nat), post143 A146
  n147 c148 H144 → post A146 n147 c148 (0 : Int) H144)))) ∧ (p1End = false → (p1End = true → someA lA ∧ (0 : Int) ≤ n3 ∧ n3 < (↑lN : Int) ∧ ∃ (n152 : Int), Cells H1 lA (Int.toNat n3 * 3 + 0)
  [.int .i64 n152] ∧ (decide (n152 = p1At) = true → post lA lN lC (18 : Int) H1) ∧ (decide (n152 = p1At) = false → ∃ (post155 : Option Addr → Nat → Nat → Heap → Prop), ConT P 34 [.slice lA lN
  lC, .agg ⟨[.int .i64 p1At, .int .i64 p1ID, .bool p1End]⟩] H1 ⟨false, [(false, [.sl])]⟩ post155 ∧ ∀ (H156 : Heap), Heap.le H1 H156 → ∀ (A158 : Option Addr) (n159 c160 : Nat), post155 A158
  n159 c160 H156 → post A158 n159 c160 (0 : Int) H156)) ∧ (p1End = false → ∃ (post163 : Option Addr → Nat → Nat → Heap → Prop), ConT P 34 [.slice lA lN lC, .agg ⟨[.int .i64 p1At, .int .i64
  p1ID, .bool p1End]⟩] H1 ⟨false, [(false, [.sl])]⟩ post163 ∧ ∀ (H164 : Heap), Heap.le H1 H164 → ∀ (A166 : Option Addr) (n167 c168 : Nat), post163 A166 n167 c168 H164 → post A166 n167 c168 (0
  : Int) H164)))) ∧ ((!p1End) = false → (p1End = true → (decide (n3 < (0 : Int)) = true → post lA lN lC (11 : Int) H1) ∧ (decide (n3 < (0 : Int)) = false → ∃ (post174 : Int → Heap → Prop),
  ConT P 35 [.slice lA lN lC, .int .i64 p1ID, .bool true] H1 ⟨false, [(false, [.int .i64])]⟩ post174 ∧ ∀ (H175 : Heap), Heap.le H1 H175 → ∀ (n177 : Int), post174 n177 H175 → (decide ((0 :
  Int) ≤ n177) = true → post lA lN lC (11 : Int) H175) ∧ (decide ((0 : Int) ≤ n177) = false → (p1End = true → someA lA ∧ (0 : Int) ≤ n3 ∧ n3 < (↑lN : Int) ∧ ∃ (n182 : Int), Cells H175 lA
  (Int.toNat n3 * 3 + 0) [.int .i64 n182] ∧ (decide (n182 = p1At) = true → post lA lN lC (18 : Int) H175) ∧ (decide (n182 = p1At) = false → ∃ (post185 : Option Addr → Nat → Nat → Heap →
  Prop), ConT P 34 [.slice lA lN lC, .agg ⟨[.int .i64 p1At, .int .i64 p1ID, .bool p1End]⟩] H175 ⟨false, [(false, [.sl])]⟩ post185 ∧ ∀ (H186 : Heap), Heap.le H175 H186 → ∀ (A188 : Option Addr)
  (n189 c190 : Nat), post185 A188 n189 c190 H186 → post A188 n189 c190 (0 : Int) H186)) ∧ (p1End = false → ∃ (post193 : Option Addr → Nat → Nat → Heap → Prop), ConT P 34 [.slice lA lN lC,
  .agg ⟨[.int .i64 p1At, .int .i64 p1ID, .bool p1End]⟩] H175 ⟨false, [(false, [.sl])]⟩ post193 ∧ ∀ (H194 : Heap), Heap.le H175 H194 → ∀ (A196 : Option Addr) (n197 c198 : Nat), post193 A196
  n197 c198 H194 → post A196 n197 c198 (0 : Int) H194)))) ∧ (p1End = false → (p1End = true → someA lA ∧ (0 : Int) ≤ n3 ∧ n3 < (↑lN : Int) ∧ ∃ (n202 : Int), Cells H1 lA (Int.toNat n3 * 3 + 0)
  [.int .i64 n202] ∧ (decide (n202 = p1At) = true → post lA lN lC (18 : Int) H1) ∧ (decide (n202 = p1At) = false → ∃ (post205 : Option Addr → Nat → Nat → Heap → Prop), ConT P 34 [.slice lA lN
  lC, .agg ⟨[.int .i64 p1At, .int .i64 p1ID, .bool p1End]⟩] H1 ⟨false, [(false, [.sl])]⟩ post205 ∧ ∀ (H206 : Heap), Heap.le H1 H206 → ∀ (A208 : Option Addr) (n209 c210 : Nat), post205 A208
  n209 c210 H206 → post A208 n209 c210 (0 : Int) H206)) ∧ (p1End = false → ∃ (post213 : Option Addr → Nat → Nat → Heap → Prop), ConT P 34 [.slice lA lN lC, .agg ⟨[.int .i64 p1At, .int .i64
  p1ID, .bool p1End]⟩] H1 ⟨false, [(false, [.sl])]⟩ post213 ∧ ∀ (H214 : Heap), Heap.le H1 H214 → ∀ (A216 : Option Addr) (n217 c218 : Nat), post213 A216 n217 c218 H214 → post A216 n217 c218 (0
  : Int) H214)))))))) := by kernel_rfl
set_option maxHeartbeats 4000000 in
theorem ref21_Append {H : Heap} {A : Option Addr} {n c : Nat} {evs : List Ev} {e : Ev} (hs : Sl H A n c evs) (hn : n ≤ 1000) (hw : WfE evs) (r1 : rng .i64 e.tm) (r2 : rng .i64 e.id) :
    ConT Try.prog 14 [.slice A n c, .agg #[.int .i64 e.tm, .int .i64 e.id, .bool e.fin]] H ⟨true, [(false, [.sl]), (false, [.int .i64])]⟩ (fun A' n' c' r H' => RefApp evs e A' n' c' r H') := by
  refine con_of_vc (an := an14) (fn := Try.f14) mix tabOK Try.func14 (by kernel_rfl) (extra := 0) ?_
  rw [vc14]
  have hl := hs.len
  have bad : ∀ {H' : Heap} {r : Int}, Heap.le H H' → r = refuse evs e → r ≠ 0 → RefApp evs e A n c r H' := fun hle h h0 => ⟨h, fun _ => hs.mono hle, fun hh => absurd (h.trans hh) h0⟩
  have good : refuse evs e = 0 → ∀ {H' : Heap}, Heap.le H H' → ∃ post : Option Addr → Nat → Nat → Heap → Prop, ConT Try.prog 34 [.slice A n c, .agg #[.int .i64 e.tm, .int .i64 e.id, .bool e.fin]] H' ⟨false, [(false, [.sl])]⟩ post ∧
      ∀ H33, Heap.le H' H33 → ∀ A35 n36 c37, post A35 n36 c37 H33 → RefApp evs e A35 n36 c37 0 H33 := fun h0 {H'} hle =>
    ⟨_, ref21_insertEvent (e := e) (hs.mono hle) (by omega) r1 r2, fun H33 l33 A35 n36 c37 h => ⟨h0.symm, fun hh => absurd h0 hh, fun _ => h⟩⟩
  refine ⟨_, ref21_find (id := e.id) (f := false) hs, ?_⟩
  rintro H1 l1 _ rfl
  have start : 0 ≤ fndI evs e.id false → ∃ hi : (fndI evs e.id false).toNat < evs.length, ∃ en, lifeOf evs e.id = some (evs[(fndI evs e.id false).toNat].tm, en) := by
    intro h
    obtain ⟨hi, f1, f2⟩ := fndI_get h
    refine ⟨hi, ?_⟩
    have h2 := fnd_start.1 h
    cases hlf : lifeOf evs e.id with
    | none => rw [hlf] at h2; cases h2
    | some y =>
      obtain ⟨fr, en⟩ := y
      obtain ⟨⟨s, s1, s2, s3, s4⟩, -⟩ := lifeOf_some hlf
      obtain ⟨i, hi', rfl⟩ := List.getElem_of_mem s1
      have := hw.same hi' hi (s3.trans f1.symm) (s2.trans f2.symm)
      subst this
      exact ⟨en, by rw [s4]⟩
  have nostart : fndI evs e.id false < 0 → lifeOf evs e.id = none := by
    intro h
    cases hlf : lifeOf evs e.id with
    | none => rfl
    | some y => have := fnd_start.2 (by rw [hlf]; rfl); omega
  have rest : ∀ {H' : Heap}, Heap.le H H' → True := fun _ => trivial
  refine ⟨fun h1 => bad l1 ?_ (by decide), fun h1 => ⟨fun h2 => bad l1 ?_ (by decide), fun h2 => ⟨fun h3 => bad l1 ?_ (by decide), fun h3 => ⟨fun h4 => ?_, fun h4 => ?_⟩⟩⟩⟩
  · unfold refuse; rw [if_pos (of_decide_eq_true h1)]
  · unfold refuse; rw [if_neg (of_decide_eq_false h1), h2]; simp
  · unfold refuse; rw [if_neg (of_decide_eq_false h1), h3]; simp
  · have h4 := of_decide_eq_true h4
    have hlast : evs.getLast? = some evs[evs.length - 1] := by
      rw [List.getLast?_eq_getElem?, List.getElem?_eq_getElem (by omega)]
    obtain ⟨_, hA, _, hc, ⟨rfl, -, -⟩⟩ := hs.at l1 (i := (n : Int) - 1) (by omega) (by omega)
    have hca := Cells.part (xs := []) (ys := [.int .i64 evs[((n : Int) - 1).toNat].tm]) (zs := [.int .i64 evs[((n : Int) - 1).toNat].id, .bool evs[((n : Int) - 1).toNat].fin]) hc
    have hix : ((n : Int) - 1).toNat = evs.length - 1 := by omega
    have htm : evs[((n : Int) - 1).toNat].tm = evs[evs.length - 1].tm := by congr 2
    refine ⟨by simp only [rng]; omega, hA, by omega, by omega, _, hca, fun h5 => bad l1 ?_ (by decide), fun h5 => ?_⟩
    · have h5 := of_decide_eq_true h5
      rw [htm] at h5
      unfold refuse; rw [if_neg (of_decide_eq_false h1), hlast]; simp [h5]
    have h5 := of_decide_eq_false h5
    rw [htm] at h5
    have hr : refuse evs e = refuseM (lifeOf evs e.id) e := by
      unfold refuse; rw [if_neg (of_decide_eq_false h1), hlast, h2, h3, if_neg (by simp [h5])]
    refine ⟨fun hp => ?_, fun hp => ?_⟩
    · have hf : e.fin = false := by simpa using hp
      have no : ∀ {P : Prop}, e.fin = true → P := fun h => by rw [hf] at h; cases h
      refine ⟨fun h5 => bad l1 ?_ (by decide), fun h5 => ⟨fun h => no h, fun _ => ⟨fun h => no h, fun _ => good ?_ l1⟩⟩⟩
      · rw [hr]; unfold refuseM; rw [hf, if_neg (by simp), if_pos (fnd_start.1 (of_decide_eq_true h5))]
      · rw [hr, nostart (by have := of_decide_eq_false h5; omega)]; unfold refuseM; rw [hf]; simp
    · have hf : e.fin = true := by simpa using hp
      have no : ∀ {P : Prop}, e.fin = false → P := fun h => by rw [hf] at h; cases h
      refine ⟨fun _ => ⟨fun h5 => bad l1 ?_ (by decide), fun h5 => ⟨_, ref21_find (id := e.id) (f := true) (hs.mono l1), ?_⟩⟩, fun h => no h⟩
      · rw [hr, nostart (of_decide_eq_true h5)]; unfold refuseM; rw [hf]; simp
      rintro H22 l22 _ rfl
      have h5 := of_decide_eq_false h5
      obtain ⟨hi, en, hlf⟩ := start (by omega)
      have hen := (lifeOf_some hlf).2
      refine ⟨fun h6 => bad (hle_trans l1 l22) ?_ (by decide), fun h6 => ⟨fun _ => ?_, fun h => no h⟩⟩
      · rw [fnd_end.1 (of_decide_eq_true h6)] at hen
        rw [hr, hlf, hen]; unfold refuseM; rw [hf]; simp
      have hen' : en = false := by
        cases en with
        | false => rfl
        | true => exact absurd (fnd_end.2 hen.symm) (of_decide_eq_false h6)
      subst hen'
      obtain ⟨_, hA, _, hc, ⟨rfl, -, -⟩⟩ := hs.at (hle_trans l1 l22) (i := fndI evs e.id false) (by omega) (by omega)
      have hca := Cells.part (xs := []) (ys := [.int .i64 evs[(fndI evs e.id false).toNat].tm]) (zs := [.int .i64 evs[(fndI evs e.id false).toNat].id, .bool evs[(fndI evs e.id false).toNat].fin]) hc
      refine ⟨hA, by omega, by omega, _, hca, fun h7 => bad (hle_trans l1 l22) ?_ (by decide), fun h7 => good ?_ (hle_trans l1 l22)⟩
      · rw [hr, hlf]; unfold refuseM; rw [hf]; simp [of_decide_eq_true h7]
      · rw [hr, hlf]; unfold refuseM; rw [hf]; simp [of_decide_eq_false h7]
  · have h4 := of_decide_eq_false h4
    have hnil : evs = [] := List.eq_nil_of_length_eq_zero (by omega)
    have hr : refuse evs e = refuseM (lifeOf evs e.id) e := by
      unfold refuse; rw [if_neg (of_decide_eq_false h1), h2, h3, hnil]; simp
    refine ⟨fun hp => ?_, fun hp => ?_⟩
    · have hf : e.fin = false := by simpa using hp
      have no : ∀ {P : Prop}, e.fin = true → P := fun h => by rw [hf] at h; cases h
      refine ⟨fun h5 => bad l1 ?_ (by decide), fun h5 => ⟨fun h => no h, fun _ => ⟨fun h => no h, fun _ => good ?_ l1⟩⟩⟩
      · rw [hr]; unfold refuseM; rw [hf, if_neg (by simp), if_pos (fnd_start.1 (of_decide_eq_true h5))]
      · rw [hr, nostart (by have := of_decide_eq_false h5; omega)]; unfold refuseM; rw [hf]; simp
    · have hf : e.fin = true := by simpa using hp
      have no : ∀ {P : Prop}, e.fin = false → P := fun h => by rw [hf] at h; cases h
      refine ⟨fun _ => ⟨fun h5 => bad l1 ?_ (by decide), fun h5 => ⟨_, ref21_find (id := e.id) (f := true) (hs.mono l1), ?_⟩⟩, fun h => no h⟩
      · rw [hr, nostart (of_decide_eq_true h5)]; unfold refuseM; rw [hf]; simp
      rintro H22 l22 _ rfl
      have h5 := of_decide_eq_false h5
      obtain ⟨hi, en, hlf⟩ := start (by omega)
      have hen := (lifeOf_some hlf).2
      refine ⟨fun h6 => bad (hle_trans l1 l22) ?_ (by decide), fun h6 => ⟨fun _ => ?_, fun h => no h⟩⟩
      · rw [fnd_end.1 (of_decide_eq_true h6)] at hen
        rw [hr, hlf, hen]; unfold refuseM; rw [hf]; simp
      have hen' : en = false := by
        cases en with
        | false => rfl
        | true => exact absurd (fnd_end.2 hen.symm) (of_decide_eq_false h6)
      subst hen'
      obtain ⟨_, hA, _, hc, ⟨rfl, -, -⟩⟩ := hs.at (hle_trans l1 l22) (i := fndI evs e.id false) (by omega) (by omega)
      have hca := Cells.part (xs := []) (ys := [.int .i64 evs[(fndI evs e.id false).toNat].tm]) (zs := [.int .i64 evs[(fndI evs e.id false).toNat].id, .bool evs[(fndI evs e.id false).toNat].fin]) hc
      refine ⟨hA, by omega, by omega, _, hca, fun h7 => bad (hle_trans l1 l22) ?_ (by decide), fun h7 => good ?_ (hle_trans l1 l22)⟩
      · rw [hr, hlf]; unfold refuseM; rw [hf]; simp [of_decide_eq_true h7]
      · rw [hr, hlf]; unfold refuseM; rw [hf]; simp [of_decide_eq_false h7]
end Go.Vc
/- Timelines: TimelineAppends. -/
namespace Go.Vc
open Go Go.Proofs Go.Shelf
def an4 : Ann where
  res := fun _ => none
  lend := fun | 17 => true | 42 => true | 46 => true | 52 => true | _ => false
  sch := fun _ => .done
  opn := true
  bx := fun | some 42, 15 => some [.int .i64, .row 56 33, .mp, .row 57 44, .int .i64] | some 52, 12 => some [.int .i64, .row 58 33, .mp, .row 59 44, .int .i64] | _, _ => none
  nb := fun | 19 => some (68, [.int .i64, .row 54 33, .mp, .row 55 44, .int .i64]) | _ => none
  lt := fun | 8 => [.slot 10 false [.sl], .slot 11 false [.int .i64], .box 19 68 [.int .i64, .row 60 33, .mp, .row 61 44, .int .i64]] | _ => []
  tup := tups

theorem vc4 (P : Program) (H : Heap) (lA : Option Addr) (lN lC : Nat) (interval : Int) (from0 : Int) (to0 : Int) (post : Bool → Heap → Prop) :
  vcFn P tab an4 Try.f4 [.slice lA lN lC, .int .i64 interval, .int .i64 from0, .int .i64 to0] 8 H ⟨false, [(false, [.bool])]⟩ post =
  (  (decide ((60 : Int) < (↑lN : Int)) = true → ∃ (post1 : Bool → Heap → Prop), ConT P 10 [] H ⟨false, [(false, [.bool])]⟩ post1 ∧ ∀ (H2 : Heap), Heap.le H H2 → ∀ (b4 : Bool), post1 b4 H2 →
  post b4 H2) ∧ (decide ((60 : Int) < (↑lN : Int)) = false → ∃ (post7 : Int → Nat → List Value → Option Nat → Nat → List Value → Int → Heap → (Nat → Option XO) → Prop), ConN P 11 [.slice none
  0 0, .int .i64 interval] 68 H noO [.int .i64, .row 54 33, .mp, .row 55 44, .int .i64] post7 ∧ ∀ (H8 : Heap), Heap.le H H8 → ∀ (O10 : Nat → Option XO) (n11 : Int) (n12 : Nat) (xs13 : List
  Value) (A14 : Option Nat) (n15 : Nat) (xs16 : List Value) (n17 : Int), post7 n11 n12 xs13 A14 n15 xs16 n17 H8 O10 → (false = true → post false H8) ∧ (false = false → ∃ (inv21 : Option Addr → Nat →
  Nat → Int → Int → Nat → List Value → Option Nat → Nat → List Value → Int → Heap → OMap → Prop), ∃ (m22 : Option Addr → Nat → Nat → Int → Int → Nat → List Value → Option Nat → Nat → List
  Value → Int → Nat), inv21 none 0 0 (0 : Int) n11 n12 xs13 A14 n15 xs16 n17 H8 O10 ∧ ∀ (H23 : Heap), Heap.le H8 H23 → ∀ (O25 : Nat → Option XO) (A26 : Option Addr) (n27 c28 : Nat) (n29 n30 :
  Int) (n31 : Nat) (xs32 : List Value) (A33 : Option Nat) (n34 : Nat) (xs35 : List Value) (n36 : Int), inv21 A26 n27 c28 n29 n30 n31 xs32 A33 n34 xs35 n36 H23 O25 → (decide (n29 < (↑lN :
  Int)) = true → someA lA ∧ (0 : Int) ≤ n29 ∧ n29 < (↑lN : Int) ∧ ∃ (n39 : Int), ∃ (n40 : Int), ∃ (b41 : Bool), Cells H23 lA (Int.toNat n29 * 3) [.int .i64 n39, .int .i64 n40, .bool b41] ∧ ∃
  (post42 : Option Addr → Nat → Nat → Int → Heap → Prop), ConT P 14 [.slice A26 n27 c28, .agg ⟨[.int .i64 n39, .int .i64 n40, .bool b41]⟩] H23 ⟨true, [(false, [.sl]), (false, [.int .i64])]⟩
  post42 ∧ ∀ (H43 : Heap), Heap.le H23 H43 → ∀ (A45 : Option Addr) (n46 c47 : Nat) (n48 : Int), post42 A45 n46 c47 n48 H43 → someA lA ∧ (0 : Int) ≤ n29 ∧ n29 < (↑lN : Int) ∧ ∃ (n50 : Int), ∃
  (n51 : Int), ∃ (b52 : Bool), Cells H43 lA (Int.toNat n29 * 3) [.int .i64 n50, .int .i64 n51, .bool b52] ∧ ∃ (post53 : Int → Nat → List Value → Option Nat → Nat → List Value → Int → Int →
  Heap → (Nat → Option XO) → Prop), ConB P 15 [BA.me, BA.v (.agg ⟨[.int .i64 n50, .int .i64 n51, .bool b52]⟩)] 68 [BC.v (.int .i64 n30), BC.row 33 n31 xs32, BC.v (Value.map A33), BC.row 44
  n34 xs35, BC.v (.int .i64 n36)] H43 O25 [.int .i64, .row 56 33, .mp, .row 57 44, .int .i64] ⟨false, [(false, [.int .i64])]⟩ post53 ∧ ∀ (H54 : Heap), Heap.le H43 H54 → ∀ (O56 : Nat → Option
  XO) (n57 : Int) (n58 : Nat) (xs59 : List Value) (A60 : Option Nat) (n61 : Nat) (xs62 : List Value) (n63 n64 : Int), post53 n57 n58 xs59 A60 n61 xs62 n63 n64 H54 O56 → ((!decide (n64 = n48))
  = true → post false H54) ∧ ((!decide (n64 = n48)) = false → rng .i64 (n29 + (1 : Int)) ∧ inv21 A45 n46 c47 (n29 + (1 : Int)) n57 n58 xs59 A60 n61 xs62 n63 H54 O56 ∧ m22 A45 n46 c47 (n29 +
  (1 : Int)) n57 n58 xs59 A60 n61 xs62 n63 < m22 A26 n27 c28 n29 n30 n31 xs32 A33 n34 xs35 n36)) ∧ (decide (n29 < (↑lN : Int)) = false → ∃ (post69 : Bool → Heap → Prop), ConT P 10 [] H23
  ⟨false, [(false, [.bool])]⟩ post69 ∧ ∀ (H70 : Heap), Heap.le H23 H70 → ∀ (b72 : Bool), post69 b72 H70 → (b72 = true → ∃ (post75 : Int → Nat → List Value → Option Nat → Nat → List Value →
  Int → Bool → Heap → (Nat → Option XO) → Prop), ConB P 12 [BA.me, BA.v (.slice A26 n27 c28), BA.v (.int .i64 from0), BA.v (.int .i64 to0)] 68 [BC.v (.int .i64 n30), BC.row 33 n31 xs32, BC.v
  (Value.map A33), BC.row 44 n34 xs35, BC.v (.int .i64 n36)] H70 O25 [.int .i64, .row 58 33, .mp, .row 59 44, .int .i64] ⟨false, [(false, [.bool])]⟩ post75 ∧ ∀ (H76 : Heap), Heap.le H70 H76 →
  ∀ (O78 : Nat → Option XO) (n79 : Int) (n80 : Nat) (xs81 : List Value) (A82 : Option Nat) (n83 : Nat) (xs84 : List Value) (n85 : Int) (b86 : Bool), post75 n79 n80 xs81 A82 n83 xs84 n85 b86
  H76 O78 → post b86 H76) ∧ (b72 = false → post false H70))))) := by kernel_rfl
set_option maxHeartbeats 2000000 in
theorem law26_TimelineAppends {H : Heap} {A : Option Addr} {n c : Nat} {l : List Ev} {iv t t2 : Int} (hs : Sl H A n c l) (hi : rng .i64 iv) :
    ConT Try.prog 4 [.slice A n c, .int .i64 iv, .int .i64 t, .int .i64 t2] H shB (fun r _ => r = true) := by
  refine con_of_vc (an := an4) (fn := Try.f4) mix tabOK Try.func4 (by kernel_rfl) (extra := 8) ?_
  rw [vc4]
  refine ⟨fun _ => ⟨_, law26_awake, fun H2 l2 b h => h⟩, fun hfew => ?_⟩
  have hfew := of_decide_eq_false hfew
  have hl := hs.len
  refine ⟨_, tl_New (vs := []) (A := none) (n := 0) (c := 0) Sl.nil hi (by decide), ?_⟩
  rintro H8 l8 O10 n11 n12 xs13 A14 n15 xs16 n17 ⟨h0, h4, evs, hix, hp, hsd, es, hm, hlv⟩
  obtain rfl : evs = [] := List.perm_nil.1 hp
  refine ⟨fun h => (by cases h), fun _ => ?_⟩
  refine ⟨fun A' k c' i n0 n1 xs1 A2 n3 xs3 n4 H' O' => 0 ≤ i ∧ i ≤ n ∧ ∃ evs : List Ev, Sl H' A' k c' evs ∧ IxOK H' n0 n1 xs1 n3 xs3 n4 evs ∧ WfE evs ∧ (evs.Pairwise fun a b => ¬ evLt b a) ∧ evs.length ≤ i.toNat ∧ ∃ es, hasM O' A2 65 es ∧ LvOK es evs, fun _ _ _ i _ _ _ _ _ _ _ => n - i.toNat,
    ⟨by omega, by omega, [], Sl.nil, hix, wf_nil, hsd, by simp, es, hm, hlv⟩, ?_⟩
  rintro H23 l23 O25 A26 n27 c28 i n30 n31 xs32 A33 n34 xs35 n36 ⟨i0, i1, evs, hsl, hix, hw, hsd, hlen, es, hm, hlv⟩
  have hel := hix.el
  have hkl := hsl.len
  refine ⟨fun hlt => ?_, fun hge => ?_⟩
  · have hlt := of_decide_eq_true hlt
    obtain ⟨hi', hA, _, hc, ⟨rfl, r1, r2⟩⟩ := hs.at (hle_trans l8 l23) i0 hlt
    generalize l[i.toNat] = e at *
    refine ⟨hA, i0, hlt, _, _, _, hc, _, ref21_Append (e := e) hsl (by omega) hw r1 r2, ?_⟩
    rintro H43 l43 A45 n46 c47 n48 ⟨rfl, hno, hyes⟩
    have hix' := hix.mono l43
    have e1 : (i + 1).toNat = i.toNat + 1 := by omega
    by_cases hr : refuse evs e = 0
    · obtain ⟨k, hpa, hsl2⟩ := hyes hr
      refine ⟨hA, i0, hlt, _, _, _, hc.mono l43, _, tl_Append (e := e) hix' hw hsd hm hlv (by omega) r1 r2 hr, ?_⟩
      rintro H54 l54 O56 n57 n58 xs59 A60 n61 xs62 n63 n64 ⟨rfl, rfl, rfl, k', hpa', hix2, es', hm', hlv'⟩
      refine ⟨fun h => (by rw [hr] at h; simp at h), fun _ => ?_⟩
      have e2 := put_eq hsd hpa hpa'
      rw [← e2] at hix2 hlv'
      refine ⟨by simp only [rng]; omega, ⟨by omega, by omega, _, hsl2.mono l54, hix2, wf_append hw hsd hr hpa, hpa.sorted hsd, ?_, es', hm', hlv'⟩, by dsimp only; omega⟩
      rw [hpa.perm.length_eq, List.length_append, List.length_singleton]
      omega
    · refine ⟨hA, i0, hlt, _, _, _, hc.mono l43, _, tl_Append_ref (e := e) (q0 := n30) (q3N := n34) (q3Xs := xs35) (q4 := n36) hix'.er hix'.el hix'.eb hm hlv hr, ?_⟩
      rintro H54 l54 O56 n57 n58 xs59 A60 n61 xs62 n63 n64 ⟨⟨rfl, rfl, rfl, rfl, rfl, rfl, rfl⟩, rfl, rfl⟩
      refine ⟨fun h => (by simp at h), fun _ => ⟨by simp only [rng]; omega, ⟨by omega, by omega, evs, (hno hr).mono l54, hix'.mono l54, hw, hsd, by omega, es, hm, hlv⟩, by dsimp only; omega⟩⟩
  · refine ⟨_, law26_awake, ?_⟩
    rintro H70 l70 _ rfl
    refine ⟨fun _ => ⟨_, law26_agrees (hix.mono l70) hw (hsl.mono l70), ?_⟩, fun h => (by cases h)⟩
    rintro H76 l76 O78 n79 n80 xs81 A82 n83 xs84 n85 b86 ⟨-, -, rfl⟩
    rfl
end Go.Vc

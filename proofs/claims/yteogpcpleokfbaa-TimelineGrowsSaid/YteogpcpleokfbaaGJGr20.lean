/- Timelines: Append. -/
import Derived.Test.YteogpcpleokfbaaGJGr19
set_option linter.unusedSectionVars false
set_option linter.unusedSimpArgs false
set_option linter.unusedVariables false
namespace Go.Vc
open Go Go.Proofs Go.Shelf
section
variable {H : Heap} {O : OMap} {q0 q4 : Int} {q1N q3N bi1 bi3 : Nat} {q1Xs q3Xs : List Value} {q2 : Option Nat} {evs : List Ev}
set_option maxHeartbeats 2000000 in
theorem tl_Append {e : Ev} {es : List (Value × Value)} (hix : IxOK H q0 q1N q1Xs q3N q3Xs q4 evs) (hw : WfE evs) (hsd : evs.Pairwise fun a b => ¬ evLt b a) (hm : hasM O q2 65 es) (hlv : LvOK es evs) (hb : q1N ≤ 900) (r1 : rng .i64 e.tm) (r2 : rng .i64 e.id) (hr : refuse evs e = 0) :
    ConB Try.prog 15 [.me, .v (.agg #[.int .i64 e.tm, .int .i64 e.id, .bool e.fin])] 68 (ixC q0 q1N q1Xs q2 q3N q3Xs q4) H O (ixL bi1 bi3) shI
      (fun n0 n1 xs1 A2 n3 xs3 n4 r H' O' => n0 = q0 ∧ n4 = q4 ∧ r = 0 ∧ ∃ k, PutAt evs e k ∧ IxOK H' n0 n1 xs1 n3 xs3 n4 (evs.take k ++ e :: evs.drop k) ∧ ∃ es', hasM O' A2 65 es' ∧ LvOK es' (evs.take k ++ e :: evs.drop k)) := by
  refine conB_of_vc (k := 0) (an := an15) (fn := Try.f15) mix tabOK Try.func15 (by kernel_rfl) (extra := 5) trivial ?_
  rw [vc15]
  intro a0
  obtain ⟨⟨iv1, iv2⟩, er, el, eb, ⟨cps, cr, cl, ck⟩, srt, ex⟩ := hix
  have hz := (refuse_zero hr).2.2.2.2
  have hfr := refuse_fresh hz
  refine ⟨_, tl_refusal (q0 := q0) (q4 := q4) (q3N := q3N) (q3Xs := q3Xs) er el eb hm hlv, ?_⟩
  rintro H2 l2 O4 n5 n6 xs7 A8 n9 xs10 n11 n12 ⟨⟨rfl, rfl, rfl, rfl, rfl, rfl, rfl⟩, rfl, rfl⟩
  obtain ⟨v, rfl⟩ : ∃ v : Nat, n5 = v := ⟨n5.toNat, by omega⟩
  rw [show ((v : Int)).toNat = v by omega] at *
  have hcl : cps.length ≤ 1001 := by
    rw [ck.len]
    have := Nat.div_le_self evs.length v
    omega
  refine ⟨fun h => by simp [hr] at h, fun _ => ⟨fun hf => ?_, fun hf => ?_⟩⟩
  · obtain ⟨fr, hl, -⟩ := refuse_end hz hf
    refine ⟨es, .inr hm, fr, false, ?_, es, hm, ?_⟩
    · unfold lkIs
      rw [hlv.look, hl]
      rfl
    rintro O21 ⟨bb, rfl, o1, o2⟩
    have hO : hasM O21 (some bb) 65 (mput es (.int .i64 e.id) (.agg #[.int .i64 fr, .bool true])) := ⟨bb, rfl, o1⟩
    have hLV := lv_end hlv hl hf
    refine ⟨_, fun A24 c25 H26 l26 hc hn => BinarySearchFunc_Ev (er.sl (hle_trans l2 l26) hc el hn (by show _ * 24 ≤ _; omega) (by omega)) (by omega) hsd, ?_⟩
    rintro H30 n31 b32 ⟨j0, j1, b1, b2⟩ A34 c35 H36 l36 hc hn
    obtain ⟨k, rfl⟩ : ∃ k : Nat, n31 = k := ⟨n31.toNat, by omega⟩
    have hpa : PutAt evs e k := ⟨by omega, fun j h hj => by
      rcases evLt_tri e evs[j] with h1 | h1 | h1
      · exact h1
      · exact absurd (by rw [h1]) (hfr evs[j] (List.getElem_mem h) (by rw [h1]))
      · exact absurd h1 (b2 j h (by omega)), fun j h hj hh => evLt_irrefl _ (evLt_trans hh (b1 j h (by omega)))⟩
    refine ⟨_, Insert_Ev (by omega) (by omega) rfl hc hn, ?_⟩
    rintro H41 l41 ys43 n44 xs45 ⟨rfl, rfl⟩
    have l41' := hle_trans l2 (hle_trans l36 l41)
    have hone : Row H41 [.int .i64 e.tm, .int .i64 e.id, .bool e.fin] [e] := Row.one ⟨rfl, r1, r2⟩
    have hrow := ((rowTake k (er.mono l41')).append hone).append (rowDrop k (er.mono l41'))
    rw [show Rep.sz Ev = 3 from rfl, show evs.take k ++ [e] ++ evs.drop k = evs.take k ++ e :: evs.drop k by simp] at hrow
    have hlen : (evs.take k ++ e :: evs.drop k).length = evs.length + 1 := by rw [hpa.perm.length_eq]; simp
    have cok : ∀ j (h : j < cps.length), j ≤ k / v → cps[j].l = stF ((evs.take k ++ e :: evs.drop k).take (j * v)) := by
      intro j h hj
      rw [ck.at_ j h]
      have h1 : j * v ≤ k := Nat.le_trans (Nat.mul_le_mul_right v hj) (Nat.div_mul_le_self k v)
      rw [List.take_append_of_le_length (by rw [List.length_take]; omega), List.take_take, Nat.min_eq_left h1]
    refine ⟨_, tl_build (v := v) (f := k) (by omega) iv2 hrow (by omega) (by omega) (cr.mono l41') cl cok (by omega) (by omega), ?_⟩
    rintro H48 l48 O50 n51 n52 xs53 A54 n55 xs56 n57 ⟨rfl, rfl, rfl, rfl, rfl, rfl, cps', c1, c2, c3⟩
    refine ⟨rfl, rfl, rfl, rfl, k, hpa, ⟨⟨iv1, iv2⟩, hrow.mono l48, by omega, by omega, ⟨cps', c1, c2, by simpa using c3⟩, (hpa.sorted hsd).imp fun h => notLt_tm h, ex⟩, _, hO, hLV.perm hpa.perm⟩
  · refine ⟨es, hm, ?_⟩
    rintro O21 ⟨bb, rfl, o1, o2⟩
    have hO : hasM O21 (some bb) 65 (mput es (.int .i64 e.id) (.agg #[.int .i64 e.tm, .bool false])) := ⟨bb, rfl, o1⟩
    have hLV := lv_start hw hlv hz hf
    refine ⟨_, fun A24 c25 H26 l26 hc hn => BinarySearchFunc_Ev (er.sl (hle_trans l2 l26) hc el hn (by show _ * 24 ≤ _; omega) (by omega)) (by omega) hsd, ?_⟩
    rintro H30 n31 b32 ⟨j0, j1, b1, b2⟩ A34 c35 H36 l36 hc hn
    obtain ⟨k, rfl⟩ : ∃ k : Nat, n31 = k := ⟨n31.toNat, by omega⟩
    have hpa : PutAt evs e k := ⟨by omega, fun j h hj => by
      rcases evLt_tri e evs[j] with h1 | h1 | h1
      · exact h1
      · exact absurd (by rw [h1]) (hfr evs[j] (List.getElem_mem h) (by rw [h1]))
      · exact absurd h1 (b2 j h (by omega)), fun j h hj hh => evLt_irrefl _ (evLt_trans hh (b1 j h (by omega)))⟩
    refine ⟨_, Insert_Ev (by omega) (by omega) rfl hc hn, ?_⟩
    rintro H41 l41 ys43 n44 xs45 ⟨rfl, rfl⟩
    have l41' := hle_trans l2 (hle_trans l36 l41)
    have hone : Row H41 [.int .i64 e.tm, .int .i64 e.id, .bool e.fin] [e] := Row.one ⟨rfl, r1, r2⟩
    have hrow := ((rowTake k (er.mono l41')).append hone).append (rowDrop k (er.mono l41'))
    rw [show Rep.sz Ev = 3 from rfl, show evs.take k ++ [e] ++ evs.drop k = evs.take k ++ e :: evs.drop k by simp] at hrow
    have hlen : (evs.take k ++ e :: evs.drop k).length = evs.length + 1 := by rw [hpa.perm.length_eq]; simp
    have cok : ∀ j (h : j < cps.length), j ≤ k / v → cps[j].l = stF ((evs.take k ++ e :: evs.drop k).take (j * v)) := by
      intro j h hj
      rw [ck.at_ j h]
      have h1 : j * v ≤ k := Nat.le_trans (Nat.mul_le_mul_right v hj) (Nat.div_mul_le_self k v)
      rw [List.take_append_of_le_length (by rw [List.length_take]; omega), List.take_take, Nat.min_eq_left h1]
    refine ⟨_, tl_build (v := v) (f := k) (by omega) iv2 hrow (by omega) (by omega) (cr.mono l41') cl cok (by omega) (by omega), ?_⟩
    rintro H48 l48 O50 n51 n52 xs53 A54 n55 xs56 n57 ⟨rfl, rfl, rfl, rfl, rfl, rfl, cps', c1, c2, c3⟩
    refine ⟨rfl, rfl, rfl, rfl, k, hpa, ⟨⟨iv1, iv2⟩, hrow.mono l48, by omega, by omega, ⟨cps', c1, c2, by simpa using c3⟩, (hpa.sorted hsd).imp fun h => notLt_tm h, ex⟩, _, hO, hLV.perm hpa.perm⟩
end
end Go.Vc
/- Timelines: events stay proper when one is appended. -/
namespace Go.Vc
open Go Go.Proofs Go.Shelf
theorem wf_append {evs : List Ev} {e : Ev} {k : Nat} (hw : WfE evs) (hsd : evs.Pairwise fun a b => ¬ evLt b a) (hr : refuse evs e = 0) (hpa : PutAt evs e k) : WfE (evs.take k ++ e :: evs.drop k) := by
  obtain ⟨-, -, -, hlast, hz⟩ := refuse_zero hr
  have hfr := refuse_fresh hz
  refine ⟨(hpa.sorted hsd).imp fun h => notLt_tm h, uniq_perm ?_ hpa.perm, fun f hf hff => ?_⟩
  · refine List.pairwise_append.2 ⟨hw.uniq, List.pairwise_singleton _ _, fun a ha b hb => ?_⟩
    rw [List.mem_singleton.1 hb]
    exact hfr a ha
  · have hf := hpa.perm.mem_iff.1 hf
    rcases List.mem_append.1 hf with hf | hf
    · obtain ⟨s, s1, s2⟩ := hw.par f hf hff
      exact ⟨s, hpa.perm.mem_iff.2 (List.mem_append.2 (.inl s1)), s2⟩
    · obtain rfl := List.mem_singleton.1 hf
      obtain ⟨fr, hl, hne⟩ := refuse_end hz hff
      obtain ⟨⟨s, s1, s2, s3, s4⟩, -⟩ := lifeOf_some hl
      refine ⟨s, hpa.perm.mem_iff.2 (List.mem_append.2 (.inl s1)), s2, s3, ?_⟩
      obtain ⟨i, hi, rfl⟩ := List.getElem_of_mem s1
      have h1 := hw.le hi (show evs.length - 1 < evs.length by omega) (by omega)
      have h2 := hlast evs[evs.length - 1] (by rw [List.getLast?_eq_getElem?, List.getElem?_eq_getElem (by omega)])
      omega
theorem put_eq {evs : List Ev} {e : Ev} {k j : Nat} (hsd : evs.Pairwise fun a b => ¬ evLt b a) (h1 : PutAt evs e k) (h2 : PutAt evs e j) : evs.take k ++ e :: evs.drop k = evs.take j ++ e :: evs.drop j :=
  ev_sorted_eq (h1.perm.trans h2.perm.symm) (h1.sorted hsd) (h2.sorted hsd)
theorem wf_nil : WfE [] := ⟨List.Pairwise.nil, List.Pairwise.nil, fun f hf => by cases hf⟩
theorem fnd_start {evs : List Ev} {id : Int} : (0 ≤ fndI evs id false) ↔ (lifeOf evs id).isSome = true := by
  refine Decidable.not_iff_not.1 ?_
  rw [show (¬ 0 ≤ fndI evs id false) ↔ fndI evs id false < 0 by omega, fndI_neg]
  rw [Bool.not_eq_true, Option.isSome_eq_false_iff, Option.isNone_iff_eq_none, lifeOf_none]
  exact ⟨fun h s hs hh => h s hs ⟨hh.2, hh.1⟩, fun h s hs hh => h s hs ⟨hh.2, hh.1⟩⟩
theorem fnd_end {evs : List Ev} {id : Int} : (0 ≤ fndI evs id true) ↔ (evs.any fun f => f.fin && decide (f.id = id)) = true := by
  refine Decidable.not_iff_not.1 ?_
  rw [show (¬ 0 ≤ fndI evs id true) ↔ fndI evs id true < 0 by omega, fndI_neg, List.any_eq_true]
  constructor
  · rintro h ⟨f, h1, h2⟩
    simp only [Bool.and_eq_true, decide_eq_true_eq] at h2
    exact h f h1 ⟨h2.2, h2.1⟩
  · intro h f hf hh
    exact h ⟨f, hf, by simp [hh.1, hh.2]⟩
end Go.Vc
/- Timelines: the reference's Append. -/
namespace Go.Vc
open Go Go.Proofs Go.Shelf
/- what the reference hands back -/
def RefApp (evs : List Ev) (e : Ev) (A : Option Addr) (n c : Nat) (r : Int) (H : Heap) : Prop :=
  r = refuse evs e ∧ (refuse evs e ≠ 0 → Sl H A n c evs) ∧ (refuse evs e = 0 → ∃ k, PutAt evs e k ∧ Sl H A n c (evs.take k ++ e :: evs.drop k))
def an14 : Ann where
  res := fun _ => none
  lend := fun | 10 => true | 62 => true | _ => false
  sch := fun | 4 => (tk [0, 1, 2, 3, 4, 5, 6, 7, 8, 9, 10, 11, 12, 13, 14, 15, 16, 17, 18, 19, 20, 21, 22, 23, 24, 25] .done) | 10 => (tk [0, 1, 2, 3, 4, 5, 6, 7, 8, 9, 10, 11, 12] .done) | _ => .done
  lt := fun _ => []
  tup := tups

theorem vc14 (P : Program) (H : Heap) (lA : Option Addr) (lN lC : Nat) (p1At : Int) (p1ID : Int) (p1End : Bool) (post : Option Addr → Nat → Nat → Int → Heap → Prop) :
  vcFn P tab an14 Try.f14 [.slice lA lN lC, .agg #[.int .i64 p1At, .int .i64 p1ID, .bool p1End]] 0 H ⟨true, [(false, [.sl]), (false, [.int .i64])]⟩ post =
  (  ∃ (post0 : Int → Heap → Prop), ConT P 35 [.slice lA lN lC, .int .i64 p1ID, .bool false] H ⟨false, [(false, [.int .i64])]⟩ post0 ∧ ∀ (H1 : Heap), Heap.le H H1 → ∀ (n3 : Int), post0 n3 H1 →
  (decide (p1ID < (1 : Int)) = true → post lA lN lC (1 : Int) H1) ∧ (decide (p1ID < (1 : Int)) = false → (decide (p1At < (0 : Int)) = true → post lA lN lC (10 : Int) H1) ∧ (decide (p1At < (0
  : Int)) = false → (decide ((1099511627776 : Int) ≤ p1At) = true → post lA lN lC (10 : Int) H1) ∧ (decide ((1099511627776 : Int) ≤ p1At) = false → (decide ((0 : Int) < (↑lN : Int)) = true →
  rng .i64 ((↑lN : Int) - (1 : Int)) ∧ someA lA ∧ (0 : Int) ≤ (↑lN : Int) - (1 : Int) ∧ (↑lN : Int) - (1 : Int) < (↑lN : Int) ∧ ∃ (n12 : Int), Cells H1 lA (Int.toNat ((↑lN : Int) - (1 : Int))
  * 3 + 0) [.int .i64 n12] ∧ (decide (p1At < n12) = true → post lA lN lC (10 : Int) H1) ∧ (decide (p1At < n12) = false → ((!p1End) = true → (decide ((0 : Int) ≤ n3) = true → post lA lN lC (9
  : Int) H1) ∧ (decide ((0 : Int) ≤ n3) = false → (p1End = true → (decide (n3 < (0 : Int)) = true → post lA lN lC (11 : Int) H1) ∧ (decide (n3 < (0 : Int)) = false → ∃ (post21 : Int → Heap →
  Prop), ConT P 35 [.slice lA lN lC, .int .i64 p1ID, .bool true] H1 ⟨false, [(false, [.int .i64])]⟩ post21 ∧ ∀ (H22 : Heap), Heap.le H1 H22 → ∀ (n24 : Int), post21 n24 H22 → (decide ((0 :
  Int) ≤ n24) = true → post lA lN lC (11 : Int) H22) ∧ (decide ((0 : Int) ≤ n24) = false → (p1End = true → someA lA ∧ (0 : Int) ≤ n3 ∧ n3 < (↑lN : Int) ∧ ∃ (n29 : Int), Cells H22 lA
  (Int.toNat n3 * 3 + 0) [.int .i64 n29] ∧ (decide (n29 = p1At) = true → post lA lN lC (18 : Int) H22) ∧ (decide (n29 = p1At) = false → ∃ (post32 : Option Addr → Nat → Nat → Heap → Prop),
  ConT P 34 [.slice lA lN lC, .agg ⟨[.int .i64 p1At, .int .i64 p1ID, .bool p1End]⟩] H22 ⟨false, [(false, [.sl])]⟩ post32 ∧ ∀ (H33 : Heap), Heap.le H22 H33 → ∀ (A35 : Option Addr) (n36 c37 :
  Nat), post32 A35 n36 c37 H33 → post A35 n36 c37 (0 : Int) H33)) ∧ (p1End = false → ∃ (post40 : Option Addr → Nat → Nat → Heap → Prop), ConT P 34 [.slice lA lN lC, .agg ⟨[.int .i64 p1At,
  .int .i64 p1ID, .bool p1End]⟩] H22 ⟨false, [(false, [.sl])]⟩ post40 ∧ ∀ (H41 : Heap), Heap.le H22 H41 → ∀ (A43 : Option Addr) (n44 c45 : Nat), post40 A43 n44 c45 H41 → post A43 n44 c45 (0 :
  Int) H41)))) ∧ (p1End = false → (p1End = true → someA lA ∧ (0 : Int) ≤ n3 ∧ n3 < (↑lN : Int) ∧ ∃ (n49 : Int), Cells H1 lA (Int.toNat n3 * 3 + 0) [.int .i64 n49] ∧ (decide (n49 = p1At) =
  true → post lA lN lC (18 : Int) H1) ∧ (decide (n49 = p1At) = false → ∃ (post52 : Option Addr → Nat → Nat → Heap → Prop), ConT P 34 [.slice lA lN lC, .agg ⟨[.int .i64 p1At, .int .i64 p1ID,
  .bool p1End]⟩] H1 ⟨false, [(false, [.sl])]⟩ post52 ∧ ∀ (H53 : Heap), Heap.le H1 H53 → ∀ (A55 : Option Addr) (n56 c57 : Nat), post52 A55 n56 c57 H53 → post A55 n56 c57 (0 : Int) H53)) ∧
  (p1End = false → ∃ (post60 : Option Addr → Nat → Nat → Heap → Prop), ConT P 34 [.slice lA lN lC, .agg ⟨[.int .i64 p1At, .int .i64 p1ID, .bool p1End]⟩] H1 ⟨false, [(false, [.sl])]⟩ post60 ∧
  ∀ (H61 : Heap), Heap.le H1 H61 → ∀ (A63 : Option Addr) (n64 c65 : Nat), post60 A63 n64 c65 H61 → post A63 n64 c65 (0 : Int) H61)))) ∧ ((!p1End) = false → (p1End = true → (decide (n3 < (0 :
  Int)) = true → post lA lN lC (11 : Int) H1) ∧ (decide (n3 < (0 : Int)) = false → ∃ (post71 : Int → Heap → Prop), ConT P 35 [.slice lA lN lC, .int .i64 p1ID, .bool true] H1 ⟨false, [(false,
  [.int .i64])]⟩ post71 ∧ ∀ (H72 : Heap), Heap.le H1 H72 → ∀ (n74 : Int), post71 n74 H72 → (decide ((0 : Int) ≤ n74) = true → post lA lN lC (11 : Int) H72) ∧ (decide ((0 : Int) ≤ n74) = false
  → (p1End = true → someA lA ∧ (0 : Int) ≤ n3 ∧ n3 < (↑lN : Int) ∧ ∃ (n79 : Int), Cells H72 lA (Int.toNat n3 * 3 + 0) [.int .i64 n79] ∧ (decide (n79 = p1At) = true → post lA lN lC (18 : Int)
  H72) ∧ (decide (n79 = p1At) = false → ∃ (post82 : Option Addr → Nat → Nat → Heap → Prop), ConT P 34 [.slice lA lN lC, .agg ⟨[.int .i64 p1At, .int .i64 p1ID, .bool p1End]⟩] H72 ⟨false,
  [(false, [.sl])]⟩ post82 ∧ ∀ (H83 : Heap), Heap.le H72 H83 → ∀ (A85 : Option Addr) (n86 c87 : Nat), post82 A85 n86 c87 H83 → post A85 n86 c87 (0 : Int) H83)) ∧ (p1End = false → ∃ (post90 :
  Option Addr → Nat → Nat → Heap → Prop), ConT P 34 [.slice lA lN lC, .agg ⟨[.int .i64 p1At, .int .i64 p1ID, .bool p1End]⟩] H72 ⟨false, [(false, [.sl])]⟩ post90 ∧ ∀ (H91 : Heap), Heap.le H72
  H91 → ∀ (A93 : Option Addr) (n94 c95 : Nat), post90 A93 n94 c95 H91 → post A93 n94 c95 (0 : Int) H91)))) ∧ (p1End = false → (p1End = true → someA lA ∧ (0 : Int) ≤ n3 ∧ n3 < (↑lN : Int) ∧ ∃
  (n99 : Int), Cells H1 lA (Int.toNat n3 * 3 + 0) [.int .i64 n99] ∧ (decide (n99 = p1At) = true → post lA lN lC (18 : Int) H1) ∧ (decide (n99 = p1At) = false → ∃ (post102 : Option Addr → Nat
  → Nat → Heap → Prop), ConT P 34 [.slice lA lN lC, .agg ⟨[.int .i64 p1At, .int .i64 p1ID, .bool p1End]⟩] H1 ⟨false, [(false, [.sl])]⟩ post102 ∧ ∀ (H103 : Heap), Heap.le H1 H103 → ∀ (A105 :
  Option Addr) (n106 c107 : Nat), post102 A105 n106 c107 H103 → post A105 n106 c107 (0 : Int) H103)) ∧ (p1End = false → ∃ (post110 : Option Addr → Nat → Nat → Heap → Prop), ConT P 34 [.slice
  lA lN lC, .agg ⟨[.int .i64 p1At, .int .i64 p1ID, .bool p1End]⟩] H1 ⟨false, [(false, [.sl])]⟩ post110 ∧ ∀ (H111 : Heap), Heap.le H1 H111 → ∀ (A113 : Option Addr) (n114 c115 : Nat), post110
  A113 n114 c115 H111 → post A113 n114 c115 (0 : Int) H111))))) ∧ (decide ((0 : Int) < (↑lN : Int)) = false → ((!p1End) = true → (decide ((0 : Int) ≤ n3) = true → post lA lN lC (9 : Int) H1)
  ∧ (decide ((0 : Int) ≤ n3) = false → (p1End = true → (decide (n3 < (0 : Int)) = true → post lA lN lC (11 : Int) H1) ∧ (decide (n3 < (0 : Int)) = false → ∃ (post124 : Int → Heap → Prop),
  ConT P 35 [.slice lA lN lC, .int .i64 p1ID, .bool true] H1 ⟨false, [(false, [.int .i64])]⟩ post124 ∧ ∀ (H125 : Heap), Heap.le H1 H125 → ∀ (n127 : Int), post124 n127 H125 → (decide ((0 :
  Int) ≤ n127) = true → post lA lN lC (11 : Int) H125) ∧ (decide ((0 : Int) ≤ n127) = false → (p1End = true → someA lA ∧ (0 : Int) ≤ n3 ∧ n3 < (↑lN : Int) ∧ ∃ (n132 : Int), Cells H125 lA
  (Int.toNat n3 * 3 + 0) [.int .i64 n132] ∧ (decide (n132 = p1At) = true → post lA lN lC (18 : Int) H125) ∧ (decide (n132 = p1At) = false → ∃ (post135 : Option Addr → Nat → Nat → Heap →
  Prop), ConT P 34 [.slice lA lN lC, .agg ⟨[.int .i64 p1At, .int .i64 p1ID, .bool p1End]⟩] H125 ⟨false, [(false, [.sl])]⟩ post135 ∧ ∀ (H136 : Heap), Heap.le H125 H136 → ∀ (A138 : Option Addr)
  (n139 c140 : Nat), post135 A138 n139 c140 H136 → post A138 n139 c140 (0 : Int) H136)) ∧ (p1End = false → ∃ (post143 : Option Addr → Nat → Nat → Heap → Prop), ConT P 34 [.slice lA lN lC,
  .agg ⟨[.int .i64 p1At, .int .i64 p1ID, .bool p1End]⟩] H125 ⟨false, [(false, [.sl])]⟩ post143 ∧ ∀ (H144 : Heap), Heap.le H125 H144 → ∀ (A146 : Option Addr) (n147 c148 : Nat), post143 A146
  n147 c148 H144 → post A146 n147 c148 (0 : Int) H144)))) ∧ (p1End = false → (p1End = true → someA lA ∧ (0 : Int) ≤ n3 ∧ n3 < (↑lN : Int) ∧ ∃ (n152 : Int), Cells H1 lA (Int.toNat n3 * 3 + 0)
  [.int .i64 n152] ∧ (decide (n152 = p1At) = true → post lA lN lC (18 : Int) H1) ∧ (decide (n152 = p1At) = false → ∃ (post155 : Option Addr → Nat → Nat → Heap → Prop), ConT P 34 [.slice lA lN
  lC, .agg ⟨[.int .i64 p1At, .int .i64 p1ID, .bool p1End]⟩] H1 ⟨false, [(false, [.sl])]⟩ post155 ∧ ∀ (H156 : Heap), Heap.le H1 H156 → ∀ (A158 : Option Addr) (n159 c160 : Nat), post155 A158
  n159 c160 H156 → post A158 n159 c160 (0 : Int) H156)) ∧ (p1End = false → ∃ (post163 : Option Addr → Nat → Nat → Heap → Prop), ConT P 34 [.slice lA lN lC, .agg ⟨[.int .i64 p1At, .int .i64
  p1ID, .bool p1End]⟩] H1 ⟨false, [(false, [.sl])]⟩ post163 ∧ ∀ (H164 : Heap), Heap.le H1 H164 → ∀ (A166 : Option Addr) (n167 c168 : Nat), post163 A166 n167 c168 H164 → post A166 n167 c168 (0
  : Int) H164)))) ∧ ((!p1End) = false → (p1End = true → (decide (n3 < (0 : Int)) = true → post lA lN lC (11 : Int) H1) ∧ (decide (n3 < (0 : Int)) = false → ∃ (post174 : Int → Heap → Prop),
  ConT P 35 [.slice lA lN lC, .int .i64 p1ID, .bool true] H1 ⟨false, [(false, [.int .i64])]⟩ post174 ∧ ∀ (H175 : Heap), Heap.le H1 H175 → ∀ (n177 : Int), post174 n177 H175 → (decide ((0 :
  Int) ≤ n177) = true → post lA lN lC (11 : Int) H175) ∧ (decide ((0 : Int) ≤ n177) = false → (p1End = true → someA lA ∧ (0 : Int) ≤ n3 ∧ n3 < (↑lN : Int) ∧ ∃ (n182 : Int), Cells H175 lA
  (Int.toNat n3 * 3 + 0) [.int .i64 n182] ∧ (decide (n182 = p1At) = true → post lA lN lC (18 : Int) H175) ∧ (decide (n182 = p1At) = false → ∃ (post185 : Option Addr → Nat → Nat → Heap →
  Prop), ConT P 34 [.slice lA lN lC, .agg ⟨[.int .i64 p1At, .int .i64 p1ID, .bool p1End]⟩] H175 ⟨false, [(false, [.sl])]⟩ post185 ∧ ∀ (H186 : Heap), Heap.le H175 H186 → ∀ (A188 : Option Addr)
  (n189 c190 : Nat), post185 A188 n189 c190 H186 → post A188 n189 c190 (0 : Int) H186)) ∧ (p1End = false → ∃ (post193 : Option Addr → Nat → Nat → Heap → Prop), ConT P 34 [.slice lA lN lC,
  .agg ⟨[.int .i64 p1At, .int .i64 p1ID, .bool p1End]⟩] H175 ⟨false, [(false, [.sl])]⟩ post193 ∧ ∀ (H194 : Heap), Heap.le H175 H194 → ∀ (A196 : Option Addr) (n197 c198 : Nat), post193 A196
  n197 c198 H194 → post A196 n197 c198 (0 : Int) H194)))) ∧ (p1End = false → (p1End = true → someA lA ∧ (0 : Int) ≤ n3 ∧ n3 < (↑lN : Int) ∧ ∃ (n202 : Int), Cells H1 lA (Int.toNat n3 * 3 + 0)
  [.int .i64 n202] ∧ (decide (n202 = p1At) = true → post lA lN lC (18 : Int) H1) ∧ (decide (n202 = p1At) = false → ∃ (post205 : Option Addr → Nat → Nat → Heap → Prop), ConT P 34 [.slice lA lN
  lC, .agg ⟨[.int .i64 p1At, .int .i64 p1ID, .bool p1End]⟩] H1 ⟨false, [(false, [.sl])]⟩ post205 ∧ ∀ (H206 : Heap), Heap.le H1 H206 → ∀ (A208 : Option Addr) (n209 c210 : Nat), post205 A208
  n209 c210 H206 → post A208 n209 c210 (0 : Int) H206)) ∧ (p1End = false → ∃ (post213 : Option Addr → Nat → Nat → Heap → Prop), ConT P 34 [.slice lA lN lC, .agg ⟨[.int .i64 p1At, .int .i64
  p1ID, .bool p1End]⟩] H1 ⟨false, [(false, [.sl])]⟩ post213 ∧ ∀ (H214 : Heap), Heap.le H1 H214 → ∀ (A216 : Option Addr) (n217 c218 : Nat), post213 A216 n217 c218 H214 → post A216 n217 c218 (0
  : Int) H214)))))))) := by kernel_rfl
set_option maxHeartbeats 4000000 in
theorem ref21_Append {H : Heap} {A : Option Addr} {n c : Nat} {evs : List Ev} {e : Ev} (hs : Sl H A n c evs) (hn : n ≤ 1000) (hw : WfE evs) (r1 : rng .i64 e.tm) (r2 : rng .i64 e.id) :
    ConT Try.prog 14 [.slice A n c, .agg #[.int .i64 e.tm, .int .i64 e.id, .bool e.fin]] H ⟨true, [(false, [.sl]), (false, [.int .i64])]⟩ (fun A' n' c' r H' => RefApp evs e A' n' c' r H') := by
  refine con_of_vc (an := an14) (fn := Try.f14) mix tabOK Try.func14 (by kernel_rfl) (extra := 0) ?_
  rw [vc14]
  have hl := hs.len
  have bad : ∀ {H' : Heap} {r : Int}, Heap.le H H' → r = refuse evs e → r ≠ 0 → RefApp evs e A n c r H' := fun hle h h0 => ⟨h, fun _ => hs.mono hle, fun hh => absurd (h.trans hh) h0⟩
  have good : refuse evs e = 0 → ∀ {H' : Heap}, Heap.le H H' → ∃ post : Option Addr → Nat → Nat → Heap → Prop, ConT Try.prog 34 [.slice A n c, .agg #[.int .i64 e.tm, .int .i64 e.id, .bool e.fin]] H' ⟨false, [(false, [.sl])]⟩ post ∧
      ∀ H33, Heap.le H' H33 → ∀ A35 n36 c37, post A35 n36 c37 H33 → RefApp evs e A35 n36 c37 0 H33 := fun h0 {H'} hle =>
    ⟨_, ref21_insertEvent (e := e) (hs.mono hle) (by omega) r1 r2, fun H33 l33 A35 n36 c37 h => ⟨h0.symm, fun hh => absurd h0 hh, fun _ => h⟩⟩
  refine ⟨_, ref21_find (id := e.id) (f := false) hs, ?_⟩
  rintro H1 l1 _ rfl
  have start : 0 ≤ fndI evs e.id false → ∃ hi : (fndI evs e.id false).toNat < evs.length, ∃ en, lifeOf evs e.id = some (evs[(fndI evs e.id false).toNat].tm, en) := by
    intro h
    obtain ⟨hi, f1, f2⟩ := fndI_get h
    refine ⟨hi, ?_⟩
    have h2 := fnd_start.1 h
    cases hlf : lifeOf evs e.id with
    | none => rw [hlf] at h2; cases h2
    | some y =>
      obtain ⟨fr, en⟩ := y
      obtain ⟨⟨s, s1, s2, s3, s4⟩, -⟩ := lifeOf_some hlf
      obtain ⟨i, hi', rfl⟩ := List.getElem_of_mem s1
      have := hw.same hi' hi (s3.trans f1.symm) (s2.trans f2.symm)
      subst this
      exact ⟨en, by rw [s4]⟩
  have nostart : fndI evs e.id false < 0 → lifeOf evs e.id = none := by
    intro h
    cases hlf : lifeOf evs e.id with
    | none => rfl
    | some y => have := fnd_start.2 (by rw [hlf]; rfl); omega
  have rest : ∀ {H' : Heap}, Heap.le H H' → True := fun _ => trivial
  refine ⟨fun h1 => bad l1 ?_ (by decide), fun h1 => ⟨fun h2 => bad l1 ?_ (by decide), fun h2 => ⟨fun h3 => bad l1 ?_ (by decide), fun h3 => ⟨fun h4 => ?_, fun h4 => ?_⟩⟩⟩⟩
  · unfold refuse; rw [if_pos (of_decide_eq_true h1)]
  · unfold refuse; rw [if_neg (of_decide_eq_false h1), h2]; simp
  · unfold refuse; rw [if_neg (of_decide_eq_false h1), h3]; simp
  · have h4 := of_decide_eq_true h4
    have hlast : evs.getLast? = some evs[evs.length - 1] := by
      rw [List.getLast?_eq_getElem?, List.getElem?_eq_getElem (by omega)]
    obtain ⟨_, hA, _, hc, ⟨rfl, -, -⟩⟩ := hs.at l1 (i := (n : Int) - 1) (by omega) (by omega)
    have hca := Cells.part (xs := []) (ys := [.int .i64 evs[((n : Int) - 1).toNat].tm]) (zs := [.int .i64 evs[((n : Int) - 1).toNat].id, .bool evs[((n : Int) - 1).toNat].fin]) hc
    have hix : ((n : Int) - 1).toNat = evs.length - 1 := by omega
    have htm : evs[((n : Int) - 1).toNat].tm = evs[evs.length - 1].tm := by congr 2
    refine ⟨by simp only [rng]; omega, hA, by omega, by omega, _, hca, fun h5 => bad l1 ?_ (by decide), fun h5 => ?_⟩
    · have h5 := of_decide_eq_true h5
      rw [htm] at h5
      unfold refuse; rw [if_neg (of_decide_eq_false h1), hlast]; simp [h5]
    have h5 := of_decide_eq_false h5
    rw [htm] at h5
    have hr : refuse evs e = refuseM (lifeOf evs e.id) e := by
      unfold refuse; rw [if_neg (of_decide_eq_false h1), hlast, h2, h3, if_neg (by simp [h5])]
    refine ⟨fun hp => ?_, fun hp => ?_⟩
    · have hf : e.fin = false := by simpa using hp
      have no : ∀ {P : Prop}, e.fin = true → P := fun h => by rw [hf] at h; cases h
      refine ⟨fun h5 => bad l1 ?_ (by decide), fun h5 => ⟨fun h => no h, fun _ => ⟨fun h => no h, fun _ => good ?_ l1⟩⟩⟩
      · rw [hr]; unfold refuseM; rw [hf, if_neg (by simp), if_pos (fnd_start.1 (of_decide_eq_true h5))]
      · rw [hr, nostart (by have := of_decide_eq_false h5; omega)]; unfold refuseM; rw [hf]; simp
    · have hf : e.fin = true := by simpa using hp
      have no : ∀ {P : Prop}, e.fin = false → P := fun h => by rw [hf] at h; cases h
      refine ⟨fun _ => ⟨fun h5 => bad l1 ?_ (by decide), fun h5 => ⟨_, ref21_find (id := e.id) (f := true) (hs.mono l1), ?_⟩⟩, fun h => no h⟩
      · rw [hr, nostart (of_decide_eq_true h5)]; unfold refuseM; rw [hf]; simp
      rintro H22 l22 _ rfl
      have h5 := of_decide_eq_false h5
      obtain ⟨hi, en, hlf⟩ := start (by omega)
      have hen := (lifeOf_some hlf).2
      refine ⟨fun h6 => bad (hle_trans l1 l22) ?_ (by decide), fun h6 => ⟨fun _ => ?_, fun h => no h⟩⟩
      · rw [fnd_end.1 (of_decide_eq_true h6)] at hen
        rw [hr, hlf, hen]; unfold refuseM; rw [hf]; simp
      have hen' : en = false := by
        cases en with
        | false => rfl
        | true => exact absurd (fnd_end.2 hen.symm) (of_decide_eq_false h6)
      subst hen'
      obtain ⟨_, hA, _, hc, ⟨rfl, -, -⟩⟩ := hs.at (hle_trans l1 l22) (i := fndI evs e.id false) (by omega) (by omega)
      have hca := Cells.part (xs := []) (ys := [.int .i64 evs[(fndI evs e.id false).toNat].tm]) (zs := [.int .i64 evs[(fndI evs e.id false).toNat].id, .bool evs[(fndI evs e.id false).toNat].fin]) hc
      refine ⟨hA, by omega, by omega, _, hca, fun h7 => bad (hle_trans l1 l22) ?_ (by decide), fun h7 => good ?_ (hle_trans l1 l22)⟩
      · rw [hr, hlf]; unfold refuseM; rw [hf]; simp [of_decide_eq_true h7]
      · rw [hr, hlf]; unfold refuseM; rw [hf]; simp [of_decide_eq_false h7]
  · have h4 := of_decide_eq_false h4
    have hnil : evs = [] := List.eq_nil_of_length_eq_zero (by omega)
    have hr : refuse evs e = refuseM (lifeOf evs e.id) e := by
      unfold refuse; rw [if_neg (of_decide_eq_false h1), h2, h3, hnil]; simp
    refine ⟨fun hp => ?_, fun hp => ?_⟩
    · have hf : e.fin = false := by simpa using hp
      have no : ∀ {P : Prop}, e.fin = true → P := fun h => by rw [hf] at h; cases h
      refine ⟨fun h5 => bad l1 ?_ (by decide), fun h5 => ⟨fun h => no h, fun _ => ⟨fun h => no h, fun _ => good ?_ l1⟩⟩⟩
      · rw [hr]; unfold refuseM; rw [hf, if_neg (by simp), if_pos (fnd_start.1 (of_decide_eq_true h5))]
      · rw [hr, nostart (by have := of_decide_eq_false h5; omega)]; unfold refuseM; rw [hf]; simp
    · have hf : e.fin = true := by simpa using hp
      have no : ∀ {P : Prop}, e.fin = false → P := fun h => by rw [hf] at h; cases h
      refine ⟨fun _ => ⟨fun h5 => bad l1 ?_ (by decide), fun h5 => ⟨_, ref21_find (id := e.id) (f := true) (hs.mono l1), ?_⟩⟩, fun h => no h⟩
      · rw [hr, nostart (of_decide_eq_true h5)]; unfold refuseM; rw [hf]; simp
      rintro H22 l22 _ rfl
      have h5 := of_decide_eq_false h5
      obtain ⟨hi, en, hlf⟩ := start (by omega)
      have hen := (lifeOf_some hlf).2
      refine ⟨fun h6 => bad (hle_trans l1 l22) ?_ (by decide), fun h6 => ⟨fun _ => ?_, fun h => no h⟩⟩
      · rw [fnd_end.1 (of_decide_eq_true h6)] at hen
        rw [hr, hlf, hen]; unfold refuseM; rw [hf]; simp
      have hen' : en = false := by
        cases en with
        | false => rfl
        | true => exact absurd (fnd_end.2 hen.symm) (of_decide_eq_false h6)
      subst hen'
      obtain ⟨_, hA, _, hc, ⟨rfl, -, -⟩⟩ := hs.at (hle_trans l1 l22) (i := fndI evs e.id false) (by omega) (by omega)
      have hca := Cells.part (xs := []) (ys := [.int .i64 evs[(fndI evs e.id false).toNat].tm]) (zs := [.int .i64 evs[(fndI evs e.id false).toNat].id, .bool evs[(fndI evs e.id false).toNat].fin]) hc
      refine ⟨hA, by omega, by omega, _, hca, fun h7 => bad (hle_trans l1 l22) ?_ (by decide), fun h7 => good ?_ (hle_trans l1 l22)⟩
      · rw [hr, hlf]; unfold refuseM; rw [hf]; simp [of_decide_eq_true h7]
      · rw [hr, hlf]; unfold refuseM; rw [hf]; simp [of_decide_eq_false h7]
end Go.Vc
/- Timelines: TimelineAppends. -/
namespace Go.Vc
open Go Go.Proofs Go.Shelf
end Go.Vc
/- Timelines: appending the events of an index, one after the other; plain. -/
namespace Go.Vc
open Go Go.Proofs Go.Shelf
end Go.Vc
/- Timelines: plausible events; TimelineGrows. -/
namespace Go.Vc
open Go Go.Proofs Go.Shelf
structure U3 where
  a : Int
  b : Int
  c : Int
instance : Rep U3 where
  sz := 3
  byt := 6
  rel _ vs v := vs = [.int .u16 v.a, .int .u16 v.b, .int .u16 v.c] ∧ rng .u16 v.a ∧ rng .u16 v.b ∧ rng .u16 v.c
  mono _ h := h
  len h := by simp [h.1]
  pos := by decide
  bpos := by decide
  one h := by rw [h.1]; simp [Value.oneCell']
def an16 : Ann where
  res := fun _ => none
  lend := fun _ => false
  sch := fun | 7 => (tk [0, 1, 2, 3, 4, 5, 6, 7, 8, 9, 10, 11, 12, 13, 14, 15, 16, 17] (.alt 18 (.alt 19 (tk [20] .done) .fin) .fin)) | _ => .done
  lt := fun | 4 => [.slot 3 false [.row 46 33], .slot 4 false [.int .i64], .slot 5 false [.int .i64]] | _ => []
  tup := tups

theorem vc16 (P : Program) (H : Heap) (lA : Option Addr) (lN lC : Nat) (post : Option Addr → Nat → Nat → Heap → Prop) :
  vcFn P tab an16 Try.f16 [.slice lA lN lC] 1 H ⟨false, [(false, [.sl])]⟩ post =
  (  ∃ (inv0 : Nat → List Value → Int → Int → Heap → Prop), ∃ (m1 : Nat → List Value → Int → Int → Nat), inv0 0 [] (0 : Int) (0 : Int) H ∧ ∀ (H2 : Heap), Heap.le H H2 → ∀ (n4 : Nat) (xs5 : List
  Value) (n6 n7 : Int), inv0 n4 xs5 n6 n7 H2 → (decide (n7 < (↑lN : Int)) = true → (decide (n7 < (60 : Int)) = true → someA lA ∧ (0 : Int) ≤ n7 ∧ n7 < (↑lN : Int) ∧ (0 : Int) ≤ (0 : Int) ∧ (0
  : Int) < (↑3 : Int) ∧ ∃ (n11 : Int), Cells H2 lA (Int.toNat n7 * 3 + Int.toNat (0 : Int) * 1) [.int .u16 n11] ∧ (3 : Int) ≠ (0 : Int) ∧ ∃ (e12 : Int), IntKind.wrap IntKind.i64 (Int.tmod n11
  (3 : Int)) = e12 ∧ rng .i64 (n6 + e12) ∧ someA lA ∧ (0 : Int) ≤ n7 ∧ n7 < (↑lN : Int) ∧ (0 : Int) ≤ (1 : Int) ∧ (1 : Int) < (↑3 : Int) ∧ ∃ (n13 : Int), Cells H2 lA (Int.toNat n7 * 3 +
  Int.toNat (1 : Int) * 1) [.int .u16 n13] ∧ (20 : Int) ≠ (0 : Int) ∧ ∃ (e14 : Int), IntKind.wrap IntKind.i64 (Int.tmod n13 (20 : Int)) = e14 ∧ rng .i64 ((1 : Int) + e14) ∧ someA lA ∧ (0 :
  Int) ≤ n7 ∧ n7 < (↑lN : Int) ∧ (0 : Int) ≤ (2 : Int) ∧ (2 : Int) < (↑3 : Int) ∧ ∃ (n15 : Int), Cells H2 lA (Int.toNat n7 * 3 + Int.toNat (2 : Int) * 1) [.int .u16 n15] ∧ (2 : Int) ≠ (0 :
  Int) ∧ (n4 + 1) * 24 ≤ 140737488355328 ∧ rng .i64 (n7 + (1 : Int)) ∧ inv0 (n4 + 1) (xs5 ++ [.int .i64 (n6 + e12), .int .i64 ((1 : Int) + e14), .bool (decide (Int.tmod n15 (2 : Int) = (1 :
  Int)))]) (n6 + e12) (n7 + (1 : Int)) H2 ∧ m1 (n4 + 1) (xs5 ++ [.int .i64 (n6 + e12), .int .i64 ((1 : Int) + e14), .bool (decide (Int.tmod n15 (2 : Int) = (1 : Int)))]) (n6 + e12) (n7 + (1 :
  Int)) < m1 n4 xs5 n6 n7) ∧ (decide (n7 < (60 : Int)) = false → ∀ (A17 : Option Addr) (c18 : Nat) (H19 : Heap), Heap.le H2 H19 → Cells H19 A17 0 xs5 → n4 ≤ c18 → post A17 n4 c18 H19)) ∧
  (decide (n7 < (↑lN : Int)) = false → ∀ (A24 : Option Addr) (c25 : Nat) (H26 : Heap), Heap.le H2 H26 → Cells H26 A24 0 xs5 → n4 ≤ c25 → post A24 n4 c25 H26)) := by kernel_rfl
set_option maxHeartbeats 1000000 in
theorem law26_events {H : Heap} {A : Option Addr} {n c : Nat} {l : List U3} (hs : Sl H A n c l) :
    ConT Try.prog 16 [.slice A n c] H shS (fun A' n' c' H' => ∃ evs : List Ev, Sl H' A' n' c' evs ∧ evs.length ≤ 60) := by
  refine con_of_vc (an := an16) (fn := Try.f16) mix tabOK Try.func16 (by kernel_rfl) (extra := 1) ?_
  rw [vc16]
  have hl := hs.len
  have fin : ∀ {H1 : Heap} {i : Int} {xs : List Value}, 0 ≤ i → i ≤ 60 → (∃ evs : List Ev, Row H1 xs evs ∧ evs.length = i.toNat) → ∀ (A' : Option Addr) (c' : Nat) (H2 : Heap), Heap.le H1 H2 → Cells H2 A' 0 xs → i.toNat ≤ c' → ∃ evs : List Ev, Sl H2 A' i.toNat c' evs ∧ evs.length ≤ 60 := by
    rintro H1 i xs i0 i1 ⟨evs, hr, hel⟩ A' c' H2 hle hc hn
    exact ⟨evs, hr.sl hle hc hel hn (by show _ * 24 ≤ _; omega) (by omega), by omega⟩
  refine ⟨fun k xs at0 i H' => 0 ≤ i ∧ i ≤ n ∧ i ≤ 60 ∧ 0 ≤ at0 ∧ at0 ≤ 2 * i ∧ k = i.toNat ∧ ∃ evs : List Ev, Row H' xs evs ∧ evs.length = i.toNat, fun _ _ _ i => n - i.toNat, ⟨by omega, by omega, by omega, by omega, by omega, rfl, [], rfl, rfl⟩, ?_⟩
  rintro H2 l2 k xs at0 i ⟨i0, i1, i2, a0, a1, rfl, hev⟩
  refine ⟨fun hlt => ⟨fun hlt2 => ?_, fun hge => ?_⟩, fun hge => ?_⟩
  · have hlt := of_decide_eq_true hlt
    have hlt2 := of_decide_eq_true hlt2
    obtain ⟨hi, hA, _, hc, ⟨rfl, r1, r2, r3⟩⟩ := hs.at l2 i0 hlt
    generalize l[i.toNat] = x at *
    have t1 := tmod_bd r1.1 (m := 3) (by decide)
    have t2 := tmod_bd r2.1 (m := 20) (by decide)
    have c0 := Cells.part (xs := []) (ys := [.int .u16 x.a]) (zs := [.int .u16 x.b, .int .u16 x.c]) hc
    have c1 := Cells.part (xs := [.int .u16 x.a]) (ys := [.int .u16 x.b]) (zs := [.int .u16 x.c]) hc
    have c2 := Cells.part (xs := [.int .u16 x.a, .int .u16 x.b]) (ys := [.int .u16 x.c]) (zs := []) hc
    refine ⟨hA, i0, hlt, by decide, by decide, x.a, c0, by decide, _, wrap_i64 t1.1 (by omega), by simp only [rng]; omega, hA, i0, hlt, by decide, by decide, x.b, c1, by decide, _, wrap_i64 t2.1 (by omega), by simp only [rng]; omega, hA, i0, hlt, by decide, by decide, x.c, c2, by decide, by omega, by simp only [rng]; omega, ⟨by omega, by omega, by omega, by omega, by omega, by omega, ?_⟩, by dsimp only; omega⟩
    obtain ⟨evs, hr, hel⟩ := hev
    refine ⟨evs ++ [⟨at0 + x.a.tmod 3, 1 + x.b.tmod 20, decide (x.c.tmod 2 = 1)⟩], hr.append (Row.one ⟨rfl, by simp only [rng]; omega, by simp only [rng]; omega⟩), by rw [List.length_append, List.length_singleton]; omega⟩
  · exact fin i0 i2 hev
  · exact fin i0 i2 hev
def an5 : Ann where
  res := fun _ => none
  lend := fun | 36 => true | 48 => true | 51 => true | _ => false
  sch := fun _ => .done
  opn := true
  bx := fun | some 36, 15 => some [.int .i64, .row 54 33, .mp, .row 55 44, .int .i64] | some 48, 12 => some [.int .i64, .row 56 33, .mp, .row 57 44, .int .i64] | _, _ => none
  nb := fun | 18 => some (68, [.int .i64, .row 52 33, .mp, .row 53 44, .int .i64]) | _ => none
  lt := fun | 6 => [.slot 10 false [.sl], .slot 24 false [.int .i64], .box 18 68 [.int .i64, .row 58 33, .mp, .row 59 44, .int .i64]] | _ => []
  tup := tups

theorem vc5 (P : Program) (H : Heap) (lA : Option Addr) (lN lC : Nat) (interval : Int) (from0 : Int) (to0 : Int) (post : Bool → Heap → Prop) :
  vcFn P tab an5 Try.f5 [.slice lA lN lC, .int .u16 interval, .int .u16 from0, .int .u16 to0] 8 H ⟨false, [(false, [.bool])]⟩ post =
  (  (8 : Int) ≠ (0 : Int) ∧ ∃ (e0 : Int), IntKind.wrap IntKind.i64 (Int.tmod interval (8 : Int)) = e0 ∧ ∃ (post1 : Int → Nat → List Value → Option Nat → Nat → List Value → Int → Heap → (Nat →
  Option XO) → Prop), ConN P 11 [.slice none 0 0, .int .i64 e0] 68 H noO [.int .i64, .row 52 33, .mp, .row 53 44, .int .i64] post1 ∧ ∀ (H2 : Heap), Heap.le H H2 → ∀ (O4 : Nat → Option XO) (n5
  : Int) (n6 : Nat) (xs7 : List Value) (A8 : Option Nat) (n9 : Nat) (xs10 : List Value) (n11 : Int), post1 n5 n6 xs7 A8 n9 xs10 n11 H2 O4 → (false = true → post false H2) ∧ (false = false → ∃ (post15
  : Option Addr → Nat → Nat → Heap → Prop), ConT P 16 [.slice lA lN lC] H2 ⟨false, [(false, [.sl])]⟩ post15 ∧ ∀ (H16 : Heap), Heap.le H2 H16 → ∀ (A18 : Option Addr) (n19 c20 : Nat), post15
  A18 n19 c20 H16 → ∃ (inv22 : Option Addr → Nat → Nat → Int → Int → Nat → List Value → Option Nat → Nat → List Value → Int → Heap → OMap → Prop), ∃ (m23 : Option Addr → Nat → Nat → Int → Int
  → Nat → List Value → Option Nat → Nat → List Value → Int → Nat), inv22 none 0 0 (0 : Int) n5 n6 xs7 A8 n9 xs10 n11 H16 O4 ∧ ∀ (H24 : Heap), Heap.le H16 H24 → ∀ (O26 : Nat → Option XO) (A27
  : Option Addr) (n28 c29 : Nat) (n30 n31 : Int) (n32 : Nat) (xs33 : List Value) (A34 : Option Nat) (n35 : Nat) (xs36 : List Value) (n37 : Int), inv22 A27 n28 c29 n30 n31 n32 xs33 A34 n35
  xs36 n37 H24 O26 → (decide (n30 < (↑n19 : Int)) = true → someA A18 ∧ (0 : Int) ≤ n30 ∧ n30 < (↑n19 : Int) ∧ ∃ (n40 : Int), ∃ (n41 : Int), ∃ (b42 : Bool), Cells H24 A18 (Int.toNat n30 * 3)
  [.int .i64 n40, .int .i64 n41, .bool b42] ∧ ∃ (post43 : Option Addr → Nat → Nat → Int → Heap → Prop), ConT P 14 [.slice A27 n28 c29, .agg ⟨[.int .i64 n40, .int .i64 n41, .bool b42]⟩] H24
  ⟨true, [(false, [.sl]), (false, [.int .i64])]⟩ post43 ∧ ∀ (H44 : Heap), Heap.le H24 H44 → ∀ (A46 : Option Addr) (n47 c48 : Nat) (n49 : Int), post43 A46 n47 c48 n49 H44 → ∃ (post51 : Int →
  Nat → List Value → Option Nat → Nat → List Value → Int → Int → Heap → (Nat → Option XO) → Prop), ConB P 15 [BA.me, BA.v (.agg ⟨[.int .i64 n40, .int .i64 n41, .bool b42]⟩)] 68 [BC.v (.int
  .i64 n31), BC.row 33 n32 xs33, BC.v (Value.map A34), BC.row 44 n35 xs36, BC.v (.int .i64 n37)] H44 O26 [.int .i64, .row 54 33, .mp, .row 55 44, .int .i64] ⟨false, [(false, [.int .i64])]⟩
  post51 ∧ ∀ (H52 : Heap), Heap.le H44 H52 → ∀ (O54 : Nat → Option XO) (n55 : Int) (n56 : Nat) (xs57 : List Value) (A58 : Option Nat) (n59 : Nat) (xs60 : List Value) (n61 n62 : Int), post51
  n55 n56 xs57 A58 n59 xs60 n61 n62 H52 O54 → ((!decide (n62 = n49)) = true → post false H52) ∧ ((!decide (n62 = n49)) = false → (60 : Int) ≠ (0 : Int) ∧ ∃ (e66 : Int), IntKind.wrap
  IntKind.i64 (Int.tmod from0 (60 : Int)) = e66 ∧ (60 : Int) ≠ (0 : Int) ∧ ∃ (e67 : Int), IntKind.wrap IntKind.i64 (Int.tmod to0 (60 : Int)) = e67 ∧ ∃ (post68 : Int → Nat → List Value →
  Option Nat → Nat → List Value → Int → Bool → Heap → (Nat → Option XO) → Prop), ConB P 12 [BA.me, BA.v (.slice A46 n47 c48), BA.v (.int .i64 e66), BA.v (.int .i64 e67)] 68 [BC.v (.int .i64
  n55), BC.row 33 n56 xs57, BC.v (Value.map A58), BC.row 44 n59 xs60, BC.v (.int .i64 n61)] H52 O54 [.int .i64, .row 56 33, .mp, .row 57 44, .int .i64] ⟨false, [(false, [.bool])]⟩ post68 ∧ ∀
  (H69 : Heap), Heap.le H52 H69 → ∀ (O71 : Nat → Option XO) (n72 : Int) (n73 : Nat) (xs74 : List Value) (A75 : Option Nat) (n76 : Nat) (xs77 : List Value) (n78 : Int) (b79 : Bool), post68 n72
  n73 xs74 A75 n76 xs77 n78 b79 H69 O71 → ((!b79) = true → post false H69) ∧ ((!b79) = false → rng .i64 (n30 + (1 : Int)) ∧ inv22 A46 n47 c48 (n30 + (1 : Int)) n72 n73 xs74 A75 n76 xs77 n78
  H69 O71 ∧ m23 A46 n47 c48 (n30 + (1 : Int)) n72 n73 xs74 A75 n76 xs77 n78 < m23 A27 n28 c29 n30 n31 n32 xs33 A34 n35 xs36 n37))) ∧ (decide (n30 < (↑n19 : Int)) = false → ∃ (post84 : Bool →
  Heap → Prop), ConT P 10 [] H24 ⟨false, [(false, [.bool])]⟩ post84 ∧ ∀ (H85 : Heap), Heap.le H24 H85 → ∀ (b87 : Bool), post84 b87 H85 → post b87 H85))) := by kernel_rfl
set_option maxHeartbeats 2000000 in
theorem law26_TimelineGrows {H : Heap} {A : Option Addr} {n c : Nat} {l : List U3} {iv p1 p2 : Int} (hs : Sl H A n c l) (hi : rng .u16 iv) (h1 : rng .u16 p1) (h2 : rng .u16 p2) :
    ConT Try.prog 5 [.slice A n c, .int .u16 iv, .int .u16 p1, .int .u16 p2] H shB (fun r _ => r = true) := by
  refine con_of_vc (an := an5) (fn := Try.f5) mix tabOK Try.func5 (by kernel_rfl) (extra := 8) ?_
  rw [vc5]
  have t0 := tmod_bd hi.1 (m := 8) (by decide)
  have t1 := tmod_bd h1.1 (m := 60) (by decide)
  have t2 := tmod_bd h2.1 (m := 60) (by decide)
  obtain ⟨u, hu⟩ : ∃ u, u = iv.tmod 8 := ⟨_, rfl⟩
  obtain ⟨v, hv⟩ : ∃ v, v = p1.tmod 60 := ⟨_, rfl⟩
  obtain ⟨w, hw'⟩ : ∃ w, w = p2.tmod 60 := ⟨_, rfl⟩
  rw [← hu] at t0 ⊢
  rw [← hv] at t1 ⊢
  rw [← hw'] at t2 ⊢
  refine ⟨by decide, u, wrap_i64 t0.1 (by omega), _, tl_New (vs := []) (A := none) (n := 0) (c := 0) Sl.nil (by simp only [rng]; omega) (by decide), ?_⟩
  rintro H8 l8 O10 n11 n12 xs13 A14 n15 xs16 n17 ⟨h0, h4, evs, hix, hp, hsd, es, hm, hlv⟩
  obtain rfl : evs = [] := List.perm_nil.1 hp
  refine ⟨fun h => (by cases h), fun _ => ⟨_, law26_events (hs.mono l8), ?_⟩⟩
  rintro H16 l16 A18 n19 c20 ⟨l0, hs0, hl60⟩
  have hl := hs0.len
  refine ⟨fun A' k c' i n0 n1 xs1 A2 n3 xs3 n4 H' O' => 0 ≤ i ∧ i ≤ n19 ∧ ∃ evs : List Ev, Sl H' A' k c' evs ∧ IxOK H' n0 n1 xs1 n3 xs3 n4 evs ∧ WfE evs ∧ (evs.Pairwise fun a b => ¬ evLt b a) ∧ evs.length ≤ i.toNat ∧ ∃ es, hasM O' A2 65 es ∧ LvOK es evs, fun _ _ _ i _ _ _ _ _ _ _ => n19 - i.toNat,
    ⟨by omega, by omega, [], Sl.nil, hix.mono l16, wf_nil, hsd, by simp, es, hm, hlv⟩, ?_⟩
  rintro H23 l23 O25 A26 n27 c28 i n30 n31 xs32 A33 n34 xs35 n36 ⟨i0, i1, evs, hsl, hix, hw, hsd, hlen, es, hm, hlv⟩
  have hel := hix.el
  have hkl := hsl.len
  refine ⟨fun hlt => ?_, fun hge => ⟨_, law26_awake, fun H85 l85 b h => h⟩⟩
  have hlt := of_decide_eq_true hlt
  obtain ⟨hi', hA, _, hc, ⟨rfl, r1, r2⟩⟩ := hs0.at l23 i0 hlt
  generalize l0[i.toNat] = e at *
  refine ⟨hA, i0, hlt, _, _, _, hc, _, ref21_Append (e := e) hsl (by omega) hw r1 r2, ?_⟩
  rintro H43 l43 A45 n46 c47 n48 ⟨rfl, hno, hyes⟩
  have hix' := hix.mono l43
  have e1 : (i + 1).toNat = i.toNat + 1 := by omega
  by_cases hr : refuse evs e = 0
  · obtain ⟨k, hpa, hsl2⟩ := hyes hr
    refine ⟨_, tl_Append (e := e) hix' hw hsd hm hlv (by omega) r1 r2 hr, ?_⟩
    rintro H54 l54 O56 n57 n58 xs59 A60 n61 xs62 n63 n64 ⟨rfl, rfl, rfl, k', hpa', hix2, es', hm', hlv'⟩
    refine ⟨fun h => (by rw [hr] at h; simp at h), fun _ => ?_⟩
    have e2 := put_eq hsd hpa hpa'
    rw [← e2] at hix2 hlv'
    have hw2 := wf_append hw hsd hr hpa
    refine ⟨by decide, v, wrap_i64 t1.1 (by omega), by decide, w, wrap_i64 t2.1 (by omega), _, law26_agrees hix2 hw2 (hsl2.mono l54), ?_⟩
    rintro H69 l69 O71 n72 n73 xs74 A75 n76 xs77 n78 b79 ⟨⟨rfl, rfl, rfl, rfl, rfl, rfl, rfl⟩, hr78, rfl⟩
    refine ⟨fun h => (by cases h), fun _ => ⟨by simp only [rng]; omega, ⟨by omega, by omega, _, hsl2.mono (hle_trans l54 l69), ⟨hix2.iv, hix2.er.mono l69, hix2.el, hix2.eb, (hix2.mono l69).cps, hix2.srt, hr78⟩, hw2, hpa.sorted hsd, ?_, es', hm', hlv'⟩, by dsimp only; omega⟩⟩
    rw [hpa.perm.length_eq, List.length_append, List.length_singleton]
    omega
  · refine ⟨_, tl_Append_ref (e := e) (q0 := n30) (q3N := n34) (q3Xs := xs35) (q4 := n36) hix'.er hix'.el hix'.eb hm hlv hr, ?_⟩
    rintro H54 l54 O56 n57 n58 xs59 A60 n61 xs62 n63 n64 ⟨⟨rfl, rfl, rfl, rfl, rfl, rfl, rfl⟩, rfl, rfl⟩
    refine ⟨fun h => (by simp at h), fun _ => ?_⟩
    have hix2 := hix'.mono l54
    refine ⟨by decide, v, wrap_i64 t1.1 (by omega), by decide, w, wrap_i64 t2.1 (by omega), _, law26_agrees hix2 hw ((hno hr).mono l54), ?_⟩
    rintro H69 l69 O71 n72 n73 xs74 A75 n76 xs77 n78 b79 ⟨⟨rfl, rfl, rfl, rfl, rfl, rfl, rfl⟩, hr78, rfl⟩
    refine ⟨fun h => (by cases h), fun _ => ⟨by simp only [rng]; omega, ⟨by omega, by omega, evs, (hno hr).mono (hle_trans l54 l69), ⟨hix2.iv, hix2.er.mono l69, hix2.el, hix2.eb, (hix2.mono l69).cps, hix2.srt, hr78⟩, hw, hsd, by omega, es, hm, hlv⟩, by dsimp only; omega⟩⟩
end Go.Vc

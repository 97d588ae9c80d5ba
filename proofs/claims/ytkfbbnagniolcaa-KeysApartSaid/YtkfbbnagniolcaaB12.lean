/- KeysApart: the law's text. -/
import Derived.Test.YtkfbbnagniolcaaB11
set_option linter.unusedSectionVars false
set_option linter.unusedSimpArgs false
set_option linter.unusedVariables false
namespace Go.Vc
open Go Go.Proofs Go.Shelf
def nilV (t : Tup) : Tup := ⟨[], t.p, t.lin⟩
theorem tlins_len : ∀ l : List U5, (tlins ((l.map lTup).map nilV)).length = l.length
  | [] => rfl
  | x :: l => by
    have := tlins_len l
    simp only [tlins, List.map_cons, List.flatMap_cons, List.length_append, List.length_cons] at *
    rw [this]
    simp [nilV, lTup]; omega
theorem takeWhile_all {T : Type} {p : T → Bool} : ∀ {l : List T}, (∀ x ∈ l, p x = true) → l.takeWhile p = l ∧ l.dropWhile p = []
  | [], _ => ⟨rfl, rfl⟩
  | x :: l, h => by
    obtain ⟨h1, h2⟩ := takeWhile_all (l := l) fun y hy => h y (by simp [hy])
    have hx := h x (by simp)
    simp [List.takeWhile_cons, List.dropWhile_cons, hx, h1, h2]
theorem viol_one_chain {g : List Kd} (h : ∀ x ∈ g, ∀ y ∈ g, x.key = y.key) : chainV (violL g) := by
  cases g with
  | nil => exact trivial
  | cons k r =>
    obtain ⟨h1, h2⟩ := takeWhile_all (p := sameK k) (l := r) fun x hx => by
      simp only [sameK, decide_eq_true_eq]
      rw [h x (by simp [hx]) k (by simp)]
      exact cmpVs_ord.refl _
    rw [violL_cons, h1, h2]
    show chainV (_ ++ [])
    rw [List.append_nil]
    split
    · exact confl_chain _
    · exact trivial
def an6 : Ann where
  res := fun | 8 => some ⟨false, [(false, [.row 74 42])]⟩ | _ => none
  lend := fun | 69 => true | 73 => true | _ => false
  sch := fun | 10 => (tk [0, 1, 2, 3, 4, 5, 6, 7, 8, 9, 10, 11, 12, 13, 14, 15, 16, 17, 18, 19, 20, 21, 22, 23, 24, 25, 26, 27, 28, 29, 30, 31, 32, 33, 34, 35, 36, 37, 38, 39, 40] (.alt 41 (tk [42, 43, 44] .done) .fin)) | _ => .done
  lt := fun | 3 => [.slot 3 false [.row 75 42], .slot 4 false [.int .i64]] | 8 => [.slot 6 false [.int .i64]] | _ => []
  tup := tups

theorem vc6 (P : Program) (H : Heap) (lA : Option Addr) (lN lC : Nat) (post : Bool → Heap → Prop) :
  vcFn P tab an6 Try.f6 [.slice lA lN lC] 2 H ⟨false, [(false, [.bool])]⟩ post =
  (  ∃ (post0 : Nat → List Value → Heap → Prop), ConT P 18 [.slice lA lN lC, .int .i64 (15 : Int)] H ⟨false, [(false, [.row 74 42])]⟩ post0 ∧ ∀ (H1 : Heap), Heap.le H H1 → ∀ (n3 : Nat) (xs4 :
  List Value), post0 n3 xs4 H1 → ∃ (inv6 : Nat → List Value → Int → Heap → Prop), ∃ (m7 : Nat → List Value → Int → Nat), inv6 n3 xs4 (0 : Int) H1 ∧ ∀ (H8 : Heap), Heap.le H1 H8 → ∀ (n10 :
  Nat) (xs11 : List Value) (n12 : Int), inv6 n10 xs11 n12 H8 → (decide (n12 < (↑n10 : Int)) = true → (0 : Int) ≤ n12 ∧ n12 < (↑n10 : Int) ∧ Int.toNat n12 * 4 + 0 + 1 ≤ List.length xs11 ∧ rng
  .i64 (n12 + (1 : Int)) ∧ inv6 n10 (splice xs11 (Int.toNat n12 * 4 + 0) [.slice none 0 0]) (n12 + (1 : Int)) H8 ∧ m7 n10 (splice xs11 (Int.toNat n12 * 4 + 0) [.slice none 0 0]) (n12 + (1 :
  Int)) < m7 n10 xs11 n12) ∧ (decide (n12 < (↑n10 : Int)) = false → ∀ (A16 : Option Addr) (c17 : Nat) (H18 : Heap), Heap.le H8 H18 → Cells H18 A16 0 xs11 → n10 ≤ c17 → ∀ (A22 : Option Addr)
  (c23 : Nat) (H24 : Heap), Heap.le H18 H24 → Cells H24 A22 0 [.int .i64 (0 : Int)] → 1 ≤ c23 → ∃ (post28 : Option Addr → Nat → Nat → Heap → Prop), ConT P 16 [.slice A16 n10 c17, .slice A22 1
  c23] H24 ⟨false, [(false, [.sl])]⟩ post28 ∧ ∀ (H29 : Heap), Heap.le H24 H29 → ∀ (A31 : Option Addr) (n32 c33 : Nat), post28 A31 n32 c33 H29 → ∃ (inv35 : Int → Heap → Prop), ∃ (m36 : Int →
  Nat), inv35 (1 : Int) H29 ∧ ∀ (H37 : Heap), Heap.le H29 H37 → ∀ (n39 : Int), inv35 n39 H37 → (decide (n39 < (↑n32 : Int)) = true → someA A31 ∧ (0 : Int) ≤ n39 ∧ n39 < (↑n32 : Int) ∧ ∃ (n42
  : Int), Cells H37 A31 (Int.toNat n39 * 3 + 0 + 0) [.int .i64 n42] ∧ rng .i64 (n39 - (1 : Int)) ∧ someA A31 ∧ (0 : Int) ≤ n39 - (1 : Int) ∧ n39 - (1 : Int) < (↑n32 : Int) ∧ ∃ (n43 : Int),
  Cells H37 A31 (Int.toNat (n39 - (1 : Int)) * 3 + 0 + 1) [.int .i64 n43] ∧ (decide (n42 < n43) = true → post false H37) ∧ (decide (n42 < n43) = false → someA A31 ∧ (0 : Int) ≤ n39 ∧ n39 <
  (↑n32 : Int) ∧ ∃ (n46 : Int), Cells H37 A31 (Int.toNat n39 * 3 + 0 + 0) [.int .i64 n46] ∧ rng .i64 (n39 - (1 : Int)) ∧ someA A31 ∧ (0 : Int) ≤ n39 - (1 : Int) ∧ n39 - (1 : Int) < (↑n32 :
  Int) ∧ ∃ (n47 : Int), Cells H37 A31 (Int.toNat (n39 - (1 : Int)) * 3 + 0 + 1) [.int .i64 n47] ∧ (decide (n46 = n47) = true → someA A31 ∧ (0 : Int) ≤ n39 ∧ n39 < (↑n32 : Int) ∧ ∃ (A49 :
  Option Addr), ∃ (n50 : Nat), ∃ (c51 : Nat), Cells H37 A31 (Int.toNat n39 * 3 + 2) [.slice A49 n50 c51] ∧ rng .i64 (n39 - (1 : Int)) ∧ someA A31 ∧ (0 : Int) ≤ n39 - (1 : Int) ∧ n39 - (1 :
  Int) < (↑n32 : Int) ∧ ∃ (A52 : Option Addr), ∃ (n53 : Nat), ∃ (c54 : Nat), Cells H37 A31 (Int.toNat (n39 - (1 : Int)) * 3 + 2) [.slice A52 n53 c54] ∧ ∃ (post55 : Int → Heap → Prop), ConT P
  20 [.slice A49 n50 c51, .slice A52 n53 c54] H37 ⟨false, [(false, [.int .i64])]⟩ post55 ∧ ∀ (H56 : Heap), Heap.le H37 H56 → ∀ (n58 : Int), post55 n58 H56 → (decide (n58 = (0 : Int)) = true →
  post false H56) ∧ (decide (n58 = (0 : Int)) = false → rng .i64 (n39 + (1 : Int)) ∧ inv35 (n39 + (1 : Int)) H56 ∧ m36 (n39 + (1 : Int)) < m36 n39)) ∧ (decide (n46 = n47) = false → rng .i64
  (n39 + (1 : Int)) ∧ inv35 (n39 + (1 : Int)) H37 ∧ m36 (n39 + (1 : Int)) < m36 n39))) ∧ (decide (n39 < (↑n32 : Int)) = false → ∃ (post64 : Bool → Heap → Prop), ConT P 9 [] H37 ⟨false,
  [(false, [.bool])]⟩ post64 ∧ ∀ (H65 : Heap), Heap.le H37 H65 → ∀ (b67 : Bool), post64 b67 H65 → post b67 H65))) := by kernel_rfl
set_option maxHeartbeats 1000000 in
theorem law22_KeysApart {H : Heap} {A : Option Addr} {n c : Nat} {l : List U5} (hs : Sl H A n c l) :
    ConT Try.prog 6 [.slice A n c] H shB (fun r _ => r = true) := by
  refine con_of_vc (an := an6) (fn := Try.f6) mix tabOK Try.func6 (by kernel_rfl) (extra := 2) ?_
  rw [vc6]
  refine ⟨_, law0_Tuples_row (most := 15) hs (by decide), ?_⟩
  rintro H1 l1 k0 xs0 ⟨rfl, hr0⟩
  have hts : (lTups l 15).length ≤ 15 := by simp only [lTups, List.length_map, List.length_take]; omega
  generalize hT : lTups l 15 = ts at hr0 hts
  refine ⟨fun k xs i H' => 0 ≤ i ∧ i ≤ ts.length ∧ k = ts.length ∧ Row H' xs ((ts.take i.toNat).map nilV ++ ts.drop i.toNat), fun _ _ i => ts.length - i.toNat, ⟨by omega, by omega, rfl, by simpa using hr0⟩, ?_⟩
  rintro H8 l8 k xs i ⟨i0, i1, rfl, hr⟩
  have hlen := hr.length
  have hll : ((ts.take i.toNat).map nilV ++ ts.drop i.toNat).length = ts.length := by simp; omega
  refine ⟨fun hlt => ?_, fun hge => ?_⟩
  · have hlt := of_decide_eq_true hlt
    have hi : i.toNat < ts.length := by omega
    have hi' : i.toNat < ((ts.take i.toNat).map nilV ++ ts.drop i.toNat).length := by omega
    have hget : ((ts.take i.toNat).map nilV ++ ts.drop i.toNat)[i.toNat] = ts[i.toNat] := by
      rw [List.getElem_append_right (by simp; omega)]
      simp
      congr 1; omega
    obtain ⟨vs, hrel, -, hsp⟩ := hr.getf hi'
    rw [hget] at hrel
    obtain ⟨A1, n1, c1, B1, m1, d1, rfl, q1, q2, q3, q4⟩ := hrel
    have e1 : (i + 1).toNat = i.toNat + 1 := by omega
    have hnew := hsp 0 [.slice none 0 0] (nilV ts[i.toNat]) (by show 0 + 1 ≤ 4; omega) ⟨none, 0, 0, B1, m1, d1, rfl, Sl.nil, q2, q3, q4⟩
    have hset : ((ts.take i.toNat).map nilV ++ ts.drop i.toNat).set i.toNat (nilV ts[i.toNat]) = (ts.take (i + 1).toNat).map nilV ++ ts.drop (i + 1).toNat := by
      have hml : ((ts.take i.toNat).map nilV).length = i.toNat := by simp; omega
      rw [List.set_append_right _ _ (by omega), hml, Nat.sub_self, List.drop_eq_getElem_cons hi, List.set_cons_zero, e1, List.take_succ_eq_append_getElem hi, List.map_append, List.append_assoc]
      rfl
    rw [hset] at hnew
    refine ⟨i0, hlt, ?_, by simp only [rng]; omega, ⟨by omega, by omega, rfl, hnew⟩, by dsimp only; omega⟩
    rw [hlen, hll]
    show i.toNat * 4 + 0 + 1 ≤ ts.length * 4
    omega
  · have hge := of_decide_eq_false hge
    rw [List.take_of_length_le (by omega), List.drop_eq_nil_of_le (by omega), List.append_nil] at hr
    intro A16 c17 H18 l18 hc18 hn18 A22 c23 H24 l24 hc24 hn24
    have hcol : Sl H24 A22 1 c23 [(0 : Int)] := Row.sl (H := H24) (T := Int) (l := [0]) ⟨[_], [], rfl, ⟨rfl, by decide⟩, rfl⟩ (hle_refl _) hc24 rfl hn24 (by decide) (by decide)
    have hlin : (tlins (ts.map nilV)).length ≤ 15 := by
      rw [← hT, lTups, tlins_len, List.length_take]; omega
    have htp : Sl H24 A16 ts.length c17 (ts.map nilV) := (hr.sl l18 hc18 (by simp) hn18 (by show ts.length * 64 ≤ _; omega) (by omega)).mono l24
    refine ⟨_, keys_Violations htp hcol (by decide) (by omega) (by omega), ?_⟩
    rintro H29 l29 A31 n32 c33 ⟨g, g1, g2, hv⟩
    have hchain : chainV (violL g) := by
      refine viol_one_chain fun x hx y hy => ?_
      have key : ∀ z ∈ g, z.key = [val0] := by
        intro z hz
        have := (g1.mem_iff).1 hz
        simp only [byKeyL, List.mem_map, List.mem_filter] at this
        obtain ⟨t, ⟨⟨u, _, rfl⟩, _⟩, rfl⟩ := this
        rfl
      rw [key x hx, key y hy]
    have hvl := hv.len
    refine ⟨fun i _ => 1 ≤ i, fun i => n32 - i.toNat, by omega, ?_⟩
    rintro H37 l37 i hi1
    have hvb := hv.bn
    refine ⟨fun hlt => ?_, fun hge => ⟨_, law22_awake, fun _ _ _ h => h⟩⟩
    have hlt := of_decide_eq_true hlt
    obtain ⟨hi, hA, _, hc, ⟨A1, n1, c1, rfl, q1, q2, q3⟩⟩ := hv.at l37 (i := i) (by omega) hlt
    obtain ⟨hj, hA', _, hd, ⟨A2, n2, c2, rfl, p1, p2, p3⟩⟩ := hv.at l37 (i := i - 1) (by omega) (by omega)
    have hap := chainV_get _ hchain (i - 1).toNat (by omega)
    have eij : (i - 1).toNat + 1 = i.toNat := by omega
    simp only [eij] at hap
    refine ⟨hA, by omega, hlt, _, hc.at1 (k := 0) rfl, by simp only [rng]; omega, hA', by omega, by omega, _, hd.at1 (k := 1) rfl, fun hbad => ?_, fun _ => ⟨hA, by omega, hlt, _, hc.at1 (k := 0) rfl, by simp only [rng]; omega, hA', by omega, by omega, _, hd.at1 (k := 1) rfl, fun heq => ?_, fun _ => ⟨by simp only [rng]; omega, by omega, by dsimp only; omega⟩⟩⟩
    · have hbad := of_decide_eq_true hbad
      have := hap.1
      omega
    · have heq := of_decide_eq_true heq
      refine ⟨hA, by omega, hlt, _, _, _, hc.at1 (k := 2) rfl, by simp only [rng]; omega, hA', by omega, by omega, _, _, _, hd.at1 (k := 2) rfl, _, ref6_CompareInts q3 p3, ?_⟩
      rintro H56 l56 _ rfl
      refine ⟨fun hz => ?_, fun _ => ⟨by simp only [rng]; omega, by omega, by dsimp only; omega⟩⟩
      have hz := of_decide_eq_true hz
      exact absurd ⟨heq.symm, (cmpI_ord.lex.eq _ _ hz).symm⟩ hap.2
end Go.Vc

/- The reference's side; the law's helpers. -/
import Derived.Test.YtdgcjfnpfpbcfaaGreatDoorGJV22
set_option linter.unusedSectionVars false
set_option linter.unusedSimpArgs false
set_option linter.unusedVariables false
namespace Go.Vc
open Go Go.Proofs Go.Shelf
def an13 : Ann where
  res := fun _ => none
  lend := fun _ => false
  sch := fun _ => .done
  lt := fun _ => []
  tup := tups

theorem vc13 (P : Program) (H : Heap) (lA : Option Addr) (lN lC : Nat) (colsA : Option Addr) (colsN colsC : Nat) (keyA : Option Addr) (keyN keyC : Nat) (post : Option Addr → Nat → Nat → Heap → Prop) :
  vcFn P tab an13 Tryz.f13 [.slice lA lN lC, .slice colsA colsN colsC, .slice keyA keyN keyC] 0 H ⟨false, [(false, [.sl])]⟩ post =
  (  ∃ (post0 : Option Addr → Nat → Nat → Heap → Prop), ConT P 28 [.slice lA lN lC, .slice colsA colsN colsC, .slice keyA keyN keyC] H ⟨false, [(false, [.sl])]⟩ post0 ∧ ∀ (H1 : Heap), Heap.le H
  H1 → ∀ (A3 : Option Addr) (n4 c5 : Nat), post0 A3 n4 c5 H1 → ∃ (post7 : Option Addr → Nat → Nat → Heap → Prop), ConT P 34 [.slice A3 n4 c5] H1 ⟨false, [(false, [.sl])]⟩ post7 ∧ ∀ (H8 :
  Heap), Heap.le H1 H8 → ∀ (A10 : Option Addr) (n11 c12 : Nat), post7 A10 n11 c12 H8 → post A10 n11 c12 H8) := by kernel_rfl
theorem ref21_Covered {H : Heap} {A B C : Option Addr} {n c m d k e : Nat} {l : List Tup} {cols : List Int} {key : List Val} (hs : Sl H A n c l) (ht : Sl H B m d cols) (hu : Sl H C k e key) (hb : m * 32 ≤ 140737488355328) :
    ConT Tryz.prog 13 [.slice A n c, .slice B m d, .slice C k e] H shS (fun A' n' c' H' => Sl H' A' n' c' (covL l cols key)) := by
  refine con_of_vc (an := an13) (fn := Tryz.f13) mix tabOK Tryz.func13 (by kernel_rfl) (extra := 0) ?_
  rw [vc13]
  refine ⟨_, ref21_withKey hs ht hu hb, fun H1 l1 A1 n1 c1 h1 => ⟨_, ref9_Coverage h1, fun H2 l2 A2 n2 c2 h2 => ?_⟩⟩
  rw [cov_withK] at h2
  exact h2
def an24 : Ann where
  res := fun _ => none
  lend := fun | 17 => true | _ => false
  sch := fun _ => .done
  lt := fun | 2 => [.slot 5 false [.int .i64]] | _ => []
  tup := tups

theorem vc24 (P : Program) (H : Heap) (sA : Option Addr) (sN sC : Nat) (t : Int) (post : Bool → Heap → Prop) :
  vcFn P tab an24 Tryz.f24 [.slice sA sN sC, .int .i64 t] 0 H ⟨false, [(false, [.bool])]⟩ post =
  (  ∃ (inv0 : Int → Heap → Prop), ∃ (m1 : Int → Nat), inv0 (0 : Int) H ∧ ∀ (H2 : Heap), Heap.le H H2 → ∀ (n4 : Int), inv0 n4 H2 → (decide (n4 < (↑sN : Int)) = true → someA sA ∧ (0 : Int) ≤ n4 ∧
  n4 < (↑sN : Int) ∧ ∃ (n7 : Int), ∃ (n8 : Int), Cells H2 sA (Int.toNat n4 * 2) [.int .i64 n7, .int .i64 n8] ∧ ∃ (post9 : Bool → Heap → Prop), ConT P 47 [.agg ⟨[.int .i64 n7, .int .i64 n8]⟩,
  .int .i64 t] H2 ⟨false, [(false, [.bool])]⟩ post9 ∧ ∀ (H10 : Heap), Heap.le H2 H10 → ∀ (b12 : Bool), post9 b12 H10 → (b12 = true → post true H10) ∧ (b12 = false → rng .i64 (n4 + (1 : Int))
  ∧ inv0 (n4 + (1 : Int)) H10 ∧ m1 (n4 + (1 : Int)) < m1 n4)) ∧ (decide (n4 < (↑sN : Int)) = false → post false H2)) := by kernel_rfl
theorem ref1_IncludesSet {H : Heap} {A : Option Addr} {n c : Nat} {l : List Per} {t : Int} (hs : Sl H A n c l) :
    ConT Tryz.prog 24 [.slice A n c, .int .i64 t] H shB (fun r _ => r = inSet l t) := by
  refine con_of_vc (an := an24) (fn := Tryz.f24) mix tabOK Tryz.func24 (by kernel_rfl) (extra := 0) ?_
  rw [vc24]
  have b1 := hs.bn; have b2 := hs.len
  refine ⟨fun i _ => 0 ≤ i ∧ i ≤ n ∧ inSet l t = inSet (l.drop i.toNat) t, fun i => n - i.toNat, ⟨by omega, by omega, rfl⟩, ?_⟩
  rintro H2 hle i ⟨h0, h1, h2⟩
  refine ⟨fun hlt => ?_, fun hge => ?_⟩
  · have hlt := of_decide_eq_true hlt
    obtain ⟨hi, hA, _, hc, ⟨rfl, r1, r2⟩⟩ := hs.at hle h0 hlt
    rw [drop_at h0 hi, inSet_cons] at h2
    refine ⟨hA, h0, hlt, _, _, hc, _, ref1_Includes, ?_⟩
    rintro H3 l3 _ rfl
    refine ⟨fun hp => ?_, fun hp => ?_⟩
    · have hp : pIn l[i.toNat] t = true := hp
      rw [h2, hp, Bool.true_or]
    · have hp : pIn l[i.toNat] t = false := hp
      rw [hp, Bool.false_or] at h2
      exact ⟨by simp only [rng]; omega, ⟨by omega, by omega, h2⟩, by dsimp only; omega⟩
  · rw [drop_end (of_decide_eq_false hge) b2] at h2
    rw [h2]; rfl
theorem refV_step {S A : List Tup} {f t : Int} {ps : List Int} {w : List Vio} : accF (fkF S A) (f :: t :: ps) w = accF (fkF S A) (t :: ps) (if (S.filter (inT f)).length = 0 then w else if (A.filter (inT f)).length = 0 then extV w ⟨⟨f, t⟩, canon (tlins (S.filter (inT f)))⟩ else w) := by
  rw [accF]
  congr 1
  unfold fkF
  by_cases h1 : (S.filter (inT f)).length = 0
  · rw [if_pos h1, if_pos h1]
  · rw [if_neg h1, if_neg h1]
    by_cases h2 : (A.filter (inT f)).length = 0
    · rw [if_pos h2, if_pos h2]
    · rw [if_neg h2, if_neg h2]
def an10 : Ann where
  res := fun | 97 => some ⟨false, [(false, [.row 99 53])]⟩ | _ => none
  lend := fun _ => false
  mt := fun | 31 => some false | _ => none
  sch := fun | 7 => (tk [0, 1, 2, 3, 4, 5, 6, 8, 9, 10, 11, 12, 13, 14] (.alt 7 (.alt 15 (tk [16, 17] .done) .fin) .fin)) | 15 => (tk [0, 1, 2, 3, 4, 5, 6, 7, 8, 9, 10, 11, 12] (.alt 13 (tk [14] .done) .fin)) | _ => .done
  lt := fun | 4 => [.slot 9 false [.row 100 53], .slot 11 false [.int .i64]] | 10 => [.slot 9 false [.row 101 53], .slot 16 false [.int .i64]] | _ => []
  tup := tups

theorem vc10 (P : Program) (H : Heap) (childA : Option Addr) (childN childC : Nat) (p1A : Option Addr) (p1N p1C : Nat) (p2A : Option Addr) (p2N p2C : Nat) (p3A : Option Addr) (p3N p3C : Nat) (post : Option Addr → Nat → Nat → Heap → Prop) :
  vcFn P tab an10 Tryz.f10 [.slice childA childN childC, .slice p1A p1N p1C, .slice p2A p2N p2C, .slice p3A p3N p3C] 3 H ⟨false, [(false, [.sl])]⟩ post =
  (  ∃ (post0 : Option Addr → Nat → Nat → Heap → Prop), ConT P 27 [.slice childA childN childC, .slice p2A p2N p2C] H ⟨false, [(false, [.sl])]⟩ post0 ∧ ∀ (H1 : Heap), Heap.le H H1 → ∀ (A3 :
  Option Addr) (n4 c5 : Nat), post0 A3 n4 c5 H1 → ∃ (inv7 : Nat → List Value → Int → Heap → Prop), ∃ (m8 : Nat → List Value → Int → Nat), inv7 0 [] (0 : Int) H1 ∧ ∀ (H9 : Heap), Heap.le H1 H9
  → ∀ (n11 : Nat) (xs12 : List Value) (n13 : Int), inv7 n11 xs12 n13 H9 → (decide (n13 < (↑n4 : Int)) = true → someA A3 ∧ (0 : Int) ≤ n13 ∧ n13 < (↑n4 : Int) ∧ ∃ (A16 : Option Addr), ∃ (n17 :
  Nat), ∃ (c18 : Nat), Cells H9 A3 (Int.toNat n13 * 2 + 0) [.slice A16 n17 c18] ∧ someA A3 ∧ (0 : Int) ≤ n13 ∧ n13 < (↑n4 : Int) ∧ ∃ (A19 : Option Addr), ∃ (n20 : Nat), ∃ (c21 : Nat), Cells
  H9 A3 (Int.toNat n13 * 2 + 0) [.slice A19 n20 c21] ∧ ∃ (post22 : Option Addr → Nat → Nat → Heap → Prop), ConT P 28 [.slice childA childN childC, .slice p2A p2N p2C, .slice A16 n17 c18] H9
  ⟨false, [(false, [.sl])]⟩ post22 ∧ ∀ (H23 : Heap), Heap.le H9 H23 → ∀ (A25 : Option Addr) (n26 c27 : Nat), post22 A25 n26 c27 H23 → ∃ (post29 : Option Addr → Nat → Nat → Heap → Prop), ConT
  P 28 [.slice p1A p1N p1C, .slice p3A p3N p3C, .slice A19 n20 c21] H23 ⟨false, [(false, [.sl])]⟩ post29 ∧ ∀ (H30 : Heap), Heap.le H23 H30 → ∀ (A32 : Option Addr) (n33 c34 : Nat), post29 A32
  n33 c34 H30 → ∃ (ys36 : List Value), Cells H30 A25 0 ys36 ∧ List.length ys36 = n26 * 4 ∧ n26 * 64 ≤ 140737488355328 ∧ ∃ (ys37 : List Value), Cells H30 A32 0 ys37 ∧ List.length ys37 = n33 *
  4 ∧ (n26 + n33) * 64 ≤ 140737488355328 ∧ ∀ (A38 : Option Addr) (c39 : Nat) (H40 : Heap), Heap.le H30 H40 → Cells H40 A38 0 (ys36 ++ ys37) → n26 + n33 ≤ c39 → ∃ (post44 : Option Addr → Nat →
  Nat → Heap → Prop), ConT P 29 [.slice A38 (n26 + n33) c39] H40 ⟨false, [(false, [.sl])]⟩ post44 ∧ ∀ (H45 : Heap), Heap.le H40 H45 → ∀ (A47 : Option Addr) (n48 c49 : Nat), post44 A47 n48 c49
  H45 → ∃ (inv51 : Nat → List Value → Int → Heap → Prop), ∃ (m52 : Nat → List Value → Int → Nat), inv51 n11 xs12 (0 : Int) H45 ∧ ∀ (H53 : Heap), Heap.le H45 H53 → ∀ (n55 : Nat) (xs56 : List
  Value) (n57 : Int), inv51 n55 xs56 n57 H53 → rng .i64 (n57 + (1 : Int)) ∧ (decide (n57 + (1 : Int) < (↑n48 : Int)) = true → someA A47 ∧ (0 : Int) ≤ n57 ∧ n57 < (↑n48 : Int) ∧ ∃ (n60 : Int),
  Cells H53 A47 (Int.toNat n57 * 1) [.int .i64 n60] ∧ ∃ (post61 : Int → Option Addr → Nat → Nat → Heap → Prop), ConT P 30 [.slice A25 n26 c27, .int .i64 n60] H53 ⟨true, [(false, [.int .i64]),
  (false, [.sl])]⟩ post61 ∧ ∀ (H62 : Heap), Heap.le H53 H62 → ∀ (n64 : Int) (A65 : Option Addr) (n66 c67 : Nat), post61 n64 A65 n66 c67 H62 → someA A47 ∧ (0 : Int) ≤ n57 ∧ n57 < (↑n48 : Int)
  ∧ ∃ (n69 : Int), Cells H62 A47 (Int.toNat n57 * 1) [.int .i64 n69] ∧ ∃ (post70 : Int → Option Addr → Nat → Nat → Heap → Prop), ConT P 30 [.slice A32 n33 c34, .int .i64 n69] H62 ⟨true,
  [(false, [.int .i64]), (false, [.sl])]⟩ post70 ∧ ∀ (H71 : Heap), Heap.le H62 H71 → ∀ (n73 : Int) (A74 : Option Addr) (n75 c76 : Nat), post70 n73 A74 n75 c76 H71 → (decide ((0 : Int) < n64)
  = true → (decide (n73 = (0 : Int)) = true → someA A47 ∧ (0 : Int) ≤ n57 ∧ n57 < (↑n48 : Int) ∧ ∃ (n80 : Int), Cells H71 A47 (Int.toNat n57 * 1) [.int .i64 n80] ∧ rng .i64 (n57 + (1 : Int))
  ∧ someA A47 ∧ (0 : Int) ≤ n57 + (1 : Int) ∧ n57 + (1 : Int) < (↑n48 : Int) ∧ ∃ (n81 : Int), Cells H71 A47 (Int.toNat (n57 + (1 : Int)) * 1) [.int .i64 n81] ∧ ∃ (post82 : List Value → Nat →
  List Value → Heap → Prop), ConM P 31 [.slice none 0 0, .int .i64 (↑n11 : Int), .agg ⟨[.int .i64 n80, .int .i64 n81]⟩, .slice A65 n66 c67] 0 53 n55 xs56 false H71 ⟨false, [(false, [.row 99
  53])]⟩ post82 ∧ ∀ (H83 : Heap), Heap.le H71 H83 → ∀ (ys85 : List Value) (n86 : Nat) (xs87 : List Value), post82 ys85 n86 xs87 H83 → rng .i64 (n57 + (1 : Int)) ∧ inv51 n86 xs87 (n57 + (1 :
  Int)) H83 ∧ m52 n86 xs87 (n57 + (1 : Int)) < m52 n55 xs56 n57) ∧ (decide (n73 = (0 : Int)) = false → rng .i64 (n57 + (1 : Int)) ∧ inv51 n55 xs56 (n57 + (1 : Int)) H71 ∧ m52 n55 xs56 (n57 +
  (1 : Int)) < m52 n55 xs56 n57)) ∧ (decide ((0 : Int) < n64) = false → rng .i64 (n57 + (1 : Int)) ∧ inv51 n55 xs56 (n57 + (1 : Int)) H71 ∧ m52 n55 xs56 (n57 + (1 : Int)) < m52 n55 xs56 n57))
  ∧ (decide (n57 + (1 : Int) < (↑n48 : Int)) = false → rng .i64 (n13 + (1 : Int)) ∧ inv7 n55 xs56 (n13 + (1 : Int)) H53 ∧ m8 n55 xs56 (n13 + (1 : Int)) < m8 n11 xs12 n13)) ∧ (decide (n13 <
  (↑n4 : Int)) = false → ∀ (A93 : Option Addr) (c94 : Nat) (H95 : Heap), Heap.le H9 H95 → Cells H95 A93 0 xs12 → n11 ≤ c94 → post A93 n11 c94 H95)) := by kernel_rfl
set_option maxRecDepth 100000 in
set_option maxHeartbeats 2000000 in
theorem ref21_FKViolations {H : Heap} {A B C D : Option Addr} {n c m d k e p q : Nat} {child parent : List Tup} {cols ref : List Int} (h1 : Sl H A n c child) (h2 : Sl H B m d parent) (h3 : Sl H C k e cols) (h4 : Sl H D p q ref) (hf1 : Fit child cols) (hf2 : Fit parent ref) :
    ConT Tryz.prog 10 [.slice A n c, .slice B m d, .slice C k e, .slice D p q] H shS (fun A' n' c' H' => Sl H' A' n' c' (fkAll child parent cols ref)) := by
  refine con_of_vc (an := an10) (fn := Tryz.f10) mix tabOK Tryz.func10 (by kernel_rfl) (extra := 3) ?_
  rw [vc10]
  have f1 := hf1.few; have f2 := hf2.few; have c1 := hf1.clen; have c2 := hf2.clen; have i1 := hf1.lins; have i2 := hf2.lins
  have e3 := h3.len; have e4 := h4.len; have e1 := h1.len; have e2 := h2.len
  refine ⟨_, ref21_keysOf h1 h3 (by omega) (by omega), ?_⟩
  rintro H1 l1 A3 n4 c5 ⟨rs, hrs, hn4, hasc, hmem⟩
  have hrl := hrs.len
  have hvs := keyList_eq hasc hmem
  have hkn := keyList_len child cols
  generalize hF : (fun v => refV (withK child cols v) (withK parent ref v)) = F
  have hall : fkAll child parent cols ref = (keyList child cols).flatMap F := by subst hF; rfl
  have hFl : ∀ v, (F v).length ≤ 80 := fun v => by
    subst hF
    have b1 := refV_len (withK child cols v) (withK parent ref v)
    have b2 := withK_len child cols v; have b3 := withK_len parent ref v
    simp only; omega
  rw [hall]
  generalize keyList child cols = vs at hvs hkn
  have hvl : vs.length = n4 := by rw [← hvs, List.length_map, hrl]
  have hvat : ∀ i (h : i < rs.length) (h' : i < vs.length), vs[i] = rs[i].vals := by intro i h h'; subst hvs; simp
  refine ⟨fun u xs i H' => 0 ≤ i ∧ i ≤ n4 ∧ Row H' xs ((vs.take i.toNat).flatMap F) ∧ u = ((vs.take i.toNat).flatMap F).length ∧ u ≤ i.toNat * 80, fun _ _ i => n4 - i.toNat, ⟨by omega, by omega, rfl, rfl, by omega⟩, ?_⟩
  rintro H9 l9 u xs i ⟨i0, i1', hr, hu, hub⟩
  have hub0 : i.toNat * 80 ≤ 20 * 80 := Nat.mul_le_mul (by omega) (Nat.le_refl _)
  refine ⟨fun hlt => ?_, fun hge => ?_⟩
  · have hlt := of_decide_eq_true hlt
    obtain ⟨hi, hA, _, hc, ⟨A9, n9, c9, B9, m9, d9, rfl, q1, q2⟩⟩ := hrs.at l9 i0 hlt
    have hi' : i.toNat < vs.length := by omega
    rw [← hvat _ hi hi'] at q1
    have e1' : (i + 1).toNat = i.toNat + 1 := by omega
    have hsu : (vs.take (i + 1).toNat).flatMap F = (vs.take i.toNat).flatMap F ++ F vs[i.toNat] := by
      rw [e1', List.take_succ_eq_append_getElem hi', List.flatMap_append]; simp
    have hFv := hFl vs[i.toNat]
    have hFd : F vs[i.toNat] = refV (withK child cols vs[i.toNat]) (withK parent ref vs[i.toNat]) := by subst hF; rfl
    generalize vs[i.toNat] = v at q1 hsu hFv hFd
    have l19 := hle_trans l1 l9
    refine ⟨hA, i0, hlt, _, _, _, hc.at1 (k := 0) rfl, hA, i0, hlt, _, _, _, hc.at1 (k := 0) rfl, _, ref21_withKey (h1.mono l19) (h3.mono l19) q1 (by omega), ?_⟩
    intro H23 l23 A25 n26 c27 hw
    refine ⟨_, ref21_withKey ((h2.mono l19).mono l23) ((h4.mono l19).mono l23) (q1.mono l23) (by omega), ?_⟩
    intro H30 l30 A32 n33 c34 hw2
    have hw := hw.mono l30
    have hwl := hw.len; have hwl2 := hw2.len
    have hb1 := withK_len child cols v; have hb2 := withK_len parent ref v
    have hx1 := withK_lins child cols v; have hx2 := withK_lins parent ref v
    generalize withK child cols v = S at hw hwl hb1 hx1 hFd
    generalize withK parent ref v = P at hw2 hwl2 hb2 hx2 hFd
    obtain ⟨ys, y1, y2⟩ := hw.row
    obtain ⟨zs, z1, z2⟩ := hw2.row
    refine ⟨ys, y1, by rw [y2.length, hwl]; rfl, by omega, zs, z1, by rw [z2.length, hwl2]; rfl, by omega, ?_⟩
    intro A38 c39 H40 l40 hc40 hn40
    have hboth : Sl H40 A38 (n26 + n33) c39 (S ++ P) := (y2.append z2).sl l40 hc40 (by rw [List.length_append, hwl, hwl2]) hn40 (by show (n26 + n33) * 64 ≤ _; omega) (by omega)
    refine ⟨_, ref9_Boundaries hboth, ?_⟩
    intro H45 l45 A47 n48 c49 hp
    have hF2 : F v = accF (fkF S P) (canon (tends (S ++ P))) [] := hFd
    have hpl := hp.len; have hpb := hp.bn
    have hpn : n48 ≤ 80 := by
      have a2 := canon_len (tends (S ++ P)); have a3 := tends_len (S ++ P)
      rw [List.length_append] at a3
      omega
    have l3045 := hle_trans l40 l45
    generalize hP : canon (tends (S ++ P)) = ps at hp hF2 hpl
    generalize hO : (vs.take i.toNat).flatMap F = O0 at hr hu hsu
    subst hu
    refine ⟨fun k2 xs2 j H' => 0 ≤ j ∧ (j ≤ n48 ∨ n48 = 0 ∧ j = 0) ∧ ∃ w : List Vio, Row H' xs2 (O0 ++ w) ∧ k2 = (O0 ++ w).length ∧ w.length ≤ j.toNat ∧ F v = accF (fkF S P) (ps.drop j.toNat) w, fun _ _ j => n48 - j.toNat,
      ⟨by omega, by omega, [], by simpa using (hr.mono (hle_trans l23 (hle_trans l30 l3045))), by simp, by simp, by simpa using hF2⟩, ?_⟩
    rintro H53 l53 k2 xs2 j ⟨j0, j1, w, hw3, rfl, hwj, he⟩
    have hjr : rng .i64 (j + 1) := by simp only [rng]; omega
    refine ⟨hjr, fun hlj => ?_, fun hgj => ?_⟩
    · have hlj := of_decide_eq_true hlj
      have hj : j.toNat < ps.length := by omega
      have hj1 : j.toNat + 1 < ps.length := by omega
      obtain ⟨_, hB, _, hd, ⟨rfl, r1⟩⟩ := hp.at l53 j0 (by omega)
      obtain ⟨_, hB1, _, hd1, ⟨rfl, r2⟩⟩ := hp.at l53 (i := j + 1) (by omega) hlj
      have e2 : (j + 1).toNat = j.toNat + 1 := by omega
      simp only [e2] at hd1 r2
      have hdr : ps.drop j.toNat = ps[j.toNat] :: ps[j.toNat + 1] :: ps.drop (j.toNat + 1 + 1) := by
        rw [List.drop_eq_getElem_cons hj, List.drop_eq_getElem_cons hj1]
      have hdr1 : ps.drop (j.toNat + 1) = ps[j.toNat + 1] :: ps.drop (j.toNat + 1 + 1) := List.drop_eq_getElem_cons hj1
      generalize hf : ps[j.toNat] = f at *
      generalize ht' : ps[j.toNat + 1] = t at *
      rw [hdr, refV_step] at he
      have l3053 := hle_trans l3045 l53
      refine ⟨hB, j0, by omega, _, hd, _, ref21_holding (hw.mono l3053) (by omega), ?_⟩
      rintro H62 l62 n64 A65 n66 c67 ⟨rfl, hids⟩
      refine ⟨hB, j0, by omega, _, hd.mono l62, _, ref21_holding ((hw2.mono l3053).mono l62) (by omega), ?_⟩
      rintro H71 l71 n73 A74 n75 c76 ⟨rfl, -⟩
      have l5371 := hle_trans l62 l71
      have stay : F v = accF (fkF S P) (t :: ps.drop (j.toNat + 1 + 1)) w → rng .i64 (j + 1) ∧ (0 ≤ j + 1 ∧ (j + 1 ≤ n48 ∨ n48 = 0 ∧ j + 1 = 0) ∧ ∃ w : List Vio, Row H71 xs2 (O0 ++ w) ∧ (O0 ++ w).length = (O0 ++ w).length ∧ w.length ≤ (j + 1).toNat ∧ F v = accF (fkF S P) (ps.drop (j + 1).toNat) w) ∧ n48 - (j + 1).toNat < n48 - j.toNat :=
        fun he => ⟨hjr, ⟨by omega, by omega, w, hw3.mono l5371, rfl, by omega, by rw [e2, hdr1]; exact he⟩, by omega⟩
      refine ⟨fun hz => ?_, fun hz => ?_⟩
      · have hz := of_decide_eq_true hz
        rw [if_neg (by omega)] at he
        refine ⟨fun hy => ?_, fun hy => ?_⟩
        · have hy := of_decide_eq_true hy
          rw [if_pos (by omega)] at he
          have hext := ref21_extend (r := 99) (v := ⟨⟨f, t⟩, canon (tlins (S.filter (inT f)))⟩) (first := (O0.length : Int)) (hw3.mono l5371) rfl (by omega) (by simp only [List.length_append]; omega) r1 r2 (hids.mono l71)
          rw [extR_at] at hext
          refine ⟨hB, j0, by omega, _, hd.mono l5371, hjr, hB1, by omega, hlj, _, by rw [e2]; exact hd1.mono l5371, _, hext, ?_⟩
          rintro H83 l83 ys85 n86 xs87 ⟨rfl, hx⟩
          have hxl := extV_len w ⟨⟨f, t⟩, canon (tlins (S.filter (inT f)))⟩
          exact ⟨hjr, ⟨by omega, by omega, _, hx, rfl, by omega, by rw [e2, hdr1]; exact he⟩, by dsimp only; omega⟩
        · have hy := of_decide_eq_false hy
          rw [if_neg (by omega)] at he
          obtain ⟨s1, ⟨s2, s3, w', s4, -, s6, s7⟩, s8⟩ := stay he
          exact ⟨hjr, ⟨by omega, by omega, w, hw3.mono l5371, rfl, by omega, by rw [e2, hdr1]; exact he⟩, by dsimp only; omega⟩
      · have hz := of_decide_eq_false hz
        rw [if_pos (by omega)] at he
        exact ⟨hjr, ⟨by omega, by omega, w, hw3.mono l5371, rfl, by omega, by rw [e2, hdr1]; exact he⟩, by dsimp only; omega⟩
    · have hgj := of_decide_eq_false hgj
      have hend : F v = w := by
        rw [he]
        have : (ps.drop j.toNat).length ≤ 1 := by rw [List.length_drop]; omega
        match ps.drop j.toNat, this with
        | [], _ => rfl
        | [x], _ => rfl
      rw [hend] at hsu hFv
      refine ⟨by simp only [rng]; omega, ⟨by omega, by omega, by rw [hsu]; exact hw3, by rw [hsu], by simp only [List.length_append]; omega⟩, by dsimp only; omega⟩
  · have hge := of_decide_eq_false hge
    have hall : vs.take i.toNat = vs := List.take_of_length_le (by omega)
    rw [hall] at hr hu
    intro A2 c2 H2 l2 hc2 hn2
    exact hr.sl l2 hc2 hu.symm hn2 (by show u * 40 ≤ _; omega) (by omega)
/- the law's helpers -/
def an26 : Ann where
  res := fun _ => none
  lend := fun _ => false
  sch := fun _ => .done
  lt := fun _ => []
  tup := tups

theorem vc26 (P : Program) (H : Heap) (from0 : Int) (to0 : Int) (id : Int) (post : Option Addr → Nat → Nat → Int → Int → Option Addr → Nat → Nat → Heap → Prop) :
  vcFn P tab an26 Tryz.f26 [.int .i64 from0, .int .i64 to0, .int .i64 id] 0 H ⟨false, [(true, [.sl, .int .i64, .int .i64, .sl])]⟩ post =
  (  ∃ (post0 : Option Addr → Nat → Nat → Heap → Prop), ConT P 20 [.int .u16 (0 : Int), .int .u16 (0 : Int)] H ⟨false, [(false, [.sl])]⟩ post0 ∧ ∀ (H1 : Heap), Heap.le H H1 → ∀ (A3 : Option
  Addr) (n4 c5 : Nat), post0 A3 n4 c5 H1 → ∀ (A7 : Option Addr) (c8 : Nat) (H9 : Heap), Heap.le H1 H9 → Cells H9 A7 0 [.int .i64 id] → 1 ≤ c8 → post A3 n4 c5 from0 to0 A7 1 c8 H9) := by kernel_rfl
theorem law23_row {H : Heap} {lo hi id : Int} (h1 : rng .i64 lo) (h2 : rng .i64 hi) (h3 : rng .i64 id) :
    ConT Tryz.prog 26 [.int .i64 lo, .int .i64 hi, .int .i64 id] H ⟨false, [(true, [.sl, .int .i64, .int .i64, .sl])]⟩ (fun A n c a b B m d H' => Rep.rel H' [.slice A n c, .int .i64 a, .int .i64 b, .slice B m d] (⟨[lv0 0, lv1 0], ⟨lo, hi⟩, [id]⟩ : Tup)) := by
  refine con_of_vc (an := an26) (fn := Tryz.f26) mix tabOK Tryz.func26 (by kernel_rfl) (extra := 0) ?_
  rw [vc26]
  refine ⟨_, law0_Vals (x := 0) (y := 0) (by decide) (by decide), ?_⟩
  intro H1 l1 A3 n4 c5 h4 A7 c8 H9 l9 hc9 hn9
  exact ⟨_, _, _, _, _, _, rfl, h4.mono l9, h1, h2, Row.sl (H := H9) (T := Int) (l := [id]) ⟨[_], [], rfl, ⟨rfl, h3⟩, rfl⟩ (hle_refl _) hc9 rfl hn9 (by decide) (by decide)⟩
def colsOf (x : Int) : List Int := if x.tmod 4 = 0 then [0] else if x.tmod 4 = 1 then [1] else if x.tmod 4 = 2 then [0, 1] else [1, 0]
theorem colsOf_len (x : Int) : (colsOf x).length ≤ 2 := by
  unfold colsOf
  split
  · decide
  · split
    · decide
    · split <;> decide
def an18 : Ann where
  res := fun _ => none
  lend := fun _ => false
  sch := fun _ => .done
  lt := fun _ => []
  tup := tups

theorem vc18 (P : Program) (H : Heap) (x : Int) (post : Option Addr → Nat → Nat → Heap → Prop) :
  vcFn P tab an18 Tryz.f18 [.int .u16 x] 0 H ⟨false, [(false, [.sl])]⟩ post =
  (  ∀ (A0 : Option Addr) (c1 : Nat) (H2 : Heap), Heap.le H H2 → Cells H2 A0 0 [.int .i64 (0 : Int)] → 1 ≤ c1 → ∀ (A6 : Option Addr) (c7 : Nat) (H8 : Heap), Heap.le H2 H8 → Cells H8 A6 0 [.int
  .i64 (1 : Int)] → 1 ≤ c7 → ∀ (A12 : Option Addr) (c13 : Nat) (H14 : Heap), Heap.le H8 H14 → Cells H14 A12 0 [.int .i64 (0 : Int), .int .i64 (1 : Int)] → 2 ≤ c13 → ∀ (A18 : Option Addr) (c19
  : Nat) (H20 : Heap), Heap.le H14 H20 → Cells H20 A18 0 [.int .i64 (1 : Int), .int .i64 (0 : Int)] → 2 ≤ c19 → (4 : Int) ≠ (0 : Int) ∧ (0 : Int) ≤ Int.tmod x (4 : Int) ∧ Int.tmod x (4 : Int)
  < (↑4 : Int) ∧ ∃ (A24 : Option Addr), ∃ (n25 : Nat), ∃ (c26 : Nat), win [.slice A0 1 c1, .slice A6 1 c7, .slice A12 2 c13, .slice A18 2 c19] (Int.toNat (Int.tmod x (4 : Int)) * 1) 1 =
  [.slice A24 n25 c26] ∧ post A24 n25 c26 H20) := by kernel_rfl
theorem law23_columns {x : Int} {H : Heap} (hx : 0 ≤ x) : ConT Tryz.prog 18 [.int .u16 x] H shS (fun A n c H' => Sl H' A n c (colsOf x)) := by
  refine con_of_vc (an := an18) (fn := Tryz.f18) mix tabOK Tryz.func18 (by kernel_rfl) (extra := 0) ?_
  rw [vc18]
  intro A0 c1 H2 l2 hc2 hn2 A6 c7 H8 l8 hc8 hn8 A12 c13 H14 l14 hc14 hn14 A18 c19 H20 l20 hc20 hn20
  have one : ∀ {H' : Heap} {A : Option Addr} {c : Nat} {u : Int}, rng .i64 u → Heap.le H' H20 → Cells H' A 0 [.int .i64 u] → 1 ≤ c → Sl H20 A 1 c [u] := fun {H' A c u} hu hle hc hn =>
    Row.sl (H := H20) (T := Int) (l := [u]) ⟨[_], [], rfl, ⟨rfl, hu⟩, rfl⟩ (hle_refl _) (hc.mono hle) rfl hn (by decide) (by decide)
  have two : ∀ {H' : Heap} {A : Option Addr} {c : Nat} {u v : Int}, rng .i64 u → rng .i64 v → Heap.le H' H20 → Cells H' A 0 [.int .i64 u, .int .i64 v] → 2 ≤ c → Sl H20 A 2 c [u, v] := fun {H' A c u v} hu hv hle hc hn =>
    Row.sl (H := H20) (T := Int) (l := [u, v]) ⟨[_], [_], rfl, ⟨rfl, hu⟩, [_], [], rfl, ⟨rfl, hv⟩, rfl⟩ (hle_refl _) (hc.mono hle) rfl hn (by decide) (by decide)
  have h6 := tmod_bd hx (m := 4) (by decide)
  have l14' := l20
  have l8' := hle_trans l14 l14'
  have l2' := hle_trans l8 l8'
  refine ⟨by decide, h6.1, h6.2, ?_⟩
  unfold colsOf
  generalize Int.tmod x 4 = k at h6
  have hk : k = 0 ∨ k = 1 ∨ k = 2 ∨ k = 3 := by omega
  rcases hk with rfl | rfl | rfl | rfl
  · exact ⟨_, _, _, rfl, one (by decide) l2' hc2 hn2⟩
  · exact ⟨_, _, _, rfl, one (by decide) l8' hc8 hn8⟩
  · exact ⟨_, _, _, rfl, two (by decide) (by decide) l14' hc14 hn14⟩
  · exact ⟨_, _, _, rfl, two (by decide) (by decide) (hle_refl _) hc20 hn20⟩
theorem aw_fit {l : List Tup} (h : ∀ t ∈ l, t = awC ∨ t = awP ∨ t = awQ) (h1 : l.length < 20) (h2 : (tlins l).length ≤ 1000) : Fit l [0] := by
  refine fit_of h1 (by decide) h2 fun t ht => ?_
  rcases h t ht with rfl | rfl | rfl <;> exact two_val (by decide) (by decide)
theorem aw_fitC : Fit [awC] [0] := aw_fit (fun t ht => by simp at ht; exact .inl ht) (by decide) (by decide)
theorem aw_fitP : Fit [awP, awQ] [0] := aw_fit (fun t ht => by simp at ht; exact .inr ht) (by decide) (by decide)
def an9 : Ann where
  res := fun _ => none
  lend := fun | 47 => true | 55 => true | _ => false
  sch := fun _ => .done
  lt := fun _ => []
  tup := tups

theorem vc9 (P : Program) (H : Heap)  (post : Bool → Heap → Prop) :
  vcFn P tab an9 Tryz.f9 [] 0 H ⟨false, [(false, [.bool])]⟩ post =
  (  ∃ (post0 : Option Addr → Nat → Nat → Int → Int → Option Addr → Nat → Nat → Heap → Prop), ConT P 26 [.int .i64 (0 : Int), .int .i64 (9 : Int), .int .i64 (4 : Int)] H ⟨false, [(true, [.sl,
  .int .i64, .int .i64, .sl])]⟩ post0 ∧ ∀ (H1 : Heap), Heap.le H H1 → ∀ (A3 : Option Addr) (n4 c5 : Nat) (n6 n7 : Int) (A8 : Option Addr) (n9 c10 : Nat), post0 A3 n4 c5 n6 n7 A8 n9 c10 H1 → ∃
  (post12 : Option Addr → Nat → Nat → Int → Int → Option Addr → Nat → Nat → Heap → Prop), ConT P 26 [.int .i64 (0 : Int), .int .i64 (5 : Int), .int .i64 (1 : Int)] H1 ⟨false, [(true, [.sl,
  .int .i64, .int .i64, .sl])]⟩ post12 ∧ ∀ (H13 : Heap), Heap.le H1 H13 → ∀ (A15 : Option Addr) (n16 c17 : Nat) (n18 n19 : Int) (A20 : Option Addr) (n21 c22 : Nat), post12 A15 n16 c17 n18 n19
  A20 n21 c22 H13 → ∃ (post24 : Option Addr → Nat → Nat → Int → Int → Option Addr → Nat → Nat → Heap → Prop), ConT P 26 [.int .i64 (6 : Int), .int .i64 (9 : Int), .int .i64 (2 : Int)] H13
  ⟨false, [(true, [.sl, .int .i64, .int .i64, .sl])]⟩ post24 ∧ ∀ (H25 : Heap), Heap.le H13 H25 → ∀ (A27 : Option Addr) (n28 c29 : Nat) (n30 n31 : Int) (A32 : Option Addr) (n33 c34 : Nat),
  post24 A27 n28 c29 n30 n31 A32 n33 c34 H25 → ∀ (A36 : Option Addr) (c37 : Nat) (H38 : Heap), Heap.le H25 H38 → Cells H38 A36 0 [.slice A3 n4 c5, .int .i64 n6, .int .i64 n7, .slice A8 n9
  c10] → 1 ≤ c37 → ∀ (A42 : Option Addr) (c43 : Nat) (H44 : Heap), Heap.le H38 H44 → Cells H44 A42 0 [.slice A15 n16 c17, .int .i64 n18, .int .i64 n19, .slice A20 n21 c22, .slice A27 n28 c29,
  .int .i64 n30, .int .i64 n31, .slice A32 n33 c34] → 2 ≤ c43 → ∀ (A48 : Option Addr) (c49 : Nat) (H50 : Heap), Heap.le H44 H50 → Cells H50 A48 0 [.int .i64 (0 : Int)] → 1 ≤ c49 → ∀ (A54 :
  Option Addr) (c55 : Nat) (H56 : Heap), Heap.le H50 H56 → Cells H56 A54 0 [.int .i64 (0 : Int)] → 1 ≤ c55 → ∃ (post60 : Option Addr → Nat → Nat → Heap → Prop), ConT P 15 [.slice A36 1 c37,
  .slice A42 2 c43, .slice A48 1 c49, .slice A54 1 c55] H56 ⟨false, [(false, [.sl])]⟩ post60 ∧ ∀ (H61 : Heap), Heap.le H56 H61 → ∀ (A63 : Option Addr) (n64 c65 : Nat), post60 A63 n64 c65 H61
  → (decide ((↑n64 : Int) = (1 : Int)) = true → someA A63 ∧ (0 : Int) ≤ (0 : Int) ∧ (0 : Int) < (↑n64 : Int) ∧ ∃ (n68 : Int), ∃ (n69 : Int), Cells H61 A63 (Int.toNat (0 : Int) * 3 + 0) [.int
  .i64 n68, .int .i64 n69] ∧ ((decide (n68 = (5 : Int)) && decide (n69 = (6 : Int))) = true → someA A63 ∧ (0 : Int) ≤ (0 : Int) ∧ (0 : Int) < (↑n64 : Int) ∧ ∃ (A71 : Option Addr), ∃ (n72 :
  Nat), ∃ (c73 : Nat), Cells H61 A63 (Int.toNat (0 : Int) * 3 + 2) [.slice A71 n72 c73] ∧ (decide ((↑n72 : Int) = (1 : Int)) = true → someA A63 ∧ (0 : Int) ≤ (0 : Int) ∧ (0 : Int) < (↑n64 :
  Int) ∧ ∃ (A75 : Option Addr), ∃ (n76 : Nat), ∃ (c77 : Nat), Cells H61 A63 (Int.toNat (0 : Int) * 3 + 2) [.slice A75 n76 c77] ∧ someA A75 ∧ (0 : Int) ≤ (0 : Int) ∧ (0 : Int) < (↑n76 : Int) ∧
  ∃ (n78 : Int), Cells H61 A75 (Int.toNat (0 : Int) * 1) [.int .i64 n78] ∧ (decide (n78 = (4 : Int)) = true → ∃ (post80 : Bool → Heap → Prop), (∀ (A81 : Option Addr) (c82 : Nat) (H83 : Heap),
  Heap.le H61 H83 → Cells H83 A81 0 [.int .i64 (0 : Int)] → 1 ≤ c82 → ∀ (A87 : Option Addr) (c88 : Nat) (H89 : Heap), Heap.le H83 H89 → Cells H89 A87 0 [.int .i64 (0 : Int)] → 1 ≤ c88 → ConT
  P 16 [.slice A36 1 c37, .slice A42 2 c43, .slice A81 1 c82, .slice A87 1 c88] H89 ⟨false, [(false, [.bool])]⟩ post80) ∧ ∀ (H93 : Heap) (b94 : Bool), post80 b94 H93 → ((!b94) = true → ∃
  (post97 : Bool → Heap → Prop), (∀ (A98 : Option Addr) (c99 : Nat) (H100 : Heap), Heap.le H61 H100 → Cells H100 A98 0 [.int .i64 (0 : Int)] → 1 ≤ c99 → ∀ (A104 : Option Addr) (c105 : Nat)
  (H106 : Heap), Heap.le H100 H106 → Cells H106 A104 0 [.int .i64 (0 : Int)] → 1 ≤ c105 → ConT P 16 [.slice A42 2 c43, .slice A36 1 c37, .slice A98 1 c99, .slice A104 1 c105] H106 ⟨false,
  [(false, [.bool])]⟩ post97) ∧ ∀ (H110 : Heap) (b111 : Bool), post97 b111 H110 → (b111 = true → ∃ (post114 : Option Addr → Nat → Nat → Heap → Prop), ConT P 20 [.int .u16 (0 : Int), .int .u16
  (0 : Int)] H61 ⟨false, [(false, [.sl])]⟩ post114 ∧ ∀ (H115 : Heap), Heap.le H61 H115 → ∀ (A117 : Option Addr) (n118 c119 : Nat), post114 A117 n118 c119 H115 → (0 : Int) ≤ (0 : Int) ∧ (0 :
  Int) ≤ (1 : Int) ∧ (1 : Int) ≤ (↑c119 : Int) ∧ ∀ (A121 : Option Addr), A121 = subA A117 c119 (Int.toNat (0 : Int)) 3 → ∀ (A123 : Option Addr) (c124 : Nat) (H125 : Heap), Heap.le H115 H125 →
  Cells H125 A123 0 [.int .i64 (0 : Int)] → 1 ≤ c124 → ∃ (post129 : Option Addr → Nat → Nat → Heap → Prop), ConT P 12 [.slice A42 2 c43, .slice A123 1 c124, .slice A121 (Int.toNat (1 : Int) -
  Int.toNat (0 : Int)) (c119 - Int.toNat (0 : Int))] H125 ⟨false, [(false, [.sl])]⟩ post129 ∧ ∀ (H130 : Heap), Heap.le H125 H130 → ∀ (A132 : Option Addr) (n133 c134 : Nat), post129 A132 n133
  c134 H130 → post (decide ((↑n133 : Int) = (2 : Int))) H130) ∧ (b111 = false → post false H61)) ∧ ((!b94) = false → post false H61)) ∧ (decide (n78 = (4 : Int)) = false → post false H61)) ∧
  (decide ((↑n72 : Int) = (1 : Int)) = false → post false H61)) ∧ ((decide (n68 = (5 : Int)) && decide (n69 = (6 : Int))) = false → post false H61)) ∧ (decide ((↑n64 : Int) = (1 : Int)) =
  false → post false H61)) := by kernel_rfl
set_option maxHeartbeats 2000000 in
theorem law23_awake {H : Heap} (hT : TabH H) : ConT Tryz.prog 9 [] H shB (fun r _ => r = true) := by
  refine con_of_vc (an := an9) (fn := Tryz.f9) mix tabOK Tryz.func9 (by kernel_rfl) (extra := 0) ?_
  rw [vc9]
  refine ⟨_, law23_row (by decide) (by decide) (by decide), ?_⟩
  intro H1 l1 A3 n4 c5 n6 n7 A8 n9 c10 k1
  refine ⟨_, law23_row (by decide) (by decide) (by decide), ?_⟩
  intro H13 l13 A15 n16 c17 n18 n19 A20 n21 c22 k2
  refine ⟨_, law23_row (by decide) (by decide) (by decide), ?_⟩
  intro H25 l25 A27 n28 c29 n30 n31 A32 n33 c34 k3 A36 c37 H38 l38 hc38 hn38 A42 c43 H44 l44 hc44 hn44 A48 c49 H50 l50 hc50 hn50 A54 c55 H56 l56 hc56 hn56
  have k1 : Rep.rel H1 _ awC := k1
  have k2 : Rep.rel H13 _ awP := k2
  have k3 : Rep.rel H25 _ awQ := k3
  have sC : Sl H38 A36 1 c37 [awC] := Row.sl (H := H38) (T := Tup) (l := [awC]) ⟨[_, _, _, _], [], rfl, Rep.mono (hle_trans l13 (hle_trans l25 l38)) k1, rfl⟩ (hle_refl _) hc38 rfl hn38 (by decide) (by decide)
  have sP : Sl H44 A42 2 c43 [awP, awQ] := Row.sl (H := H44) (T := Tup) (l := [awP, awQ]) ⟨[_, _, _, _], [_, _, _, _], rfl, Rep.mono (hle_trans l25 (hle_trans l38 l44)) k2, [_, _, _, _], [], rfl, Rep.mono (hle_trans l38 l44) k3, rfl⟩ (hle_refl _) hc44 rfl hn44 (by decide) (by decide)
  have cols1 : ∀ {H' : Heap} {A : Option Addr} {c : Nat}, Cells H' A 0 [.int .i64 0] → 1 ≤ c → Sl H' A 1 c [(0 : Int)] := fun {H' A c} hc hn => Row.sl (H := H') (T := Int) (l := [0]) ⟨[_], [], rfl, ⟨rfl, by decide⟩, rfl⟩ (hle_refl _) hc rfl hn (by decide) (by decide)
  have l4456 := hle_trans l50 l56
  have sC := sC.mono (hle_trans l44 l4456)
  have sP := sP.mono l4456
  have hT56 := hT.mono (hle_trans l1 (hle_trans l13 (hle_trans l25 (hle_trans l38 (hle_trans l44 l4456)))))
  refine ⟨_, fk_Violations hT56 sC sP ((cols1 hc50 hn50).mono l56) (cols1 hc56 hn56) aw_fitC aw_fitP, ?_⟩
  intro H61 l61 A63 n64 c65 g
  rw [fw_one] at g
  have hl := g.len
  simp only [List.length_cons, List.length_nil] at hl
  subst hl
  obtain ⟨hi, hA, _, hc, ⟨A1, n1, c1, rfl, q1, q2, q3⟩⟩ := g.at (hle_refl H61) (i := 0) (by omega) (by omega)
  have q3l := q3.len
  simp at q3l
  subst q3l
  obtain ⟨ji, jA, _, jc, ⟨rfl, j1⟩⟩ := q3.at (hle_refl H61) (i := 0) (by omega) (by omega)
  have hT61 := hT56.mono l61
  have sC := sC.mono l61
  have sP := sP.mono l61
  refine ⟨fun _ => ⟨hA, by omega, by omega, _, _, hc.at2 (k := 0) rfl rfl, fun _ => ⟨hA, by omega, by omega, _, _, _, hc.at1 (k := 2) rfl, fun _ => ⟨hA, by omega, by omega, _, _, _, hc.at1 (k := 2) rfl, jA, by omega, by omega, _, jc, fun _ => ⟨_, fun A81 c82 H83 l83 hc83 hn83 A87 c88 H89 l89 hc89 hn89 => fk_Holds (hT61.mono (hle_trans l83 l89)) (sC.mono (hle_trans l83 l89)) (sP.mono (hle_trans l83 l89)) ((cols1 hc83 hn83).mono l89) (cols1 hc89 hn89) aw_fitC aw_fitP, ?_⟩, fun h => by simp at h⟩, fun h => by simp at h⟩, fun h => by simp at h⟩, fun h => by simp at h⟩
  rintro H93 _ rfl
  rw [fw_one]
  refine ⟨fun _ => ⟨_, fun A81 c82 H83 l83 hc83 hn83 A87 c88 H89 l89 hc89 hn89 => fk_Holds (hT61.mono (hle_trans l83 l89)) (sP.mono (hle_trans l83 l89)) (sC.mono (hle_trans l83 l89)) ((cols1 hc83 hn83).mono l89) (cols1 hc89 hn89) aw_fitP aw_fitC, ?_⟩, fun h => by simp at h⟩
  rintro H110 _ rfl
  rw [fw_none]
  refine ⟨fun _ => ⟨_, law0_Vals (x := 0) (y := 0) (by decide) (by decide), ?_⟩, fun h => by simp at h⟩
  intro H115 l115 A117 n118 c119 hv
  have hvl := hv.len
  simp only [List.length_cons, List.length_nil] at hvl
  subst hvl
  have hcap := hv.cap
  refine ⟨by omega, by omega, by omega, ?_⟩
  rintro A121 rfl A123 c124 H125 l125 hc125 hn125
  have hk := (hv.sub (j := 0) (k := 1) (by omega) (by omega)).mono l125
  refine ⟨_, foreignkey_Covered (sP.mono (hle_trans l115 l125)) (cols1 hc125 hn125) hk (by omega), ?_⟩
  intro H130 l130 A132 n133 c134 hz
  have hz : Sl H130 A132 n133 c134 (covL [awP, awQ] [0] [lv0 0]) := hz
  rw [fw_cov] at hz
  have := hz.len
  simp only [List.length_cons, List.length_nil] at this
  subst this
  rfl
end Go.Vc
/- The laws of foreign keys. -/
namespace Go.Vc
open Go Go.Proofs Go.Shelf
theorem lTups_fit2 {H : Heap} {A : Option Addr} {n c most : Nat} {l : List U5} (h : Sl H A n c l) (hm : most < 20) {cols : List Int} (hc : cols.length ≤ 2) : Fit (lTups l most) cols := by
  have h1 := lTups_len l most; have h2 := lTups_lins l most
  exact fit_of (by omega) hc (by omega) (lTups_val fun x hx => ⟨(u5_nn h x hx).2.2.1, (u5_nn h x hx).2.2.2⟩)
def an4 : Ann where
  res := fun _ => none
  lend := fun | 23 => true | 33 => true | 42 => true | _ => false
  sch := fun _ => .done
  lt := fun _ => []
  tup := tups

theorem vc4 (P : Program) (H : Heap) (aA : Option Addr) (aN aC : Nat) (bA : Option Addr) (bN bC : Nat) (x : Int) (y : Int) (post : Bool → Heap → Prop) :
  vcFn P tab an4 Tryz.f4 [.slice aA aN aC, .slice bA bN bC, .int .u16 x, .int .u16 y] 0 H ⟨false, [(false, [.bool])]⟩ post =
  (  ∃ (post0 : Option Addr → Nat → Nat → Heap → Prop), ConT P 17 [.slice aA aN aC, .int .i64 (12 : Int)] H ⟨false, [(false, [.sl])]⟩ post0 ∧ ∀ (H1 : Heap), Heap.le H H1 → ∀ (A3 : Option Addr)
  (n4 c5 : Nat), post0 A3 n4 c5 H1 → ∃ (post7 : Option Addr → Nat → Nat → Heap → Prop), ConT P 17 [.slice bA bN bC, .int .i64 (12 : Int)] H1 ⟨false, [(false, [.sl])]⟩ post7 ∧ ∀ (H8 : Heap),
  Heap.le H1 H8 → ∀ (A10 : Option Addr) (n11 c12 : Nat), post7 A10 n11 c12 H8 → ∃ (post14 : Option Addr → Nat → Nat → Heap → Prop), ConT P 18 [.int .u16 x] H8 ⟨false, [(false, [.sl])]⟩ post14
  ∧ ∀ (H15 : Heap), Heap.le H8 H15 → ∀ (A17 : Option Addr) (n18 c19 : Nat), post14 A17 n18 c19 H15 → ∃ (post21 : Option Addr → Nat → Nat → Heap → Prop), ConT P 18 [.int .u16 y] H15 ⟨false,
  [(false, [.sl])]⟩ post21 ∧ ∀ (H22 : Heap), Heap.le H15 H22 → ∀ (A24 : Option Addr) (n25 c26 : Nat), post21 A24 n25 c26 H22 → ∃ (post28 : Option Addr → Nat → Nat → Heap → Prop), ConT P 10
  [.slice A3 n4 c5, .slice A10 n11 c12, .slice A17 n18 c19, .slice A24 n25 c26] H22 ⟨false, [(false, [.sl])]⟩ post28 ∧ ∀ (H29 : Heap), Heap.le H22 H29 → ∀ (A31 : Option Addr) (n32 c33 : Nat),
  post28 A31 n32 c33 H29 → ∃ (post35 : Bool → Heap → Prop), ConT P 9 [] H29 ⟨false, [(false, [.bool])]⟩ post35 ∧ ∀ (H36 : Heap), Heap.le H29 H36 → ∀ (b38 : Bool), post35 b38 H36 → (b38 = true
  → ∃ (post41 : Option Addr → Nat → Nat → Heap → Prop), ConT P 18 [.int .u16 x] H36 ⟨false, [(false, [.sl])]⟩ post41 ∧ ∀ (H42 : Heap), Heap.le H36 H42 → ∀ (A44 : Option Addr) (n45 c46 : Nat),
  post41 A44 n45 c46 H42 → ∃ (post48 : Option Addr → Nat → Nat → Heap → Prop), ConT P 18 [.int .u16 y] H42 ⟨false, [(false, [.sl])]⟩ post48 ∧ ∀ (H49 : Heap), Heap.le H42 H49 → ∀ (A51 : Option
  Addr) (n52 c53 : Nat), post48 A51 n52 c53 H49 → ∃ (post55 : Option Addr → Nat → Nat → Heap → Prop), ConT P 15 [.slice A3 n4 c5, .slice A10 n11 c12, .slice A44 n45 c46, .slice A51 n52 c53]
  H49 ⟨false, [(false, [.sl])]⟩ post55 ∧ ∀ (H56 : Heap), Heap.le H49 H56 → ∀ (A58 : Option Addr) (n59 c60 : Nat), post55 A58 n59 c60 H56 → ∃ (post62 : Bool → Heap → Prop), ConT P 14 [.slice
  A58 n59 c60, .slice A31 n32 c33] H56 ⟨false, [(false, [.bool])]⟩ post62 ∧ ∀ (H63 : Heap), Heap.le H56 H63 → ∀ (b65 : Bool), post62 b65 H63 → (b65 = true → ∃ (post68 : Option Addr → Nat →
  Nat → Heap → Prop), ConT P 18 [.int .u16 x] H63 ⟨false, [(false, [.sl])]⟩ post68 ∧ ∀ (H69 : Heap), Heap.le H63 H69 → ∀ (A71 : Option Addr) (n72 c73 : Nat), post68 A71 n72 c73 H69 → ∃
  (post75 : Option Addr → Nat → Nat → Heap → Prop), ConT P 18 [.int .u16 y] H69 ⟨false, [(false, [.sl])]⟩ post75 ∧ ∀ (H76 : Heap), Heap.le H69 H76 → ∀ (A78 : Option Addr) (n79 c80 : Nat),
  post75 A78 n79 c80 H76 → ∃ (post82 : Bool → Heap → Prop), ConT P 16 [.slice A3 n4 c5, .slice A10 n11 c12, .slice A71 n72 c73, .slice A78 n79 c80] H76 ⟨false, [(false, [.bool])]⟩ post82 ∧ ∀
  (H83 : Heap), Heap.le H76 H83 → ∀ (b85 : Bool), post82 b85 H83 → post (b85 == decide ((↑n32 : Int) = (0 : Int))) H83) ∧ (b65 = false → post false H63)) ∧ (b38 = false → post false H36)) := by kernel_rfl
set_option maxHeartbeats 1000000 in
theorem law23_ForeignKeyViolations {H : Heap} {A B : Option Addr} {n c m d : Nat} {a b : List U5} {x y : Int} (hT : TabH H) (hs : Sl H A n c a) (ht : Sl H B m d b) (hx : rng .u16 x) (hy : rng .u16 y) :
    ConT Tryz.prog 4 [.slice A n c, .slice B m d, .int .u16 x, .int .u16 y] H shB (fun r _ => r = true) := by
  refine con_of_vc (an := an4) (fn := Tryz.f4) mix tabOK Tryz.func4 (by kernel_rfl) (extra := 0) ?_
  rw [vc4]
  have f1 : Fit (lTups a 12) (colsOf x) := lTups_fit2 hs (by decide) (colsOf_len x)
  have f2 : Fit (lTups b 12) (colsOf y) := lTups_fit2 ht (by decide) (colsOf_len y)
  refine ⟨_, law0_Tuples (most := 12) hs (by decide), ?_⟩
  intro H1 l1 A3 n4 c5 h3
  refine ⟨_, law0_Tuples (most := 12) (ht.mono l1) (by decide), ?_⟩
  intro H8 l8 A10 n11 c12 h10
  generalize lTups a 12 = ta at h3 f1
  generalize lTups b 12 = tb at h10 f2
  refine ⟨_, law23_columns hx.1, ?_⟩
  intro H15 l15 A17 n18 c19 k1
  refine ⟨_, law23_columns hy.1, ?_⟩
  intro H22 l22 A24 n25 c26 k2
  have l822 := hle_trans l15 l22
  have h3 := h3.mono (hle_trans l8 l822)
  have h10 := h10.mono l822
  have hT := hT.mono (hle_trans l1 (hle_trans l8 l822))
  refine ⟨_, ref21_FKViolations h3 h10 (k1.mono l22) k2 f1 f2, ?_⟩
  intro H29 l29 A31 n32 c33 hr
  refine ⟨_, law23_awake (hT.mono l29), ?_⟩
  rintro H36 l36 _ rfl
  refine ⟨fun _ => ?_, fun h => by simp at h⟩
  refine ⟨_, law23_columns hx.1, ?_⟩
  intro H42 l42 A44 n45 c46 k3
  refine ⟨_, law23_columns hy.1, ?_⟩
  intro H49 l49 A51 n52 c53 k4
  have l2249 := hle_trans l29 (hle_trans l36 (hle_trans l42 l49))
  refine ⟨_, fk_Violations (hT.mono l2249) (h3.mono l2249) (h10.mono l2249) (k3.mono l49) k4 f1 f2, ?_⟩
  intro H56 l56 A58 n59 c60 hv
  refine ⟨_, ref21_SameViolations hv (hr.mono (hle_trans l36 (hle_trans l42 (hle_trans l49 l56)))), ?_⟩
  rintro H63 l63 _ rfl
  refine ⟨fun _ => ?_, fun h => by simp at h⟩
  refine ⟨_, law23_columns hx.1, ?_⟩
  intro H69 l69 A71 n72 c73 k5
  refine ⟨_, law23_columns hy.1, ?_⟩
  intro H76 l76 A78 n79 c80 k6
  have l2276 := hle_trans l2249 (hle_trans l56 (hle_trans l63 (hle_trans l69 l76)))
  refine ⟨_, fk_Holds (hT.mono l2276) (h3.mono l2276) (h10.mono l2276) (k5.mono l76) k6 f1 f2, ?_⟩
  rintro H83 l83 _ rfl
  rw [hr.len]
  simp
theorem cov_any {l : List Tup} {cols : List Int} {key : List Val} {d : Int} {m : List Rw} (hm : m.Perm (atT l d)) : inSet (covL l cols key) d = m.any fun r => decide (cmpVs (keyVals r.vals cols) key = 0) := by
  unfold covL
  rw [norm_in, hm.any_eq, Bool.eq_iff_iff]
  unfold inSet covT atT
  simp only [List.any_eq_true, List.mem_map, List.mem_filter, decide_eq_true_eq]
  constructor
  · rintro ⟨p, ⟨t, ⟨h1, h2⟩, rfl⟩, h3⟩
    exact ⟨rowT t, ⟨t, ⟨h1, h3⟩, rfl⟩, h2⟩
  · rintro ⟨r, ⟨t, ⟨h1, h3⟩, rfl⟩, h2⟩
    exact ⟨t.p, ⟨t, ⟨h1, h2⟩, rfl⟩, h3⟩
theorem any_succ {T : Type} {f : T → Bool} {l : List T} {i : Int} (h0 : 0 ≤ i) (hi : i.toNat < l.length) : (l.take (i + 1).toNat).any f = ((l.take i.toNat).any f || f l[i.toNat]) := by
  rw [show (i + 1).toNat = i.toNat + 1 by omega, List.take_succ_eq_append_getElem hi, List.any_append]; simp
def an5 : Ann where
  res := fun _ => none
  lend := fun | 46 => true | 54 => true | 57 => true | 62 => true | _ => false
  sch := fun _ => .done
  lt := fun | 5 => [.slot 15 false [.bool], .slot 35 false [.int .i64]] | _ => []
  tup := tups

theorem vc5 (P : Program) (H : Heap) (aA : Option Addr) (aN aC : Nat) (p1 : Int) (p2 : Int) (p3 : Int) (p4 : Int) (post : Bool → Heap → Prop) :
  vcFn P tab an5 Tryz.f5 [.slice aA aN aC, .int .u16 p1, .int .u16 p2, .int .u16 p3, .int .u16 p4] 0 H ⟨false, [(false, [.bool])]⟩ post =
  (  ∃ (post0 : Option Addr → Nat → Nat → Heap → Prop), ConT P 17 [.slice aA aN aC, .int .i64 (15 : Int)] H ⟨false, [(false, [.sl])]⟩ post0 ∧ ∀ (H1 : Heap), Heap.le H H1 → ∀ (A3 : Option Addr)
  (n4 c5 : Nat), post0 A3 n4 c5 H1 → ∃ (post7 : Option Addr → Nat → Nat → Heap → Prop), ConT P 18 [.int .u16 p1] H1 ⟨false, [(false, [.sl])]⟩ post7 ∧ ∀ (H8 : Heap), Heap.le H1 H8 → ∀ (A10 :
  Option Addr) (n11 c12 : Nat), post7 A10 n11 c12 H8 → (60 : Int) ≠ (0 : Int) ∧ ∃ (e14 : Int), IntKind.wrap IntKind.i64 (Int.tmod p4 (60 : Int)) = e14 ∧ ∃ (post15 : Option Addr → Nat → Nat →
  Heap → Prop), ConT P 20 [.int .u16 p2, .int .u16 p3] H8 ⟨false, [(false, [.sl])]⟩ post15 ∧ ∀ (H16 : Heap), Heap.le H8 H16 → ∀ (A18 : Option Addr) (n19 c20 : Nat), post15 A18 n19 c20 H16 → ∃
  (post22 : Option Addr → Nat → Nat → Heap → Prop), ConT P 19 [.slice A18 n19 c20, .slice A10 n11 c12] H16 ⟨false, [(false, [.sl])]⟩ post22 ∧ ∀ (H23 : Heap), Heap.le H16 H23 → ∀ (A25 : Option
  Addr) (n26 c27 : Nat), post22 A25 n26 c27 H23 → ∃ (post29 : Option Addr → Nat → Nat → Heap → Prop), ConT P 21 [.slice A3 n4 c5, .int .i64 e14] H23 ⟨false, [(false, [.sl])]⟩ post29 ∧ ∀ (H30
  : Heap), Heap.le H23 H30 → ∀ (A32 : Option Addr) (n33 c34 : Nat), post29 A32 n33 c34 H30 → ∃ (inv36 : Bool → Int → Heap → Prop), ∃ (m37 : Bool → Int → Nat), inv36 false (0 : Int) H30 ∧ ∀
  (H38 : Heap), Heap.le H30 H38 → ∀ (b40 : Bool) (n41 : Int), inv36 b40 n41 H38 → (decide (n41 < (↑n33 : Int)) = true → someA A32 ∧ (0 : Int) ≤ n41 ∧ n41 < (↑n33 : Int) ∧ ∃ (A44 : Option
  Addr), ∃ (n45 : Nat), ∃ (c46 : Nat), ∃ (A47 : Option Addr), ∃ (n48 : Nat), ∃ (c49 : Nat), Cells H38 A32 (Int.toNat n41 * 2) [.slice A44 n45 c46, .slice A47 n48 c49] ∧ (b40 = true → rng .i64
  (n41 + (1 : Int)) ∧ inv36 true (n41 + (1 : Int)) H38 ∧ m37 true (n41 + (1 : Int)) < m37 b40 n41) ∧ (b40 = false → ∃ (post52 : Option Addr → Nat → Nat → Heap → Prop), ConT P 19 [.slice A44
  n45 c46, .slice A10 n11 c12] H38 ⟨false, [(false, [.sl])]⟩ post52 ∧ ∀ (H53 : Heap), Heap.le H38 H53 → ∀ (A55 : Option Addr) (n56 c57 : Nat), post52 A55 n56 c57 H53 → ∃ (post59 : Int → Heap
  → Prop), ConT P 22 [.slice A55 n56 c57, .slice A25 n26 c27] H53 ⟨false, [(false, [.int .i64])]⟩ post59 ∧ ∀ (H60 : Heap), Heap.le H53 H60 → ∀ (n62 : Int), post59 n62 H60 → rng .i64 (n41 + (1
  : Int)) ∧ inv36 (decide (n62 = (0 : Int))) (n41 + (1 : Int)) H60 ∧ m37 (decide (n62 = (0 : Int))) (n41 + (1 : Int)) < m37 b40 n41)) ∧ (decide (n41 < (↑n33 : Int)) = false → ∃ (post65 :
  Option Addr → Nat → Nat → Heap → Prop), ConT P 12 [.slice A3 n4 c5, .slice A10 n11 c12, .slice A25 n26 c27] H38 ⟨false, [(false, [.sl])]⟩ post65 ∧ ∀ (H66 : Heap), Heap.le H38 H66 → ∀ (A68 :
  Option Addr) (n69 c70 : Nat), post65 A68 n69 c70 H66 → ∃ (post72 : Bool → Heap → Prop), ConT P 9 [] H66 ⟨false, [(false, [.bool])]⟩ post72 ∧ ∀ (H73 : Heap), Heap.le H66 H73 → ∀ (b75 :
  Bool), post72 b75 H73 → (b75 = true → ∃ (post78 : Bool → Heap → Prop), ConT P 23 [.slice A68 n69 c70] H73 ⟨false, [(false, [.bool])]⟩ post78 ∧ ∀ (H79 : Heap), Heap.le H73 H79 → ∀ (b81 :
  Bool), post78 b81 H79 → (b81 = true → ∃ (post84 : Bool → Heap → Prop), ConT P 24 [.slice A68 n69 c70, .int .i64 e14] H79 ⟨false, [(false, [.bool])]⟩ post84 ∧ ∀ (H85 : Heap), Heap.le H79 H85
  → ∀ (b87 : Bool), post84 b87 H85 → post (b87 == b40) H85) ∧ (b81 = false → post false H79)) ∧ (b75 = false → post false H73))) := by kernel_rfl
set_option maxHeartbeats 1000000 in
theorem law23_ForeignKeyCovered {H : Heap} {A : Option Addr} {n c : Nat} {a : List U5} {x u v day : Int} (hT : TabH H) (hs : Sl H A n c a) (hx : rng .u16 x) (hu : rng .u16 u) (hv : rng .u16 v) (hd : rng .u16 day) :
    ConT Tryz.prog 5 [.slice A n c, .int .u16 x, .int .u16 u, .int .u16 v, .int .u16 day] H shB (fun r _ => r = true) := by
  refine con_of_vc (an := an5) (fn := Tryz.f5) mix tabOK Tryz.func5 (by kernel_rfl) (extra := 0) ?_
  rw [vc5]
  refine ⟨_, law0_Tuples (most := 15) hs (by decide), ?_⟩
  intro H1 l1 A3 n4 c5 h3
  generalize lTups a 15 = ts at h3
  refine ⟨_, law23_columns hx.1, ?_⟩
  intro H8 l8 A10 n11 c12 k1
  have hcl := colsOf_len x
  generalize colsOf x = cols at k1 hcl
  have k1l := k1.len
  have h60 := tmod_bd (x := day) hd.1 (m := 60) (by decide)
  refine ⟨by decide, Int.tmod day 60, wrap_i64 h60.1 (by omega), _, law0_Vals hu.1 hv.1, ?_⟩
  generalize Int.tmod day 60 = dd at h60
  intro H16 l16 A18 n19 c20 hvs
  refine ⟨_, keys_Values hvs (k1.mono l16) (by omega), ?_⟩
  intro H23 l23 A25 n26 c27 hk
  generalize keyVals [lv0 u, lv1 v] cols = key at hk
  have l823 := hle_trans l16 l23
  refine ⟨_, tuple_Timeslice (h3.mono (hle_trans l8 l823)), ?_⟩
  rintro H30 l30 A32 n33 c34 ⟨m, hm, hmp, -⟩
  have hml := hm.len; have hmb := hm.bn
  have l830 := hle_trans l823 l30
  refine ⟨fun b i _ => 0 ≤ i ∧ i ≤ n33 ∧ b = (m.take i.toNat).any (fun r => decide (cmpVs (keyVals r.vals cols) key = 0)), fun _ i => n33 - i.toNat, ⟨by omega, by omega, by simp⟩, ?_⟩
  rintro H38 l38 b i ⟨i0, i1, rfl⟩
  refine ⟨fun hlt => ?_, fun hge => ?_⟩
  · have hlt := of_decide_eq_true hlt
    obtain ⟨hi, hA, _, hc, ⟨A44, n45, c46, A47, n48, c49, rfl, q1, q2⟩⟩ := hm.at l38 i0 hlt
    have hsu := any_succ (f := fun r : Rw => decide (cmpVs (keyVals r.vals cols) key = 0)) i0 hi
    refine ⟨hA, i0, hlt, _, _, _, _, _, _, hc, fun hb => ⟨by simp only [rng]; omega, ⟨by omega, by omega, by rw [hsu, hb, Bool.true_or]⟩, by dsimp only; omega⟩, fun hb => ?_⟩
    refine ⟨_, keys_Values q1 (k1.mono (hle_trans l830 l38)) (by omega), ?_⟩
    intro H53 l53 A55 n56 c57 v1
    refine ⟨_, ref6_CompareRows v1 (hk.mono (hle_trans l30 (hle_trans l38 l53))), ?_⟩
    rintro H60 l60 _ rfl
    exact ⟨by simp only [rng]; omega, ⟨by omega, by omega, by rw [hsu, hb, Bool.false_or]⟩, by dsimp only; omega⟩
  · have hge := of_decide_eq_false hge
    rw [List.take_of_length_le (by omega)]
    have l838 := hle_trans l830 l38
    refine ⟨_, foreignkey_Covered (h3.mono (hle_trans l8 l838)) (k1.mono l838) (hk.mono (hle_trans l30 l38)) (by omega), ?_⟩
    intro H66 l66 A68 n69 c70 hcv
    refine ⟨_, law23_awake (hT.mono (hle_trans l1 (hle_trans l8 (hle_trans l838 l66)))), ?_⟩
    rintro H73 l73 _ rfl
    refine ⟨fun _ => ⟨_, ref1_IsNormal (hcv.mono l73), ?_⟩, fun h => by simp at h⟩
    rintro H79 l79 _ rfl
    rw [show nrm (covL ts cols key) = true from norm_nrm _]
    refine ⟨fun _ => ⟨_, ref1_IncludesSet (hcv.mono (hle_trans l73 l79)), ?_⟩, fun h => by simp at h⟩
    rintro H85 l85 _ rfl
    rw [cov_any hmp]
    simp
theorem orphan_any {child parent : List Tup} {cols : List Int} {d : Int} {m : List Rw} (hm : m.Perm (atT child d)) :
    covV (fkAll child parent cols cols) d ↔ (m.any fun r => !(atT parent d).any fun s => decide (cmpVs (keyVals r.vals cols) (keyVals s.vals cols) = 0)) = true := by
  rw [fk_daily, hm.any_eq]
  unfold atT
  simp only [List.any_eq_true, List.mem_map, List.mem_filter, Bool.not_eq_true', List.any_eq_false, decide_eq_true_eq, cmpVs_zero]
  constructor
  · rintro ⟨r, h1, h2, h3⟩
    refine ⟨rowT r, ⟨r, ⟨h1, h2⟩, rfl⟩, ?_⟩
    rintro s ⟨t, ⟨h4, h5⟩, rfl⟩ he
    exact h3 ⟨t, h4, h5, he.symm⟩
  · rintro ⟨_, ⟨r, ⟨h1, h2⟩, rfl⟩, h3⟩
    refine ⟨r, h1, h2, ?_⟩
    rintro ⟨t, h4, h5, he⟩
    exact h3 (rowT t) ⟨t, ⟨h4, h5⟩, rfl⟩ he.symm
instance (v : Vio) (d : Int) : Decidable (inV v d) := inferInstanceAs (Decidable (_ ∧ _))
def an6 : Ann where
  res := fun _ => none
  lend := fun | 57 => true | 93 => true | 107 => true | _ => false
  sch := fun | 10 => (tk [0, 1, 2, 3, 4, 6, 7, 8] (.alt 5 (.alt 9 (.alt 10 (tk [11, 12, 13] .done) .fin) .fin) .fin)) | _ => .done
  lt := fun | 4 => [.slot 13 false [.bool], .slot 35 false [.int .i64]] | 8 => [.slot 16 false [.bool], .slot 43 false [.int .i64]] | 16 => [.slot 19 false [.bool], .slot 73 false [.int .i64]] | _ => []
  tup := tups

theorem vc6 (P : Program) (H : Heap) (aA : Option Addr) (aN aC : Nat) (p1A : Option Addr) (p1N p1C : Nat) (p2 : Int) (p3 : Int) (post : Bool → Heap → Prop) :
  vcFn P tab an6 Tryz.f6 [.slice aA aN aC, .slice p1A p1N p1C, .int .u16 p2, .int .u16 p3] 0 H ⟨false, [(false, [.bool])]⟩ post =
  (  ∃ (post0 : Option Addr → Nat → Nat → Heap → Prop), ConT P 17 [.slice aA aN aC, .int .i64 (12 : Int)] H ⟨false, [(false, [.sl])]⟩ post0 ∧ ∀ (H1 : Heap), Heap.le H H1 → ∀ (A3 : Option Addr)
  (n4 c5 : Nat), post0 A3 n4 c5 H1 → ∃ (post7 : Option Addr → Nat → Nat → Heap → Prop), ConT P 17 [.slice p1A p1N p1C, .int .i64 (12 : Int)] H1 ⟨false, [(false, [.sl])]⟩ post7 ∧ ∀ (H8 :
  Heap), Heap.le H1 H8 → ∀ (A10 : Option Addr) (n11 c12 : Nat), post7 A10 n11 c12 H8 → ∃ (post14 : Option Addr → Nat → Nat → Heap → Prop), ConT P 18 [.int .u16 p2] H8 ⟨false, [(false,
  [.sl])]⟩ post14 ∧ ∀ (H15 : Heap), Heap.le H8 H15 → ∀ (A17 : Option Addr) (n18 c19 : Nat), post14 A17 n18 c19 H15 → (60 : Int) ≠ (0 : Int) ∧ ∃ (e21 : Int), IntKind.wrap IntKind.i64 (Int.tmod
  p3 (60 : Int)) = e21 ∧ ∃ (post22 : Option Addr → Nat → Nat → Heap → Prop), ConT P 21 [.slice A3 n4 c5, .int .i64 e21] H15 ⟨false, [(false, [.sl])]⟩ post22 ∧ ∀ (H23 : Heap), Heap.le H15 H23
  → ∀ (A25 : Option Addr) (n26 c27 : Nat), post22 A25 n26 c27 H23 → ∃ (inv29 : Bool → Int → Heap → Prop), ∃ (m30 : Bool → Int → Nat), inv29 false (0 : Int) H23 ∧ ∀ (H31 : Heap), Heap.le H23
  H31 → ∀ (b33 : Bool) (n34 : Int), inv29 b33 n34 H31 → (decide (n34 < (↑n26 : Int)) = true → someA A25 ∧ (0 : Int) ≤ n34 ∧ n34 < (↑n26 : Int) ∧ ∃ (A37 : Option Addr), ∃ (n38 : Nat), ∃ (c39 :
  Nat), ∃ (A40 : Option Addr), ∃ (n41 : Nat), ∃ (c42 : Nat), Cells H31 A25 (Int.toNat n34 * 2) [.slice A37 n38 c39, .slice A40 n41 c42] ∧ ∃ (post43 : Option Addr → Nat → Nat → Heap → Prop),
  ConT P 21 [.slice A10 n11 c12, .int .i64 e21] H31 ⟨false, [(false, [.sl])]⟩ post43 ∧ ∀ (H44 : Heap), Heap.le H31 H44 → ∀ (A46 : Option Addr) (n47 c48 : Nat), post43 A46 n47 c48 H44 → ∃
  (inv50 : Bool → Int → Heap → Prop), ∃ (m51 : Bool → Int → Nat), inv50 false (0 : Int) H44 ∧ ∀ (H52 : Heap), Heap.le H44 H52 → ∀ (b54 : Bool) (n55 : Int), inv50 b54 n55 H52 → (decide (n55 <
  (↑n47 : Int)) = true → someA A46 ∧ (0 : Int) ≤ n55 ∧ n55 < (↑n47 : Int) ∧ ∃ (A58 : Option Addr), ∃ (n59 : Nat), ∃ (c60 : Nat), ∃ (A61 : Option Addr), ∃ (n62 : Nat), ∃ (c63 : Nat), Cells H52
  A46 (Int.toNat n55 * 2) [.slice A58 n59 c60, .slice A61 n62 c63] ∧ (b54 = true → rng .i64 (n55 + (1 : Int)) ∧ inv50 true (n55 + (1 : Int)) H52 ∧ m51 true (n55 + (1 : Int)) < m51 b54 n55) ∧
  (b54 = false → ∃ (post66 : Option Addr → Nat → Nat → Heap → Prop), ConT P 19 [.slice A37 n38 c39, .slice A17 n18 c19] H52 ⟨false, [(false, [.sl])]⟩ post66 ∧ ∀ (H67 : Heap), Heap.le H52 H67
  → ∀ (A69 : Option Addr) (n70 c71 : Nat), post66 A69 n70 c71 H67 → ∃ (post73 : Option Addr → Nat → Nat → Heap → Prop), ConT P 19 [.slice A58 n59 c60, .slice A17 n18 c19] H67 ⟨false, [(false,
  [.sl])]⟩ post73 ∧ ∀ (H74 : Heap), Heap.le H67 H74 → ∀ (A76 : Option Addr) (n77 c78 : Nat), post73 A76 n77 c78 H74 → ∃ (post80 : Int → Heap → Prop), ConT P 22 [.slice A69 n70 c71, .slice A76
  n77 c78] H74 ⟨false, [(false, [.int .i64])]⟩ post80 ∧ ∀ (H81 : Heap), Heap.le H74 H81 → ∀ (n83 : Int), post80 n83 H81 → rng .i64 (n55 + (1 : Int)) ∧ inv50 (decide (n83 = (0 : Int))) (n55 +
  (1 : Int)) H81 ∧ m51 (decide (n83 = (0 : Int))) (n55 + (1 : Int)) < m51 b54 n55)) ∧ (decide (n55 < (↑n47 : Int)) = false → (b33 = true → rng .i64 (n34 + (1 : Int)) ∧ inv29 true (n34 + (1 :
  Int)) H52 ∧ m30 true (n34 + (1 : Int)) < m30 b33 n34) ∧ (b33 = false → rng .i64 (n34 + (1 : Int)) ∧ inv29 (!b54) (n34 + (1 : Int)) H52 ∧ m30 (!b54) (n34 + (1 : Int)) < m30 b33 n34))) ∧
  (decide (n34 < (↑n26 : Int)) = false → ∃ (post89 : Option Addr → Nat → Nat → Heap → Prop), ConT P 15 [.slice A3 n4 c5, .slice A10 n11 c12, .slice A17 n18 c19, .slice A17 n18 c19] H31
  ⟨false, [(false, [.sl])]⟩ post89 ∧ ∀ (H90 : Heap), Heap.le H31 H90 → ∀ (A92 : Option Addr) (n93 c94 : Nat), post89 A92 n93 c94 H90 → ∃ (inv96 : Bool → Int → Heap → Prop), ∃ (m97 : Bool →
  Int → Nat), inv96 false (0 : Int) H90 ∧ ∀ (H98 : Heap), Heap.le H90 H98 → ∀ (b100 : Bool) (n101 : Int), inv96 b100 n101 H98 → (decide (n101 < (↑n93 : Int)) = true → someA A92 ∧ (0 : Int) ≤
  n101 ∧ n101 < (↑n93 : Int) ∧ ∃ (n104 : Int), ∃ (n105 : Int), ∃ (A106 : Option Addr), ∃ (n107 : Nat), ∃ (c108 : Nat), Cells H98 A92 (Int.toNat n101 * 3) [.int .i64 n104, .int .i64 n105,
  .slice A106 n107 c108] ∧ (b100 = true → rng .i64 (n101 + (1 : Int)) ∧ inv96 true (n101 + (1 : Int)) H98 ∧ m97 true (n101 + (1 : Int)) < m97 b100 n101) ∧ (b100 = false → (decide (n104 ≤ e21)
  = true → rng .i64 (n101 + (1 : Int)) ∧ inv96 (decide (e21 < n105)) (n101 + (1 : Int)) H98 ∧ m97 (decide (e21 < n105)) (n101 + (1 : Int)) < m97 b100 n101) ∧ (decide (n104 ≤ e21) = false →
  rng .i64 (n101 + (1 : Int)) ∧ inv96 false (n101 + (1 : Int)) H98 ∧ m97 false (n101 + (1 : Int)) < m97 b100 n101))) ∧ (decide (n101 < (↑n93 : Int)) = false → ∃ (post114 : Bool → Heap →
  Prop), ConT P 9 [] H98 ⟨false, [(false, [.bool])]⟩ post114 ∧ ∀ (H115 : Heap), Heap.le H98 H115 → ∀ (b117 : Bool), post114 b117 H115 → (b117 = true → ((b100 == b33) = true → ((!b33) = true →
  post true H115) ∧ ((!b33) = false → ∃ (post123 : Bool → Heap → Prop), ConT P 16 [.slice A3 n4 c5, .slice A10 n11 c12, .slice A17 n18 c19, .slice A17 n18 c19] H115 ⟨false, [(false,
  [.bool])]⟩ post123 ∧ ∀ (H124 : Heap), Heap.le H115 H124 → ∀ (b126 : Bool), post123 b126 H124 → post (!b126) H124)) ∧ ((b100 == b33) = false → post false H115)) ∧ (b117 = false → post false
  H115)))) := by kernel_rfl
set_option maxHeartbeats 2000000 in
theorem law23_ForeignKeyDaily {H : Heap} {A B : Option Addr} {n c m d : Nat} {a b : List U5} {x day : Int} (hT : TabH H) (hs : Sl H A n c a) (ht : Sl H B m d b) (hx : rng .u16 x) (hd : rng .u16 day) :
    ConT Tryz.prog 6 [.slice A n c, .slice B m d, .int .u16 x, .int .u16 day] H shB (fun r _ => r = true) := by
  refine con_of_vc (an := an6) (fn := Tryz.f6) mix tabOK Tryz.func6 (by kernel_rfl) (extra := 0) ?_
  rw [vc6]
  have f1 : Fit (lTups a 12) (colsOf x) := lTups_fit2 hs (by decide) (colsOf_len x)
  have f2 : Fit (lTups b 12) (colsOf x) := lTups_fit2 ht (by decide) (colsOf_len x)
  refine ⟨_, law0_Tuples (most := 12) hs (by decide), ?_⟩
  intro H1 l1 A3 n4 c5 h3
  refine ⟨_, law0_Tuples (most := 12) (ht.mono l1) (by decide), ?_⟩
  intro H8 l8 A10 n11 c12 h10
  generalize lTups a 12 = ta at h3 f1
  generalize lTups b 12 = tb at h10 f2
  refine ⟨_, law23_columns hx.1, ?_⟩
  intro H15 l15 A17 n18 c19 k1
  have hcl := colsOf_len x
  generalize colsOf x = cols at k1 hcl f1 f2
  have k1l := k1.len
  have h60 := tmod_bd (x := day) hd.1 (m := 60) (by decide)
  have h3 := h3.mono (hle_trans l8 l15)
  have h10 := h10.mono l15
  have hT := hT.mono (hle_trans l1 (hle_trans l8 l15))
  refine ⟨by decide, Int.tmod day 60, wrap_i64 h60.1 (by omega), _, tuple_Timeslice h3, ?_⟩
  generalize Int.tmod day 60 = dd at h60
  rintro H23 l23 A25 n26 c27 ⟨mc, hmc, hmp, -⟩
  have hml := hmc.len; have hmb := hmc.bn
  refine ⟨fun b i _ => 0 ≤ i ∧ i ≤ n26 ∧ b = (mc.take i.toNat).any (fun r => !(atT tb dd).any fun s => decide (cmpVs (keyVals r.vals cols) (keyVals s.vals cols) = 0)), fun _ i => n26 - i.toNat, ⟨by omega, by omega, by simp⟩, ?_⟩
  rintro H31 l31 b33 i ⟨i0, i1, rfl⟩
  have l1531 := hle_trans l23 l31
  refine ⟨fun hlt => ?_, fun hge => ?_⟩
  · have hlt := of_decide_eq_true hlt
    obtain ⟨hi, hA, _, hc, ⟨A37, n38, c39, A40, n41, c42, rfl, q1, q2⟩⟩ := hmc.at l31 i0 hlt
    have hsu := any_succ (f := fun r : Rw => !(atT tb dd).any fun s => decide (cmpVs (keyVals r.vals cols) (keyVals s.vals cols) = 0)) i0 hi
    generalize mc[i.toNat] = r at q1 q2 hsu
    refine ⟨hA, i0, hlt, _, _, _, _, _, _, hc, _, tuple_Timeslice (h10.mono l1531), ?_⟩
    rintro H44 l44 A46 n47 c48 ⟨mp, hmpp, hpp, -⟩
    have hpl := hmpp.len; have hpb := hmpp.bn
    rw [← hpp.any_eq] at hsu
    refine ⟨fun b j _ => 0 ≤ j ∧ j ≤ n47 ∧ b = (mp.take j.toNat).any (fun s => decide (cmpVs (keyVals r.vals cols) (keyVals s.vals cols) = 0)), fun _ j => n47 - j.toNat, ⟨by omega, by omega, by simp⟩, ?_⟩
    rintro H52 l52 b54 j ⟨j0, j1, rfl⟩
    refine ⟨fun jlt => ?_, fun jge => ?_⟩
    · have jlt := of_decide_eq_true jlt
      obtain ⟨hj, hB, _, hd', ⟨A58, n59, c60, A61, n62, c63, rfl, p1, p2⟩⟩ := hmpp.at l52 j0 jlt
      have hsj := any_succ (f := fun s : Rw => decide (cmpVs (keyVals r.vals cols) (keyVals s.vals cols) = 0)) j0 hj
      refine ⟨hB, j0, jlt, _, _, _, _, _, _, hd', fun hb => ⟨by simp only [rng]; omega, ⟨by omega, by omega, by rw [hsj, hb, Bool.true_or]⟩, by dsimp only; omega⟩, fun hb => ?_⟩
      have l1552 := hle_trans l1531 (hle_trans l44 l52)
      refine ⟨_, keys_Values (q1.mono (hle_trans l44 l52)) (k1.mono l1552) (by omega), ?_⟩
      intro H67 l67 A69 n70 c71 v1
      refine ⟨_, keys_Values (p1.mono l67) (k1.mono (hle_trans l1552 l67)) (by omega), ?_⟩
      intro H74 l74 A76 n77 c78 v2
      refine ⟨_, ref6_CompareRows (v1.mono l74) v2, ?_⟩
      rintro H81 l81 _ rfl
      exact ⟨by simp only [rng]; omega, ⟨by omega, by omega, by rw [hsj, hb, Bool.false_or]⟩, by dsimp only; omega⟩
    · have jge := of_decide_eq_false jge
      rw [List.take_of_length_le (l := mp) (by omega)]
      refine ⟨fun hb => ⟨by simp only [rng]; omega, ⟨by omega, by omega, by rw [hsu, hb, Bool.true_or]⟩, by dsimp only; omega⟩, fun hb => ⟨by simp only [rng]; omega, ⟨by omega, by omega, by rw [hsu, hb, Bool.false_or]⟩, by dsimp only; omega⟩⟩
  · have hge := of_decide_eq_false hge
    rw [List.take_of_length_le (by omega)]
    have hcov := orphan_any (parent := tb) (cols := cols) hmp
    refine ⟨_, fk_Violations (hT.mono l1531) (h3.mono l1531) (h10.mono l1531) (k1.mono l1531) (k1.mono l1531) f1 f2, ?_⟩
    intro H90 l90 A92 n93 c94 hv
    have hvl := hv.len; have hvb := hv.bn
    generalize (mc.any fun r => !(atT tb dd).any fun s => decide (cmpVs (keyVals r.vals cols) (keyVals s.vals cols) = 0)) = orphan at hcov
    generalize hV : fkAll ta tb cols cols = V at hv hvl hcov
    refine ⟨fun b i _ => 0 ≤ i ∧ i ≤ n93 ∧ b = (V.take i.toNat).any (fun v => decide (inV v dd)), fun _ i => n93 - i.toNat, ⟨by omega, by omega, by simp⟩, ?_⟩
    rintro H98 l98 b j ⟨j0, j1, rfl⟩
    refine ⟨fun hlt => ?_, fun hge => ?_⟩
    · have hlt := of_decide_eq_true hlt
      obtain ⟨hi, hA, _, hc, ⟨A1, n1, c1, rfl, q1, q2, q3⟩⟩ := hv.at l98 j0 hlt
      have hsu := any_succ (f := fun v : Vio => decide (inV v dd)) j0 hi
      refine ⟨hA, j0, hlt, _, _, _, _, _, hc, fun hb => ⟨by simp only [rng]; omega, ⟨by omega, by omega, ?_⟩, by dsimp only; omega⟩, fun hb => ⟨fun h1 => ⟨by simp only [rng]; omega, ⟨by omega, by omega, ?_⟩, by dsimp only; omega⟩, fun h1 => ⟨by simp only [rng]; omega, ⟨by omega, by omega, ?_⟩, by dsimp only; omega⟩⟩⟩
      · rw [hsu, hb, Bool.true_or]
      · rw [hsu, hb, Bool.false_or]
        have h1 := of_decide_eq_true h1
        simp only [inV, h1, true_and]
      · rw [hsu, hb, Bool.false_or]
        have h1 := of_decide_eq_false h1
        simp only [inV, h1, false_and, decide_false]
    · have hge := of_decide_eq_false hge
      rw [List.take_of_length_le (by omega)]
      have hc2 : (V.any fun v => decide (inV v dd)) = orphan := by
        rw [Bool.eq_iff_iff, ← hcov]
        simp only [List.any_eq_true, decide_eq_true_eq]
        rfl
      have l1598 := hle_trans l1531 (hle_trans l90 l98)
      refine ⟨_, law23_awake (hT.mono l1598), ?_⟩
      rintro H115 l115 _ rfl
      rw [hc2]
      refine ⟨fun _ => ⟨fun _ => ⟨fun _ => rfl, fun ho => ?_⟩, fun h => by simp at h⟩, fun h => by simp at h⟩
      have l2 := hle_trans l1598 l115
      refine ⟨_, fk_Holds (hT.mono l2) (h3.mono l2) (h10.mono l2) (k1.mono l2) (k1.mono l2) f1 f2, ?_⟩
      rintro H124 l124 _ rfl
      rw [hV]
      obtain ⟨w, hw, -⟩ := hcov.2 (by simpa using ho)
      cases hz : V with
      | nil => rw [hz] at hw; cases hw
      | cons q r => simp
def an3 : Ann where
  res := fun _ => none
  lend := fun | 13 => true | 17 => true | 35 => true | 41 => true | 51 => true | 60 => true | 67 => true | _ => false
  sch := fun _ => .done
  lt := fun _ => []
  tup := tups

theorem vc3 (P : Program) (H : Heap) (childA : Option Addr) (childN childC : Nat) (p1A : Option Addr) (p1N p1C : Nat) (p2A : Option Addr) (p2N p2C : Nat) (p3A : Option Addr) (p3N p3C : Nat) (p4A : Option Addr) (p4N p4C : Nat) (post : Bool → Heap → Prop) :
  vcFn P tab an3 Tryz.f3 [.slice childA childN childC, .slice p1A p1N p1C, .slice p2A p2N p2C, .slice p3A p3N p3C, .slice p4A p4N p4C] 0 H ⟨false, [(false, [.bool])]⟩ post =
  (  ∃ (post0 : Bool → Heap → Prop), ConT P 8 [.slice childA childN childC, .int .i64 (10 : Int)] H ⟨false, [(false, [.bool])]⟩ post0 ∧ ∀ (H1 : Heap), Heap.le H H1 → ∀ (b3 : Bool), post0 b3 H1 →
  ((!b3) = true → ∃ (post6 : Bool → Heap → Prop), ConT P 9 [] H1 ⟨false, [(false, [.bool])]⟩ post6 ∧ ∀ (H7 : Heap), Heap.le H1 H7 → ∀ (b9 : Bool), post6 b9 H7 → post b9 H7) ∧ ((!b3) = false →
  ∃ (post12 : Bool → Heap → Prop), ConT P 8 [.slice p1A p1N p1C, .int .i64 (10 : Int)] H1 ⟨false, [(false, [.bool])]⟩ post12 ∧ ∀ (H13 : Heap), Heap.le H1 H13 → ∀ (b15 : Bool), post12 b15 H13
  → ((!b15) = true → ∃ (post18 : Bool → Heap → Prop), ConT P 9 [] H13 ⟨false, [(false, [.bool])]⟩ post18 ∧ ∀ (H19 : Heap), Heap.le H13 H19 → ∀ (b21 : Bool), post18 b21 H19 → post b21 H19) ∧
  ((!b15) = false → (decide ((6 : Int) < (↑p2N : Int)) = true → ∃ (post25 : Bool → Heap → Prop), ConT P 9 [] H13 ⟨false, [(false, [.bool])]⟩ post25 ∧ ∀ (H26 : Heap), Heap.le H13 H26 → ∀ (b28
  : Bool), post25 b28 H26 → post b28 H26) ∧ (decide ((6 : Int) < (↑p2N : Int)) = false → (decide ((6 : Int) < (↑p3N : Int)) = true → ∃ (post32 : Bool → Heap → Prop), ConT P 9 [] H13 ⟨false,
  [(false, [.bool])]⟩ post32 ∧ ∀ (H33 : Heap), Heap.le H13 H33 → ∀ (b35 : Bool), post32 b35 H33 → post b35 H33) ∧ (decide ((6 : Int) < (↑p3N : Int)) = false → (decide ((6 : Int) < (↑p4N :
  Int)) = true → ∃ (post39 : Bool → Heap → Prop), ConT P 9 [] H13 ⟨false, [(false, [.bool])]⟩ post39 ∧ ∀ (H40 : Heap), Heap.le H13 H40 → ∀ (b42 : Bool), post39 b42 H40 → post b42 H40) ∧
  (decide ((6 : Int) < (↑p4N : Int)) = false → ∃ (post45 : Option Addr → Nat → Nat → Heap → Prop), ConT P 10 [.slice childA childN childC, .slice p1A p1N p1C, .slice p2A p2N p2C, .slice p3A
  p3N p3C] H13 ⟨false, [(false, [.sl])]⟩ post45 ∧ ∀ (H46 : Heap), Heap.le H13 H46 → ∀ (A48 : Option Addr) (n49 c50 : Nat), post45 A48 n49 c50 H46 → ∃ (post52 : Bool → Heap → Prop), ConT P 9
  [] H46 ⟨false, [(false, [.bool])]⟩ post52 ∧ ∀ (H53 : Heap), Heap.le H46 H53 → ∀ (b55 : Bool), post52 b55 H53 → (b55 = true → ∃ (post58 : Option Addr → Nat → Nat → Heap → Prop), ConT P 12
  [.slice childA childN childC, .slice p2A p2N p2C, .slice p4A p4N p4C] H53 ⟨false, [(false, [.sl])]⟩ post58 ∧ ∀ (H59 : Heap), Heap.le H53 H59 → ∀ (A61 : Option Addr) (n62 c63 : Nat), post58
  A61 n62 c63 H59 → ∃ (post65 : Option Addr → Nat → Nat → Heap → Prop), ConT P 13 [.slice childA childN childC, .slice p2A p2N p2C, .slice p4A p4N p4C] H59 ⟨false, [(false, [.sl])]⟩ post65 ∧
  ∀ (H66 : Heap), Heap.le H59 H66 → ∀ (A68 : Option Addr) (n69 c70 : Nat), post65 A68 n69 c70 H66 → ∃ (post72 : Bool → Heap → Prop), ConT P 11 [.slice A61 n62 c63, .slice A68 n69 c70] H66
  ⟨false, [(false, [.bool])]⟩ post72 ∧ ∀ (H73 : Heap), Heap.le H66 H73 → ∀ (b75 : Bool), post72 b75 H73 → (b75 = true → ∃ (post78 : Option Addr → Nat → Nat → Heap → Prop), ConT P 15 [.slice
  childA childN childC, .slice p1A p1N p1C, .slice p2A p2N p2C, .slice p3A p3N p3C] H73 ⟨false, [(false, [.sl])]⟩ post78 ∧ ∀ (H79 : Heap), Heap.le H73 H79 → ∀ (A81 : Option Addr) (n82 c83 :
  Nat), post78 A81 n82 c83 H79 → ∃ (post85 : Bool → Heap → Prop), ConT P 14 [.slice A81 n82 c83, .slice A48 n49 c50] H79 ⟨false, [(false, [.bool])]⟩ post85 ∧ ∀ (H86 : Heap), Heap.le H79 H86 →
  ∀ (b88 : Bool), post85 b88 H86 → (b88 = true → ∃ (post91 : Bool → Heap → Prop), ConT P 16 [.slice childA childN childC, .slice p1A p1N p1C, .slice p2A p2N p2C, .slice p3A p3N p3C] H86
  ⟨false, [(false, [.bool])]⟩ post91 ∧ ∀ (H92 : Heap), Heap.le H86 H92 → ∀ (b94 : Bool), post91 b94 H92 → post (b94 == decide ((↑n49 : Int) = (0 : Int))) H92) ∧ (b88 = false → post false
  H86)) ∧ (b75 = false → post false H73)) ∧ (b55 = false → post false H53))))))) := by kernel_rfl
set_option maxHeartbeats 1000000 in
theorem law23_ForeignKeyRaw {H : Heap} {A B C D E : Option Addr} {n c m d k e p q s t : Nat} {child parent : List Tup} {cols ref : List Int} {key : List Val} (hT : TabH H) (h1 : Sl H A n c child) (h2 : Sl H B m d parent) (h3 : Sl H C k e cols) (h4 : Sl H D p q ref) (h5 : Sl H E s t key)
    (hk1 : k ≤ 6 → keyFit child cols) (hk2 : p ≤ 6 → keyFit parent ref) :
    ConT Tryz.prog 3 [.slice A n c, .slice B m d, .slice C k e, .slice D p q, .slice E s t] H shB (fun r _ => r = true) := by
  refine con_of_vc (an := an3) (fn := Tryz.f3) mix tabOK Tryz.func3 (by kernel_rfl) (extra := 0) ?_
  rw [vc3]
  have e1 := h1.len; have e2 := h2.len; have e3 := h3.len; have e4 := h4.len
  have aw : ∀ {H' : Heap}, Heap.le H H' → ∃ (post : Bool → Heap → Prop), ConT Tryz.prog 9 [] H' shB post ∧ ∀ (H7 : Heap), Heap.le H' H7 → ∀ (b9 : Bool), post b9 H7 → b9 = true := fun hle => ⟨_, law23_awake (hT.mono hle), fun _ _ _ h => h⟩
  refine ⟨_, law0_FewTuples (most := 10) h1, ?_⟩
  rintro H1 l1 b3 hb
  refine ⟨fun _ => aw l1, fun hb' => ⟨_, law0_FewTuples (most := 10) (h2.mono l1), ?_⟩⟩
  obtain ⟨g1, g2⟩ := hb (by simpa using hb')
  rintro H13 l13 b15 hc
  have l113 := hle_trans l1 l13
  refine ⟨fun _ => aw l113, fun hc' => ⟨fun _ => aw l113, fun hk => ⟨fun _ => aw l113, fun hp => ⟨fun _ => aw l113, fun hs => ?_⟩⟩⟩⟩
  obtain ⟨g3, g4⟩ := hc (by simpa using hc')
  have hk := of_decide_eq_false hk; have hp := of_decide_eq_false hp
  have t1 := few_tlins g2; have t2 := few_tlins g4
  have f1 : Fit child cols := ⟨by omega, by omega, by omega, hk1 (by omega)⟩
  have f2 : Fit parent ref := ⟨by omega, by omega, by omega, hk2 (by omega)⟩
  have h1 := h1.mono l113; have h2 := h2.mono l113; have h3 := h3.mono l113; have h4 := h4.mono l113; have h5 := h5.mono l113
  have hT := hT.mono l113
  refine ⟨_, ref21_FKViolations h1 h2 h3 h4 f1 f2, ?_⟩
  intro H46 l46 A48 n49 c50 hr
  refine ⟨_, law23_awake (hT.mono l46), ?_⟩
  rintro H53 l53 _ rfl
  refine ⟨fun _ => ?_, fun h => by simp at h⟩
  have l1353 := hle_trans l46 l53
  refine ⟨_, foreignkey_Covered (h1.mono l1353) (h3.mono l1353) (h5.mono l1353) (by omega), ?_⟩
  intro H59 l59 A61 n62 c63 g5
  have l1359 := hle_trans l1353 l59
  refine ⟨_, ref21_Covered (h1.mono l1359) (h3.mono l1359) (h5.mono l1359) (by omega), ?_⟩
  intro H66 l66 A68 n69 c70 g6
  refine ⟨_, ref1_SamePeriods (g5.mono l66) g6, ?_⟩
  rintro H73 l73 _ rfl
  refine ⟨fun _ => ?_, fun h => by simp at h⟩
  have l1373 := hle_trans l1359 (hle_trans l66 l73)
  refine ⟨_, fk_Violations (hT.mono l1373) (h1.mono l1373) (h2.mono l1373) (h3.mono l1373) (h4.mono l1373) f1 f2, ?_⟩
  intro H79 l79 A81 n82 c83 hv
  refine ⟨_, ref21_SameViolations hv (hr.mono (hle_trans l53 (hle_trans l59 (hle_trans l66 (hle_trans l73 l79))))), ?_⟩
  rintro H86 l86 _ rfl
  refine ⟨fun _ => ?_, fun h => by simp at h⟩
  have l1386 := hle_trans l1373 (hle_trans l79 l86)
  refine ⟨_, fk_Holds (hT.mono l1386) (h1.mono l1386) (h2.mono l1386) (h3.mono l1386) (h4.mono l1386) f1 f2, ?_⟩
  rintro H92 l92 _ rfl
  rw [hr.len]
  simp
end Go.Vc

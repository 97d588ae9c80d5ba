/- Validity of a schema's history and of a schema; the version at an instant; the width. -/
import Derived.Test.YthbapbapcnafhaaC3
set_option linter.unusedSectionVars false
set_option linter.unusedSimpArgs false
set_option linter.unusedVariables false
namespace Go.Vc
open Go Go.Proofs
def col0 : Col := ⟨0, ⟨⟨[]⟩⟩, 0⟩
theorem rep_int0 {H : Heap} : Rep.rel H [.int .i64 0] (0 : Int) := ⟨rfl, by simp [rng]⟩
theorem rep_col0 {H : Heap} : Rep.rel H [.int .i64 0, .string ⟨⟨[]⟩⟩, .int .i64 0] col0 := ⟨rfl, by simp [rng, col0], by simp [str, col0, ByteArray.size], by simp [rng, col0]⟩
def histCols (i g : Int) : List Int → List Int → List Col → Int → List Col → Option (List Int × List Int × List Col × Int)
  | f, la, co, top, [] => some (f, la, co, top)
  | f, la, co, top, c :: r =>
    if f.getD c.id.toNat 0 = 0 then
      if 0 < i ∧ c.id ≤ g then none
      else histCols i g (f.set c.id.toNat (i + 1)) (la.set c.id.toNat (i + 1)) (co.set c.id.toNat c) (max top c.id) r
    else if la.getD c.id.toNat 0 = i ∧ co.getD c.id.toNat col0 = c then histCols i g f (la.set c.id.toNat (i + 1)) co (max top c.id) r
    else none
def histVers : Int → Int → List Int → List Int → List Col → List Ver → Bool
  | _, _, _, _, _, [] => true
  | i, g, f, la, co, v :: r => match histCols i g f la co g v.cols with
    | none => false
    | some (f', la', co', t) => histVers (i + 1) t f' la' co' r
theorem histVers_cons (i g : Int) (f la : List Int) (co : List Col) (v : Ver) (r : List Ver) : histVers i g f la co (v :: r) = match histCols i g f la co g v.cols with
    | none => false
    | some (f', la', co', t) => histVers (i + 1) t f' la' co' r := rfl
def validHistory (l : List Ver) : Bool := histVers 0 0 (List.replicate 13 0) (List.replicate 13 0) (List.replicate 13 col0) l
def goodIDs (l : List Ver) : Prop := ∀ v ∈ l, ∀ c ∈ v.cols, 1 ≤ c.id ∧ c.id ≤ 12
def an44 : Ann where
  res := fun _ => none
  lend := fun _ => false
  sch := fun | 14 => (tk [0, 1, 2, 3, 4, 5, 6] (.alt 7 (.alt 8 (.alt 9 (.alt 10 .done .fin) .fin) .fin) .fin)) | 15 => (tk [0, 1, 2, 3, 4, 5, 6, 7, 8, 9, 10, 11, 12, 13, 14] .done) | _ => .done
  lt := fun | 5 => [.slot 6 false [.int .i64], .slot 14 false [.int .i64], .arr 3 107, .arr 4 107, .arr 5 70] | 9 => [.slot 9 false [.int .i64], .slot 23 false [.int .i64], .arr 3 107, .arr 4 107, .arr 5 70] | _ => []
  tup := tups

theorem vc44 (P : Program) (H : Heap) (lA : Option Addr) (lN lC : Nat) (post : Bool → Heap → Prop) :
  vcFn P tab an44 Try.f44 [.slice lA lN lC] 0 H ⟨false, [(false, [.bool])]⟩ post =
  (  ∃ (inv0 : Int → Int → List Value → List Value → List Value → Heap → Prop), ∃ (m1 : Int → Int → List Value → List Value → List Value → Nat), inv0 (0 : Int) (0 : Int) [.int .i64 (0 : Int),
  .int .i64 (0 : Int), .int .i64 (0 : Int), .int .i64 (0 : Int), .int .i64 (0 : Int), .int .i64 (0 : Int), .int .i64 (0 : Int), .int .i64 (0 : Int), .int .i64 (0 : Int), .int .i64 (0 : Int),
  .int .i64 (0 : Int), .int .i64 (0 : Int), .int .i64 (0 : Int)] [.int .i64 (0 : Int), .int .i64 (0 : Int), .int .i64 (0 : Int), .int .i64 (0 : Int), .int .i64 (0 : Int), .int .i64 (0 : Int),
  .int .i64 (0 : Int), .int .i64 (0 : Int), .int .i64 (0 : Int), .int .i64 (0 : Int), .int .i64 (0 : Int), .int .i64 (0 : Int), .int .i64 (0 : Int)] [.int .i64 (0 : Int), .string ⟨⟨[]⟩⟩, .int
  .i64 (0 : Int), .int .i64 (0 : Int), .string ⟨⟨[]⟩⟩, .int .i64 (0 : Int), .int .i64 (0 : Int), .string ⟨⟨[]⟩⟩, .int .i64 (0 : Int), .int .i64 (0 : Int), .string ⟨⟨[]⟩⟩, .int .i64 (0 : Int),
  .int .i64 (0 : Int), .string ⟨⟨[]⟩⟩, .int .i64 (0 : Int), .int .i64 (0 : Int), .string ⟨⟨[]⟩⟩, .int .i64 (0 : Int), .int .i64 (0 : Int), .string ⟨⟨[]⟩⟩, .int .i64 (0 : Int), .int .i64 (0 :
  Int), .string ⟨⟨[]⟩⟩, .int .i64 (0 : Int), .int .i64 (0 : Int), .string ⟨⟨[]⟩⟩, .int .i64 (0 : Int), .int .i64 (0 : Int), .string ⟨⟨[]⟩⟩, .int .i64 (0 : Int), .int .i64 (0 : Int), .string
  ⟨⟨[]⟩⟩, .int .i64 (0 : Int), .int .i64 (0 : Int), .string ⟨⟨[]⟩⟩, .int .i64 (0 : Int), .int .i64 (0 : Int), .string ⟨⟨[]⟩⟩, .int .i64 (0 : Int)] H ∧ ∀ (H2 : Heap), Heap.le H H2 → ∀ (n4 n5 :
  Int) (xs6 xs7 xs8 : List Value), inv0 n4 n5 xs6 xs7 xs8 H2 → (decide (n5 < (↑lN : Int)) = true → someA lA ∧ (0 : Int) ≤ n5 ∧ n5 < (↑lN : Int) ∧ ∃ (n11 : Int), ∃ (n12 : Int), ∃ (A13 : Option
  Addr), ∃ (n14 : Nat), ∃ (c15 : Nat), Cells H2 lA (Int.toNat n5 * 3) [.int .i64 n11, .int .i64 n12, .slice A13 n14 c15] ∧ ∃ (inv16 : Int → Int → List Value → List Value → List Value → Heap →
  Prop), ∃ (m17 : Int → Int → List Value → List Value → List Value → Nat), inv16 n4 (0 : Int) xs6 xs7 xs8 H2 ∧ ∀ (H18 : Heap), Heap.le H2 H18 → ∀ (n20 n21 : Int) (xs22 xs23 xs24 : List
  Value), inv16 n20 n21 xs22 xs23 xs24 H18 → (decide (n21 < (↑n14 : Int)) = true → someA A13 ∧ (0 : Int) ≤ n21 ∧ n21 < (↑n14 : Int) ∧ ∃ (n27 : Int), ∃ (s28 : ByteArray), ∃ (n29 : Int), Cells
  H18 A13 (Int.toNat n21 * 3) [.int .i64 n27, .string s28, .int .i64 n29] ∧ (0 : Int) ≤ n27 ∧ n27 < (↑13 : Int) ∧ ∃ (n30 : Int), win xs22 (Int.toNat n27 * 1) 1 = [.int .i64 n30] ∧ (decide
  (n30 = (0 : Int)) = true → (decide ((0 : Int) < n5) = true → (decide (n27 ≤ n4) = true → post false H18) ∧ (decide (n27 ≤ n4) = false → rng .i64 (n5 + (1 : Int)) ∧ (0 : Int) ≤ n27 ∧ n27 <
  (↑13 : Int) ∧ Int.toNat n27 * 1 + 1 ≤ List.length xs22 ∧ (0 : Int) ≤ n27 ∧ n27 < (↑13 : Int) ∧ Int.toNat n27 * 3 + 3 ≤ List.length xs24 ∧ rng .i64 (n5 + (1 : Int)) ∧ (0 : Int) ≤ n27 ∧ n27 <
  (↑13 : Int) ∧ Int.toNat n27 * 1 + 1 ≤ List.length xs23 ∧ rng .i64 (n21 + (1 : Int)) ∧ inv16 (max n20 n27) (n21 + (1 : Int)) (splice xs22 (Int.toNat n27 * 1) [.int .i64 (n5 + (1 : Int))])
  (splice xs23 (Int.toNat n27 * 1) [.int .i64 (n5 + (1 : Int))]) (splice xs24 (Int.toNat n27 * 3) [.int .i64 n27, .string s28, .int .i64 n29]) H18 ∧ m17 (max n20 n27) (n21 + (1 : Int))
  (splice xs22 (Int.toNat n27 * 1) [.int .i64 (n5 + (1 : Int))]) (splice xs23 (Int.toNat n27 * 1) [.int .i64 (n5 + (1 : Int))]) (splice xs24 (Int.toNat n27 * 3) [.int .i64 n27, .string s28,
  .int .i64 n29]) < m17 n20 n21 xs22 xs23 xs24)) ∧ (decide ((0 : Int) < n5) = false → rng .i64 (n5 + (1 : Int)) ∧ (0 : Int) ≤ n27 ∧ n27 < (↑13 : Int) ∧ Int.toNat n27 * 1 + 1 ≤ List.length
  xs22 ∧ (0 : Int) ≤ n27 ∧ n27 < (↑13 : Int) ∧ Int.toNat n27 * 3 + 3 ≤ List.length xs24 ∧ rng .i64 (n5 + (1 : Int)) ∧ (0 : Int) ≤ n27 ∧ n27 < (↑13 : Int) ∧ Int.toNat n27 * 1 + 1 ≤ List.length
  xs23 ∧ rng .i64 (n21 + (1 : Int)) ∧ inv16 (max n20 n27) (n21 + (1 : Int)) (splice xs22 (Int.toNat n27 * 1) [.int .i64 (n5 + (1 : Int))]) (splice xs23 (Int.toNat n27 * 1) [.int .i64 (n5 + (1
  : Int))]) (splice xs24 (Int.toNat n27 * 3) [.int .i64 n27, .string s28, .int .i64 n29]) H18 ∧ m17 (max n20 n27) (n21 + (1 : Int)) (splice xs22 (Int.toNat n27 * 1) [.int .i64 (n5 + (1 :
  Int))]) (splice xs23 (Int.toNat n27 * 1) [.int .i64 (n5 + (1 : Int))]) (splice xs24 (Int.toNat n27 * 3) [.int .i64 n27, .string s28, .int .i64 n29]) < m17 n20 n21 xs22 xs23 xs24)) ∧ (decide
  (n30 = (0 : Int)) = false → (0 : Int) ≤ n27 ∧ n27 < (↑13 : Int) ∧ ∃ (n37 : Int), win xs23 (Int.toNat n27 * 1) 1 = [.int .i64 n37] ∧ ((!decide (n37 = n5)) = true → post false H18) ∧
  ((!decide (n37 = n5)) = false → (0 : Int) ≤ n27 ∧ n27 < (↑13 : Int) ∧ ∃ (n40 : Int), ∃ (s41 : ByteArray), ∃ (n42 : Int), win xs24 (Int.toNat n27 * 3) 3 = [.int .i64 n40, .string s41, .int
  .i64 n42] ∧ ((!(decide (n40 = n27) && (decide (s41 = s28) && decide (n42 = n29)))) = true → post false H18) ∧ ((!(decide (n40 = n27) && (decide (s41 = s28) && decide (n42 = n29)))) = false
  → rng .i64 (n5 + (1 : Int)) ∧ (0 : Int) ≤ n27 ∧ n27 < (↑13 : Int) ∧ Int.toNat n27 * 1 + 1 ≤ List.length xs23 ∧ rng .i64 (n21 + (1 : Int)) ∧ inv16 (max n20 n27) (n21 + (1 : Int)) xs22
  (splice xs23 (Int.toNat n27 * 1) [.int .i64 (n5 + (1 : Int))]) xs24 H18 ∧ m17 (max n20 n27) (n21 + (1 : Int)) xs22 (splice xs23 (Int.toNat n27 * 1) [.int .i64 (n5 + (1 : Int))]) xs24 < m17
  n20 n21 xs22 xs23 xs24)))) ∧ (decide (n21 < (↑n14 : Int)) = false → rng .i64 (n5 + (1 : Int)) ∧ inv0 n20 (n5 + (1 : Int)) xs22 xs23 xs24 H18 ∧ m1 n20 (n5 + (1 : Int)) xs22 xs23 xs24 < m1 n4
  n5 xs6 xs7 xs8)) ∧ (decide (n5 < (↑lN : Int)) = false → post true H2)) := by kernel_rfl
set_option maxHeartbeats 1000000 in
theorem schema_validHistory {H : Heap} {A : Option Addr} {n c : Nat} {l : List Ver} (hs : Sl H A n c l) (hid : goodIDs l) :
    ConT Try.prog 44 [.slice A n c] H shB (fun r _ => r = validHistory l) := by
  refine con_of_vc (an := an44) (fn := Try.f44) mix tabOK Try.func44 (by kernel_rfl) (extra := 0) ?_
  rw [vc44]
  have b1 := hs.bn; have b2 := hs.len
  unfold validHistory
  refine ⟨fun g i xf xl xc H' => 0 ≤ i ∧ i ≤ n ∧ rng .i64 g ∧ ∃ f la co, Row H' xf f ∧ Row H' xl la ∧ Row H' xc co ∧ f.length = 13 ∧ la.length = 13 ∧ co.length = 13 ∧
      histVers 0 0 (List.replicate 13 0) (List.replicate 13 0) (List.replicate 13 col0) l = histVers i g f la co (l.drop i.toNat), fun _ i _ _ _ => n - i.toNat,
    ⟨by omega, by omega, by simp [rng], _, _, _, Row.zeros rep_int0 13, Row.zeros rep_int0 13, Row.zeros rep_col0 13, rfl, rfl, rfl, rfl⟩, ?_⟩
  rintro H2 hle g i xf xl xc ⟨h0, h1, hg, f, la, co, hf, hla, hco, lf, lla, lco, h2⟩
  refine ⟨fun hlt => ?_, fun hge => ?_⟩
  · have hlt := of_decide_eq_true hlt
    obtain ⟨hi, hA, _, hc, ⟨A', n', c', rfl, r1, r2, hv⟩⟩ := hs.at hle h0 hlt
    rw [drop_at h0 hi, histVers_cons] at h2
    have d1 := hv.bn; have d2 := hv.len
    have hid' := hid _ (List.getElem_mem hi)
    generalize hcs : l[i.toNat].cols = cs at hv h2 d2 hid'
    refine ⟨hA, h0, hlt, _, _, _, _, _, hc, fun top k xf xl xc H' => 0 ≤ k ∧ k ≤ n' ∧ rng .i64 top ∧ ∃ f' la' co', Row H' xf f' ∧ Row H' xl la' ∧ Row H' xc co' ∧ f'.length = 13 ∧ la'.length = 13 ∧ co'.length = 13 ∧
      histCols i g f la co g cs = histCols i g f' la' co' top (cs.drop k.toNat), fun _ k _ _ _ => n' - k.toNat, ⟨by omega, by omega, hg, f, la, co, hf, hla, hco, lf, lla, lco, rfl⟩, ?_⟩
    rintro H3 hle3 top k xf' xl' xc' ⟨k0, k1, htop, f', la', co', hf', hla', hco', lf', lla', lco', k2⟩
    refine ⟨fun klt => ?_, fun kge => ?_⟩
    · have klt := of_decide_eq_true klt
      obtain ⟨ki, kA, _, kc, rfl, q1, q2, q3⟩ := hv.at hle3 k0 klt
      rw [drop_at k0 ki, histCols] at k2
      obtain ⟨p1, p2⟩ := hid' _ (List.getElem_mem ki)
      generalize hck : cs[k.toNat] = ck at k2 p1 p2 q1 q2 q3 kc
      have x1 : ck.id.toNat < f'.length := by omega
      have x2 : ck.id.toNat < la'.length := by omega
      have x3 : ck.id.toNat < co'.length := by omega
      have w1 := (hf'.getw x1).1
      have w2 := (hla'.getw x2).1
      have w3 := (hco'.getw x3).1
      have e1 : f'.getD ck.id.toNat 0 = f'[ck.id.toNat] := by simp [List.getD, x1]
      have e2 : la'.getD ck.id.toNat 0 = la'[ck.id.toNat] := by simp [List.getD, x2]
      have e3 : co'.getD ck.id.toNat col0 = co'[ck.id.toNat] := by simp [List.getD, x3]
      rw [e1, e2, e3] at k2
      have z1 : ck.id.toNat * 1 + 1 ≤ xf'.length := by rw [hf'.length, lf']; show _ ≤ 13 * 1; omega
      have z2 : ck.id.toNat * 1 + 1 ≤ xl'.length := by rw [hla'.length, lla']; show _ ≤ 13 * 1; omega
      have z3 : ck.id.toNat * 3 + 3 ≤ xc'.length := by rw [hco'.length, lco']; show _ ≤ 13 * 3; omega
      have ri : rng .i64 (i + 1) := by simp only [rng]; omega
      have rk : rng .i64 (k + 1) := by simp only [rng]; omega
      have rm : rng .i64 (max top ck.id) := by simp only [rng] at *; omega
      have s1 := hf'.setw x1 (us := [.int .i64 (i + 1)]) (t := i + 1) ⟨rfl, ri⟩
      have s2 := hla'.setw x2 (us := [.int .i64 (i + 1)]) (t := i + 1) ⟨rfl, ri⟩
      have s3 := hco'.setw x3 (us := [.int .i64 ck.id, .string ck.name, .int .i64 ck.kind]) (t := ck) ⟨rfl, q1, q2, q3⟩
      have m1 : n' - (k + 1).toNat < n' - k.toNat := by omega
      refine ⟨kA, k0, klt, _, _, _, kc, by omega, by omega, _, w1, fun hz => ?_, fun hz => ?_⟩
      · rw [if_pos (of_decide_eq_true hz)] at k2
        refine ⟨fun hp => ⟨fun hq => ?_, fun hq => ?_⟩, fun hp => ?_⟩
        · rw [if_pos ⟨of_decide_eq_true hp, of_decide_eq_true hq⟩] at k2
          rw [h2, k2]
        · rw [if_neg (fun h => of_decide_eq_false hq h.2)] at k2
          exact ⟨ri, by omega, by omega, z1, by omega, by omega, z3, ri, by omega, by omega, z2, rk, ⟨by omega, by omega, rm, _, _, _, s1, s2, s3, by simpa using lf', by simpa using lla', by simpa using lco', k2⟩, m1⟩
        · rw [if_neg (fun h => of_decide_eq_false hp h.1)] at k2
          exact ⟨ri, by omega, by omega, z1, by omega, by omega, z3, ri, by omega, by omega, z2, rk, ⟨by omega, by omega, rm, _, _, _, s1, s2, s3, by simpa using lf', by simpa using lla', by simpa using lco', k2⟩, m1⟩
      · rw [if_neg (of_decide_eq_false hz)] at k2
        refine ⟨by omega, by omega, _, w2, fun hp => ?_, fun hp => ⟨by omega, by omega, _, _, _, w3, fun hq => ?_, fun hq => ?_⟩⟩
        · have hp : ¬ la'[ck.id.toNat] = i := by simpa using hp
          rw [if_neg (fun h => hp h.1)] at k2
          rw [h2, k2]
        · have hq : ¬ co'[ck.id.toNat] = ck := by
            intro e; rw [e] at hq; simp at hq
          rw [if_neg (fun h => hq h.2)] at k2
          rw [h2, k2]
        · have hp : la'[ck.id.toNat] = i := by simpa using hp
          have hq : co'[ck.id.toNat] = ck := by
            generalize co'[ck.id.toNat] = y at hq
            cases y; cases ck; simp at hq; simp [hq]
          rw [if_pos ⟨hp, hq⟩] at k2
          exact ⟨ri, by omega, by omega, z2, rk, ⟨by omega, by omega, rm, _, _, _, hf', s2, hco', lf', by simpa using lla', lco', k2⟩, m1⟩
    · rw [drop_end (of_decide_eq_false kge) d2, histCols] at k2
      rw [k2] at h2
      refine ⟨by simp only [rng]; omega, ⟨by omega, by omega, htop, _, _, _, hf', hla', hco', lf', lla', lco', ?_⟩, by dsimp only; omega⟩
      rw [h2, show (i + 1).toNat = i.toNat + 1 by omega]
  · rw [drop_end (of_decide_eq_false hge) b2] at h2
    rw [h2]; rfl

def fkValid (l : List Ver) (f : FKey) : Bool := decide (0 < f.cols.length) && distinctIDs f.cols && permanent l f.cols && validName f.table && decide (f.refs.length = f.cols.length) && distinctIDs f.refs
def cstValid (l : List Ver) (f : Cst) : Bool := (decide (f.kind = 1) || decide (f.kind = 2)) && decide (0 < f.cols.length) && distinctIDs f.cols && permanent l f.cols
def an47 : Ann where
  res := fun _ => none
  lend := fun | 12 => true | 18 => true | 23 => true | 37 => true | _ => false
  sch := fun _ => .done
  lt := fun _ => []
  tup := tups

theorem vc47 (P : Program) (H : Heap) (versionsA : Option Addr) (versionsN versionsC : Nat) (fColumnsA : Option Addr) (fColumnsN fColumnsC : Nat) (fTable : ByteArray) (fRefColumnsA : Option Addr) (fRefColumnsN fRefColumnsC : Nat) (post : Bool → Heap → Prop) :
  vcFn P tab an47 Try.f47 [.slice versionsA versionsN versionsC, .agg #[.slice fColumnsA fColumnsN fColumnsC, .string fTable, .slice fRefColumnsA fRefColumnsN fRefColumnsC]] 0 H ⟨false, [(false, [.bool])]⟩ post =
  (  (decide ((0 : Int) < (↑fColumnsN : Int)) = true → ∃ (post1 : Bool → Heap → Prop), ConT P 45 [.slice fColumnsA fColumnsN fColumnsC] H ⟨false, [(false, [.bool])]⟩ post1 ∧ ∀ (H2 : Heap),
  Heap.le H H2 → ∀ (b4 : Bool), post1 b4 H2 → (b4 = true → ∃ (post7 : Bool → Heap → Prop), ConT P 46 [.slice versionsA versionsN versionsC, .slice fColumnsA fColumnsN fColumnsC] H2 ⟨false,
  [(false, [.bool])]⟩ post7 ∧ ∀ (H8 : Heap), Heap.le H2 H8 → ∀ (b10 : Bool), post7 b10 H8 → (b10 = true → ∃ (post13 : Bool → Heap → Prop), ConT P 10 [.string fTable] H8 ⟨false, [(false,
  [.bool])]⟩ post13 ∧ ∀ (H14 : Heap), Heap.le H8 H14 → ∀ (b16 : Bool), post13 b16 H14 → (b16 = true → (decide ((↑fRefColumnsN : Int) = (↑fColumnsN : Int)) = true → ∃ (post20 : Bool → Heap →
  Prop), ConT P 45 [.slice fRefColumnsA fRefColumnsN fRefColumnsC] H14 ⟨false, [(false, [.bool])]⟩ post20 ∧ ∀ (H21 : Heap), Heap.le H14 H21 → ∀ (b23 : Bool), post20 b23 H21 → post b23 H21) ∧
  (decide ((↑fRefColumnsN : Int) = (↑fColumnsN : Int)) = false → post false H14)) ∧ (b16 = false → post false H14)) ∧ (b10 = false → post false H8)) ∧ (b4 = false → post false H2)) ∧ (decide
  ((0 : Int) < (↑fColumnsN : Int)) = false → post false H)) := by kernel_rfl
theorem schema_validForeignKey {H : Heap} {A B D : Option Addr} {n c m d k e : Nat} {l : List Ver} {s : ByteArray} {x y : List Int} (hs : Sl H A n c l) (hx : Sl H B m d x) (hy : Sl H D k e y) :
    ConT Try.prog 47 [.slice A n c, .agg ⟨[.slice B m d, .string s, .slice D k e]⟩] H shB (fun r _ => r = fkValid l ⟨x, s, y⟩) := by
  refine con_of_vc (an := an47) (fn := Try.f47) mix tabOK Try.func47 (by kernel_rfl) (extra := 0) ?_
  rw [vc47]
  have b1 := hx.len; have b2 := hy.len
  simp only [fkValid, b1, b2]
  refine ⟨fun h => ⟨_, schema_distinctIDs hx, ?_⟩, fun h => ?_⟩
  · rintro H1 l1 _ rfl
    refine ⟨fun h1 => ⟨_, schema_permanent (hs.mono l1) (hx.mono l1), ?_⟩, fun h1 => ?_⟩
    · rintro H2 l2 _ rfl
      refine ⟨fun h2 => ⟨_, schema_ValidName, ?_⟩, fun h2 => ?_⟩
      · rintro H3 l3 _ rfl
        refine ⟨fun h3 => ⟨fun h4 => ⟨_, schema_distinctIDs (hy.mono (hle_trans l1 (hle_trans l2 l3))), ?_⟩, fun h4 => ?_⟩, fun h3 => ?_⟩
        · rintro H4 l4 _ rfl
          grind
        · grind
        · grind
      · grind
    · grind
  · grind
def an48 : Ann where
  res := fun _ => none
  lend := fun | 22 => true | 28 => true | _ => false
  sch := fun _ => .done
  lt := fun _ => []
  tup := tups

theorem vc48 (P : Program) (H : Heap) (versionsA : Option Addr) (versionsN versionsC : Nat) (cKind : Int) (cColumnsA : Option Addr) (cColumnsN cColumnsC : Nat) (post : Bool → Heap → Prop) :
  vcFn P tab an48 Try.f48 [.slice versionsA versionsN versionsC, .agg #[.int .i64 cKind, .slice cColumnsA cColumnsN cColumnsC]] 0 H ⟨false, [(false, [.bool])]⟩ post =
  (  (decide (cKind = (1 : Int)) = true → (decide ((0 : Int) < (↑cColumnsN : Int)) = true → ∃ (post2 : Bool → Heap → Prop), ConT P 45 [.slice cColumnsA cColumnsN cColumnsC] H ⟨false, [(false,
  [.bool])]⟩ post2 ∧ ∀ (H3 : Heap), Heap.le H H3 → ∀ (b5 : Bool), post2 b5 H3 → (b5 = true → ∃ (post8 : Bool → Heap → Prop), ConT P 46 [.slice versionsA versionsN versionsC, .slice cColumnsA
  cColumnsN cColumnsC] H3 ⟨false, [(false, [.bool])]⟩ post8 ∧ ∀ (H9 : Heap), Heap.le H3 H9 → ∀ (b11 : Bool), post8 b11 H9 → post b11 H9) ∧ (b5 = false → post false H3)) ∧ (decide ((0 : Int) <
  (↑cColumnsN : Int)) = false → post false H)) ∧ (decide (cKind = (1 : Int)) = false → (decide (cKind = (2 : Int)) = true → (decide ((0 : Int) < (↑cColumnsN : Int)) = true → ∃ (post18 : Bool
  → Heap → Prop), ConT P 45 [.slice cColumnsA cColumnsN cColumnsC] H ⟨false, [(false, [.bool])]⟩ post18 ∧ ∀ (H19 : Heap), Heap.le H H19 → ∀ (b21 : Bool), post18 b21 H19 → (b21 = true → ∃
  (post24 : Bool → Heap → Prop), ConT P 46 [.slice versionsA versionsN versionsC, .slice cColumnsA cColumnsN cColumnsC] H19 ⟨false, [(false, [.bool])]⟩ post24 ∧ ∀ (H25 : Heap), Heap.le H19
  H25 → ∀ (b27 : Bool), post24 b27 H25 → post b27 H25) ∧ (b21 = false → post false H19)) ∧ (decide ((0 : Int) < (↑cColumnsN : Int)) = false → post false H)) ∧ (decide (cKind = (2 : Int)) =
  false → post false H))) := by kernel_rfl
theorem schema_validConstraint {H : Heap} {A B : Option Addr} {n c m d : Nat} {l : List Ver} {s : Int} {x : List Int} (hs : Sl H A n c l) (hx : Sl H B m d x) :
    ConT Try.prog 48 [.slice A n c, .agg ⟨[.int .i64 s, .slice B m d]⟩] H shB (fun r _ => r = cstValid l ⟨s, x⟩) := by
  refine con_of_vc (an := an48) (fn := Try.f48) mix tabOK Try.func48 (by kernel_rfl) (extra := 0) ?_
  rw [vc48]
  have b1 := hx.len
  simp only [cstValid, b1]
  have key : ∀ {H1 : Heap}, Heap.le H H1 → distinctIDs x = true → (decide (0 < (m : Int))) = true → (decide (s = 1) || decide (s = 2)) = true →
      ∃ post : Bool → Heap → Prop, ConT Try.prog 46 [.slice A n c, .slice B m d] H1 shB post ∧ ∀ H9, Heap.le H1 H9 → ∀ b, post b H9 → b = ((decide (s = 1) || decide (s = 2)) && decide (0 < m) && distinctIDs x && permanent l x) := by
    intro H1 l1 h1 h2 h3
    refine ⟨_, schema_permanent (hs.mono l1) (hx.mono l1), ?_⟩
    rintro H2 l2 _ rfl
    simp_all
  refine ⟨fun h => ⟨fun h0 => ⟨_, schema_distinctIDs hx, ?_⟩, fun h0 => ?_⟩, fun h => ⟨fun h' => ⟨fun h0 => ⟨_, schema_distinctIDs hx, ?_⟩, fun h0 => ?_⟩, fun h' => ?_⟩⟩
  · rintro H1 l1 _ rfl
    refine ⟨fun h1 => key l1 h1 h0 (by rw [h]; rfl), fun h1 => by simp_all⟩
  · simp_all
  · rintro H1 l1 _ rfl
    refine ⟨fun h1 => key l1 h1 h0 (by rw [h']; simp), fun h1 => by simp_all⟩
  · simp_all
  · simp_all
end Go.Vc

/- Violations of one key: the program's sweep. -/
import Derived.Test.YtkfbbnagniolcaaB4
set_option linter.unusedSectionVars false
set_option linter.unusedSimpArgs false
set_option linter.unusedVariables false
namespace Go.Vc
open Go Go.Proofs Go.Shelf
def stepA (f : Int) (act rest : List Kd) : List Kd := act.filter (fun x => !decide (x.t.p.hi ≤ f)) ++ rest.takeWhile (fun x => decide (x.t.p.lo = f))
def stepR (f : Int) (rest : List Kd) : List Kd := rest.dropWhile (fun x => decide (x.t.p.lo = f))
def confGo : List Int → List Kd → List Kd → List Vio → List Vio
  | f :: t :: ps, act, rest, out => confGo (t :: ps) (stepA f act rest) (stepR f rest) (if 2 ≤ (stepA f act rest).length then extV out ⟨⟨f, t⟩, mergedL (stepA f act rest)⟩ else out)
  | _, _, _, out => out
def confl (g : List Kd) : List Vio := confGo (points g) [] g []
theorem lins_sub {a b : List Kd} (h : a.Sublist b) : (lins a).length ≤ (lins b).length := by
  induction h with
  | slnil => exact Nat.le_refl _
  | cons x _ ih => simp only [lins, List.flatMap_cons, List.length_append] at *; omega
  | cons_cons x _ ih => simp only [lins, List.flatMap_cons, List.length_append] at *; omega
theorem extV_len (l : List Vio) (v : Vio) : (extV l v).length ≤ l.length + 1 := by
  unfold extV
  split
  · split
    · simp only [List.length_append, List.length_dropLast, List.length_cons, List.length_nil]; omega
    · simp
  · simp
def an56 : Ann where
  res := fun _ => none
  lend := fun _ => false
  sch := fun _ => .done
  lt := fun _ => []
  tup := tups

theorem vc56 (P : Program) (H : Heap) (kkeyA : Option Addr) (kkeyN kkeyC : Nat) (ktupleValsA : Option Addr) (ktupleValsN ktupleValsC : Nat) (ktupleValidFrom : Int) (ktupleValidTo : Int) (ktupleLineageA : Option Addr) (ktupleLineageN ktupleLineageC : Nat) (free0B : Nat) (post : Bool → Heap → Prop) :
  vcFn P tab an56 Try.f56 [.agg #[.slice kkeyA kkeyN kkeyC, .slice ktupleValsA ktupleValsN ktupleValsC, .int .i64 ktupleValidFrom, .int .i64 ktupleValidTo, .slice ktupleLineageA ktupleLineageN ktupleLineageC], .pointer (some ⟨free0B, 0, none⟩)] 0 H ⟨false, [(false, [.bool])]⟩ post =
  (  ∃ (n0 : Int), Cells H (some ⟨free0B, 0, none⟩) 0 [.int .i64 n0] ∧ post (decide (ktupleValidTo ≤ n0)) H) := by kernel_rfl
theorem keys_conflicts1 {H : Heap} {g : Nat} {f : Int} (hc : Cells H (some ⟨g, 0, none⟩) 0 [.int .i64 f]) :
    PredFn Try.prog Kd H 56 (.pointer (some ⟨g, 0, none⟩)) (fun x => decide (x.t.p.hi ≤ f)) := by
  rintro H' vs t hle ⟨E, k, e, A, n, c, B, m, d, rfl, -⟩
  refine con_of_vc (an := an56) (fn := Try.f56) mix tabOK Try.func56 (by kernel_rfl) (extra := 0) ?_
  rw [vc56]
  exact ⟨f, hc.mono hle, rfl⟩
def an33 : Ann where
  res := fun | 24 => some ⟨false, [(false, [.row 65 68])]⟩ | 61 => some ⟨false, [(false, [.row 66 3])]⟩ | 63 => some ⟨false, [(false, [.row 67 44])]⟩ | _ => none
  lend := fun | 24 => true | 61 => true | _ => false
  mt := fun | 55 => some false | 57 => some false | _ => none
  sch := fun | 10 => (tk [0, 1, 2, 3, 4, 5, 6, 7, 8, 9, 10, 11, 12, 13, 14] .done) | 14 => (tk [0, 1, 2, 3, 4, 5, 6, 7, 8] (.alt 9 (tk [10] (.alt 11 (tk [12] .done) .fin)) .fin)) | _ => .done
  lt := fun | 6 => [.slot 3 false [.row 68 44], .slot 4 false [.row 69 68], .slot 5 false [.int .i64], .slot 7 false [.int .i64]] | 10 => [.slot 4 false [.row 70 68], .slot 5 false [.int .i64]] | _ => []
  tup := tups

theorem vc33 (P : Program) (H : Heap) (groupA : Option Addr) (groupN groupC : Nat) (post : Option Addr → Nat → Nat → Heap → Prop) :
  vcFn P tab an33 Try.f33 [.slice groupA groupN groupC] 6 H ⟨false, [(false, [.sl])]⟩ post =
  (  ∃ (post0 : Option Addr → Nat → Nat → Heap → Prop), ConT P 54 [.slice groupA groupN groupC] H ⟨false, [(false, [.sl])]⟩ post0 ∧ ∀ (H1 : Heap), Heap.le H H1 → ∀ (A3 : Option Addr) (n4 c5 :
  Nat), post0 A3 n4 c5 H1 → ∃ (inv7 : Nat → List Value → Nat → List Value → Int → Int → Heap → Prop), ∃ (m8 : Nat → List Value → Nat → List Value → Int → Int → Nat), inv7 0 [] 0 [] (0 : Int)
  (0 : Int) H1 ∧ ∀ (H9 : Heap), Heap.le H1 H9 → ∀ (n11 : Nat) (xs12 : List Value) (n13 : Nat) (xs14 : List Value) (n15 n16 : Int), inv7 n11 xs12 n13 xs14 n15 n16 H9 → rng .i64 (n16 + (1 :
  Int)) ∧ (decide (n16 + (1 : Int) < (↑n4 : Int)) = true → someA A3 ∧ (0 : Int) ≤ n16 ∧ n16 < (↑n4 : Int) ∧ ∃ (n19 : Int), Cells H9 A3 (Int.toNat n16 * 1) [.int .i64 n19] ∧ ∃ (post20 : List
  Value → Nat → List Value → Heap → Prop), (∀ (g21 : Nat) (H22 : Heap), Heap.le H9 H22 → Cells H22 (some ⟨g21, 0, none⟩) 0 [.int .i64 n19] → ConM P 55 [.slice none 0 0, .func (.func 56) ⟨[]⟩
  ⟨[.pointer (some ⟨g21, 0, none⟩)]⟩] 0 68 n13 xs14 false H22 ⟨false, [(false, [.row 65 68])]⟩ post20) ∧ ∀ (H25 : Heap) (ys26 : List Value) (n27 : Nat) (xs28 : List Value), post20 ys26 n27
  xs28 H25 → ∃ (inv30 : Nat → List Value → Int → Heap → Prop), ∃ (m31 : Nat → List Value → Int → Nat), inv30 n27 xs28 n15 H9 ∧ ∀ (H32 : Heap), Heap.le H9 H32 → ∀ (n34 : Nat) (xs35 : List
  Value) (n36 : Int), inv30 n34 xs35 n36 H32 → (decide (n36 < (↑groupN : Int)) = true → someA groupA ∧ (0 : Int) ≤ n36 ∧ n36 < (↑groupN : Int) ∧ ∃ (n39 : Int), Cells H32 groupA (Int.toNat n36
  * 5 + 1 + 1 + 0) [.int .i64 n39] ∧ (decide (n39 = n19) = true → someA groupA ∧ (0 : Int) ≤ n36 ∧ n36 < (↑groupN : Int) ∧ ∃ (A41 : Option Addr), ∃ (n42 : Nat), ∃ (c43 : Nat), ∃ (A44 : Option
  Addr), ∃ (n45 : Nat), ∃ (c46 : Nat), ∃ (n47 : Int), ∃ (n48 : Int), ∃ (A49 : Option Addr), ∃ (n50 : Nat), ∃ (c51 : Nat), Cells H32 groupA (Int.toNat n36 * 5) [.slice A41 n42 c43, .slice A44
  n45 c46, .int .i64 n47, .int .i64 n48, .slice A49 n50 c51] ∧ (n34 + 1) * 88 ≤ 140737488355328 ∧ rng .i64 (n36 + (1 : Int)) ∧ inv30 (n34 + 1) (xs35 ++ [.slice A41 n42 c43, .slice A44 n45
  c46, .int .i64 n47, .int .i64 n48, .slice A49 n50 c51]) (n36 + (1 : Int)) H32 ∧ m31 (n34 + 1) (xs35 ++ [.slice A41 n42 c43, .slice A44 n45 c46, .int .i64 n47, .int .i64 n48, .slice A49 n50
  c51]) (n36 + (1 : Int)) < m31 n34 xs35 n36) ∧ (decide (n39 = n19) = false → (decide ((2 : Int) ≤ (↑n34 : Int)) = true → rng .i64 (n16 + (1 : Int)) ∧ someA A3 ∧ (0 : Int) ≤ n16 + (1 : Int) ∧
  n16 + (1 : Int) < (↑n4 : Int) ∧ ∃ (n54 : Int), Cells H32 A3 (Int.toNat (n16 + (1 : Int)) * 1) [.int .i64 n54] ∧ ∃ (post55 : Nat → List Value → Heap → Prop), (∀ (A56 : Option Addr) (c57 :
  Nat) (H58 : Heap), Heap.le H32 H58 → Cells H58 A56 0 xs35 → n34 ≤ c57 → ConT P 58 [.slice A56 n34 c57] H58 ⟨false, [(false, [.row 66 3])]⟩ post55) ∧ ∀ (H62 : Heap) (n63 : Nat) (xs64 : List
  Value), post55 n63 xs64 H62 → ∀ (A66 : Option Addr) (c67 : Nat) (H68 : Heap), Heap.le H32 H68 → Cells H68 A66 0 xs64 → n63 ≤ c67 → ∃ (post72 : List Value → Nat → List Value → Heap → Prop),
  ConM P 57 [.slice none 0 0, .agg ⟨[.int .i64 n19, .int .i64 n54, .slice A66 n63 c67]⟩] 0 44 n11 xs12 false H68 ⟨false, [(false, [.row 67 44])]⟩ post72 ∧ ∀ (H73 : Heap), Heap.le H68 H73 → ∀
  (ys75 : List Value) (n76 : Nat) (xs77 : List Value), post72 ys75 n76 xs77 H73 → rng .i64 (n16 + (1 : Int)) ∧ inv7 n76 xs77 n34 xs35 n36 (n16 + (1 : Int)) H73 ∧ m8 n76 xs77 n34 xs35 n36 (n16
  + (1 : Int)) < m8 n11 xs12 n13 xs14 n15 n16) ∧ (decide ((2 : Int) ≤ (↑n34 : Int)) = false → rng .i64 (n16 + (1 : Int)) ∧ inv7 n11 xs12 n34 xs35 n36 (n16 + (1 : Int)) H32 ∧ m8 n11 xs12 n34
  xs35 n36 (n16 + (1 : Int)) < m8 n11 xs12 n13 xs14 n15 n16))) ∧ (decide (n36 < (↑groupN : Int)) = false → (decide ((2 : Int) ≤ (↑n34 : Int)) = true → rng .i64 (n16 + (1 : Int)) ∧ someA A3 ∧
  (0 : Int) ≤ n16 + (1 : Int) ∧ n16 + (1 : Int) < (↑n4 : Int) ∧ ∃ (n82 : Int), Cells H32 A3 (Int.toNat (n16 + (1 : Int)) * 1) [.int .i64 n82] ∧ ∃ (post83 : Nat → List Value → Heap → Prop), (∀
  (A84 : Option Addr) (c85 : Nat) (H86 : Heap), Heap.le H32 H86 → Cells H86 A84 0 xs35 → n34 ≤ c85 → ConT P 58 [.slice A84 n34 c85] H86 ⟨false, [(false, [.row 66 3])]⟩ post83) ∧ ∀ (H90 :
  Heap) (n91 : Nat) (xs92 : List Value), post83 n91 xs92 H90 → ∀ (A94 : Option Addr) (c95 : Nat) (H96 : Heap), Heap.le H32 H96 → Cells H96 A94 0 xs92 → n91 ≤ c95 → ∃ (post100 : List Value →
  Nat → List Value → Heap → Prop), ConM P 57 [.slice none 0 0, .agg ⟨[.int .i64 n19, .int .i64 n82, .slice A94 n91 c95]⟩] 0 44 n11 xs12 false H96 ⟨false, [(false, [.row 67 44])]⟩ post100 ∧ ∀
  (H101 : Heap), Heap.le H96 H101 → ∀ (ys103 : List Value) (n104 : Nat) (xs105 : List Value), post100 ys103 n104 xs105 H101 → rng .i64 (n16 + (1 : Int)) ∧ inv7 n104 xs105 n34 xs35 n36 (n16 +
  (1 : Int)) H101 ∧ m8 n104 xs105 n34 xs35 n36 (n16 + (1 : Int)) < m8 n11 xs12 n13 xs14 n15 n16) ∧ (decide ((2 : Int) ≤ (↑n34 : Int)) = false → rng .i64 (n16 + (1 : Int)) ∧ inv7 n11 xs12 n34
  xs35 n36 (n16 + (1 : Int)) H32 ∧ m8 n11 xs12 n34 xs35 n36 (n16 + (1 : Int)) < m8 n11 xs12 n13 xs14 n15 n16))) ∧ (decide (n16 + (1 : Int) < (↑n4 : Int)) = false → ∀ (A109 : Option Addr)
  (c110 : Nat) (H111 : Heap), Heap.le H9 H111 → Cells H111 A109 0 xs12 → n11 ≤ c110 → post A109 n11 c110 H111)) := by kernel_rfl
set_option maxHeartbeats 2000000 in
theorem keys_conflicts {H : Heap} {A : Option Addr} {n c : Nat} {g : List Kd} (hs : Sl H A n c g) (hb : (lins g).length * 8 ≤ 140737488355328) :
    ConT Try.prog 33 [.slice A n c] H shS (fun A' n' c' H' => Sl H' A' n' c' (confl g)) := by
  refine con_of_vc (an := an33) (fn := Try.f33) mix tabOK Try.func33 (by kernel_rfl) (extra := 6) ?_
  rw [vc33]
  have hl := hs.len; have hbn : n * 88 ≤ 140737488355328 := hs.bnd
  refine ⟨_, keys_boundaries hs, ?_⟩
  intro H1 l1 A3 n4 c5 hp
  have hpl := hp.len
  have hpb : n4 ≤ 2 * n := by
    have b1 := compact_len (sortI (ends g))
    rw [sortI_len, ends_len, hl] at b1
    have : (points g).length ≤ 2 * n := b1
    omega
  refine ⟨fun k1 xs1 k2 xs2 nx i H' => 0 ≤ i ∧ 0 ≤ nx ∧ nx ≤ n ∧ ∃ (out : List Vio) (act : List Kd), Row H' xs1 out ∧ out.length = k1 ∧ Row H' xs2 act ∧ act.length = k2 ∧ out.length ≤ i.toNat ∧ i ≤ n4 ∧ act.Sublist (g.take nx.toNat) ∧
      confl g = confGo ((points g).drop i.toNat) act (g.drop nx.toNat) out,
    fun _ _ _ _ _ i => n4 - i.toNat, ⟨by omega, by omega, by omega, [], [], rfl, rfl, rfl, rfl, by simp, by omega, by simp, by simp [confl]⟩, ?_⟩
  rintro H9 l9 k1 xs1 k2 xs2 nx i ⟨i0, nx0, nx1, out, act, ho, hol, ha, hal, hoi, hin, hsub, he⟩
  have hp9 := hp.mono l9
  have hs9 := hs.mono (hle_trans l1 l9)
  refine ⟨by simp only [rng]; omega, fun hlt => ?_, fun hge => ?_⟩
  · have hlt := of_decide_eq_true hlt
    obtain ⟨hi, hA, _, hc, ⟨rfl, hrf⟩⟩ := hp9.at (hle_refl H9) i0 (by omega)
    obtain ⟨hi1, hA1, _, hc1, ⟨rfl, hrt⟩⟩ := hp9.at (hle_refl H9) (i := i + 1) (by omega) hlt
    have e1 : (i + 1).toNat = i.toNat + 1 := by omega
    have hi1' : i.toNat + 1 < (points g).length := by omega
    have hpts : (points g).drop i.toNat = (points g)[i.toNat] :: (points g)[i.toNat + 1] :: (points g).drop (i.toNat + 1 + 1) := by
      rw [List.drop_eq_getElem_cons hi, List.drop_eq_getElem_cons hi1']
    have hpts1 : (points g).drop (i.toNat + 1) = (points g)[i.toNat + 1] :: (points g).drop (i.toNat + 1 + 1) := List.drop_eq_getElem_cons hi1'
    simp only [e1] at hc1 hrt
    generalize hf : (points g)[i.toNat] = f at *
    generalize ht : (points g)[i.toNat + 1] = t at *
    rw [hpts, confGo] at he
    refine ⟨hA, i0, by omega, _, hc, _, fun g21 H22 l22 hc22 => DeleteFunc_Kd (H0 := H9) l22 ha hal (by have := hsub.length_le; rw [List.length_take] at this; omega) (keys_conflicts1 hc22), ?_⟩
    rintro H25 _ k27 xs28 ⟨rfl, hd⟩
    refine ⟨fun k xs nx' H' => 0 ≤ nx' ∧ nx' ≤ n ∧ ∃ cur : List Kd, Row H' xs cur ∧ cur.length = k ∧ cur.Sublist (g.take nx'.toNat) ∧ stepA f act (g.drop nx.toNat) = cur ++ (g.drop nx'.toNat).takeWhile (fun x => decide (x.t.p.lo = f)) ∧
        stepR f (g.drop nx.toNat) = (g.drop nx'.toNat).dropWhile (fun x => decide (x.t.p.lo = f)),
      fun _ _ nx' => n - nx'.toNat, ⟨nx0, nx1, _, hd, rfl, List.filter_sublist.trans hsub, rfl, rfl⟩, ?_⟩
    rintro H32 l32 k34 xs35 nx' ⟨m0, m1, cur, hcu, hcl, hcs, hA', hR'⟩
    have hcb := hcs.length_le
    rw [List.length_take] at hcb
    have hlb : (lins cur).length ≤ (lins g).length := lins_sub (hcs.trans (List.take_sublist _ _))
    refine ⟨fun hnl => ?_, fun hnl => ?_⟩
    · have hnl := of_decide_eq_true hnl
      obtain ⟨hj, hB, _, hcj, hrel⟩ := hs9.at l32 m0 hnl
      obtain ⟨E9, k9, e9, A9, n9, c9, B9, m9, d9, rfl, q⟩ := id hrel
      have hdr : g.drop nx'.toNat = g[nx'.toNat] :: g.drop (nx'.toNat + 1) := List.drop_eq_getElem_cons hj
      rw [hdr] at hA' hR'
      have e2 : (nx' + 1).toNat = nx'.toNat + 1 := by omega
      refine ⟨hB, m0, hnl, g[nx'.toNat].t.p.lo, hcj.at1 (k := 2) rfl, fun heq => ?_, fun hne => ?_⟩
      · have heq := of_decide_eq_true heq
        rw [List.takeWhile_cons, if_pos (by simpa using heq)] at hA'
        rw [List.dropWhile_cons, if_pos (by simpa using heq)] at hR'
        refine ⟨hB, m0, hnl, _, _, _, _, _, _, _, _, _, _, _, hcj, by omega, by simp only [rng]; omega, ⟨by omega, by omega, cur ++ [g[nx'.toNat]], hcu.append ⟨_, [], by simp, hrel, rfl⟩, by simp [hcl], ?_, ?_, ?_⟩, by dsimp only; omega⟩
        · rw [e2, List.take_succ_eq_append_getElem hj]; exact hcs.append (List.Sublist.refl _)
        · rw [e2, hA']; simp
        · rw [e2, hR']
      · have hne := of_decide_eq_false hne
        rw [List.takeWhile_cons, if_neg (by simpa using hne), List.append_nil] at hA'
        rw [List.dropWhile_cons, if_neg (by simpa using hne), ← hdr] at hR'
        rw [hA', hR'] at he
        refine ⟨fun h2 => ?_, fun h2 => ?_⟩
        · have h2 := of_decide_eq_true h2
          rw [if_pos (by omega)] at he
          refine ⟨by simp only [rng]; omega, hA1, by omega, by omega, t, by rw [e1]; exact hc1.mono l32, _, fun A56 c57 H58 l58 hc58 hn58 => keys_merged (r := 66) (hcu.sl l58 hc58 hcl hn58 (by show k34 * 88 ≤ _; omega) (by omega)) (by omega), ?_⟩
          rintro H62 _ xs64 ⟨rfl, hm⟩
          intro A66 c67 H68 l68 hc68 hn68
          obtain ⟨m1', m2'⟩ := row_int hm
          have hmb := compact_len (sortI (lins cur ++ []))
          rw [sortI_len, List.append_nil] at hmb
          have hmb : (mergedL cur).length ≤ (lins cur).length := by unfold mergedL mergeLin; rw [List.append_nil]; exact hmb
          have hmS : Sl H68 A66 (mergedL cur).length c67 (mergedL cur) := Row.sl (H := H68) (m1' ▸ int_row m2') (hle_refl H68) hc68 rfl hn68 (by show _ * 8 ≤ _; omega) (by omega)
          refine ⟨_, keys_extend (r := 67) (v := ⟨⟨f, t⟩, mergedL cur⟩) ((ho.mono l32).mono l68) hol (by omega) hrf hrt hmS, ?_⟩
          rintro H73 l73 _ k76 xs77 ⟨rfl, hx⟩
          have hxl := extV_len out ⟨⟨f, t⟩, mergedL cur⟩
          exact ⟨by simp only [rng]; omega, ⟨by omega, m0, m1, _, cur, hx, rfl, (hcu.mono l68).mono l73, hcl, by omega, by omega, hcs, by rw [e1, hpts1]; exact he⟩, by dsimp only; omega⟩
        · have h2 := of_decide_eq_false h2
          rw [if_neg (by omega)] at he
          exact ⟨by simp only [rng]; omega, ⟨by omega, m0, m1, out, cur, ho.mono l32, hol, hcu, hcl, by omega, by omega, hcs, by rw [e1, hpts1]; exact he⟩, by dsimp only; omega⟩
    · have hnl := of_decide_eq_false hnl
      have hdr : g.drop nx'.toNat = [] := List.drop_eq_nil_of_le (by omega)
      rw [hdr] at hA' hR'
      simp only [List.takeWhile_nil, List.append_nil, List.dropWhile_nil] at hA' hR'
      rw [← hdr] at hR'
      rw [hA', hR'] at he
      refine ⟨fun h2 => ?_, fun h2 => ?_⟩
      · have h2 := of_decide_eq_true h2
        rw [if_pos (by omega)] at he
        refine ⟨by simp only [rng]; omega, hA1, by omega, by omega, t, by rw [e1]; exact hc1.mono l32, _, fun A56 c57 H58 l58 hc58 hn58 => keys_merged (r := 66) (hcu.sl l58 hc58 hcl hn58 (by show k34 * 88 ≤ _; omega) (by omega)) (by omega), ?_⟩
        rintro H62 _ xs64 ⟨rfl, hm⟩
        intro A66 c67 H68 l68 hc68 hn68
        obtain ⟨m1', m2'⟩ := row_int hm
        have hmb := compact_len (sortI (lins cur ++ []))
        rw [sortI_len, List.append_nil] at hmb
        have hmb : (mergedL cur).length ≤ (lins cur).length := by unfold mergedL mergeLin; rw [List.append_nil]; exact hmb
        have hmS : Sl H68 A66 (mergedL cur).length c67 (mergedL cur) := Row.sl (H := H68) (m1' ▸ int_row m2') (hle_refl H68) hc68 rfl hn68 (by show _ * 8 ≤ _; omega) (by omega)
        refine ⟨_, keys_extend (r := 67) (v := ⟨⟨f, t⟩, mergedL cur⟩) ((ho.mono l32).mono l68) hol (by omega) hrf hrt hmS, ?_⟩
        rintro H73 l73 _ k76 xs77 ⟨rfl, hx⟩
        have hxl := extV_len out ⟨⟨f, t⟩, mergedL cur⟩
        exact ⟨by simp only [rng]; omega, ⟨by omega, m0, m1, _, cur, hx, rfl, (hcu.mono l68).mono l73, hcl, by omega, by omega, hcs, by rw [e1, hpts1]; exact he⟩, by dsimp only; omega⟩
      · have h2 := of_decide_eq_false h2
        rw [if_neg (by omega)] at he
        exact ⟨by simp only [rng]; omega, ⟨by omega, m0, m1, out, cur, ho.mono l32, hol, hcu, hcl, by omega, by omega, hcs, by rw [e1, hpts1]; exact he⟩, by dsimp only; omega⟩
  · have hge := of_decide_eq_false hge
    intro A9 c9 H11 l11 hc11 hn11
    have hend : confl g = out := by
      rw [he]
      have : ((points g).drop i.toNat).length ≤ 1 := by rw [List.length_drop]; omega
      match (points g).drop i.toNat, this with
      | [], _ => simp [confGo]
      | [x], _ => simp [confGo]
    rw [hend]
    exact ho.sl l11 hc11 hol hn11 (by show k1 * 40 ≤ _; omega) (by omega)
end Go.Vc

/- The reference's changes of a schema. -/
import Derived.Test.YthbapbapcnafhaaP3
import Derived.Test.YthbapbapcnafhaaR4
set_option linter.unusedSectionVars false
set_option linter.unusedSimpArgs false
set_option linter.unusedVariables false
namespace Go.Vc
open Go Go.Proofs
section
variable {H : Heap} {nm : ByteArray} {A : Option Addr} {n c : Nat} {B : Option Addr} {m d : Nat} {E : Option Addr} {k e : Nat} {F : Option Addr} {l f : Nat} {s : TSch}
theorem valid_first {s : TSch} (h : schemaValid s = true) {v : Ver} (hv : s.vers = [v]) : v.rc.hi = 1099511627776 := by
  have := (valid_ref h).2
  rw [lastHi, hv] at this
  simpa using this
def an28 : Ann where
  res := fun _ => none
  lend := fun | 14 => true | _ => false
  sch := fun _ => .done
  lt := fun _ => []
  tup := tups

theorem vc28 (P : Program) (H : Heap) (sName : ByteArray) (sVersionsA : Option Addr) (sVersionsN sVersionsC : Nat) (sKeyA : Option Addr) (sKeyN sKeyC : Nat) (sForeignKeysA : Option Addr) (sForeignKeysN sForeignKeysC : Nat) (sConstraintsA : Option Addr) (sConstraintsN sConstraintsC : Nat) (at0 : Int) (post : ByteArray → Option Addr → Nat → Nat → Option Addr → Nat → Nat → Option Addr → Nat → Nat → Option Addr → Nat → Nat → Int → Heap → Prop) :
  vcFn P tab an28 Try.f28 [.agg #[.string sName, .slice sVersionsA sVersionsN sVersionsC, .slice sKeyA sKeyN sKeyC, .slice sForeignKeysA sForeignKeysN sForeignKeysC, .slice sConstraintsA sConstraintsN sConstraintsC], .int .i64 at0] 0 H ⟨true, [(true, [.str, .sl, .sl, .sl, .sl]), (false, [.int .i64])]⟩ post =
  (  (decide (at0 < (0 : Int)) = true → post ⟨⟨[]⟩⟩ none 0 0 none 0 0 none 0 0 none 0 0 (1 : Int) H) ∧ (decide (at0 < (0 : Int)) = false → (decide ((1099511627776 : Int) ≤ at0) = true → post
  ⟨⟨[]⟩⟩ none 0 0 none 0 0 none 0 0 none 0 0 (1 : Int) H) ∧ (decide ((1099511627776 : Int) ≤ at0) = false → ∃ (post4 : Bool → Heap → Prop), ConT P 18 [.agg ⟨[.string sName, .slice sVersionsA
  sVersionsN sVersionsC, .slice sKeyA sKeyN sKeyC, .slice sForeignKeysA sForeignKeysN sForeignKeysC, .slice sConstraintsA sConstraintsN sConstraintsC]⟩] H ⟨false, [(false, [.bool])]⟩ post4 ∧
  ∀ (H5 : Heap), Heap.le H H5 → ∀ (b7 : Bool), post4 b7 H5 → ((!b7) = true → post ⟨⟨[]⟩⟩ none 0 0 none 0 0 none 0 0 none 0 0 (18 : Int) H5) ∧ ((!b7) = false → ((!decide ((↑sVersionsN : Int) =
  (1 : Int))) = true → post ⟨⟨[]⟩⟩ none 0 0 none 0 0 none 0 0 none 0 0 (18 : Int) H5) ∧ ((!decide ((↑sVersionsN : Int) = (1 : Int))) = false → someA sVersionsA ∧ (0 : Int) ≤ (0 : Int) ∧ (0 :
  Int) < (↑sVersionsN : Int) ∧ ∃ (n13 : Int), Cells H5 sVersionsA (Int.toNat (0 : Int) * 3 + 0 + 0) [.int .i64 n13] ∧ ((!decide (n13 = (0 : Int))) = true → post ⟨⟨[]⟩⟩ none 0 0 none 0 0 none
  0 0 none 0 0 (18 : Int) H5) ∧ ((!decide (n13 = (0 : Int))) = false → someA sVersionsA ∧ (0 : Int) ≤ (0 : Int) ∧ (0 : Int) < (↑sVersionsN : Int) ∧ ∃ (A16 : Option Addr), ∃ (n17 : Nat), ∃
  (c18 : Nat), Cells H5 sVersionsA (Int.toNat (0 : Int) * 3 + 2) [.slice A16 n17 c18] ∧ ∀ (A19 : Option Addr) (c20 : Nat) (H21 : Heap), Heap.le H5 H21 → Cells H21 A19 0 [.int .i64 at0, .int
  .i64 (1099511627776 : Int), .slice A16 n17 c18] → 1 ≤ c20 → post sName A19 1 c20 sKeyA sKeyN sKeyC sForeignKeysA sForeignKeysN sForeignKeysC sConstraintsA sConstraintsN sConstraintsC (0 :
  Int) H21)))))) := by kernel_rfl
theorem ref21_Create {x : Int} (hs : IsTSch H nm A n c B m d E k e F l f s) (hx : rng .i64 x) :
    ConT Try.prog 28 [.agg ⟨[.string nm, .slice A n c, .slice B m d, .slice E k e, .slice F l f]⟩, .int .i64 x] H shTSI
      (fun nm' A' n' c' B' m' d' E' k' e' F' l' f' r H' => IsTSch H' nm' A' n' c' B' m' d' E' k' e' F' l' f' (createSch s x).1 ∧ r = (createSch s x).2) := by
  refine con_of_vc (an := an28) (fn := Try.f28) mix tabOK Try.func28 (by kernel_rfl) (extra := 0) ?_
  rw [vc28]
  unfold createSch
  have b1 := hs.vers.bn; have b2 := hs.vers.len
  refine ⟨fun h => ?_, fun h => ⟨fun h' => ?_, fun h' => ⟨_, ref21_Validate hs, ?_⟩⟩⟩
  · rw [if_pos (.inl (of_decide_eq_true h))]; exact ⟨is_sch0, rfl⟩
  · rw [if_pos (.inr (of_decide_eq_true h'))]; exact ⟨is_sch0, rfl⟩
  have h := of_decide_eq_false h; have h' := of_decide_eq_false h'
  rw [if_neg (by omega), ← valid_eq]
  rintro H1 l1 _ rfl
  refine ⟨fun hf => ?_, fun ht => ?_⟩
  · simp only [Bool.not_eq_true'] at hf
    rw [if_pos hf]; exact ⟨is_sch0, rfl⟩
  simp only [Bool.not_eq_false'] at ht
  rw [if_neg (by simp [ht])]
  refine ⟨fun hl => ?_, fun hl => ?_⟩
  · have hl : ¬ s.vers.length = 1 := by simp at hl; omega
    have : ∀ v, s.vers ≠ [v] := fun v e => hl (by rw [e]; rfl)
    split
    · rename_i v hv; exact absurd hv (this v)
    · exact ⟨is_sch0, rfl⟩
  have hl : s.vers.length = 1 := by simp at hl; omega
  match hv : s.vers, hl with
  | [v], _ =>
    have hhi := valid_first ht hv
    obtain ⟨hi, hA, _, hcc, hrel⟩ := hs.vers.at l1 (i := 0) (by omega) (by omega)
    have e0 : s.vers[(0 : Int).toNat] = v := by simp [hv]
    rw [e0] at hrel
    obtain ⟨A1, n1, c1, rfl, r1, r2, r3⟩ := hrel
    refine ⟨hA, by omega, by omega, _, hcc.at1 (k := 0) rfl, fun hf => ?_, fun hp => ?_⟩
    · dsimp only
      rw [if_neg (fun hh => by rw [hh] at hf; simp at hf)]
      exact ⟨is_sch0, rfl⟩
    · have hp : v.rc = ⟨0, 1099511627776⟩ := by
        generalize v.rc = z at hp hhi
        cases z; simp at hp hhi; simp [hp, hhi]
      dsimp only
      rw [if_pos hp]
      refine ⟨hA, by omega, by omega, _, _, _, hcc.at1 (k := 2) rfl, ?_⟩
      intro A3 c3 H3 l3 g3 hc3
      have L3 := hle_trans l1 l3
      refine ⟨⟨hs.name, hs.str, ?_, hs.key.mono L3, hs.fks.mono L3, hs.csts.mono L3⟩, rfl⟩
      exact sl_one (t := (⟨⟨x, v.rc.hi⟩, v.cols⟩ : Ver)) g3 (hle_refl _) hc3 ⟨A1, n1, c1, by rw [hhi], hx, by rw [hhi]; simp [rng], r3.mono l3⟩ (by decide)
def an62 : Ann where
  res := fun _ => none
  lend := fun | 8 => true | _ => false
  sch := fun | 4 => (tk [0, 1, 2, 3, 4, 5] (.alt 6 (tk [7] .done) .fin)) | _ => .done
  lt := fun _ => []
  tup := tups

theorem vc62 (P : Program) (H : Heap) (sName : ByteArray) (sVersionsA : Option Addr) (sVersionsN sVersionsC : Nat) (sKeyA : Option Addr) (sKeyN sKeyC : Nat) (sForeignKeysA : Option Addr) (sForeignKeysN sForeignKeysC : Nat) (sConstraintsA : Option Addr) (sConstraintsN sConstraintsC : Nat) (at0 : Int) (post : Int → Int → Option Addr → Nat → Nat → Bool → Heap → Prop) :
  vcFn P tab an62 Try.f62 [.agg #[.string sName, .slice sVersionsA sVersionsN sVersionsC, .slice sKeyA sKeyN sKeyC, .slice sForeignKeysA sForeignKeysN sForeignKeysC, .slice sConstraintsA sConstraintsN sConstraintsC], .int .i64 at0] 0 H ⟨true, [(true, [.int .i64, .int .i64, .sl]), (false, [.bool])]⟩ post =
  (  ∃ (post0 : Bool → Heap → Prop), ConT P 18 [.agg ⟨[.string sName, .slice sVersionsA sVersionsN sVersionsC, .slice sKeyA sKeyN sKeyC, .slice sForeignKeysA sForeignKeysN sForeignKeysC, .slice
  sConstraintsA sConstraintsN sConstraintsC]⟩] H ⟨false, [(false, [.bool])]⟩ post0 ∧ ∀ (H1 : Heap), Heap.le H H1 → ∀ (b3 : Bool), post0 b3 H1 → ((!b3) = true → post (0 : Int) (0 : Int) none 0
  0 false H1) ∧ ((!b3) = false → (decide ((1099511627776 : Int) ≤ at0) = true → post (0 : Int) (0 : Int) none 0 0 false H1) ∧ (decide ((1099511627776 : Int) ≤ at0) = false → rng .i64
  ((↑sVersionsN : Int) - (1 : Int)) ∧ someA sVersionsA ∧ (0 : Int) ≤ (↑sVersionsN : Int) - (1 : Int) ∧ (↑sVersionsN : Int) - (1 : Int) < (↑sVersionsN : Int) ∧ ∃ (n9 : Int), ∃ (n10 : Int), ∃
  (A11 : Option Addr), ∃ (n12 : Nat), ∃ (c13 : Nat), Cells H1 sVersionsA (Int.toNat ((↑sVersionsN : Int) - (1 : Int)) * 3) [.int .i64 n9, .int .i64 n10, .slice A11 n12 c13] ∧ post n9 n10 A11
  n12 c13 (decide (n9 ≤ at0)) H1))) := by kernel_rfl
theorem ref21_last {x : Int} (hs : IsTSch H nm A n c B m d E k e F l f s) :
    ConT Try.prog 62 [.agg ⟨[.string nm, .slice A n c, .slice B m d, .slice E k e, .slice F l f]⟩, .int .i64 x] H ⟨true, [(true, [.int .i64, .int .i64, .sl]), (false, [.bool])]⟩
      (fun a b A' n' c' r H' => r = changeable s x ∧ (r = true → ∃ v, s.vers.getLast? = some v ∧ a = v.rc.lo ∧ b = v.rc.hi ∧ rng .i64 a ∧ rng .i64 b ∧ Sl H' A' n' c' v.cols)) := by
  refine con_of_vc (an := an62) (fn := Try.f62) mix tabOK Try.func62 (by kernel_rfl) (extra := 0) ?_
  rw [vc62]
  have b1 := hs.vers.bn; have b2 := hs.vers.len
  refine ⟨_, ref21_Validate hs, ?_⟩
  rintro H1 l1 _ rfl
  unfold changeable
  rw [← valid_eq]
  refine ⟨fun h => ?_, fun ht => ⟨fun h => ?_, fun h => ?_⟩⟩
  · simp only [Bool.not_eq_true'] at h
    rw [h]; exact ⟨rfl, fun h => by cases h⟩
  · have h := of_decide_eq_true h
    rw [decide_eq_false (p := x < 1099511627776) (by omega), Bool.and_false]
    exact ⟨rfl, fun h => by cases h⟩
  simp only [Bool.not_eq_false'] at ht
  have h := of_decide_eq_false h
  have hlen : 0 < s.vers.length := List.length_pos_iff.2 (schemaValid_ne ht)
  obtain ⟨hi, hA, _, hcc, ⟨A1, n1, c1, rfl, r1, r2, r3⟩⟩ := hs.vers.at l1 (i := (n : Int) - 1) (by omega) (by omega)
  have hlast := getLast?_at s.vers hi (by omega)
  rw [ht, hlast]
  refine ⟨by simp only [rng]; omega, hA, by omega, by omega, _, _, _, _, _, hcc, ?_, fun _ => ⟨_, rfl, rfl, rfl, r1, r2, r3⟩⟩
  simp only [Bool.true_and]
  rw [decide_eq_true (p := x < 1099511627776) (by omega), Bool.and_true]
def an64 : Ann where
  res := fun _ => none
  lend := fun _ => false
  sch := fun _ => .done
  lt := fun _ => []
  tup := tups

theorem vc64 (P : Program) (H : Heap) (sName : ByteArray) (sVersionsA : Option Addr) (sVersionsN sVersionsC : Nat) (sKeyA : Option Addr) (sKeyN sKeyC : Nat) (sForeignKeysA : Option Addr) (sForeignKeysN sForeignKeysC : Nat) (sConstraintsA : Option Addr) (sConstraintsN sConstraintsC : Nat) (columnsA : Option Addr) (columnsN columnsC : Nat) (at0 : Int) (post : ByteArray → Option Addr → Nat → Nat → Option Addr → Nat → Nat → Option Addr → Nat → Nat → Option Addr → Nat → Nat → Heap → Prop) :
  vcFn P tab an64 Try.f64 [.agg #[.string sName, .slice sVersionsA sVersionsN sVersionsC, .slice sKeyA sKeyN sKeyC, .slice sForeignKeysA sForeignKeysN sForeignKeysC, .slice sConstraintsA sConstraintsN sConstraintsC], .slice columnsA columnsN columnsC, .int .i64 at0] 0 H ⟨false, [(true, [.str, .sl, .sl, .sl, .sl])]⟩ post =
  (  ∃ (ys0 : List Value), Cells H sVersionsA 0 ys0 ∧ List.length ys0 = sVersionsN * 3 ∧ sVersionsN * 40 ≤ 140737488355328 ∧ rng .i64 ((↑sVersionsN : Int) - (1 : Int)) ∧ (0 : Int) ≤ (↑sVersionsN
  : Int) - (1 : Int) ∧ (↑sVersionsN : Int) - (1 : Int) < (↑sVersionsN : Int) ∧ ∃ (n1 : Int), win ys0 (Int.toNat ((↑sVersionsN : Int) - (1 : Int)) * 3 + 0 + 0) 1 = [.int .i64 n1] ∧ (decide (n1
  = at0) = true → rng .i64 ((↑sVersionsN : Int) - (1 : Int)) ∧ (0 : Int) ≤ (↑sVersionsN : Int) - (1 : Int) ∧ (↑sVersionsN : Int) - (1 : Int) < (↑sVersionsN : Int) ∧ Int.toNat ((↑sVersionsN :
  Int) - (1 : Int)) * 3 + 2 + 1 ≤ List.length ys0 ∧ ∀ (A3 : Option Addr) (c4 : Nat) (H5 : Heap), Heap.le H H5 → Cells H5 A3 0 (splice ys0 (Int.toNat ((↑sVersionsN : Int) - (1 : Int)) * 3 + 2)
  [.slice columnsA columnsN columnsC]) → sVersionsN ≤ c4 → post sName A3 sVersionsN c4 sKeyA sKeyN sKeyC sForeignKeysA sForeignKeysN sForeignKeysC sConstraintsA sConstraintsN sConstraintsC
  H5) ∧ (decide (n1 = at0) = false → rng .i64 ((↑sVersionsN : Int) - (1 : Int)) ∧ (0 : Int) ≤ (↑sVersionsN : Int) - (1 : Int) ∧ (↑sVersionsN : Int) - (1 : Int) < (↑sVersionsN : Int) ∧
  Int.toNat ((↑sVersionsN : Int) - (1 : Int)) * 3 + 0 + 1 + 1 ≤ List.length ys0 ∧ (sVersionsN + 1) * 40 ≤ 140737488355328 ∧ ∀ (A10 : Option Addr) (c11 : Nat) (H12 : Heap), Heap.le H H12 →
  Cells H12 A10 0 (splice ys0 (Int.toNat ((↑sVersionsN : Int) - (1 : Int)) * 3 + 0 + 1) [.int .i64 at0] ++ [.int .i64 at0, .int .i64 (1099511627776 : Int), .slice columnsA columnsN columnsC])
  → sVersionsN + 1 ≤ c11 → post sName A10 (sVersionsN + 1) c11 sKeyA sKeyN sKeyC sForeignKeysA sForeignKeysN sForeignKeysC sConstraintsA sConstraintsN sConstraintsC H12)) := by kernel_rfl
theorem ref21_change {C : Option Addr} {p q : Nat} {cols : List Col} {x : Int} (hs : IsTSch H nm A n c B m d E k e F l f s) (hc : Sl H C p q cols) (hx : rng .i64 x) (hn : s.vers ≠ []) (hb : s.vers.length ≤ 3000000000000) :
    ConT Try.prog 64 [.agg ⟨[.string nm, .slice A n c, .slice B m d, .slice E k e, .slice F l f]⟩, .slice C p q, .int .i64 x] H shTS
      (fun nm' A' n' c' B' m' d' E' k' e' F' l' f' H' => IsTSch H' nm' A' n' c' B' m' d' E' k' e' F' l' f' { s with vers := changeVers s.vers cols x }) := by
  refine con_of_vc (an := an64) (fn := Try.f64) mix tabOK Try.func64 (by kernel_rfl) (extra := 0) ?_
  rw [vc64]
  obtain ⟨xs, hxs, hr⟩ := hs.vers.row
  have hlen : 0 < s.vers.length := List.length_pos_iff.2 hn
  have b1 := hs.vers.bn; have b2 := hs.vers.len; have b3 := hs.vers.bnd
  have hi : ((n : Int) - 1).toNat < s.vers.length := by omega
  have ei : ((n : Int) - 1).toNat = s.vers.length - 1 := by omega
  have hlast := getLast?_at s.vers hi ei
  obtain ⟨vs, ⟨A', n', c', rfl, r1, r2, r3⟩, hw, hsp⟩ := hr.getf hi
  have hxl : xs.length = s.vers.length * 3 := hr.length
  have hset : ∀ t, s.vers.set ((n : Int) - 1).toNat t = s.vers.dropLast ++ [t] := fun t => by rw [ei]; exact set_last _ _ hn
  refine ⟨xs, hxs, by omega, b3, by simp only [rng]; omega, by omega, by omega, _, hw 0 1 (by decide), fun he => ⟨by simp only [rng]; omega, by omega, by omega, by omega, ?_⟩, fun he => ⟨by simp only [rng]; omega, by omega, by omega, by omega, by omega, ?_⟩⟩
  · intro A2 c2 H2 l2 g2 hc2
    have he := of_decide_eq_true he
    have := hsp 2 [.slice C p q] ⟨s.vers[((n : Int) - 1).toNat].rc, cols⟩ (Nat.le_of_ble_eq_true rfl) ⟨C, p, q, rfl, r1, r2, hc⟩
    rw [hset] at this
    refine ⟨hs.name, hs.str, ?_, hs.key.mono l2, hs.fks.mono l2, hs.csts.mono l2⟩
    simp only [changeVers, hlast]
    rw [if_pos he]
    exact this.sl l2 g2 (by simp; omega) hc2 b3 (by omega)
  · intro A2 c2 H2 l2 g2 hc2
    have he := of_decide_eq_false he
    have := hsp 1 [.int .i64 x] ⟨⟨s.vers[((n : Int) - 1).toNat].rc.lo, x⟩, s.vers[((n : Int) - 1).toNat].cols⟩ (Nat.le_of_ble_eq_true rfl) ⟨A', n', c', rfl, r1, hx, r3⟩
    rw [hset] at this
    have := this.append (Row.one (t := (⟨⟨x, 1099511627776⟩, cols⟩ : Ver)) ⟨C, p, q, rfl, hx, by simp [rng], hc⟩)
    refine ⟨hs.name, hs.str, ?_, hs.key.mono l2, hs.fks.mono l2, hs.csts.mono l2⟩
    simp only [changeVers, hlast]
    rw [if_neg he]
    rw [List.append_assoc] at this
    exact this.sl l2 g2 (by simp; omega) hc2 (by show _ * 40 ≤ _; omega) (by omega)
theorem valid_width {s : TSch} (h : schemaValid s = true) : 0 ≤ width s ∧ width s ≤ 12 := by
  have hg := goodIDs_of (l := s.vers) (by simp only [schemaValid, Bool.and_eq_true] at h; exact h.1.1.1.1.1.2)
  unfold width
  rcases widthGo_get s.vers 0 with h | ⟨v, hv, c, hc, h⟩
  · omega
  · have := hg v hv c hc; omega
def an30 : Ann where
  res := fun _ => none
  lend := fun | 23 => true | 40 => true | 45 => true | 49 => true | _ => false
  sch := fun | 13 => (tk [0, 1, 2, 4, 7] (.alt 3 (.alt 5 (.alt 6 (.alt 8 (.alt 9 (tk [10] .done) .fin) .fin) .fin) .fin) (.alt 5 (.alt 3 (.alt 6 (.alt 8 (.alt 9 (tk [10] .done) .fin) .fin) .fin) .fin) .fin))) | _ => .done
  lt := fun _ => []
  tup := tups

theorem vc30 (P : Program) (H : Heap) (sName : ByteArray) (sVersionsA : Option Addr) (sVersionsN sVersionsC : Nat) (sKeyA : Option Addr) (sKeyN sKeyC : Nat) (sForeignKeysA : Option Addr) (sForeignKeysN sForeignKeysC : Nat) (sConstraintsA : Option Addr) (sConstraintsN sConstraintsC : Nat) (cID : Int) (cName : ByteArray) (cKind : Int) (at0 : Int) (post : ByteArray → Option Addr → Nat → Nat → Option Addr → Nat → Nat → Option Addr → Nat → Nat → Option Addr → Nat → Nat → Int → Heap → Prop) :
  vcFn P tab an30 Try.f30 [.agg #[.string sName, .slice sVersionsA sVersionsN sVersionsC, .slice sKeyA sKeyN sKeyC, .slice sForeignKeysA sForeignKeysN sForeignKeysC, .slice sConstraintsA sConstraintsN sConstraintsC], .agg #[.int .i64 cID, .string cName, .int .i64 cKind], .int .i64 at0] 0 H ⟨true, [(true, [.str, .sl, .sl, .sl, .sl]), (false, [.int .i64])]⟩ post =
  (  ∃ (post0 : Int → Int → Option Addr → Nat → Nat → Bool → Heap → Prop), ConT P 62 [.agg ⟨[.string sName, .slice sVersionsA sVersionsN sVersionsC, .slice sKeyA sKeyN sKeyC, .slice
  sForeignKeysA sForeignKeysN sForeignKeysC, .slice sConstraintsA sConstraintsN sConstraintsC]⟩, .int .i64 at0] H ⟨true, [(true, [.int .i64, .int .i64, .sl]), (false, [.bool])]⟩ post0 ∧ ∀ (H1
  : Heap), Heap.le H H1 → ∀ (n3 n4 : Int) (A5 : Option Addr) (n6 c7 : Nat) (b8 : Bool), post0 n3 n4 A5 n6 c7 b8 H1 → ((!b8) = true → post ⟨⟨[]⟩⟩ none 0 0 none 0 0 none 0 0 none 0 0 (1 : Int)
  H1) ∧ ((!b8) = false → ∃ (post12 : Bool → Heap → Prop), ConT P 63 [.string cName] H1 ⟨false, [(false, [.bool])]⟩ post12 ∧ ∀ (H13 : Heap), Heap.le H1 H13 → ∀ (b15 : Bool), post12 b15 H13 →
  ((!b15) = true → post ⟨⟨[]⟩⟩ none 0 0 none 0 0 none 0 0 none 0 0 (8 : Int) H13) ∧ ((!b15) = false → (decide (cKind < (1 : Int)) = true → post ⟨⟨[]⟩⟩ none 0 0 none 0 0 none 0 0 none 0 0 (7 :
  Int) H13) ∧ (decide (cKind < (1 : Int)) = false → (decide ((3 : Int) < cKind) = true → post ⟨⟨[]⟩⟩ none 0 0 none 0 0 none 0 0 none 0 0 (7 : Int) H13) ∧ (decide ((3 : Int) < cKind) = false →
  ∃ (post23 : Int → Heap → Prop), ConT P 16 [.agg ⟨[.int .i64 n3, .int .i64 n4, .slice A5 n6 c7]⟩, .string cName] H13 ⟨false, [(false, [.int .i64])]⟩ post23 ∧ ∀ (H24 : Heap), Heap.le H13 H24
  → ∀ (n26 : Int), post23 n26 H24 → (decide ((0 : Int) ≤ n26) = true → post ⟨⟨[]⟩⟩ none 0 0 none 0 0 none 0 0 none 0 0 (9 : Int) H24) ∧ (decide ((0 : Int) ≤ n26) = false → ∃ (post30 : Int →
  Heap → Prop), ConT P 21 [.agg ⟨[.string sName, .slice sVersionsA sVersionsN sVersionsC, .slice sKeyA sKeyN sKeyC, .slice sForeignKeysA sForeignKeysN sForeignKeysC, .slice sConstraintsA
  sConstraintsN sConstraintsC]⟩] H24 ⟨false, [(false, [.int .i64])]⟩ post30 ∧ ∀ (H31 : Heap), Heap.le H24 H31 → ∀ (n33 : Int), post30 n33 H31 → (decide ((12 : Int) ≤ n33) = true → post ⟨⟨[]⟩⟩
  none 0 0 none 0 0 none 0 0 none 0 0 (12 : Int) H31) ∧ (decide ((12 : Int) ≤ n33) = false → ∃ (post37 : Int → Heap → Prop), ConT P 21 [.agg ⟨[.string sName, .slice sVersionsA sVersionsN
  sVersionsC, .slice sKeyA sKeyN sKeyC, .slice sForeignKeysA sForeignKeysN sForeignKeysC, .slice sConstraintsA sConstraintsN sConstraintsC]⟩] H31 ⟨false, [(false, [.int .i64])]⟩ post37 ∧ ∀
  (H38 : Heap), Heap.le H31 H38 → ∀ (n40 : Int), post37 n40 H38 → rng .i64 (n40 + (1 : Int)) ∧ (∃ (ys42 : List Value), Cells H38 A5 0 ys42 ∧ List.length ys42 = n6 * 3 ∧ n6 * 32 ≤
  140737488355328 ∧ (n6 + 1) * 32 ≤ 140737488355328 ∧ ∀ (A43 : Option Addr) (c44 : Nat) (H45 : Heap), Heap.le H38 H45 → Cells H45 A43 0 (ys42 ++ [.int .i64 (n40 + (1 : Int)), .string cName,
  .int .i64 cKind]) → n6 + 1 ≤ c44 → ∃ (post49 : ByteArray → Option Addr → Nat → Nat → Option Addr → Nat → Nat → Option Addr → Nat → Nat → Option Addr → Nat → Nat → Heap → Prop), ConT P 64
  [.agg ⟨[.string sName, .slice sVersionsA sVersionsN sVersionsC, .slice sKeyA sKeyN sKeyC, .slice sForeignKeysA sForeignKeysN sForeignKeysC, .slice sConstraintsA sConstraintsN
  sConstraintsC]⟩, .slice A43 (n6 + 1) c44, .int .i64 at0] H45 ⟨false, [(true, [.str, .sl, .sl, .sl, .sl])]⟩ post49 ∧ ∀ (H50 : Heap), Heap.le H45 H50 → ∀ (s52 : ByteArray) (A53 : Option Addr)
  (n54 c55 : Nat) (A56 : Option Addr) (n57 c58 : Nat) (A59 : Option Addr) (n60 c61 : Nat) (A62 : Option Addr) (n63 c64 : Nat), post49 s52 A53 n54 c55 A56 n57 c58 A59 n60 c61 A62 n63 c64 H50 →
  post s52 A53 n54 c55 A56 n57 c58 A59 n60 c61 A62 n63 c64 (0 : Int) H50) ∧ ∃ (ys66 : List Value), Cells H38 A5 0 ys66 ∧ List.length ys66 = n6 * 3 ∧ n6 * 32 ≤ 140737488355328 ∧ (n6 + 1) * 32
  ≤ 140737488355328 ∧ ∀ (A67 : Option Addr) (c68 : Nat) (H69 : Heap), Heap.le H38 H69 → Cells H69 A67 0 (ys66 ++ [.int .i64 (n40 + (1 : Int)), .string cName, .int .i64 cKind]) → n6 + 1 ≤ c68
  → ∃ (post73 : ByteArray → Option Addr → Nat → Nat → Option Addr → Nat → Nat → Option Addr → Nat → Nat → Option Addr → Nat → Nat → Heap → Prop), ConT P 64 [.agg ⟨[.string sName, .slice
  sVersionsA sVersionsN sVersionsC, .slice sKeyA sKeyN sKeyC, .slice sForeignKeysA sForeignKeysN sForeignKeysC, .slice sConstraintsA sConstraintsN sConstraintsC]⟩, .slice A67 (n6 + 1) c68,
  .int .i64 at0] H69 ⟨false, [(true, [.str, .sl, .sl, .sl, .sl])]⟩ post73 ∧ ∀ (H74 : Heap), Heap.le H69 H74 → ∀ (s76 : ByteArray) (A77 : Option Addr) (n78 c79 : Nat) (A80 : Option Addr) (n81
  c82 : Nat) (A83 : Option Addr) (n84 c85 : Nat) (A86 : Option Addr) (n87 c88 : Nat), post73 s76 A77 n78 c79 A80 n81 c82 A83 n84 c85 A86 n87 c88 H74 → post s76 A77 n78 c79 A80 n81 c82 A83 n84
  c85 A86 n87 c88 (0 : Int) H74))))))) := by kernel_rfl
set_option maxHeartbeats 1000000 in
theorem ref21_AddColumn {x a b : Int} {u : ByteArray} (hs : IsTSch H nm A n c B m d E k e F l f s) (hu : str u) (hb : rng .i64 b) (hx : rng .i64 x) (hlim : s.vers.length ≤ 3000000000000) :
    ConT Try.prog 30 [.agg ⟨[.string nm, .slice A n c, .slice B m d, .slice E k e, .slice F l f]⟩, .agg ⟨[.int .i64 a, .string u, .int .i64 b]⟩, .int .i64 x] H shTSI
      (fun nm' A' n' c' B' m' d' E' k' e' F' l' f' r H' => IsTSch H' nm' A' n' c' B' m' d' E' k' e' F' l' f' (addCol s ⟨a, u, b⟩ x).1 ∧ r = (addCol s ⟨a, u, b⟩ x).2) := by
  refine con_of_vc (an := an30) (fn := Try.f30) mix tabOK Try.func30 (by kernel_rfl) (extra := 0) ?_
  rw [vc30]
  unfold addCol
  refine ⟨_, ref21_last hs, ?_⟩
  rintro H1 l1 p q A1 n1 c1 _ ⟨rfl, hv⟩
  refine ⟨fun hf => ?_, fun ht => ?_⟩
  · simp only [Bool.not_eq_true'] at hf
    rw [if_pos hf]; exact ⟨is_sch0, rfl⟩
  simp only [Bool.not_eq_false'] at ht
  obtain ⟨v, hlast, rfl, rfl, r1, r2, r3⟩ := hv ht
  rw [if_neg (by simp [ht]), hlast]
  have hval : schemaValid s = true := by simp only [changeable, Bool.and_eq_true] at ht; exact ht.1.1
  have hmem : v ∈ s.vers := List.mem_of_getLast? hlast
  have hcols := schemaValid_cols hval hmem
  have hwd := valid_width hval
  have d1 := r3.len; have d2 := r3.bn; have d3 := r3.bnd
  dsimp only
  refine ⟨_, ref21_columnName, ?_⟩
  rintro H2 l2 _ rfl
  have hk : columnKind b = false ↔ (b < 1 ∨ 3 < b) := by
    simp only [columnKind, Bool.or_eq_false_iff, decide_eq_false_iff_not]; omega
  refine ⟨fun hf => ?_, fun h1 => ⟨fun h => ?_, fun h => ⟨fun h' => ?_, fun h' => ⟨_, ref21_Index (r3.mono l2), ?_⟩⟩⟩⟩
  · simp only [Bool.not_eq_true'] at hf
    rw [if_pos hf]; exact ⟨is_sch0, rfl⟩
  all_goals
    simp only [Bool.not_eq_false'] at h1
    rw [if_neg (by simp [h1])]
  · rw [if_pos (hk.2 (.inl (of_decide_eq_true h)))]; exact ⟨is_sch0, rfl⟩
  · rw [if_pos (hk.2 (.inr (of_decide_eq_true h')))]; exact ⟨is_sch0, rfl⟩
  have h := of_decide_eq_false h; have h' := of_decide_eq_false h'
  rw [if_neg (fun hh => by have := hk.1 hh; omega)]
  rintro H3 l3 _ rfl
  rw [decide_eq_true_eq, decide_eq_false_iff_not, idxOf_ge _ _ _ (by omega)]
  have L3 := hle_trans l1 (hle_trans l2 l3)
  refine ⟨fun h => ?_, fun h3 => ⟨_, ref21_Width (hs.mono L3), ?_⟩⟩
  · rw [if_pos h]; exact ⟨is_sch0, rfl⟩
  rintro H4 l4 _ ⟨rfl, hw⟩
  rw [if_neg h3]
  refine ⟨fun h => ?_, fun h4 => ⟨_, ref21_Width (hs.mono (hle_trans L3 l4)), ?_⟩⟩
  · rw [if_pos (by have := of_decide_eq_true h; omega)]; exact ⟨is_sch0, rfl⟩
  have h4 := of_decide_eq_false h4
  rw [if_neg (by omega)]
  rintro H5 l5 _ ⟨rfl, -⟩
  have L5 := hle_trans l4 l5
  have hwid : rng .i64 (width s + 1) := by simp only [rng]; omega
  have hfin : (∃ (ys42 : List Value), Cells H5 A1 0 ys42 ∧ List.length ys42 = n1 * 3 ∧ n1 * 32 ≤ 140737488355328 ∧ (n1 + 1) * 32 ≤ 140737488355328 ∧ ∀ (A43 : Option Addr) (c44 : Nat) (H45 : Heap), Heap.le H5 H45 → Cells H45 A43 0 (ys42 ++ [.int .i64 (width s + 1), .string u, .int .i64 b]) → n1 + 1 ≤ c44 →
      ∃ (post49 : ByteArray → Option Addr → Nat → Nat → Option Addr → Nat → Nat → Option Addr → Nat → Nat → Option Addr → Nat → Nat → Heap → Prop), ConT Try.prog 64 [.agg ⟨[.string nm, .slice A n c, .slice B m d, .slice E k e, .slice F l f]⟩, .slice A43 (n1 + 1) c44, .int .i64 x] H45 shTS post49 ∧
        ∀ (H50 : Heap), Heap.le H45 H50 → ∀ (s55 : ByteArray) (A56 : Option Addr) (n57 c58 : Nat) (A59 : Option Addr) (n60 c61 : Nat) (A62 : Option Addr) (n63 c64 : Nat) (A65 : Option Addr) (n66 c67 : Nat), post49 s55 A56 n57 c58 A59 n60 c61 A62 n63 c64 A65 n66 c67 H50 →
          IsTSch H50 s55 A56 n57 c58 A59 n60 c61 A62 n63 c64 A65 n66 c67 { s with vers := changeVers s.vers (v.cols ++ [⟨width s + 1, u, b⟩]) x } ∧ (0 : Int) = 0) := by
    have L := hle_trans l2 (hle_trans l3 L5)
    obtain ⟨xs, hxs, hr⟩ := (r3.mono L).row
    have hxl : xs.length = v.cols.length * 3 := hr.length
    refine ⟨xs, hxs, by omega, d3, by omega, ?_⟩
    intro A7 c7 H7 l7 g7 hc7
    have hsl : Sl H7 A7 (n1 + 1) c7 (v.cols ++ [⟨width s + 1, u, b⟩]) := (hr.append (Row.one (t := (⟨width s + 1, u, b⟩ : Col)) ⟨rfl, hwid, hu, hb⟩)).sl l7 g7 (by simp [d1]) hc7 (by show _ * 32 ≤ _; omega) (by omega)
    refine ⟨_, ref21_change (hs.mono (hle_trans L3 (hle_trans L5 l7))) hsl hx (schemaValid_ne hval) hlim, ?_⟩
    intro H8 l8 _ _ _ _ _ _ _ _ _ _ _ _ _ h
    exact ⟨h, rfl⟩
  exact ⟨hwid, hfin, hfin⟩
end
end Go.Vc

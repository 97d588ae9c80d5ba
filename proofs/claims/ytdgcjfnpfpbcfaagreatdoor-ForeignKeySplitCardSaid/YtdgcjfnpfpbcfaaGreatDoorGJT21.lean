/- value.Key. -/
import Derived.Test.YtdgcjfnpfpbcfaaGreatDoorGJT20
import Derived.Deep.RegionHeld3
import Derived.Deep.DeepCutAuto
import Derived.Test.YtdgcjfnpfpbcfaaGreatDoorGJT11
set_option linter.unusedSectionVars false
set_option linter.unusedSimpArgs false
set_option linter.unusedVariables false
namespace Go.Vc
open Go Go.Proofs Go.Shelf Go.RowKit
theorem bld_below {B : Nat} {bs : List Value} {w w' : World} (h : Lib.IsBuilderF TB T8 B B bs w) (hb : Below w.heap.size w w') : Lib.IsBuilderF TB T8 B B bs w' := by
  have one : ∀ p, Lib.BuilderAtF TB T8 B B p bs w → Lib.BuilderAtF TB T8 B B p bs w' := by
    rintro p ⟨h1, v, h2, h3, h4⟩
    refine ⟨h1, v, (hb.block _ (Array.getElem?_eq_some_iff.1 h2).1).trans h2, ⟨h3.1, ?_⟩, h4⟩
    rcases h3.2 with h | ⟨g, cap, cur, fz, e, hg, hg2, r⟩
    · exact .inl h
    · exact .inr ⟨g, cap, cur, fz, e, hg, (hb.block _ (Array.getElem?_eq_some_iff.1 hg2).1).trans hg2, r⟩
  exact h.elim (fun h => .inl (one _ h)) (fun h => .inr (one _ h))
abbrev TV : TypeId := 80
/- what is carried through one round: the builder, the round's value in its box -/
structure Car (bx : Nat) (v : Val) (acc : List UInt8) (w0 w : World) : Prop where
  bld : Lib.IsBuilderF TB T8 w0.heap.size w0.heap.size (Lib.byteCells acc) w
  box : w.heap[bx]? = some (.cells #[.int .i64 v.kind, .int .i64 v.n, .string v.s] TV (0, 0))
  ne : w0.heap.size < bx
  bel : Below w0.heap.size w0 w
  dr : w0.drawn ≤ w.drawn
  tab : TabW w0
theorem tabW_below {w w' : World} (h : TabW w) (hb : Below w.heap.size w w') : TabW w' := by
  unfold TabW Lib.TabIs World.var? at *
  rcases hg : Tryz.prog.globalNamed "internal/strconv.uint64pow10" with _ | g
  · rw [hg] at h; simp at h
  · rw [hg] at h
    simp only [Option.bind_some] at h ⊢
    rcases hh : w.heap[g]? with _ | o
    · rw [hh] at h; simp at h
    · rw [hb.block g (Array.getElem?_eq_some_iff.1 hh).1]; exact h
theorem Car.cells {bx : Nat} {v : Val} {acc : List UInt8} {w0 w : World} (h : Car bx v acc w0 w) : w.cell? ⟨bx, 0, none⟩ = some (.int .i64 v.kind) ∧ w.cell? ⟨bx, 1, none⟩ = some (.int .i64 v.n) ∧ w.cell? ⟨bx, 2, none⟩ = some (.string v.s) :=
  ⟨by rw [Lib.cell_of_heap h.box]; rfl, by rw [Lib.cell_of_heap h.box]; rfl, by rw [Lib.cell_of_heap h.box]; rfl⟩
theorem Car.quiet {bx : Nat} {v : Val} {acc : List UInt8} {w0 w w' : World} (h : Car bx v acc w0 w) (hb : Below w.heap.size w w') (hd : w.drawn ≤ w'.drawn) : Car bx v acc w0 w' :=
  ⟨bld_below h.bld hb, (hb.block _ (Array.getElem?_eq_some_iff.1 h.box).1).trans h.box, h.ne, h.bel.trans ⟨hb.os, hb.tape, hb.output, hb.size, fun k hk => hb.block k (Nat.lt_of_lt_of_le hk h.bel.size)⟩, Nat.le_trans h.dr hd, h.tab⟩
theorem Car.itoa {bx : Nat} {v : Val} {acc : List UInt8} {w0 w : World} (h : Car bx v acc w0 w) (n : Int) (hn : rng .i64 n) :
    Calls Tryz.prog 65 #[.int .i64 n] w fun e w' => e = .returned (.string ⟨(Lib.itoa n).toArray⟩) ∧ Car bx v acc w0 w' := by
  refine (itoa_call n hn w (tabW_below h.tab h.bel)).mono ?_
  rintro e w' ⟨rfl, h1, h2⟩
  exact ⟨rfl, h.quiet h1 h2⟩
theorem Car.fmt {bx : Nat} {v : Val} {acc : List UInt8} {w0 w : World} (h : Car bx v acc w0 w) (n : Int) (hn : rng .i64 n) :
    Calls Tryz.prog 66 #[.int .i64 n, .int .i64 10] w fun e w' => e = .returned (.string ⟨(Lib.itoa n).toArray⟩) ∧ Car bx v acc w0 w' := by
  refine (fmt_call n hn w (tabW_below h.tab h.bel)).mono ?_
  rintro e w' ⟨rfl, h1, h2⟩
  exact ⟨rfl, h.quiet h1 h2⟩
theorem strCells_bytes (s : ByteArray) : Lib.strCells s = Lib.byteCells s.data.toList := by
  unfold Lib.strCells Lib.byteCells
  rfl
theorem Car.write {bx : Nat} {v : Val} {acc : List UInt8} {w0 w : World} (h : Car bx v acc w0 w) {s : ByteArray} (hv : s.data.toList = valBytes v) (hlen : (acc ++ valBytes v).length ≤ 140737488355328) :
    Calls Tryz.prog 64 #[.pointer (some ⟨w0.heap.size, 0, none⟩), .string s] w fun e w' => e = .returned (.tuple #[.int .i64 s.size, .nilIface]) ∧ Car bx v (acc ++ valBytes v) w0 w' := by
  have hsz : s.size = (valBytes v).length := by rw [← hv]; exact Array.length_toList.symm
  rw [List.length_append] at hlen
  refine (bld_write w0.heap.size w0.heap.size _ s w h.bld (by rw [Lib.byteCells_length]; omega) h.bel.size).mono ?_
  rintro e w' ⟨rfl, h1, h2, h3, h4⟩
  refine ⟨rfl, .inr ?_, h3 bx _ h.box (fun e => ?_) (fun cs fz e => ?_), h.ne, h.bel.trans h2, Nat.le_trans h.dr h4, h.tab⟩
  · rw [Lib.byteCells_append, ← hv, ← strCells_bytes]; exact h1
  · have := h.ne; have := Option.some.inj e; omega
  · injection e with e1 e2; exact absurd e2 (by decide)
theorem add_str {a b : ByteArray} (h : a.size + b.size ≤ 9223372036854775807) : ∃ c : ByteArray, c.data.toList = a.data.toList ++ b.data.toList ∧ c.size = a.size + b.size ∧ ∀ W, (Op.stringOp .add a b).run Tryz.prog W = .ok (.string c) W :=
  ⟨a ++ b, by simp, by simp, fun W => run_string_add_sum W a b h⟩
theorem keyBytes_succ {l : List Val} {k : Nat} (h : k < l.length) : keyBytes (l.take (k + 1)) = keyBytes (l.take k) ++ valBytes l[k] := by
  show List.flatMap valBytes _ = List.flatMap valBytes _ ++ _
  rw [List.take_succ_eq_append_getElem h, List.flatMap_append, List.flatMap_cons, List.flatMap_nil, List.append_nil]
theorem keyBytes_take (l : List Val) (k : Nat) : (keyBytes (l.take k)).length ≤ (keyBytes l).length := by
  conv => rhs; rw [← List.take_append_drop k l]
  simp only [keyBytes, List.flatMap_append, List.length_append]; omega
set_option maxHeartbeats 1000000 in
set_option maxRecDepth 100000 in
theorem bld_string (b : Nat) (l : List UInt8) (w : World) (h : Lib.IsBuilderF TB T8 b b (Lib.byteCells l) w) (h0 : l ≠ []) :
    Calls Tryz.prog 67 #[.pointer (some ⟨b, 0, none⟩)] w fun e w' => e = .returned (.string ⟨l.toArray⟩) ∧ Below b w w' ∧ w.drawn ≤ w'.drawn := by
  obtain ⟨p, hAt⟩ : ∃ p, Lib.BuilderAtF TB T8 b b p (Lib.byteCells l) w := h.elim (fun h => ⟨_, h⟩) (fun h => ⟨_, h⟩)
  obtain ⟨hB, v, hbk, hown, hne⟩ := hAt
  have hl0 : l.length ≠ 0 := by simpa using h0
  rw [Lib.byteCells_length] at hown
  obtain ⟨g, cap, cur, fz, rfl, hbg, hg, hnc, hcm, hcs⟩ : ∃ g cap cur fz, v = .slice (some ⟨g, 0, none⟩) l.length cap ∧ b ≤ g ∧ w.heap[g]? = some (.cells cur T8 fz) ∧ l.length ≤ cap ∧ cap ≤ maxLen ∧ cur.size = cap * 1 := by
    rcases hown.2 with ⟨_, hz⟩ | ⟨g, cap, cur, fz, hv, h1, h2, _, h3, h4, h5, _⟩
    · exact absurd hz hl0
    · exact ⟨g, cap, cur, fz, hv, h1, h2, h3, h4, h5⟩
  have c1 : w.drew.cell? ⟨b, 1, none⟩ = some (.slice (some ⟨g, 0, none⟩) l.length cap) := by
    have : w.drew.heap[b]? = some (.cells #[p, .slice (some ⟨g, 0, none⟩) l.length cap] TB (0, 0)) := hbk
    rw [Lib.cell_of_heap this]; rfl
  have hSD : (Builtin.unsafeSliceData_ #[103] 138 #[.slice (some ⟨g, 0, none⟩) l.length cap]).run Tryz.prog w.drew = .ok (.pointer (some ⟨g, 0, none⟩)) w.drew :=
    Lib.run_unsafeSliceData_row _ _ _ _ _ _ (by omega)
  have hUS : (Builtin.unsafeString_ #[138, 3] 9 #[.pointer (some ⟨g, 0, none⟩), .int .i64 l.length]).run Tryz.prog w.drew = .ok (.string ⟨l.toArray⟩) (w.drew.freeze ⟨g, 0, none⟩ l.length) := by
    refine Lib.run_unsafeString_row w.drew 138 3 9 T8 Tryz.underlying138 (by kernel_rfl) g cur.size (by have hg' : w.drew.heap[g]? = some (.cells cur T8 fz) := hg; simp [World.shape?, hg']) l h0 (by omega) (by unfold maxLen at hcm; omega) ?_
    intro j x hx
    exact hown.cells (g := g) rfl j (.int .u8 x.toNat) (by simp [Lib.byteCells, hx])
  have hd : (w.drew.freeze ⟨g, 0, none⟩ l.length).drawn = w.drawn + 1 := by
    unfold World.freeze; split <;> rfl
  go_enter Tryz.func67, Tryz.ntmps67
  go_wp2
  go_region
  all_goals (go_wp2; go_ret; exact ⟨rfl, Lib.below_freeze (Below.drew (Below.refl b w)) (p := ⟨g, 0, none⟩) hbg _, by rw [hd]; omega⟩)
set_option maxHeartbeats 2000000 in
set_option maxRecDepth 100000 in
theorem key_walk {H : Heap} {A : Option Addr} {n c : Nat} {l : List Val} (hT : TabH H) (hs : Sl H A n c l) (hkl : (keyBytes l).length ≤ 140737488355328) (w : World) (hw : Snap H w) :
    Calls Tryz.prog 38 #[.slice A n c] w fun e w' => e = .returned (.string (keyStr l)) ∧ Below w.heap.size w w' ∧ w.drawn ≤ w'.drawn := by
  have bn := hs.bn
  have hl := hs.len
  go_enter Tryz.func38, Tryz.ntmps38
  go_wp2
  go_loopw [8] (fun i wr => ∃ k : Nat, k ≤ n ∧ i = .int .i64 k ∧ Lib.IsBuilderF TB T8 w.heap.size w.heap.size (Lib.byteCells (keyBytes (l.take k))) wr ∧
      (k = 0 → wr.heap[w.heap.size]? = some (.cells #[.pointer none, .slice none 0 0] TB (0, 0))) ∧ Below w.heap.size w wr ∧ w.drawn ≤ wr.drawn)
    (fun i _ => n - (RowKit.intOf i).toNat)
  case atStart =>
    exact ⟨0, Nat.zero_le _, rfl, Lib.IsBuilderF.of (Lib.fresh_isBuilder TB T8 w), fun _ => heap_alloc_new w _, (Below.refl _ w).alloc (Nat.le_refl _) _, Nat.le_refl _⟩
  case round =>
    obtain ⟨k, hk, rfl, hB, hF, hb, hd⟩ := hrel
    by_cases hkn : k < n
    · obtain ⟨vs, v1, rfl, v2, v3, v4⟩ := hs.get k (by omega)
      rcases v1 with v1 | ⟨b, o, rfl, v1⟩
      · exact absurd v1 (by simp)
      have hc : ∀ t u, ([.int .i64 l[k].kind, .int .i64 l[k].n, .string l[k].s] : List Value)[t]? = some u → wr.cell? ⟨b, o + k * 3 + t, none⟩ = some u := by
        intro t u hu
        obtain ⟨e1, e2⟩ := v1 t u hu
        exact ((hw _ _ _ e1).keep (hb.block _ (hw _ _ _ e1).lt)).cell e2
      have c0 : wr.cell? ⟨b, o + k * 3, none⟩ = some (.int .i64 l[k].kind) := hc 0 _ rfl
      have c1 : wr.cell? ⟨b, o + k * 3 + 1, none⟩ = some (.int .i64 l[k].n) := hc 1 _ rfl
      have c2 : wr.cell? ⟨b, o + k * 3 + 2, none⟩ = some (.string l[k].s) := hc 2 _ rfl
      clear hc v1
      have hszB := hb.size
      have hBl : w.heap.size < wr.heap.size := hB.elim (fun h => h.lt) (fun h => h.lt)
      have hC : Car wr.heap.size l[k] (keyBytes (l.take k)) w (wr.alloc (.cells #[.int .i64 l[k].kind, .int .i64 l[k].n, .string l[k].s] TV)).drew := ⟨hB.elim (fun h => .inl (h.alloc _)) (fun h => .inr (h.alloc _)), heap_alloc_new wr _, hBl, (hb.alloc hszB _).drew, Nat.le_succ_of_le hd, hT.tab hw⟩
      have v5 : rng .i64 (l[k].s.size : Int) := by have := v4; simp only [rng, str] at this ⊢; omega
      have hlen : (keyBytes (l.take k) ++ valBytes l[k]).length ≤ 140737488355328 := by
        rw [← keyBytes_succ (by omega)]; exact Nat.le_trans (keyBytes_take l (k + 1)) hkl
      have hv : (valBytes l[k]).length ≤ 140737488355328 := by rw [List.length_append] at hlen; omega
      have hvl : (Lib.itoa l[k].kind).length + (1 + ((Lib.itoa l[k].n).length + (1 + ((Lib.itoa (l[k].s.size : Int)).length + (1 + l[k].s.size))))) ≤ 140737488355328 := by
        refine Nat.le_trans (Nat.le_of_eq ?_) hv
        have : l[k].s.data.toList.length = l[k].s.size := Array.length_toList
        simp only [valBytes, List.length_append, List.length_cons]; omega
      have sz : ∀ x : List UInt8, (⟨x.toArray⟩ : ByteArray).size = x.length := fun x => by simp [ByteArray.size]
      have y1 := sz (Lib.itoa l[k].kind)
      have y2 := sz (Lib.itoa l[k].n)
      have y3 := sz (Lib.itoa (l[k].s.size : Int))
      have z44 : (⟨#[44]⟩ : ByteArray).size = 1 := rfl
      have z58 : (⟨#[58]⟩ : ByteArray).size = 1 := rfl
      obtain ⟨s1, p1, z1, e1⟩ := add_str (a := ⟨(Lib.itoa l[k].kind).toArray⟩) (b := ⟨#[44]⟩) (by omega)
      obtain ⟨s2, p2, z2, e2⟩ := add_str (a := s1) (b := ⟨(Lib.itoa l[k].n).toArray⟩) (by omega)
      obtain ⟨s3, p3, z3, e3⟩ := add_str (a := s2) (b := ⟨#[44]⟩) (by omega)
      obtain ⟨s4, p4, z4, e4⟩ := add_str (a := s3) (b := ⟨(Lib.itoa (l[k].s.size : Int)).toArray⟩) (by omega)
      obtain ⟨s5, p5, z5, e5⟩ := add_str (a := s4) (b := ⟨#[58]⟩) (by omega)
      obtain ⟨s6, p6, z6, e6⟩ := add_str (a := s5) (b := l[k].s) (by omega)
      have hs6 : s6.data.toList = valBytes l[k] := by
        rw [p6, p5, p4, p3, p2, p1]; simp [valBytes]
      clear hvl sz z44 z58 y1 y2 y3
      clear p1 p2 p3 p4 p5 p6 z1 z2 z3 z4 z5 z6
      go_wp2
      go_region_held3 (fun w' => w'.cell? ⟨wr.heap.size, 0, none⟩ = some (.int .i64 l[k].kind) ∧ w'.cell? ⟨wr.heap.size, 1, none⟩ = some (.int .i64 l[k].n) ∧ w'.cell? ⟨wr.heap.size, 2, none⟩ = some (.string l[k].s)) (first | exact hC.cells)
        (first
          | (go_at_call 66; refine (hC.fmt _ (by assumption)).mono ?_; rintro e W ⟨rfl, hC⟩)
          | (go_at_call 65; refine (hC.itoa _ (by assumption)).mono ?_; rintro e W ⟨rfl, hC⟩)
          | (go_at_call 64; refine (hC.write hs6 hlen).mono ?_; rintro e W ⟨rfl, hC⟩))
      go_wp2
      go_roundw
      case rel =>
        refine ⟨k + 1, by omega, ?_, ?_, by omega, hC.bel, hC.dr⟩
        · first | rfl | (congr 1; omega) | trace_state
        · rw [keyBytes_succ (by omega)]; exact hC.bld
      case measure => simp [RowKit.intOf]; omega
    · by_cases hk0 : k = 0
      · subst hk0
        go_wp2_with (go_at_call 67; refine (bld_nil w.heap.size _ _ (hF rfl)).mono ?_)
        rintro e W1 ⟨rfl, _⟩
        intro h1 h2
        go_wp2
        go_ret
        refine ⟨?_, hb.trans h1, Nat.le_trans hd h2⟩
        have : l = [] := List.eq_nil_of_length_eq_zero (by omega)
        rw [this]; rfl
      · have hne : keyBytes (l.take k) ≠ [] := by
          intro h
          have h0 : 0 < l.length := by omega
          have h2 : valBytes l[0] = [] := by
            refine List.eq_nil_iff_forall_not_mem.2 fun x hx => ?_
            have : x ∈ keyBytes (l.take k) := List.mem_flatMap.2 ⟨l[0], List.mem_take_iff_getElem.2 ⟨0, by omega, rfl⟩, hx⟩
            rw [h] at this; cases this
          exact valBytes_ne _ h2
        go_wp2_with (go_at_call 67; refine (bld_string w.heap.size _ _ hB hne).mono ?_)
        rintro e W1 ⟨rfl, h1, h2⟩
        go_wp2
        go_ret
        refine ⟨?_, hb.trans h1, Nat.le_trans hd h2⟩
        rw [keyStr, List.take_of_length_le (by omega)]; rfl
def shKey : RSh := ⟨false, [(false, [.str])]⟩
theorem value_Key {H : Heap} {A : Option Addr} {n c : Nat} {l : List Val} (hT : TabH H) (hs : Sl H A n c l) (hkl : (keyBytes l).length ≤ 140737488355328) :
    ConT Tryz.prog 38 [.slice A n c] H shKey (fun s _ => s = keyStr l) := by
  refine ⟨FnOK.of_body Tryz.func38 rfl (by kernel_rfl), fun w hw => ?_⟩
  refine (key_walk hT hs hkl w hw).mono ?_
  rintro e w' ⟨rfl, h1, h2⟩
  exact ⟨_, H, [], rfl, ⟨_, _, rfl, rfl, rfl, rfl⟩, ⟨h1, Heap.le_refl _, fun _ _ _ => rfl, fun b o v hv => (hw b o v hv).keep (h1.block b (hw b o v hv).lt), h2⟩, by simp, List.Pairwise.nil⟩
end Go.Vc

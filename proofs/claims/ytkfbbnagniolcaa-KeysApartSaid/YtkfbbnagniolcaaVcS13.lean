/- Calls: the theorem. -/
import Derived.Test.YtkfbbnagniolcaaVcS12
set_option linter.unusedSectionVars false
set_option linter.unusedSimpArgs false
set_option linter.unusedVariables false
namespace Go.Vc
open Go Go.RowKit

section
variable {P : Program} {Γ : Tab} {w0 : W0} {w w' : World} {H0 H' : Heap} {st : St} {a : Act} {ρ : Nat → Nat} {σ : Nat → Value}
/- behind a call -/
theorem Good.called (hg : Good P w0 H0 st a w ρ σ) (hb : Below w.heap.size w w') {H' : Heap} (hle : Heap.le st.H H') (hold : ∀ b, b < w.heap.size → ∀ o, H' b o = st.H b o) (hs : Snap H' w') (hdr : w.drawn ≤ w'.drawn) :
    Good P w0 H0 { st with H := H' } a w' ρ σ := by
  refine ⟨hg.defers, hg.size, hg.fr, ⟨hb.os.trans hg.below.os, hb.tape.trans hg.below.tape, hb.output.trans hg.below.output, Nat.le_trans hg.below.size hb.size, fun k hk hne => (hb.block k (Nat.lt_of_lt_of_le hk hg.below.size)).trans (hg.below.block k hk hne), Nat.le_trans hg.below.drawn hdr⟩, Heap.le_trans hg.le hle, fun b hbb o => ?_, hs, fun i f o h => ?_, hg.sep, fun d hd => ?_, hg.sl, fun b e n c hO => ?_⟩
  rotate_right
  · obtain ⟨⟨k1, ⟨cur, k2, k3⟩, k4⟩, k5⟩ := hg.opn b e n c hO
    have hlt := (Array.getElem?_eq_some_iff.1 k2).1
    exact ⟨⟨k1, ⟨cur, (hb.block b hlt).trans k2, k3⟩, fun t ht => (hold b hlt t).trans (k4 t ht)⟩, k5⟩
  · exact (hold b (Nat.lt_of_lt_of_le (W0.old hbb).1 hg.below.size) o).trans (hg.old b hbb o)
  · have ho := hg.obj i f o h
    have hblk := fun g => hg.blk_lt (g := g) h
    cases o <;> simp only [ObjOK] at ho ⊢
    case box t cs =>
      obtain ⟨ys, h1, h2, h3, h4⟩ := ho
      have hlt := (hblk _ rfl).1
      exact ⟨ys, (hb.block _ hlt).trans h1, h2, h3, fun o => (hold _ hlt o).trans (h4 o)⟩
    case arr t xs =>
      obtain ⟨h1, h2, h3, h4⟩ := ho
      have hlt := (hblk _ rfl).1
      exact ⟨(hb.block _ hlt).trans h1, h2, h3, fun o => (hold _ hlt o).trans (h4 o)⟩
    case row e n xs =>
      obtain ⟨h1, h2, h3⟩ := ho
      refine ⟨⟨⟨h1.row.1, ?_⟩, h1.nw⟩, h2, fun g hgb o => (hold g (hblk g hgb).1 o).trans (h3 g hgb o)⟩
      rcases h1.row.2 with hh | ⟨g, cap, cur, hv, hle, hgc, hr⟩
      · exact .inl hh
      · exact .inr ⟨g, cap, cur, hv, hle, (hb.block g (Array.getElem?_eq_some_iff.1 hgc).1).trans hgc, hr⟩
    case pub A n c => exact ho
  · exact ⟨(hg.nr d hd).fr, (hg.nr d hd).obj⟩

/- arguments and what they stand for -/
def relA (ρ : Nat → Nat) (σ : Nat → Value) : List SV → List Value → Prop
  | [], [] => True
  | x :: xs, v :: vs => x.rel ρ σ v ∧ relA ρ σ xs vs
  | _, _ => False
theorem SV.plain_rel {x : SV} {v y : Value} (h : x.plain = some v) (hr : x.rel ρ σ y) : y = v := by
  cases x with
  | one x => exact S1.toV_rel h hr
  | agg cs =>
    obtain ⟨ys, rfl, hr⟩ := hr
    simp only [SV.plain] at h
    split at h
    · rename_i xs hx
      simp at h; subst h
      have := toVs_rel hx hr
      congr 1
      apply Array.ext'
      exact this
    · simp at h
  | clo f cap =>
    obtain ⟨ys, rfl, hr⟩ := hr
    match cap, h, hr with
    | [], h, hr =>
      simp [SV.plain] at h; subst h
      have h0 : ys.toList = [] := by
        cases hy : ys.toList with
        | nil => rfl
        | cons y l => rw [hy] at hr; exact hr.elim
      congr 1
      apply Array.ext'
      simpa using h0
    | _ :: _, h, _ => simp [SV.plain] at h
  | tup cs => simp [SV.plain] at h
theorem plains_rel : ∀ {xs : List SV} {vs us : List Value}, plains xs = some vs → relA ρ σ xs us → us = vs
  | [], vs, us, h, hr => by
    simp [plains] at h; subst h
    cases us with
    | nil => rfl
    | cons _ _ => exact hr.elim
  | x :: xs, vs, us, h, hr => by
    cases us with
    | nil => exact hr.elim
    | cons u us =>
      simp only [plains] at h
      split at h
      · rename_i v hv
        split at h
        · rename_i ws hws
          simp at h; subst h
          rw [SV.plain_rel hv hr.1, plains_rel hws hr.2]
        · simp at h
      · simp at h

/- lending -/
def over (H : Heap) (w : World) (g : Nat) : Heap := fun b o => if b = g then w.cell? ⟨b, o, none⟩ else H b o
theorem over_le {H : Heap} (hs : Snap H w) (g : Nat) : Heap.le H (over H w g) := by
  intro b o v hv
  unfold over
  split
  · exact hs b o v hv
  · exact hv
theorem over_snap {H : Heap} (hs : Snap H w) (g : Nat) : Snap (over H w g) w := by
  intro b o v hv
  unfold over at hv
  split at hv
  · exact hv
  · exact hs b o v hv
/- memory that is no object's stays as it is when objects are lent -/
def Lent (st : St) (ρ : Nat → Nat) (σ : Nat → Value) (H H' : Heap) : Prop := ∀ g, (∀ i f o, st.L[i]? = some (some (f, o)) → blk ρ σ i o ≠ some g) → ∀ o, H' g o = H g o
theorem Lent.refl (st : St) (ρ : Nat → Nat) (σ : Nat → Value) (H : Heap) : Lent st ρ σ H H := fun _ _ _ => rfl
theorem Lent.trans {st : St} {ρ : Nat → Nat} {σ : Nat → Value} {H H1 H2 : Heap} (h : Lent st ρ σ H H1) (k : Lent st ρ σ H1 H2) : Lent st ρ σ H H2 := fun g hg o => (k g hg o).trans (h g hg o)
theorem Lent.over {st : St} {i : Nat} {f : Bool} {o : LObj} {g : Nat} {H : Heap} (hi : st.L[i]? = some (some (f, o))) (hb : blk ρ σ i o = some g) : Lent st ρ σ H (over H w g) := by
  intro g' hg' k
  have : g' ≠ g := fun e => hg' i f o hi (by rw [e]; exact hb)
  simp [Vc.over, this]
theorem lend1_sound (hg : Good P w0 H0 st a w ρ σ) {x : S1} {H : Heap} {K : Value → Heap → Prop} {v : Value} (h : lend1 st x H K) (hs : Snap H w) (hr : x.rel ρ σ v) : ∃ H', Heap.le H H' ∧ Snap H' w ∧ K v H' ∧ Lent st ρ σ H H' := by
  unfold lend1 at h
  split at h
  · rename_i i off
    split at h
    · rename_i t cs hL
      split at h
      · rename_i h1
        split at h
        · rename_i vs hvs
          obtain ⟨f, hf⟩ := getL_some hL
          obtain ⟨ys, q1, q2, q3, q4⟩ := hg.obj _ _ _ hf
          have hy := toVs_rel hvs q2
          have hv : v = .pointer (some ⟨ρ i, off, none⟩) := hr
          subst hv
          refine ⟨over H w (ρ i), over_le hs _, over_snap hs _, h _ _ (over_le hs _) (.inr ⟨_, 0, rfl, fun k u hu => ?_⟩), Lent.over hf rfl⟩
          have hcell : w.cell? ⟨ρ i, k, none⟩ = some u := by
            rw [cell_of_block q1, ← hu, ← hy]
            simp
          refine ⟨by simp [over, hcell], ?_⟩
          exact ok1s_rel hg.sl h1 q2 u (by rw [hy]; exact List.mem_of_getElem? hu)
        · exact h.elim
      · exact h.elim
    · exact h.elim
  · rename_i i
    split at h
    · rename_i e n xs hL
      obtain ⟨f, hf⟩ := getL_some hL
      obtain ⟨hrow, h1, hfree⟩ := hg.obj _ _ _ hf
      have hv : v = σ i := hr
      subst hv
      rcases hrow.row.2 with ⟨hs0, h0⟩ | ⟨g, cap, cur, hs0, hge, hb, hnc, hcm, hcs, htake⟩
      · have hxs : xs = [] := List.eq_nil_of_length_eq_zero (by rw [hrow.row.1, h0]; simp)
        rw [hs0]
        subst h0
        exact ⟨H, Heap.le_refl _, hs, h none 0 H (Heap.le_refl _) (.inl hxs) (Nat.le_refl _), Lent.refl _ _ _ _⟩
      · rw [hs0]
        refine ⟨over H w g, over_le hs _, over_snap hs _, h _ _ _ (over_le hs _) (.inr ⟨g, 0, rfl, fun k u hu => ?_⟩) hnc, Lent.over hf (by simp only [blk]; rw [hs0]; rfl)⟩
        have hcell := row_cells hrow hs0 k u hu
        exact ⟨by simp [over, hcell], h1 u (List.mem_of_getElem? hu)⟩
    · exact h.elim
  · split at h
    · rename_i u hu
      have := S1.toV_rel hu hr
      subst this
      exact ⟨H, Heap.le_refl _, hs, h, Lent.refl _ _ _ _⟩
    · exact h.elim
theorem lendL_sound (hg : Good P w0 H0 st a w ρ σ) : ∀ {xs : List S1} {H : Heap} {K : List Value → Heap → Prop} {vs : List Value}, lendL st xs H K → Snap H w → relL ρ σ xs vs → ∃ H', Heap.le H H' ∧ Snap H' w ∧ K vs H' ∧ Lent st ρ σ H H'
  | [], H, K, vs, h, hs, hr => by
    cases vs with
    | nil => exact ⟨H, Heap.le_refl _, hs, h, Lent.refl _ _ _ _⟩
    | cons _ _ => exact hr.elim
  | x :: xs, H, K, vs, h, hs, hr => by
    cases vs with
    | nil => exact hr.elim
    | cons v vs =>
      obtain ⟨H1, h1, h2, h3, h4⟩ := lend1_sound hg h hs hr.1
      obtain ⟨H2, k1, k2, k3, k4⟩ := lendL_sound hg h3 h2 hr.2
      exact ⟨H2, Heap.le_trans h1 k1, k2, k3, h4.trans k4⟩
theorem lendS_sound (hg : Good P w0 H0 st a w ρ σ) {x : SV} {H : Heap} {K : Value → Heap → Prop} {v : Value} (h : lendS st x H K) (hs : Snap H w) (hr : x.rel ρ σ v) : ∃ H', Heap.le H H' ∧ Snap H' w ∧ K v H' ∧ Lent st ρ σ H H' := by
  cases x with
  | one x => exact lend1_sound hg h hs hr
  | agg cs =>
    obtain ⟨ys, rfl, hr⟩ := hr
    exact lendL_sound hg (K := fun vs H' => K (.agg ⟨vs⟩) H') h hs hr
  | clo f cap =>
    obtain ⟨ys, rfl, hr⟩ := hr
    exact lendL_sound hg (K := fun vs H' => K (.func (.func f) #[] ⟨vs⟩) H') h hs hr
  | tup cs => exact h.elim
theorem lendA_sound (hg : Good P w0 H0 st a w ρ σ) : ∀ {xs : List SV} {H : Heap} {K : List Value → Heap → Prop} {vs : List Value}, lendA st xs H K → Snap H w → relA ρ σ xs vs → ∃ H', Heap.le H H' ∧ Snap H' w ∧ K vs H' ∧ Lent st ρ σ H H'
  | [], H, K, vs, h, hs, hr => by
    cases vs with
    | nil => exact ⟨H, Heap.le_refl _, hs, h, Lent.refl _ _ _ _⟩
    | cons _ _ => exact hr.elim
  | x :: xs, H, K, vs, h, hs, hr => by
    cases vs with
    | nil => exact hr.elim
    | cons v vs =>
      obtain ⟨H1, h1, h2, h3, h4⟩ := lendS_sound hg h hs hr.1
      obtain ⟨H2, k1, k2, k3, k4⟩ := lendA_sound hg h3 h2 hr.2
      exact ⟨H2, Heap.le_trans h1 k1, k2, k3, h4.trans k4⟩

def CallOK (P : Program) (w0 : W0) (H0 : Heap) (st : St) (a : Act) (w : World) (ρ : Nat → Nat) (d : Option Tmp) (f : FuncId) (us : List Value) (K : St → Prop) : Prop :=
  FnOK P f ∧ Calls P f us.toArray w fun e w' => ∃ v st' ρ' σ', e = .returned v ∧ K st' ∧ Keeps d.toList st st' ∧ Good P w0 H0 st' (a.put d v) w' ρ' σ' ∧ Goes noX st st' ρ ρ' w w'
theorem CallOK.of_keeps {d : Option Tmp} {f : FuncId} {us : List Value} {K : St → Prop} {st' : St} (hk : Keeps [] st st') (hgo : Goes noX st st' ρ ρ w w) (h : CallOK P w0 H0 st' a w ρ d f us K) : CallOK P w0 H0 st a w ρ d f us K := by
  refine ⟨h.1, Calls.mono h.2 ?_⟩
  rintro e w' ⟨v, st2, ρ', σ', h1, h2, h3, h4, h5⟩
  exact ⟨v, st2, ρ', σ', h1, h2, (hk.mono (by simp)).trans h3, h4, hgo.trans h5⟩
/- the common end: the call has returned, its result fits, and the public memory may be taken to be H2 -/
theorem call_end (hg : Good P w0 H0 st a w ρ σ) {H1 H' H2 : Heap} {sh : RSh} {post : PostR sh.parts (Heap → Prop)} {d : Option Tmp} {K : St → Prop} {v : Value} {nr : List NRow}
    (hgr : Grows w w' H1 H') (hle1 : Heap.le st.H H1) (hfit : Fits sh post v H' nr) (hnew : ∀ r ∈ nr, NewRow P w w' H' r) (hap : apartRows nr)
    (h2 : H2 = H' ∧ (∀ b, b < w.heap.size → ∀ o, H' b o = st.H b o) ∨ H2 = st.H)
    (hK : allR sh.parts post { st with H := H2 } fun r st' q => q H' → vcRes sh d r st' K) :
    ∃ st' ρ' σ', K st' ∧ Keeps d.toList st st' ∧ Good P w0 H0 st' (a.put d v) w' ρ' σ' ∧ Goes noX st st' ρ ρ' w w' := by
  have hle2 : Heap.le st.H H2 := by
    rcases h2 with ⟨rfl, _⟩ | rfl
    · exact Heap.le_trans hle1 hgr.le
    · exact Heap.le_refl _
  have hle3 : Heap.le H2 H' := by
    rcases h2 with ⟨rfl, _⟩ | rfl
    · exact Heap.le_refl _
    · exact Heap.le_trans hle1 hgr.le
  have hgood : Good P w0 H0 { st with H := H2 } a w' ρ σ := by
    refine hg.called hgr.below hle2 ?_ ?_ hgr.drawn
    · rcases h2 with ⟨rfl, h⟩ | rfl
      · exact h
      · exact fun _ _ _ => rfl
    · exact fun b o v hv => hgr.snap b o v (hle3 b o v hv)
  have hrow : ∀ r ∈ nr, RowIn P w0 w' H2 r := fun r hr => by
    obtain ⟨q1, q2, q3⟩ := hnew r hr
    refine ⟨⟨ownsRow_base0 q1, fun g hgb => .inl (Nat.le_trans hg.below.size (q1.lt g hgb).1)⟩, q2, fun g hgb o => ?_⟩
    cases hh : H2 g o with
    | none => rfl
    | some z => have := hle3 g o z hh; rw [q3 g hgb o] at this; simp at this
  have hsep : SepR { st with H := H2 } ρ σ nr := by
    refine ⟨fun r hr i f o g hi hb hh => ?_, fun r hr g hh => ?_⟩
    · have h1 := (hg.blk_lt hi hb).1
      have h2 := ((hnew r hr).1.lt g hh).1
      omega
    · have h2 := ((hnew r hr).1.lt g hh).1
      cases hO : st.O g with
      | none => rfl
      | some x =>
        obtain ⟨e, n, c⟩ := x
        obtain ⟨⟨_, ⟨cur, k2, _⟩, _⟩, _⟩ := hg.opn g e n c hO
        have := (Array.getElem?_eq_some_iff.1 k2).1
        omega
  unfold Fits at hfit
  obtain ⟨r, st', q, nr', us, σ', k1, ⟨_, k2, k3⟩, k4, k5, k6, k7, k8, k9, k10, k11⟩ := allR_sound hgood hK hfit hrow hap hsep
  obtain ⟨st2, j1, j2, j3, j4⟩ := vcRes_sound k4 (k1 k3) k5 k7 k2
  have hkeep : Keeps [] st { st with H := H2 } := ⟨rfl, rfl, fun _ _ => rfl, fun _ _ h => h, hle2⟩
  refine ⟨st2, ρ, σ', j1, ((hkeep.trans k6).mono (by simp)).trans j2, j3, fun i f o h1 h2 _ => ⟨f, ?_⟩, fun _ _ _ _ _ _ => rfl, fun i f o h1 h2 _ => ?_⟩
  · rw [j4, k11 i (by simp only; rw [h1]; simp)]
    exact h1
  · exact hgr.below.block _ (hg.blk_lt h1 (blk_BA (σ := σ) h2)).1
theorem vcPlain_sound (hg : Good P w0 H0 st a w ρ σ) {sh : RSh} {d : Option Tmp} {f : FuncId} {vals : List Value} {K : St → Prop} (h : vcPlain P sh st d f vals K) : CallOK P w0 H0 st a w ρ d f vals K := by
  obtain ⟨post, hc, hK⟩ := h
  refine ⟨hc.1, Calls.mono (hc.2 w hg.snap) ?_⟩
  rintro e w' ⟨v, H', nr, rfl, hfit, hgr, hnew, hap⟩
  obtain ⟨st', ρ', σ', k1, k2, k3, k4⟩ := call_end hg hgr (Heap.le_refl _) hfit hnew hap (.inl ⟨rfl, hgr.old⟩) (hK H' hgr.le)
  exact ⟨v, st', ρ', σ', rfl, k1, k2, k3, k4⟩
/- a call that is handed a row -/
theorem Good.calledX (hg : Good P w0 H0 st a w ρ σ) {i : Nat} {e : TypeId} {n : Nat} {xs : List Value} (hW : getW st i = some (.row e n xs)) (o' : LObj) (hb : BelX w w' (σ i).ownBlock) {H' : Heap} (hle : Heap.le st.H H')
    (hold : ∀ b, b < w.heap.size → (σ i).ownBlock ≠ some b → ∀ o, H' b o = st.H b o) (hs : Snap H' w') (ho' : ObjOK P w0 w' H' ρ σ i o') (hform : o' = .dead ∨ ∃ ys, o' = .row e n ys) : Good P w0 H0 { Vc.setL st i o' with H := H' } a w' ρ σ := by
  have hL := getW_some hW
  have hlt : i < st.L.length := (List.getElem?_eq_some_iff.1 hL).1
  have hrow := (hg.obj _ _ _ hL).1
  have hge : ∀ k, (σ i).ownBlock = some k → w0.nw (k) := fun k hk => (hrow.lt k hk).1
  have hblk' : ∀ g, blk ρ σ i o' = some g → blk ρ σ i (.row e n xs) = some g := by
    intro g h
    rcases hform with rfl | ⟨ys, rfl⟩
    · simp [blk] at h
    · exact h
  have hget : ∀ j, (Vc.setL st i o').L[j]? = if i = j then some (some (true, o')) else st.L[j]? := by
    intro j
    by_cases hj : i = j
    · subst hj; simp only [Vc.setL, if_true]; exact set_get hlt
    · simp only [Vc.setL, if_neg hj]; exact List.getElem?_set_ne hj
  have hne : ∀ j f o g, i ≠ j → st.L[j]? = some (some (f, o)) → blk ρ σ j o = some g → (σ i).ownBlock ≠ some g := fun j f o g hij hj hbj hh => hg.sep i j _ _ _ _ g hij hL hj hh hbj
  refine ⟨hg.defers, hg.size, hg.fr, ⟨hb.os.trans hg.below.os, hb.tape.trans hg.below.tape, hb.output.trans hg.below.output, Nat.le_trans hg.below.size hb.size, fun k hk hne => ?_, Nat.le_trans hg.below.drawn hb.drawn⟩, Heap.le_trans hg.le hle, fun b hbb o => ?_, hs, fun j f o h => ?_, fun j k f f' o o2 g hjk hj hk hbj hbk => ?_, fun d hd => ?_, hg.sl, fun b e2 n2 c2 hO => ?_⟩
  rotate_right
  · obtain ⟨⟨k1, ⟨cur, k2, k3⟩, k4⟩, k5⟩ := hg.opn b e2 n2 c2 hO
    have hlt := (Array.getElem?_eq_some_iff.1 k2).1
    refine ⟨⟨k1, ⟨cur, (hb.block b hlt (fun hh => k5 i _ _ hL hh)).trans k2, k3⟩, fun t ht => (hold b hlt (fun hh => k5 i _ _ hL hh) t).trans (k4 t ht)⟩, fun j f o hj => ?_⟩
    have hj : (Vc.setL st i o').L[j]? = some (some (f, o)) := hj
    rw [hget] at hj
    by_cases hij : i = j
    · subst hij
      rw [if_pos rfl] at hj
      simp only [Option.some.injEq, Prod.mk.injEq] at hj
      rw [← hj.2]
      exact fun hh => k5 i _ _ hL (hblk' b hh)
    · rw [if_neg hij] at hj
      exact k5 j f o hj
  · refine (hb.block k (Nat.lt_of_lt_of_le hk hg.below.size) fun hh => ?_).trans (hg.below.block k hk hne)
    rcases hge k hh with h1 | h1
    · omega
    · exact hne h1
  · exact (hold b (Nat.lt_of_lt_of_le (W0.old hbb).1 hg.below.size) (fun hh => hbb (hge b hh)) o).trans (hg.old b hbb o)
  · have h : (Vc.setL st i o').L[j]? = some (some (f, o)) := h
    rw [hget] at h
    by_cases hij : i = j
    · subst hij
      rw [if_pos rfl] at h
      simp only [Option.some.injEq, Prod.mk.injEq] at h
      rw [← h.2]; exact ho'
    · rw [if_neg hij] at h
      have ho := hg.obj j f o h
      have hblk := fun g => hg.blk_lt (g := g) h
      have hn := fun g => hne j f o g hij h
      cases o <;> simp only [ObjOK] at ho ⊢
      case box t cs =>
        obtain ⟨ys, h1, h2, h3, h4⟩ := ho
        have hlt := (hblk _ rfl).1
        exact ⟨ys, (hb.block _ hlt (hn _ rfl)).trans h1, h2, h3, fun o => (hold _ hlt (hn _ rfl) o).trans (h4 o)⟩
      case arr t xs =>
        obtain ⟨h1, h2, h3, h4⟩ := ho
        have hlt := (hblk _ rfl).1
        exact ⟨(hb.block _ hlt (hn _ rfl)).trans h1, h2, h3, fun o => (hold _ hlt (hn _ rfl) o).trans (h4 o)⟩
      case row e n xs =>
        obtain ⟨h1, h2, h3⟩ := ho
        refine ⟨⟨⟨h1.row.1, ?_⟩, h1.nw⟩, h2, fun g hgb o => (hold g (hblk g hgb).1 (hn g hgb) o).trans (h3 g hgb o)⟩
        rcases h1.row.2 with hh | ⟨g, cap, cur, hv, hle, hgc, hr⟩
        · exact .inl hh
        · exact .inr ⟨g, cap, cur, hv, hle, (hb.block g (Array.getElem?_eq_some_iff.1 hgc).1 (hn g (by show (σ j).ownBlock = some g; rw [hv]; rfl))).trans hgc, hr⟩
      case pub A n c => exact ho
  · have hj : (Vc.setL st i o').L[j]? = some (some (f, o)) := hj
    have hk : (Vc.setL st i o').L[k]? = some (some (f', o2)) := hk
    rw [hget] at hj hk
    by_cases hij : i = j
    · subst hij
      rw [if_pos rfl] at hj
      rw [if_neg hjk] at hk
      simp only [Option.some.injEq, Prod.mk.injEq] at hj
      rw [← hj.2] at hbj
      exact hg.sep i k _ _ _ _ g hjk hL hk (hblk' g hbj) hbk
    · rw [if_neg hij] at hj
      by_cases hik : i = k
      · subst hik
        rw [if_pos rfl] at hk
        simp only [Option.some.injEq, Prod.mk.injEq] at hk
        rw [← hk.2] at hbk
        exact hg.sep j i _ _ _ _ g hjk hj hL hbj (hblk' g hbk)
      · rw [if_neg hik] at hk
        exact hg.sep j k _ _ _ _ g hjk hj hk hbj hbk
  · have hd : (Vc.setL st i o').L[d]? = some none := hd
    rw [hget] at hd
    split at hd
    · simp at hd
    · refine ⟨(hg.nr d hd).fr, fun j f o hj => ?_⟩
      have hj : (Vc.setL st i o').L[j]? = some (some (f, o)) := hj
      rw [hget] at hj
      split at hj
      · simp only [Option.some.injEq, Prod.mk.injEq] at hj
        rw [← hj.2]
        rcases hform with rfl | ⟨ys, rfl⟩
        · exact fun hh => hh
        · exact fun hh => hh
      · exact (hg.nr d hd).obj j f o hj
theorem oneRow_get : ∀ {as : List SV} {k0 k i : Nat}, oneRow as k0 = some (k, i) → ∃ m, k = k0 + m ∧ as[m]? = some (.one (.own i))
  | x :: xs, k0, k, i, h => by
    unfold oneRow at h
    split at h
    · simp at h
    · rename_i heq
      simp at heq h
      obtain ⟨rfl, rfl⟩ := heq
      exact ⟨0, by omega, by simp [h.2]⟩
    · rename_i heq
      simp at heq
      obtain ⟨rfl, rfl⟩ := heq
      obtain ⟨m, h1, h2⟩ := oneRow_get h
      exact ⟨m + 1, by omega, by simpa using h2⟩
theorem relA_set : ∀ {as : List SV} {us : List Value} {m : Nat} {x : SV} {v : Value}, relA ρ σ as us → x.rel ρ σ v → relA ρ σ (as.set m x) (us.set m v)
  | [], [], _, _, _, h, _ => h
  | _ :: _, _ :: _, 0, _, _, h, hx => ⟨hx, h.2⟩
  | _ :: _, _ :: _, m + 1, _, _, h, hx => ⟨h.1, relA_set h.2 hx⟩
theorem relA_get : ∀ {as : List SV} {us : List Value} {m : Nat} {x : SV}, relA ρ σ as us → as[m]? = some x → ∃ v, us[m]? = some v ∧ x.rel ρ σ v
  | _ :: _, v :: _, 0, _, h, e => by simp at e; subst e; exact ⟨v, rfl, h.1⟩
  | _ :: _, _ :: _, m + 1, _, h, e => by
    obtain ⟨v, h1, h2⟩ := relA_get (m := m) h.2 (by simpa using e)
    exact ⟨v, by simpa using h1, h2⟩
/- the common end of a call that is handed a row -/
theorem mut_end (hg : Good P w0 H0 st a w ρ σ) {i : Nat} {e : TypeId} {n : Nat} {xs ys : List Value} (hW : getW st i = some (.row e n xs)) {keep : Bool} {H1 H' H2 : Heap} {sh : RSh} {post : PostR sh.parts (Heap → Prop)} {d : Option Tmp} {K : St → Prop} {v : Value} {nr : List NRow}
    (hgr : GrowsX w w' H1 H' (σ i).ownBlock) (hle1 : Heap.le st.H H1) (hfit : Fits sh post v H' nr) (hkeep : keep = true → RowX P w' 0 H' ⟨σ i, e, n, ys⟩)
    (hnew : ∀ r ∈ nr, RowX P w' 0 H' r ∧ ∀ g, r.s.ownBlock = some g → w.heap.size ≤ g ∨ (keep = false ∧ (σ i).ownBlock = some g)) (hap : apartRows nr) (h2 : (H1 = st.H ∧ H2 = H') ∨ H2 = st.H)
    (hK : allR sh.parts post { Vc.setL st i (if keep then .row e n ys else .dead) with H := H2 } fun r st' q => q H' → vcRes sh d r st' K) :
    ∃ st' ρ' σ', K st' ∧ Keeps d.toList st st' ∧ Good P w0 H0 st' (a.put d v) w' ρ' σ' ∧ Goes noX st st' ρ ρ' w w' := by
  have hL := getW_some hW
  have hlt : i < st.L.length := (List.getElem?_eq_some_iff.1 hL).1
  have hobj := hg.obj _ _ _ hL
  have hle2 : Heap.le st.H H2 := by
    rcases h2 with ⟨_, rfl⟩ | rfl
    · exact Heap.le_trans hle1 hgr.le
    · exact Heap.le_refl _
  have hle3 : Heap.le H2 H' := by
    rcases h2 with ⟨_, rfl⟩ | rfl
    · exact Heap.le_refl _
    · exact Heap.le_trans hle1 hgr.le
  have hold2 : ∀ b, b < w.heap.size → (σ i).ownBlock ≠ some b → ∀ o, H2 b o = st.H b o := by
    rcases h2 with ⟨rfl, rfl⟩ | rfl
    · exact hgr.old
    · exact fun _ _ _ _ => rfl
  have hnone : ∀ {g o : Nat}, H' g o = none → H2 g o = none := by
    intro g o h
    cases hh : H2 g o with
    | none => rfl
    | some z => rw [hle3 g o z hh] at h; cases h
  have hgood : Good P w0 H0 { Vc.setL st i (if keep then .row e n ys else .dead) with H := H2 } a w' ρ σ := by
    refine hg.calledX hW _ hgr.below hle2 hold2 (fun b o u hu => hgr.snap b o u (hle3 b o u hu)) ?_ ?_
    · cases keep with
      | true => exact ⟨⟨(hkeep rfl).1, hobj.1.nw⟩, (hkeep rfl).2.1, fun g hg o => hnone ((hkeep rfl).2.2 g hg o)⟩
      | false => trivial
    · cases keep with
      | true => exact .inr ⟨ys, rfl⟩
      | false => exact .inl rfl
  have hrow : ∀ r ∈ nr, RowIn P w0 w' H2 r := fun r hr => by
    obtain ⟨⟨q1, q2, q3⟩, q4⟩ := hnew r hr
    exact ⟨⟨q1, fun g hgb => by
      rcases q4 g hgb with h | ⟨_, h⟩
      · exact .inl (Nat.le_trans hg.below.size h)
      · exact hobj.1.nw g h⟩, q2, fun g hgb o => hnone (q3 g hgb o)⟩
  have hset : ∀ (o' : LObj) (j : Nat), (Vc.setL st i o').L[j]? = if i = j then some (some (true, o')) else st.L[j]? := by
    intro o' j
    by_cases hj : i = j
    · subst hj; simp only [Vc.setL, if_true]; exact set_get hlt
    · simp only [Vc.setL, if_neg hj]; exact List.getElem?_set_ne hj
  have hsep : SepR { Vc.setL st i (if keep then .row e n ys else .dead) with H := H2 } ρ σ nr := by
    refine ⟨fun r hr j f o g hj hb hh => ?_, fun r hr g hh => ?_⟩
    rotate_left
    · obtain ⟨_, hblk⟩ := hnew r hr
      rcases hblk g hh with h2 | ⟨_, h2⟩
      · show st.O g = none
        cases hO : st.O g with
        | none => rfl
        | some x =>
          obtain ⟨e2, n2, c2⟩ := x
          obtain ⟨⟨_, ⟨cur, k2, _⟩, _⟩, _⟩ := hg.opn g e2 n2 c2 hO
          have := (Array.getElem?_eq_some_iff.1 k2).1
          omega
      · exact hg.noOpen hL h2
    have hj : (Vc.setL st i (if keep then .row e n ys else .dead)).L[j]? = some (some (f, o)) := hj
    rw [hset] at hj
    obtain ⟨_, hblk⟩ := hnew r hr
    by_cases hij : i = j
    · subst hij
      rw [if_pos rfl] at hj
      simp only [Option.some.injEq, Prod.mk.injEq] at hj
      rw [← hj.2] at hb
      cases keep with
      | true =>
        have h1 := (hg.blk_lt hL (g := g) hb).1
        rcases hblk g hh with h2 | ⟨h2, _⟩
        · omega
        · simp at h2
      | false => simp [blk] at hb
    · rw [if_neg hij] at hj
      rcases hblk g hh with h2 | ⟨_, h2⟩
      · have h1 := (hg.blk_lt hj hb).1
        omega
      · exact hg.sep i j _ _ _ _ g hij hL hj h2 hb
  unfold Fits at hfit
  obtain ⟨r, st', q, nr', vs, σ', k1, ⟨_, k2, k3⟩, k4, k5, k6, k7, k8, k9, k10, k11⟩ := allR_sound hgood hK hfit hrow hap hsep
  obtain ⟨st2, j1, j2, j3, j4⟩ := vcRes_sound k4 (k1 k3) k5 k7 k2
  have hkp : Keeps [] st { Vc.setL st i (if keep then .row e n ys else .dead) with H := H2 } := by
    have := Keeps.setL_w (o := if keep then .row e n ys else .dead) hW
    exact ⟨this.fl, this.ll, this.fr, this.ro, hle2⟩
  refine ⟨st2, ρ, σ', j1, ((hkp.trans k6).mono (by simp)).trans j2, j3, fun j f o h1 h2 _ => ⟨f, ?_⟩, fun _ _ _ _ _ _ => rfl, fun j f o h1 h2 _ => ?_⟩
  · have hij : i ≠ j := by
      intro e0; subst e0
      rw [hL] at h1
      simp only [Option.some.injEq, Prod.mk.injEq] at h1
      rw [← h1.2] at h2; simp [isBA] at h2
    have h3 : (Vc.setL st i (if keep then .row e n ys else .dead)).L[j]? = some (some (f, o)) := by rw [hset, if_neg hij]; exact h1
    rw [j4, k11 j (by simp only; rw [h3]; simp)]
    exact h3
  · have hij : i ≠ j := by
      intro e0; subst e0
      rw [hL] at h1
      simp only [Option.some.injEq, Prod.mk.injEq] at h1
      rw [← h1.2] at h2; simp [isBA] at h2
    refine hgr.below.block _ (hg.blk_lt h1 (blk_BA (σ := σ) h2)).1 fun hh => ?_
    exact hg.sep i j _ _ _ _ _ hij hL h1 hh (blk_BA (σ := σ) h2)
theorem vcMut_sound (hg : Good P w0 H0 st a w ρ σ) {ln : Bool} {sh : RSh} {d : Option Tmp} {f : FuncId} {as : List SV} {us : List Value} {keep : Bool} {K : St → Prop} (hrel : relA ρ σ as us) (h : vcMut P ln sh st d f as keep K) : CallOK P w0 H0 st a w ρ d f us K := by
  unfold vcMut at h
  split at h
  · exact h.elim
  · rename_i k i hone
    split at h
    · rename_i e n xs hW
      obtain ⟨m, hm, hget⟩ := oneRow_get hone
      obtain rfl : k = m := by omega
      obtain ⟨u, hu1, hu2⟩ := relA_get hrel hget
      have hu : u = σ i := hu2
      subst hu
      have hL := getW_some hW
      have hlt : i < st.L.length := (List.getElem?_eq_some_iff.1 hL).1
      have hobj := hg.obj _ _ _ hL
      have hback : (us.set k (.slice none 0 0)).set k (σ i) = us := by
        rw [List.set_set]
        obtain ⟨hk, e1⟩ := List.getElem?_eq_some_iff.1 hu1
        rw [← e1]; simp
      have hrel0 : relA ρ σ (as.set k (.one (.v (.slice none 0 0)))) (us.set k (.slice none 0 0)) := relA_set hrel rfl
      split at h
      · rename_i hv
        split at h
        · obtain ⟨post, hl, hK⟩ := h
          have hgood : Good P w0 H0 (Vc.setL st i .dead) a w ρ σ := hg.calledX hW .dead ⟨rfl, rfl, rfl, Nat.le_refl _, fun _ _ _ => rfl, Nat.le_refl _⟩ (Heap.le_refl _) (fun _ _ _ _ => rfl) hg.snap trivial (.inl rfl)
          obtain ⟨H1, hle, hs, hc, hlent⟩ := lendA_sound hgood hl hg.snap hrel0
          refine ⟨hc.1, ?_⟩
          have hcall := hc.2 w 0 (σ i) hs (Nat.zero_le _) ⟨hobj.1.row, hobj.2.1, fun g hgb o => by
            rw [hlent g (fun j f o hj hb => ?_)]
            · exact hobj.2.2 g hgb o
            · by_cases hij : i = j
              · subst hij
                have hj : (Vc.setL st i .dead).L[i]? = some (some (f, o)) := hj
                simp only [Vc.setL] at hj
                rw [set_get hlt] at hj
                simp at hj
                rw [← hj.2] at hb
                simp [blk] at hb
              · have hj : (Vc.setL st i .dead).L[j]? = some (some (f, o)) := hj
                simp only [Vc.setL] at hj
                rw [List.getElem?_set_ne hij] at hj
                exact hg.sep j i _ _ _ _ g (Ne.symm hij) hj hL hb hgb⟩
          rw [hback] at hcall
          refine Calls.mono hcall ?_
          rintro e' w' ⟨v, H', nr, ys, rfl, hfit, hgr, hkeep, hnew, hap⟩
          obtain ⟨st', ρ', σ', k1, k2, k3, k4⟩ := mut_end hg hW hgr hle hfit hkeep hnew hap (.inr rfl) (hK H' ys)
          exact ⟨v, st', ρ', σ', rfl, k1, k2, k3, k4⟩
        · exact h.elim
      · rename_i vals hv
        obtain ⟨post, hc, hK⟩ := h
        have hvals : us.set k (.slice none 0 0) = vals := plains_rel hv hrel0
        have hus : vals.set k (σ i) = us := by rw [← hvals]; exact hback
        refine ⟨hc.1, ?_⟩
        have hcall := hc.2 w 0 (σ i) hg.snap (Nat.zero_le _) ⟨hobj.1.row, hobj.2.1, hobj.2.2⟩
        rw [hus] at hcall
        refine Calls.mono hcall ?_
        rintro e' w' ⟨v, H', nr, ys, rfl, hfit, hgr, hkeep, hnew, hap⟩
        obtain ⟨st', ρ', σ', k1, k2, k3, k4⟩ := mut_end hg hW hgr (Heap.le_refl _) hfit hkeep hnew hap (.inl ⟨rfl, rfl⟩) (hK H' hgr.le ys)
        exact ⟨v, st', ρ', σ', rfl, k1, k2, k3, k4⟩
    · exact h.elim
theorem vcCall_sound (hg : Good P w0 H0 st a w ρ σ) {an : Ann} {t : TypeId} {d : Option Tmp} {f : FuncId} {args : St → Option (List SV)} {us : List Value} {K : St → Prop}
    (hargs : ∀ st', Good P w0 H0 st' a w ρ σ → ∀ as, args st' = some as → relA ρ σ as us) (h : vcCall P Γ an t st d f args K) : CallOK P w0 H0 st a w ρ d f us K := by
  unfold vcCall at h
  split at h
  · exact h.elim
  · rename_i as has
    split at h
    · rename_i vals hv
      have := plains_rel hv (hargs st hg as has)
      subst this
      exact vcPlain_sound hg h
    · split at h
      · split at h
        · exact vcMut_sound hg (hargs st hg as has) h
        · obtain ⟨st', q1, q2, q3, q4⟩ := vcPubs_sound hg h
          split at q1
          · exact q1.elim
          · rename_i as' has'
            exact CallOK.of_keeps q2 q4 (vcMut_sound q3 (hargs st' q3 as' has') q1)
      split at h
      · obtain ⟨post, hl, hK⟩ := h
        obtain ⟨H1, hle, hs, hc, _⟩ := lendA_sound hg hl hg.snap (hargs st hg as has)
        refine ⟨hc.1, Calls.mono (hc.2 w hs) ?_⟩
        rintro e w' ⟨v, H', nr, rfl, hfit, hgr, hnew, hap⟩
        obtain ⟨st', ρ', σ', k1, k2, k3, k4⟩ := call_end hg hgr hle hfit hnew hap (.inr rfl) (hK H')
        exact ⟨v, st', ρ', σ', rfl, k1, k2, k3, k4⟩
      · obtain ⟨st', q1, q2, q3, q4⟩ := vcPubs_sound hg h
        split at q1
        · exact q1.elim
        · rename_i as' has'
          split at q1
          · rename_i vals hv
            have := plains_rel hv (hargs st' q3 as' has')
            subst this
            exact CallOK.of_keeps q2 q4 (vcPlain_sound q3 q1)
          · exact q1.elim
end
end Go.Vc

/- The reading operations: what the verification condition asks suffices for the machine's step. -/
import Derived.Test.YtkfbbnagniolcaaVcS1
set_option linter.unusedSectionVars false
set_option linter.unusedSimpArgs false
set_option linter.unusedVariables false
namespace Go.Vc
open Go Go.RowKit

def EKOK (P : Program) (q : EK) (t : TypeId) : Prop :=
  match q with
  | .int => ∃ k', P.underlying t = some (.int k')
  | .bool => P.underlying t = some .bool
  | .str => P.underlying t = some .string
structure TyOK (P : Program) (t : TypeId) (i : TyI) : Prop where
  und : match i.ty with
    | .int k => P.underlying t = some (.int k)
    | .bool => P.underlying t = some .bool
    | .string => P.underlying t = some .string
    | .slice e => P.underlying t = some (.slice e)
    | .struct fs => ∃ F : Array Field, P.underlying t = some (.struct F) ∧ F.toList.map (fun f => (f.offset, f.type)) = fs ∧ ∀ f ∈ F.toList, ∃ inf, P.info? f.type = some inf
    | .array n e => P.underlying t = some (.array n e)
    | .other => True
  agg : ∀ w, (isAgg t).run P w = .ok i.agg w
  info : ∃ inf z, P.info? t = some inf ∧ inf.size = i.size ∧ inf.bytes = i.bytes ∧ inf.zero = some z ∧ z.cells = ⟨i.zero⟩
  zlen : i.zero.length = i.size
  zone : ∀ z ∈ i.zero, z.oneCell' = true
  zagg : i.agg = true ↔ ((∃ fs, i.ty = .struct fs) ∨ ∃ n e, i.ty = .array n e)
  eq : i.eqk ≠ [] → ∃ F : Array Field, P.underlying t = some (.struct F) ∧ P.eqGuardType P.depth t = false ∧ P.stoodInHeld t = false ∧
    F.toList.length = i.eqk.length ∧ ∀ (k : Nat) (f : Field) (q : EK), F.toList[k]? = some f → i.eqk[k]? = some q → f.offset = k ∧ f.name ≠ "_" ∧
      EKOK P q f.type
def TabOK (P : Program) (Γ : Tab) : Prop := ∀ t i, Γ t = some i → TyOK P t i

section
variable {P : Program} {t : TypeId} {i : TyI}
theorem TyOK.run_size (h : TyOK P t i) (w : World) : (sizeOf t).run P w = .ok i.size w := by
  obtain ⟨inf, z, h1, h2, _⟩ := h.info
  simp [sizeOf, typeInfo, h1, h2]
theorem TyOK.run_zero (h : TyOK P t i) (w : World) : ∃ z, (zeroValue t).run P w = .ok z w ∧ z.cells = ⟨i.zero⟩ := by
  obtain ⟨inf, z, h1, _, _, h4, h5⟩ := h.info
  exact ⟨z, by simp [zeroValue, typeInfo, h1, h4], h5⟩
theorem run_und {P : Program} {t : TypeId} {d : TypeDesc} (h : P.underlying t = some d) (w : World) : (underlying t).run P w = .ok d w := by
  simp [underlying, h]
end

theorem add_plain (b o n : Nat) : (⟨b, o, none⟩ : Addr).add n = ⟨b, o + n, none⟩ := by
  unfold Addr.add; split <;> simp_all
theorem run_loadCellsFrom {P : Program} (w : World) (b o : Nat) : ∀ (n i : Nat) (ys : List Value) (acc : Array Value), ys.length = n →
    (∀ k y, ys[k]? = some y → w.cell? ⟨b, o + i + k, none⟩ = some y) → (loadCellsFrom ⟨b, o, none⟩ i n acc).run P w = .ok (acc ++ ⟨ys⟩) w
  | 0, i, ys, acc, hl, _ => by
    have : ys = [] := List.eq_nil_of_length_eq_zero hl
    subst this
    simp [loadCellsFrom]
  | n + 1, i, [], acc, hl, _ => by simp at hl
  | n + 1, i, y :: ys, acc, hl, h => by
    have h0 := h 0 y rfl
    simp only [Nat.add_zero] at h0
    simp only [loadCellsFrom, Sem.run_bind, add_plain, run_load, h0, Result.andThen_ok]
    rw [run_loadCellsFrom w b o n (i + 1) ys (acc.push y) (by simpa using hl) (fun k z hz => by
      have := h (k + 1) z (by simpa using hz)
      rw [show o + (i + 1) + k = o + i + (k + 1) from by omega]; exact this)]
    congr 1
    apply Array.ext'
    simp
theorem run_loadCells {P : Program} (w : World) (b o : Nat) (ys : List Value) (h : ∀ k y, ys[k]? = some y → w.cell? ⟨b, o + k, none⟩ = some y) :
    (loadCells ⟨b, o, none⟩ ys.length).run P w = .ok ⟨ys⟩ w := by
  unfold loadCells
  rw [run_loadCellsFrom w b o ys.length 0 ys #[] rfl (by simpa using h)]
  simp
/- the value that cells make up -/
def valMk (g : Bool) (ys : List Value) : Value := if g then .agg ⟨ys⟩ else ys.headD undef
theorem run_loadVar {P : Program} {t : TypeId} {i : TyI} (hT : TyOK P t i) (w : World) (b o : Nat) (ys : List Value)
    (h : ∀ k y, ys[k]? = some y → w.cell? ⟨b, o + k, none⟩ = some y) (hl : ys.length = i.size) (h1 : i.agg = true ∨ ys.length = 1) :
    (loadVar t ⟨b, o, none⟩).run P w = .ok (valMk i.agg ys) w := by
  unfold loadVar valMk
  simp only [Sem.run_bind, hT.agg w, Result.andThen_ok]
  cases hg : i.agg
  · simp only [Bool.false_eq_true, if_false, Sem.run_ite]
    rcases h1 with h1 | h1
    · rw [hg] at h1; simp at h1
    · match ys, h1 with
      | [y], _ =>
        have := h 0 y rfl
        simp only [Nat.add_zero] at this
        simp [this]
  · simp only [if_true, Sem.run_bind, hT.run_size w, Result.andThen_ok, ← hl, run_loadCells w b o ys h, Sem.run_pure]

section
variable {ρ : Nat → Nat} {σ : Nat → Value}
theorem mkSV_rel {g : Bool} {cs : List S1} {r : SV} {ys : List Value} (h : mkSV g cs = some r) (hr : relL ρ σ cs ys) :
    r.rel ρ σ (valMk g ys) ∧ (g = true ∨ ys.length = 1) ∧ ∀ d, r.refs d → refsL d cs := by
  cases g
  · match cs, h with
    | [c], h =>
      simp [mkSV] at h; subst h
      match ys, hr with
      | [y], hr => exact ⟨hr.1, .inr rfl, fun d hd => ⟨c, by simp, hd⟩⟩
      | [], hr => exact hr.elim
      | _ :: _ :: _, hr => exact hr.2.elim
    | [], h => simp [mkSV] at h
    | _ :: _ :: _, h => simp [mkSV] at h
  · simp [mkSV] at h; subst h
    exact ⟨⟨_, rfl, hr⟩, .inl rfl, fun d hd => hd⟩
theorem vcMk_sound {g : Bool} {cs : List S1} {K : SV → Prop} {ys : List Value} (h : vcMk g cs K) (hr : relL ρ σ cs ys) :
    ∃ r, r.rel ρ σ (valMk g ys) ∧ (g = true ∨ ys.length = 1) ∧ (∀ d, r.refs d → refsL d cs) ∧ K r := by
  unfold vcMk at h
  split at h
  · rename_i r hm
    obtain ⟨h1, h2, h3⟩ := mkSV_rel hm hr
    exact ⟨r, h1, h2, h3, h⟩
  · exact h.elim
theorem exQ_sound : ∀ {ls : List Leaf} {K : List Value → List S1 → Prop}, exQ ls K → ∃ vs cs, relL ρ σ cs vs ∧ (∀ d, ¬ refsL d cs) ∧ K vs cs
  | [], K, h => ⟨[], [], trivial, fun d => by rintro ⟨c, hc, _⟩; simp at hc, h⟩
  | l :: ls, K, h => by
    have key : ∀ (v : Value) (c : S1), c.rel ρ σ v → (∀ d, ¬ c.refs d) → exQ ls (fun vs cs => K (v :: vs) (c :: cs)) → ∃ vs cs, relL ρ σ cs vs ∧ (∀ d, ¬ refsL d cs) ∧ K vs cs := by
      intro v c hv hc h
      obtain ⟨vs, cs, h1, h2, h3⟩ := exQ_sound h
      refine ⟨v :: vs, c :: cs, ⟨hv, h1⟩, fun d => ?_, h3⟩
      rintro ⟨x, hx, hr⟩
      rcases List.mem_cons.1 hx with rfl | hx
      · exact hc d hr
      · exact h2 d ⟨x, hx, hr⟩
    cases l <;> simp only [exQ] at h
    case sl =>
      obtain ⟨A, n, c, h⟩ := h
      refine key _ _ ?_ ?_ h
      · exact rfl
      · exact fun _ hh => hh
    all_goals
      obtain ⟨n, h⟩ := h
      refine key _ _ ?_ ?_ h
      · exact rfl
      · exact fun _ hh => hh
end

section
variable {P : Program} {Γ : Tab} {w0 : W0} {w : World} {H0 : Heap} {st : St} {a : Act} {ρ : Nat → Nat} {σ : Nat → Value}
variable (hT : TabOK P Γ) (hg : Good P w0 H0 st a w ρ σ)
/- a world that shows what w shows, as far as reading goes -/
structure SameFor (st : St) (ρ : Nat → Nat) (σ : Nat → Value) (w w' : World) : Prop where
  snap : Snap st.H w'
  box : ∀ (i : Nat) (f : Bool) (t : TypeId) (cs : List S1), st.L[i]? = some (some (f, .box t cs)) → w'.heap[ρ i]? = w.heap[ρ i]?
  arr : ∀ (i : Nat) (f : Bool) (t : TypeId) (xs : List Value), st.L[i]? = some (some (f, .arr t xs)) → w'.heap[ρ i]? = w.heap[ρ i]?
  row : ∀ (i : Nat) (f : Bool) (e : TypeId) (n : Nat) (xs : List Value), st.L[i]? = some (some (f, .row e n xs)) → ∀ g, (σ i).ownBlock = some g → w'.heap[g]? = w.heap[g]?
theorem SameFor.refl (hg : Good P w0 H0 st a w ρ σ) : SameFor st ρ σ w w := ⟨hg.snap, fun _ _ _ _ _ => rfl, fun _ _ _ _ _ => rfl, fun _ _ _ _ _ _ _ _ => rfl⟩
theorem ownsRow_same0 {w w' : World} {B sz n : Nat} {e : TypeId} {v : Value} {xs : List Value} (hs : ∀ g, v.ownBlock = some g → w'.heap[g]? = w.heap[g]?) (h : w.ownsRow B e sz v n xs) : w'.ownsRow B e sz v n xs := by
  refine ⟨h.1, ?_⟩
  rcases h.2 with h | ⟨g, cap, cur, hv, h1, h2, h3⟩
  · exact .inl h
  · exact .inr ⟨g, cap, cur, hv, h1, (hs g (by rw [hv]; rfl)).trans h2, h3⟩
theorem ownsRow_same {w w' : World} {w0 : W0} {sz n : Nat} {e : TypeId} {v : Value} {xs : List Value} (hs : ∀ g, v.ownBlock = some g → w'.heap[g]? = w.heap[g]?) (h : owns w w0 e sz v n xs) : owns w' w0 e sz v n xs := ⟨ownsRow_same0 hs h.row, h.nw⟩
def RdOK (P : Program) (st : St) (ρ : Nat → Nat) (σ : Nat → Value) (w : World) (m : Sem Value) (K : SV → Prop) : Prop :=
  ∃ v r, (∀ w', SameFor st ρ σ w w' → m.run P w' = .ok v w') ∧ SV.rel ρ σ r v ∧ (∀ d, st.noRef d → ¬ r.refs d) ∧ K r
theorem cell_of_block {w : World} {g j : Nat} {cs : Array Value} {t : TypeId} (h : w.heap[g]? = some (.cells cs t (0, 0))) : w.cell? ⟨g, j, none⟩ = cs[j]? := by
  simp [World.cell?, h]
include hT hg
omit hT in
theorem box_of {o : Nat} {t : TypeId} {cs : List S1} (h : getL st o = some (.box t cs)) :
    ∃ ys : Array Value, w.heap[ρ o]? = some (.cells ys t (0, 0)) ∧ relL ρ σ cs ys.toList ∧ ∀ d, st.noRef d → ¬ refsL d cs := by
  obtain ⟨f, hf⟩ := getL_some h
  obtain ⟨ys, h1, h2, _⟩ := hg.obj _ _ _ hf
  exact ⟨ys, h1, h2, fun d hd => hd.obj _ _ _ hf⟩
omit hT in
theorem arr_of {o : Nat} {t : TypeId} {xs : List Value} (h : getL st o = some (.arr t xs)) : w.heap[ρ o]? = some (.cells ⟨xs⟩ t (0, 0)) := by
  obtain ⟨f, hf⟩ := getL_some h
  exact (hg.obj _ _ _ hf).1
omit hT in
theorem row_of {o : Nat} {e : TypeId} {n : Nat} {xs : List Value} (h : getL st o = some (.row e n xs)) : owns w w0 e (P.cellsOf e) (σ o) n xs := by
  obtain ⟨f, hf⟩ := getL_some h
  exact (hg.obj _ _ _ hf).1
omit hT hg in
theorem row_cells {o : Nat} {e : TypeId} {n : Nat} {xs : List Value} (h : owns w w0 e (P.cellsOf e) (σ o) n xs) {g m c : Nat} (hs : σ o = .slice (some ⟨g, 0, none⟩) m c) :
    ∀ k x, xs[k]? = some x → w.cell? ⟨g, k, none⟩ = some x := by
  intro k x hx
  have := h.cells (g := g) (by rw [hs]; rfl) k x hx
  rwa [add_plain, Nat.zero_add] at this
theorem win_get {xs ys : List Value} {j n : Nat} (h : win xs j n = ys) (k : Nat) (y : Value) (hy : ys[k]? = some y) : xs[j + k]? = some y := by
  unfold win at h
  subst h
  rw [List.getElem?_take] at hy
  split at hy
  · rwa [List.getElem?_drop] at hy
  · simp at hy
theorem vcLoad_sound {t : TypeId} {x : SV} {v : Value} (hx : x.rel ρ σ v) {K : SV → Prop} (h : vcLoad Γ st t x K) : RdOK P st ρ σ w (Instr.loadAt t v) K := by
  unfold vcLoad at h
  split at h
  · exact h.elim
  · rename_i i hi
    have hTy := hT _ _ hi
    split at h
    · rename_i o off
      simp only [SV.rel, S1.rel] at hx
      subst hx
      split at h
      · rename_i t0 cs hL
        split at h
        · rename_i hlen
          obtain ⟨ys, hb, hr, hn⟩ := box_of hg hL
          have hr' := relL_take i.size (relL_drop off hr)
          have hl : ((ys.toList.drop off).take i.size).length = i.size := by
            have := relL_length hr
            simp only [List.length_take, List.length_drop]; omega
          obtain ⟨r, h1, h2, h3, h4⟩ := vcMk_sound h hr'
          refine ⟨_, r, ?_, h1, fun d hd hh => ?_, h4⟩
          · intro w' hw'
            obtain ⟨fl, hfl⟩ := getL_some hL
            simp only [Instr.loadAt, Instr.sureAddr, Sem.run_bind, Sem.run_pure, Result.andThen_ok]
            refine run_loadVar hTy w' _ _ _ (fun k y hy => ?_) hl h2
            rw [cell_of_block ((hw'.box _ _ _ _ hfl).trans hb)]
            rw [List.getElem?_take] at hy
            split at hy
            · rw [List.getElem?_drop] at hy; simpa using hy
            · simp at hy
          · obtain ⟨c, hc, hcr⟩ := h3 d hh
            exact hn d hd ⟨c, List.mem_of_mem_drop (List.mem_of_mem_take hc), hcr⟩
        · exact h.elim
      · rename_i t0 xs hL
        obtain ⟨vs, cs, hr, hn, hw, h⟩ := exQ_sound (ρ := ρ) (σ := σ) h
        split at h
        · rename_i hl
          obtain ⟨r, h1, h2, h3, h4⟩ := vcMk_sound h hr
          refine ⟨_, r, ?_, h1, fun d _ hh => hn d (h3 d hh), h4⟩
          intro w' hw'
          obtain ⟨fl, hfl⟩ := getL_some hL
          simp only [Instr.loadAt, Instr.sureAddr, Sem.run_bind, Sem.run_pure, Result.andThen_ok]
          refine run_loadVar hTy w' _ _ _ (fun k y hy => ?_) hl h2
          rw [cell_of_block ((hw'.arr _ _ _ _ hfl).trans (arr_of hg hL))]
          simpa using win_get hT hg hw k y hy
        · exact h.elim
      · exact h.elim
    · rename_i A j
      obtain ⟨b, o, rfl, rfl⟩ := hx
      obtain ⟨vs, cs, hr, hn, hc, h⟩ := exQ_sound (ρ := ρ) (σ := σ) h
      split at h
      · rename_i hl
        obtain ⟨r, h1, h2, h3, h4⟩ := vcMk_sound h hr
        refine ⟨_, r, ?_, h1, fun d _ hh => hn d (h3 d hh), h4⟩
        intro w' hw'
        simp only [Instr.loadAt, Instr.sureAddr, Sem.run_bind, Sem.run_pure, Result.andThen_ok]
        refine run_loadVar hTy w' _ _ _ (fun k y hy => ?_) hl h2
        rcases hc with rfl | ⟨b', o', hA, hc⟩
        · simp at hy
        · injection hA with hA; injection hA with e1 e2; subst e1 e2
          exact hw'.snap _ _ _ (hc k y hy).1
      · exact h.elim
    · rename_i o j
      simp only [SV.rel, S1.rel] at hx
      subst hx
      split at h
      · rename_i t0 xs hL
        obtain ⟨vs, cs, hr, hn, hw, h⟩ := exQ_sound (ρ := ρ) (σ := σ) h
        split at h
        · rename_i hl
          obtain ⟨r, h1, h2, h3, h4⟩ := vcMk_sound h hr
          refine ⟨_, r, ?_, h1, fun d _ hh => hn d (h3 d hh), h4⟩
          intro w' hw'
          obtain ⟨fl, hfl⟩ := getL_some hL
          simp only [Instr.loadAt, Instr.sureAddr, Sem.run_bind, Sem.run_pure, Result.andThen_ok]
          refine run_loadVar hTy w' _ _ _ (fun k y hy => ?_) hl h2
          rw [cell_of_block ((hw'.arr _ _ _ _ hfl).trans (arr_of hg hL))]
          simpa using win_get hT hg hw k y hy
        · exact h.elim
      · exact h.elim
    · rename_i o j
      obtain ⟨g, n, c, hs, rfl⟩ := hx
      split at h
      · rename_i e m xs hL
        obtain ⟨vs, cs, hr, hn, hw, h⟩ := exQ_sound (ρ := ρ) (σ := σ) h
        split at h
        · rename_i hl
          obtain ⟨r, h1, h2, h3, h4⟩ := vcMk_sound h hr
          refine ⟨_, r, ?_, h1, fun d _ hh => hn d (h3 d hh), h4⟩
          intro w' hw'
          obtain ⟨fl, hfl⟩ := getL_some hL
          simp only [Instr.loadAt, Instr.sureAddr, Sem.run_bind, Sem.run_pure, Result.andThen_ok]
          refine run_loadVar hTy w' _ _ _ (fun k y hy => ?_) hl h2
          exact row_cells (ownsRow_same (hw'.row _ _ _ _ _ hfl) (row_of hg hL)) hs _ _ (win_get hT hg hw k y hy)
        · exact h.elim
      · exact h.elim
    · exact h.elim
end
end Go.Vc

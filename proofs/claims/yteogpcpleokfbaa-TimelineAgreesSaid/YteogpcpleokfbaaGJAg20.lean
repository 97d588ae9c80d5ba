/- The bridge from the reading of a law's arguments to data in cells, and back. -/
import Derived.Test.YteogpcpleokfbaaGJAg2
import Derived.ChangeArms
import Derived.ChangeSame
import Derived.ChangeReads
import Derived.ChangeCalls
import Derived.OpenShut
import Derived.SizedLaws
import Derived.Below
import Derived.DataReads
set_option linter.unusedSectionVars false
set_option linter.unusedSimpArgs false
set_option linter.unusedVariables false
namespace Go.Vc
open Go Go.RowKit Go.WideShapes Go.ChangeShapes

def endV : Value := .tuple #[]
def heapOf (w : World) : Heap := fun b o => match w.cell? ⟨b, o, none⟩ with
  | some v => if isEnd v = true then none else some v
  | none => match w.heap[b]? with
    | some (.cells cs _ _) => if cs.size = o then some endV else none
    | _ => none
theorem heapOf_cell {w : World} {b o : Nat} {v : Value} (h : w.cell? ⟨b, o, none⟩ = some v) (h1 : v.oneCell' = true) : heapOf w b o = some v := by
  simp [heapOf, h, isEnd_one h1]
theorem heapOf_snap (w : World) : Snap (heapOf w) w := by
  intro b o v hv
  unfold heapOf at hv
  cases hu : w.cell? ⟨b, o, none⟩ with
  | some z =>
    rw [hu] at hv
    simp only at hv
    by_cases he : isEnd z = true
    · rw [if_pos he] at hv; cases hv
    · rw [if_neg he] at hv
      cases hv
      unfold seen
      rw [show isEnd v = false by simpa using he]
      exact hu
  | none =>
    rw [hu] at hv
    simp only at hv
    split at hv
    · rename_i cs t fz hb
      split at hv
      · rename_i hsz
        cases hv
        exact ⟨cs, t, fz, hb, hsz⟩
      · cases hv
    · cases hv

section
variable {P : Program} {H : Type} {enc : TypeId × Value → H} {w : World} {base fuel : Nat} {cs : List Value} {x : DataW H × List MemPlace}
/- reading in a mode that takes the spare places of the blocks that were met -/
def SpOK (P : Program) (t : TypeId) : Prop := ∀ {H : Type} {enc : TypeId × Value → H} {w : World} {base fuel : Nat} {cs : List Value} {x : DataW H × List MemPlace} {sp : Nat → Bool},
  DataW.trod enc P w base (fun _ => true) true fuel t cs = some x → (∀ p ∈ x.2, sp p.block = true) → DataW.trod enc P w base sp true fuel t cs = some x
structure Opn (P : Program) (t : TypeId) (T : Type) [Rep T] : Prop where
  cells : P.cellsOf t = Rep.sz T
  bytes : P.bytesOf t = Rep.byt T
  sp : SpOK P t
  get : ∀ {H : Type} {enc : TypeId × Value → H} {w : World} {base fuel : Nat} {cs : List Value} {x : DataW H × List MemPlace},
    DataW.trod enc P w base (fun _ => true) true fuel t cs = some x → (x.1.weights P t).all (· ≤ reachBytes) = true → ∃ y : T, Rep.rel (heapOf w) cs y
theorem wf_rng {k : IntKind} {n : Int} (h : (Lit.int k n).wf = true) : rng k n := by
  cases k <;> simp [Lit.wf, IntKind.min, IntKind.max, IntKind.bits, IntKind.signed] at h <;> simp only [rng] <;> omega
theorem sp_int {t : TypeId} {k : IntKind} (ht : P.underlying t = some (.int k)) : SpOK P t := by
  intro H enc w base fuel cs x sp h _
  obtain ⟨n, rfl, rfl, hw⟩ := DataW.trod_int ht h
  cases fuel with
  | zero => simp [DataW.trod] at h
  | succ m => exact trod_int_mk m ht hw
theorem sp_array {t e : TypeId} {k : Nat} (ht : P.underlying t = some (.array k e)) (he : SpOK P e) : SpOK P t := by
  intro H enc w base fuel cs x sp h hp
  cases fuel with
  | zero => simp [DataW.trod] at h
  | succ n =>
    rw [DataW.trod_step] at h ⊢
    unfold DataW.trodStep at h ⊢
    rw [ht] at h ⊢
    dsimp only at h ⊢
    split at h
    · rename_i hl
      rw [if_pos hl]
      simp only [Option.map_eq_some_iff] at h ⊢
      obtain ⟨xs, h1, h2⟩ := h
      refine ⟨xs, mapM_carry h1 fun f y hfm hy hr => he hr fun p hpy => hp p ?_, h2⟩
      rw [← h2]
      exact List.mem_flatMap.2 ⟨y, hy, hpy⟩
    · simp at h
theorem sp_slice {t e : TypeId} (ht : P.underlying t = some (.slice e)) (he : SpOK P e) (hc : 0 < P.cellsOf e) : SpOK P t := by
  intro H enc w base fuel cs x sp h hp
  cases fuel with
  | zero => simp [DataW.trod] at h
  | succ n =>
    rcases DataW.trod_slice ht h with ⟨rfl, rfl⟩ | ⟨a, len, cap, _, _, m, hm, rfl, _⟩
    · simp [DataW.trod, ht]
    · clear hm
      rw [DataW.trod_step] at h ⊢
      unfold DataW.trodStep at h ⊢
      rw [ht] at h ⊢
      dsimp only at h ⊢
      split at h
      · rename_i hcond
        rw [if_pos hcond]
        simp only [if_true, Option.bind_eq_some_iff, Option.map_eq_some_iff] at h ⊢
        obtain ⟨elems, h1, rest, h2, h3⟩ := h
        have hmem : ∀ y, y ∈ elems ++ rest → ∀ p ∈ y.2, sp p.block = true := fun y hy p hpy => hp p (by
          rw [← h3]; exact List.mem_append_right _ (List.mem_flatMap.2 ⟨y, hy, hpy⟩))
        have key : ∀ i y, y ∈ elems ++ rest → ((w.cells? base (a.add (i * P.cellsOf e)) (P.cellsOf e)).bind (DataW.trod enc P w base (fun _ => true) true n e)) = some y →
            ((w.cells? base (a.add (i * P.cellsOf e)) (P.cellsOf e)).bind (DataW.trod enc P w base sp true n e)) = some y := fun i y hy hh => by
          rw [Option.bind_eq_some_iff] at hh ⊢
          obtain ⟨c, hc1, hc2⟩ := hh
          exact ⟨c, hc1, he hc2 (hmem y hy)⟩
        refine ⟨elems, mapM_carry h1 fun i y hi hy hr => key i y (by simp [hy]) hr, rest, ?_, h3⟩
        split
        · exact mapM_carry h2 fun i y hi hy hr => key _ y (by simp [hy]) hr
        · rename_i hsp
          cases hr : rest with
          | nil => rfl
          | cons y r =>
            exfalso
            refine hsp (hp (.cell a.block (a.off + 0)) ?_)
            rw [← h3]
            refine List.mem_append_left _ (MemPlace.mem_row.2 ⟨0, ?_, rfl⟩)
            rw [hr]
            simp only [List.length_cons]
            exact Nat.mul_pos (by omega) hc
      · simp at h

theorem spot_none {a : Addr} {v : Value} (h : w.cell? a = some v) : a.spot = none := by
  cases hsp : a.spot with
  | none => rfl
  | some s =>
    simp only [World.cell?] at h
    split at h
    · simp [hsp] at h
    · cases h
theorem weightsAll_mem {e : TypeId} : ∀ {l : List (DataW H)} {d : DataW H}, (DataW.weightsAll P e l).all (· ≤ reachBytes) = true → d ∈ l → (d.weights P e).all (· ≤ reachBytes) = true
  | y :: r, d, h, hm => by
    rw [DataW.weightsAll, List.all_append, Bool.and_eq_true] at h
    rcases List.mem_cons.1 hm with rfl | hm
    · exact h.1
    · exact weightsAll_mem h.2 hm
theorem opn_slice {t e : TypeId} {T : Type} [Rep T] (ht : P.underlying t = some (.slice e)) (hc : P.cellsOf t = 1) (hb : P.bytesOf t = 24) (he : Opn P e T) : Opn P t (List T) := by
  refine ⟨hc, hb, sp_slice ht he.sp (by rw [he.cells]; exact Rep.pos), fun {H enc w base fuel cs x} h hw => ?_⟩
  rcases DataW.trod_slice ht h with ⟨rfl, rfl⟩ | ⟨a, len, cap, elems, rest, n, rfl, rfl, rfl, hba, hlc, hcap, hlen, hel, hrest, _⟩
  · exact ⟨[], none, 0, 0, rfl, Sl.nil⟩
  · obtain ⟨hr1, hr2⟩ := hrest rfl
    have hw0 : (elems.length + rest.length) * Rep.byt T ≤ reachBytes ∧ (DataW.weightsAll P e (elems.map (·.1))).all (· ≤ reachBytes) = true := by
      rw [DataW.weights, ht] at hw
      dsimp only at hw
      rw [List.all_cons, List.all_append, Bool.and_eq_true, Bool.and_eq_true] at hw
      refine ⟨?_, hw.2.1⟩
      have := hw.1
      rw [he.bytes] at this
      simpa using this
    have hspot : 0 < len → a.spot = none := by
      intro h0
      have h1 := hel 0 h0
      rw [List.getElem?_eq_getElem (by omega : 0 < elems.length), Option.bind_eq_some_iff] at h1
      obtain ⟨c, hc1, hc2⟩ := h1
      obtain ⟨hb1, hcl, hat⟩ := World.cells?_some hc1
      have hpos : 0 < P.cellsOf e := by rw [he.cells]; exact Rep.pos
      have h0 := hat 0 hpos
      have hcell0 : c[0]? = some (c[0]'(by omega)) := List.getElem?_eq_getElem _
      rw [hcell0, Nat.zero_mul] at h0
      exact spot_none (a := a) h0
    have hget : ∀ i : Fin len, ∃ y : T, ∃ vs, Cells (heapOf w) (some a) (i.val * Rep.sz T) vs ∧ Rep.rel (heapOf w) vs y := by
      intro i
      have hsp := hspot (by have := i.isLt; omega)
      have h1 := hel i.val i.isLt
      rw [List.getElem?_eq_getElem (by omega : i.val < elems.length), Option.bind_eq_some_iff] at h1
      obtain ⟨c, hc1, hc2⟩ := h1
      obtain ⟨y, hy⟩ := he.get hc2 (weightsAll_mem hw0.2 (List.mem_map.2 ⟨_, List.getElem_mem _, rfl⟩))
      refine ⟨y, c, .inr ?_, hy⟩
      obtain ⟨hb1, hcl, hat⟩ := World.cells?_some hc1
      obtain ⟨b, o, s⟩ := a
      simp only at hsp
      subst hsp
      refine ⟨b, o, rfl, fun k v hk => ?_⟩
      obtain ⟨hk1, hk2⟩ := List.getElem?_eq_some_iff.1 hk
      have := hat k (by omega)
      rw [hk] at this
      have hone := Rep.one hy v (List.mem_of_getElem? hk)
      refine ⟨heapOf_cell ?_ hone, hone⟩
      rw [he.cells] at this
      have ea : ∀ n, (⟨b, o, none⟩ : Addr).add n = ⟨b, o + n, none⟩ := fun n => by unfold Addr.add; split <;> simp_all
      have eb : ∀ m n, (⟨b, m, none⟩ : Addr).add n = ⟨b, m + n, none⟩ := fun m n => by unfold Addr.add; split <;> simp_all
      rw [ea, eb] at this
      exact this
    let l : List T := List.ofFn fun i => (hget i).choose
    have hl : l.length = len := by simp [l]
    have hby : len * Rep.byt T ≤ 140737488355328 := by
      have : len * Rep.byt T ≤ (elems.length + rest.length) * Rep.byt T := Nat.mul_le_mul_right _ (by omega)
      have := hw0.1
      unfold reachBytes at this
      omega
    refine ⟨l, some a, len, cap, rfl, hl, hlc, hby, ?_, fun i hi => ?_⟩
    · have : len * 1 ≤ len * Rep.byt T := Nat.mul_le_mul_left _ (Rep.bpos (T := T))
      omega
    · have := (hget ⟨i, by omega⟩).choose_spec
      simpa [l] using this
theorem weightsEach_get : ∀ {ts : List TypeId} {ds : List (DataW H)} {i : Nat} {t : TypeId} {d : DataW H}, (DataW.weightsEach P ts ds).all (· ≤ reachBytes) = true → ts[i]? = some t → ds[i]? = some d → (d.weights P t).all (· ≤ reachBytes) = true
  | t :: ts, d :: ds, 0, t', d', h, h1, h2 => by
    simp at h1 h2; subst h1; subst h2
    rw [DataW.weightsEach, List.all_append, Bool.and_eq_true] at h
    exact h.1
  | t :: ts, d :: ds, i + 1, t', d', h, h1, h2 => by
    rw [DataW.weightsEach, List.all_append, Bool.and_eq_true] at h
    exact weightsEach_get (i := i) h.2 (by simpa using h1) (by simpa using h2)
/- the arguments after the call read as they read before -/
theorem trodAll_sp {w' : World} {sp : Nat → Bool} : ∀ {ts : List TypeId} {vs : List Value} {ds : List (DataW H)} {ps : List MemPlace}, (∀ t ∈ ts, SpOK P t) → DataW.TrodAll enc P w base (fun _ => true) true ts vs ds ps →
    (∀ p ∈ ps, w.sameAt w' p) → (∀ p ∈ ps, sp p.block = true) → DataW.TrodAll enc P w' base sp true ts vs ds ps
  | [], [], [], _, _, h, _, _ => h
  | t :: ts, v :: vs, d :: ds, ps, hall, ⟨p, q, ⟨n, h1⟩, h2, h3⟩, hs, hsp =>
    ⟨p, q, ⟨n, hall t (by simp) (DataW.trod_carry n _ _ _ h1 fun z hz => hs z (by rw [h3]; exact List.mem_append_left _ hz)) fun z hz => hsp z (by rw [h3]; exact List.mem_append_left _ hz)⟩,
      trodAll_sp (fun t ht => hall t (by simp [ht])) h2 (fun z hz => hs z (by rw [h3]; exact List.mem_append_right _ hz)) (fun z hz => hsp z (by rw [h3]; exact List.mem_append_right _ hz)), h3⟩
/- an argument -/
theorem arg_get {t : TypeId} {T : Type} [Rep T] (hT : Opn P t T) {v : Value} {d : DataW H} {p : List MemPlace} (h : DataW.Trod enc P w base (fun _ => true) true t v d p) (hw : (d.weights P t).all (· ≤ reachBytes) = true) :
    ∃ y : T, Rep.rel (heapOf w) v.cells.toList y := by
  obtain ⟨n, hn⟩ := h
  exact hT.get hn hw
/- a law's contract gives its call -/
theorem con_true {f : FuncId} {args : List Value} {Hp : Heap} (h : ConT P f args Hp shB (fun b _ => b = true)) (hs : Snap Hp w) : Calls P f args.toArray w fun e w' => e = .returned (.bool true) ∧ Below w.heap.size w w' := by
  refine (h.2 w hs).mono fun e w' ⟨v, H', nr, he, hfit, hg, _⟩ => ?_
  simp only [Fits, exR, exL, mkV] at hfit
  obtain ⟨b, v', hv', _, h2, rfl⟩ := hfit
  simp at hv' h2
  subst hv'
  rw [he, h2]
  exact ⟨rfl, hg.below⟩
/- the law's last step -/
theorem post_of_below {f : Func} {s : ChangeSpec} {fresh handsOn again : Bool} {W W' : World} {args : Array Value} {v : Value} {ds gs : List (DataW H)} {before pa pv : List MemPlace}
    (hW : DataW.Whole enc P f.params.toList s.vars false W args.toList ds gs before)
    (hres : ∀ (b : Nat) (sp : Nat → Bool) (hd : Bool), DataW.TrodAll enc P W' b sp hd f.resultTypes.toList (v.resultList f.resultTypes.size) (s.fn H (ds ++ gs)).results [])
    (hargs : ∀ sp : Nat → Bool, (∀ p ∈ before, sp p.block = true) → DataW.TrodAll enc P W' 0 sp true f.params.toList args.toList (s.fn H (ds ++ gs)).args pa)
    (hvars : ∀ sp : Nat → Bool, (∀ p ∈ before, sp p.block = true) → DataW.TrodVars enc P W' sp s.vars (s.fn H (ds ++ gs)).vars pv)
    (hps : before = pa ++ pv) (hb : Below W.heap.size W W')
    (hok : ∀ (j : Nat) (t : TypeId) (r : Value), f.resultTypes[j]? = some t → (v.resultList f.resultTypes.size)[j]? = some r → Value.okWide P W' .any 0 t r) :
    s.post enc P f false fresh handsOn again W args v W' := by
  have hlt : ∀ p ∈ before, p.block < W.heap.size := fun p hp => hW.lt p hp
  have hold : ∀ p ∈ before, (fun b => decide (b < W.heap.size)) p.block = true := fun p hp => by simpa using hlt p hp
  refine ⟨ds, gs, before, [], pa, pv, hW, hres _ _ _, hargs _ hold, hvars _ hold, World.keptBut_mono (fun p hp => ⟨hp, ?_⟩) (hb.frame (· ∈ before)), fun _ => ?_⟩
  · rw [hps, List.mem_append] at hp
    exact Or.inr hp
  · obtain ⟨_, _, _, _, _, hz, hn⟩ := hW
    refine ⟨hok, _, _, ([] ++ pa) ++ pv, ⟨[] ++ pa, pv, trodAll_append (hargs _ (fun _ _ => rfl)) (hres _ _ _), hvars _ (fun _ _ => rfl), rfl, ?_, ?_⟩, ?_⟩
    · intro b off hp
      have hin : MemPlace.cell b off ∈ before := by rw [hps]; simpa using hp
      rw [hb.frozen (hlt _ hin)]
      exact hz b off hin
    · intro ha
      simp at ha
    · intro p hp _
      rw [hps]
      simpa using hp
end
end Go.Vc

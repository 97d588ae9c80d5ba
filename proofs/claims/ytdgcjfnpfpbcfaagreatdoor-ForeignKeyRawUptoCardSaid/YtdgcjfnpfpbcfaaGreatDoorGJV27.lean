/- How long the strings of an argument are, by the bulk of what is read. -/
import Derived.Test.YtdgcjfnpfpbcfaaGreatDoorGJV22
import Derived.Test.YtdgcjfnpfpbcfaaGreatDoorGJV25
import Derived.Test.YtdgcjfnpfpbcfaaGreatDoorGJV26
set_option linter.unusedSectionVars false
set_option linter.unusedSimpArgs false
set_option linter.unusedVariables false
namespace Go.Vc
open Go Go.Proofs Go.RowKit Go.WideShapes Go.ChangeShapes
abbrev bulk {H : Type} (d : DataW H) : Nat := YtdgcjfnpfpbcfaaGreatDoor.Rows.uptoBulk d
abbrev bulks {H : Type} (l : List (DataW H)) : Nat := YtdgcjfnpfpbcfaaGreatDoor.Rows.uptoBulkAll l
theorem bulk_part {H : Type} {d : DataW H} {l : List (DataW H)} (h : d ∈ l) : bulk d ≤ bulks l := by
  induction l with
  | nil => cases h
  | cons x r ih =>
    simp only [bulk, bulks, YtdgcjfnpfpbcfaaGreatDoor.Rows.uptoBulkAll] at ih ⊢
    rcases List.mem_cons.1 h with e | e
    · subst e; omega
    · have := ih e; omega
section
variable {P : Program} {H : Type} {enc : TypeId × Value → H} {w : World} {base fuel : Nat} {cs : List Value} {x : DataW H × List MemPlace}
structure OpnB (P : Program) (t : TypeId) (T : Type) [Rep T] (m : Nat → T → Prop) : Prop where
  opn : Opn P t T
  up : ∀ {b b' : Nat} {y : T}, b ≤ b' → m b y → m b' y
  getB : ∀ {H : Type} {enc : TypeId × Value → H} {w : World} {base fuel : Nat} {cs : List Value} {x : DataW H × List MemPlace},
    DataW.trod enc P w base (fun _ => true) true fuel t cs = some x → (x.1.weights P t).all (· ≤ reachBytes) = true → ∃ y : T, Rep.rel (heapOf w) cs y ∧ m (bulk x.1) y
theorem opnB_string {t : TypeId} (ht : P.underlying t = some .string) (hc : P.cellsOf t = 1) (hb : P.bytesOf t = 16) : OpnB P t ByteArray (fun b s => s.size ≤ b) :=
  ⟨opn_string ht hc hb, fun h1 h2 => Nat.le_trans h2 h1, fun h hw => by
    obtain ⟨n, rfl, rfl, hs⟩ := DataW.trod_string ht h
    refine ⟨n, ⟨rfl, ?_⟩, ?_⟩
    · rw [DataW.weights, List.all_cons, Bool.and_eq_true, decide_eq_true_eq] at hw
      have h1 := hw.1
      unfold reachBytes at h1
      have : n.data.toList.length = n.size := Array.length_toList
      show n.size ≤ 140737488355328
      omega
    · have : n.data.toList.length = n.size := Array.length_toList
      simp only [bulk, YtdgcjfnpfpbcfaaGreatDoor.Rows.uptoBulk]; omega⟩
theorem opnB_slice {t e : TypeId} {T : Type} [Rep T] {m : Nat → T → Prop} (ht : P.underlying t = some (.slice e)) (hc : P.cellsOf t = 1) (hb : P.bytesOf t = 24) (he : OpnB P e T m) : OpnB P t (List T) (fun b l => ∀ y ∈ l, m b y) := by
  refine ⟨opn_slice ht hc hb he.opn, fun h1 h2 y hy => he.up h1 (h2 y hy), fun {H enc w base fuel cs x} h hw => ?_⟩
  rcases DataW.trod_slice ht h with ⟨rfl, rfl⟩ | ⟨a, len, cap, elems, rest, n, rfl, rfl, rfl, hba, hlc, hcap, hlen, hel, hrest, _⟩
  · exact ⟨[], ⟨none, 0, 0, rfl, Sl.nil⟩, fun y hy => by cases hy⟩
  · obtain ⟨hr1, hr2⟩ := hrest rfl
    have hw0 : (elems.length + rest.length) * Rep.byt T ≤ reachBytes ∧ (DataW.weightsAll P e (elems.map (·.1))).all (· ≤ reachBytes) = true := by
      rw [DataW.weights, ht] at hw
      dsimp only at hw
      rw [List.all_cons, List.all_append, Bool.and_eq_true, Bool.and_eq_true] at hw
      refine ⟨?_, hw.2.1⟩
      have := hw.1
      rw [he.opn.bytes] at this
      simpa using this
    have hspot : 0 < len → a.spot = none := by
      intro h0
      have h1 := hel 0 h0
      rw [List.getElem?_eq_getElem (by omega : 0 < elems.length), Option.bind_eq_some_iff] at h1
      obtain ⟨c, hc1, hc2⟩ := h1
      obtain ⟨hb1, hcl, hat⟩ := World.cells?_some hc1
      have hpos : 0 < P.cellsOf e := by rw [he.opn.cells]; exact Rep.pos
      have h0 := hat 0 hpos
      have hcell0 : c[0]? = some (c[0]'(by omega)) := List.getElem?_eq_getElem _
      rw [hcell0, Nat.zero_mul] at h0
      exact spot_none (a := a) h0
    have hget : ∀ i : Fin len, ∃ y : T, (∃ vs, Cells (heapOf w) (some a) (i.val * Rep.sz T) vs ∧ Rep.rel (heapOf w) vs y) ∧ m (bulk (DataW.slice (elems.map (·.1)) (rest.map (·.1)))) y := by
      intro i
      have hsp := hspot (by have := i.isLt; omega)
      have h1 := hel i.val i.isLt
      rw [List.getElem?_eq_getElem (by omega : i.val < elems.length), Option.bind_eq_some_iff] at h1
      obtain ⟨c, hc1, hc2⟩ := h1
      have hmem : (elems[i.val]'(by omega)).1 ∈ elems.map (·.1) := List.mem_map.2 ⟨_, List.getElem_mem _, rfl⟩
      obtain ⟨y, hy, hm⟩ := he.getB hc2 (weightsAll_mem hw0.2 hmem)
      refine ⟨y, ⟨c, .inr ?_, hy⟩, he.up ?_ hm⟩
      · obtain ⟨hb1, hcl, hat⟩ := World.cells?_some hc1
        obtain ⟨b, o, s⟩ := a
        simp only at hsp
        subst hsp
        refine ⟨b, o, rfl, fun k v hk => ?_⟩
        obtain ⟨hk1, hk2⟩ := List.getElem?_eq_some_iff.1 hk
        have := hat k (by omega)
        rw [hk] at this
        have hone := Rep.one hy v (List.mem_of_getElem? hk)
        refine ⟨heapOf_cell ?_ hone, hone⟩
        rw [he.opn.cells] at this
        have ea : ∀ n, (⟨b, o, none⟩ : Addr).add n = ⟨b, o + n, none⟩ := fun n => by unfold Addr.add; split <;> simp_all
        have eb : ∀ m n, (⟨b, m, none⟩ : Addr).add n = ⟨b, m + n, none⟩ := fun m n => by unfold Addr.add; split <;> simp_all
        rw [ea, eb] at this
        exact this
      · have := bulk_part hmem
        simp only [bulk, bulks, YtdgcjfnpfpbcfaaGreatDoor.Rows.uptoBulk] at this ⊢; omega
    let l : List T := List.ofFn fun i => (hget i).choose
    have hl : l.length = len := by simp [l]
    have hby : len * Rep.byt T ≤ 140737488355328 := by
      have : len * Rep.byt T ≤ (elems.length + rest.length) * Rep.byt T := Nat.mul_le_mul_right _ (by omega)
      have := hw0.1
      unfold reachBytes at this
      omega
    refine ⟨l, ⟨some a, len, cap, rfl, hl, hlc, hby, ?_, fun i hi => ?_⟩, fun y hy => ?_⟩
    · have : len * 1 ≤ len * Rep.byt T := Nat.mul_le_mul_left _ (Rep.bpos (T := T))
      omega
    · have := (hget ⟨i, by omega⟩).choose_spec.1
      simpa [l] using this
    · obtain ⟨i, rfl⟩ := List.mem_ofFn.1 hy
      exact (hget i).choose_spec.2
theorem fldB {t : TypeId} {l : List (TypeId × Nat)} (hf : FldsOf P t l) {i : Nat} {ti : TypeId} {off : Nat} (hl : l[i]? = some (ti, off)) {T : Type} [Rep T] {m : Nat → T → Prop} (hT : OpnB P ti T m)
    (h : DataW.trod enc P w base (fun _ => true) true fuel t cs = some x) (hw : (x.1.weights P t).all (· ≤ reachBytes) = true) : ∃ v : T, Rep.rel (heapOf w) ((cs.drop off).take (Rep.sz T)) v ∧ m (bulk x.1) v := by
  obtain ⟨fs, ht, hfl⟩ := hf
  obtain ⟨xs, n, rfl, rfl, hcl, hxl, hat⟩ := DataW.trod_struct ht h
  rw [← hfl, List.getElem?_map, Option.map_eq_some_iff] at hl
  obtain ⟨f, hf1, hf2⟩ := hl
  simp only [Prod.mk.injEq] at hf2
  obtain ⟨rfl, rfl⟩ := hf2
  have hi : fs[i]? = some f := by simpa using hf1
  have h1 := hat i f hi
  have hlt : i < fs.size := (Array.getElem?_eq_some_iff.1 hi).1
  rw [List.getElem?_eq_getElem (by omega : i < xs.length), hT.opn.cells] at h1
  rw [DataW.weights, ht] at hw
  dsimp only at hw
  obtain ⟨v, hv, hm⟩ := hT.getB h1 (weightsEach_get (i := i) hw (by rw [List.getElem?_map, hf1]; rfl) (by rw [List.getElem?_map, List.getElem?_eq_getElem (by omega : i < xs.length)]; rfl))
  refine ⟨v, hv, hT.up ?_ hm⟩
  have : (xs[i]'(by omega)).1 ∈ xs.map (·.1) := List.mem_map.2 ⟨_, List.getElem_mem _, rfl⟩
  have := bulk_part this
  simp only [bulk, bulks, YtdgcjfnpfpbcfaaGreatDoor.Rows.uptoBulk] at this ⊢; omega
def valB (b : Nat) (v : Val) : Prop := v.s.size ≤ b
theorem opnB_Val {t ti ts tn : TypeId} (hf : FldsOf P t [(ti, 0), (tn, 1), (ts, 2)]) (hi : Opn P ti Int) (hn : Opn P tn Int) (hs : OpnB P ts ByteArray (fun b s => s.size ≤ b)) (hc : P.cellsOf t = 3) (hb : P.bytesOf t = 32) : OpnB P t Val valB := by
  refine ⟨opn_Val hf hi hn hs.opn hc hb, fun h1 h2 => Nat.le_trans h2 h1, fun {H enc w base fuel cs x} h hw => ?_⟩
  obtain ⟨a, ha⟩ := fld hf (i := 0) rfl hi h hw
  obtain ⟨b, hb⟩ := fld hf (i := 1) rfl hn h hw
  obtain ⟨c, hc', hm⟩ := fldB hf (i := 2) rfl hs h hw
  have hl := (trod_len hf h).trans hc
  match cs, hl with
  | [u, v, z], _ => exact ⟨⟨a, b, c⟩, ⟨by have := ha.1; have := hb.1; have := hc'.1; simp_all [Rep.sz], ha.2, hb.2, hc'.2⟩, hm⟩
def tupB (b : Nat) (t : Tup) : Prop := ∀ v ∈ t.vals, valB b v
theorem opnB_Tup {t tv tp tl : TypeId} (hf : FldsOf P t [(tv, 0), (tp, 1), (tl, 3)]) (h0 : OpnB P tv (List Val) (fun b l => ∀ y ∈ l, valB b y)) (h1 : Opn P tp Per) (h2 : Opn P tl (List Int)) (hc : P.cellsOf t = 4) (hb : P.bytesOf t = 64) : OpnB P t Tup tupB := by
  refine ⟨opn_Tup hf h0.opn h1 h2 hc hb, fun h1 h2 v hv => Nat.le_trans (h2 v hv) h1, fun {H enc w base fuel cs x} h hw => ?_⟩
  obtain ⟨a, ⟨A, n, c, ha, hsl⟩, hm⟩ := fldB hf (i := 0) rfl h0 h hw
  obtain ⟨b, hb⟩ := fld hf (i := 1) rfl h1 h hw
  obtain ⟨d, B, m, e, hd, hsl'⟩ := fld hf (i := 2) rfl h2 h hw
  have hl := (trod_len hf h).trans hc
  match cs, hl with
  | [u0, u1, u2, u3], _ => exact ⟨⟨a, b, d⟩, ⟨A, n, c, B, m, e, by have := hb.1; simp_all [Rep.sz], hsl, hb.2.1, hb.2.2, hsl'⟩, hm⟩
theorem arg_getB {t : TypeId} {T : Type} [Rep T] {m : Nat → T → Prop} (hT : OpnB P t T m) {v : Value} {d : DataW H} {p : List MemPlace} (h : DataW.Trod enc P w base (fun _ => true) true t v d p) (hw : (d.weights P t).all (· ≤ reachBytes) = true) :
    ∃ y : T, Rep.rel (heapOf w) v.cells.toList y ∧ m (bulk d) y := by
  obtain ⟨n, hn⟩ := h
  exact hT.getB hn hw
end
theorem bStr : OpnB Tryz.prog 9 ByteArray (fun b s => s.size ≤ b) := opnB_string Tryz.underlying9 (by kernel_rfl) (by kernel_rfl)
theorem bVal : OpnB Tryz.prog 80 Val valB := opnB_Val ⟨_, Tryz.underlying80, rfl⟩ oInt (opn_int Tryz.underlying2 (by kernel_rfl) (by kernel_rfl)) bStr (by kernel_rfl) (by kernel_rfl)
theorem bVals : OpnB Tryz.prog 24 (List Val) (fun b l => ∀ y ∈ l, valB b y) := opnB_slice Tryz.underlying24 (by kernel_rfl) (by kernel_rfl) bVal
theorem bTup : OpnB Tryz.prog 57 Tup tupB := opnB_Tup ⟨_, Tryz.underlying57, rfl⟩ bVals oPer oInts (by kernel_rfl) (by kernel_rfl)
theorem bTups : OpnB Tryz.prog 22 (List Tup) (fun b l => ∀ y ∈ l, tupB b y) := opnB_slice Tryz.underlying22 (by kernel_rfl) (by kernel_rfl) bTup
/- the keys' texts fit -/
theorem keyFit_bulk {H : Heap} {A : Option Addr} {n c : Nat} {l : List Tup} {b : Nat} (hs : Sl H A n c l) (hb : b ≤ 1048576) (h : ∀ t ∈ l, tupB b t) {cols : List Int} (hc : cols.length ≤ 1048576) : keyFit l cols := by
  refine keyFit_of hb hc fun t ht v hv => ?_
  obtain ⟨i, hi, rfl⟩ := List.getElem_of_mem ht
  obtain ⟨vs, -, A1, n1, c1, B1, m1, d1, -, h1, -⟩ := hs.get i hi
  obtain ⟨j, hj, rfl⟩ := List.getElem_of_mem hv
  obtain ⟨us, -, -, r1, r2, -⟩ := h1.get j hj
  exact ⟨r1, r2, h _ ht _ hv⟩
end Go.Vc

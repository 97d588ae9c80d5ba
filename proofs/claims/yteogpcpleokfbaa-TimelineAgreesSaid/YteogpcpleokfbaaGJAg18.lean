/- slices.Insert of one element into a row of the caller's own, at whatever element type. -/
import Derived.Test.YteogpcpleokfbaaGJAg9
import Derived.Shelf.Spec.SlicesInsertGrow
set_option linter.unusedSectionVars false
set_option linter.unusedSimpArgs false
set_option linter.unusedVariables false
namespace Go.Vc
open Go Go.RowKit Go.Shelf Go.Proofs
/- slices.Insert: what is asked of the program -/
structure PutL (P : Program) (ρ : Ren) (sz byt : Nat) (z : Value) : Prop where
  mixed : P.follows .mixedOrders = true
  f22 : Bears P (ρ.f 22) (Body2.n22 ρ)
  ov : ∀ args w v w', (Extern.SlicesOverlaps.overlaps #[ρ.t 24, ρ.t 24] #[ρ.t 4] args).run P w = .ok v w' → (callFunc (ρ.f 29) args).run P w = .ok (.value v) w'
  t0 : P.underlying (ρ.t 0) = some (TypeDesc.tuple #[])
  a0 : ∀ w, (isAgg (ρ.t 0)).run P w = .ok false w
  z0 : ∀ w, (Go.sizeOf (ρ.t 0)).run P w = .ok 1 w
  v0 : ∀ w, (zeroValue (ρ.t 0)).run P w = .ok (Value.tuple #[]) w
  t3 : P.underlying (ρ.t 3) = some (TypeDesc.int IntKind.i64)
  a3 : ∀ w, (isAgg (ρ.t 3)).run P w = .ok false w
  z3 : ∀ w, (Go.sizeOf (ρ.t 3)).run P w = .ok 1 w
  v3 : ∀ w, (zeroValue (ρ.t 3)).run P w = .ok (Value.int IntKind.i64 0) w
  t4 : P.underlying (ρ.t 4) = some (TypeDesc.bool)
  a4 : ∀ w, (isAgg (ρ.t 4)).run P w = .ok false w
  z4 : ∀ w, (Go.sizeOf (ρ.t 4)).run P w = .ok 1 w
  v4 : ∀ w, (zeroValue (ρ.t 4)).run P w = .ok (Value.bool false) w
  t24 : P.underlying (ρ.t 24) = some (TypeDesc.slice (ρ.t 9))
  a24 : ∀ w, (isAgg (ρ.t 24)).run P w = .ok false w
  z24 : ∀ w, (Go.sizeOf (ρ.t 24)).run P w = .ok 1 w
  v24 : ∀ w, (zeroValue (ρ.t 24)).run P w = .ok (Value.slice none 0 0) w
  z9 : ∀ w, (Go.sizeOf (ρ.t 9)).run P w = .ok sz w
  v9 : ∀ w, (zeroValue (ρ.t 9)).run P w = .ok z w
  i9 : ∃ i, P.info? (ρ.t 9) = some i ∧ i.size = sz ∧ i.bytes = byt ∧ i.zero = some z
  zc : z.cells.size = sz
  zo : ∀ x ∈ z.cells.toList, x.oneCell' = true
  pos : 0 < sz
  bpos : 0 < byt
section
variable {P : Program} {ρ : Ren} {sz byt : Nat} {z : Value}
theorem run_overlaps_row (w : World) (tS tR e : TypeId) (ht : P.underlying tS = some (.slice e)) (size : Nat) (hz : ∀ w, (Go.sizeOf e).run P w = .ok size w)
    (a b : Addr) (la ca lb cb : Nat) (hne : a.block ≠ b.block) (tA tB : TypeId) (kA kB : Nat)
    (hsa : w.shape? a.block = some (tA, kA)) (hkA : kA ≠ 0) (hsb : w.shape? b.block = some (tB, kB)) (hkB : kB ≠ 0)
    (hfb : w.frozen? b = false) (hfe : w.frozen? { block := b.block, off := kB } = false) :
    (Extern.SlicesOverlaps.overlaps #[tS, tS] #[tR] #[.slice (some a) la ca, .slice (some b) lb cb]).run P w = .ok (.bool false) w := by
  have hnb : (a.block != b.block) = true := by simpa using hne
  have hnb' : (a.block == b.block) = false := by simpa using hne
  change Sem.run P (α := Value) (do
    let some t := (#[tS, tS] : Array TypeId)[0]? | stuck "slices.overlaps: no parameter types"
    let .slice elem ← underlying t | stuck "slices.overlaps: slice type expected"
    let size ← sizeOf elem
    match (some a : Option Addr), (some b : Option Addr) with
    | some a, some b =>
      if la = 0 ∨ lb = 0 ∨ size = 0 then pure (Value.bool false)
      else if a.block != b.block && (← frozen a) && (← frozen b) then unsupported .addressObserved
      else do
        if a.block != b.block then do
          noView a; noView b
          if ← mayBeOne a b then return Value.bool ((← choose (.extern "sameAddr.stringBytes" 2)) == 1)
        pure (Value.bool (a.block == b.block && a.off < b.off + lb * size && b.off < a.off + la * size))
    | _, _ => pure (Value.bool false)) w = _
  by_cases h0 : la = 0 ∨ lb = 0 ∨ size = 0
  · simp [run_underlying ht, hz, h0]
  · cases kB with
    | zero => exact absurd rfl hkB
    | succ kB =>
      cases kA with
      | zero => exact absurd rfl hkA
      | succ kA =>
        cases hfa : w.frozen? a <;> cases hfa2 : w.frozen? { block := a.block, off := kA + 1 } <;>
          simp [run_underlying ht, hz, h0, hnb, hnb', frozen, noView, viewAt, mayBeOne, stringish, shape, Sem.run, hsa, hsb, hfa, hfa2, hfb, hfe]
theorem run_copy_sz (w : World) (dT sT ty elem : TypeId) (b o dLen dCap : Nat) (a : Addr) (sLen sCap k : Nat) (cs : List Value)
    (hu : P.underlying dT = some (.slice elem)) (hs : (P.info? elem).map (·.size) = some sz) (hk : k = Nat.min sLen dLen) (hn : cs.length = k * sz)
    (hsrc : ∀ j v, cs[j]? = some v → w.cell? (a.add j) = some v) (hc : ∀ j, j < cs.length → (w.cell? ⟨b, o + j, none⟩).isSome = true) (hf : ∀ j, j < cs.length → w.frozen? ⟨b, o + j, none⟩ = false) (h1 : ∀ v ∈ cs, v.oneCell' = true) :
    (Builtin.copy_ #[dT, sT] ty #[.slice (some ⟨b, o, none⟩) dLen dCap, .slice (some a) sLen sCap]).run P w = .ok (goInt k) (w.setCells b o cs) := by
  have hl := run_loadCells_list (P := P) w a cs hsrc
  have hst := run_storeCells_cells (P := P) b o cs 0 w (by simpa using hc) (by simpa using hf) h1
  cases hq : P.info? elem with
  | none => simp [hq] at hs
  | some i =>
    have hi : i.size = sz := by simpa [hq] using hs
    simp [Builtin.copy_, run_underlying hu, Builtin.lenOf, Builtin.firstCells, sizeOf, typeInfo, hq, hi, ← hk, ← hn, hl, hst]
set_option maxHeartbeats 4000000 in
set_option maxRecDepth 1000000 in
/- there is room, i < n: in place -/
theorem put_shift (L : PutL P ρ sz byt z) (g n cap i vb voff vc kA : Nat) (tA : TypeId) (cur : Array Value) (e : TypeId) (vs : List Value) (w : World) (hi : i < n) (hn : n < cap) (hcm : cap ≤ maxLen)
    (hg : w.heap[g]? = some (.cells cur e (0, 0))) (hcs : cur.size = cap * sz) (h1 : ∀ x ∈ cur.toList.take (n * sz), x.oneCell' = true)
    (hvl : vs.length = sz) (hvb : vb ≠ g) (hvs : ∀ j v, vs[j]? = some v → w.cell? ⟨vb, voff + j, none⟩ = some v) (h1v : ∀ v ∈ vs, v.oneCell' = true) (hsa : w.shape? vb = some (tA, kA)) (hkA : kA ≠ 0) :
    Calls P (ρ.f 22) #[.slice (some ⟨g, 0, none⟩) n cap, .int .i64 i, .slice (some ⟨vb, voff, none⟩) 1 vc] w fun e1 w' => e1 = .returned (.slice (some ⟨g, 0, none⟩) (n + 1) cap) ∧
      ∃ cur', Stored w w' g e cur cur' ∧ cur'.size = cap * sz ∧ cur'.toList.take ((n + 1) * sz) = (cur.toList.take (n * sz)).take (i * sz) ++ vs ++ (cur.toList.take (n * sz)).drop (i * sz) := by
  have mixed := L.mixed; have t0 := L.t0; have a0 := L.a0; have z0 := L.z0; have v0 := L.v0; have t3 := L.t3; have a3 := L.a3; have z3 := L.z3; have v3 := L.v3; have t4 := L.t4; have a4 := L.a4; have z4 := L.z4; have v4 := L.v4; have t24 := L.t24; have a24 := L.a24; have z24 := L.z24; have v24 := L.v24; have z9 := L.z9; have v9 := L.v9
  have u0 := run_underlying L.t0; have u3 := run_underlying L.t3; have u4 := run_underlying L.t4; have u24 := run_underlying L.t24
  obtain ⟨i0, hi0, hz1, hb0, hzz⟩ := L.i9
  have hsz : (P.info? (ρ.t 9)).map (·.size) = some sz := by rw [hi0]; simp [hz1]
  obtain ⟨xs, hxs⟩ : ∃ xs, xs = cur.toList.take (n * sz) := ⟨_, rfl⟩
  have hns : (n + 1) * sz ≤ cap * sz := Nat.mul_le_mul_right _ hn
  have his : (i + 1) * sz ≤ n * sz := Nat.mul_le_mul_right _ hi
  have e1 : (i + 1) * sz = i * sz + sz := Nat.succ_mul _ _
  have e2 : (n + 1) * sz = n * sz + sz := Nat.succ_mul _ _
  have hsp := L.pos
  have hxl : xs.length = n * sz := by rw [hxs]; simp; omega
  have hget : ∀ t, t < n * sz → xs[t]? = cur[t]? := by
    intro t ht
    rw [hxs, List.getElem?_take_of_lt ht]
    simp
  have hcell : ∀ t v, xs[t]? = some v → w.cell? ⟨g, t, none⟩ = some v := by
    intro t v hv
    have ht : t < n * sz := by rw [← hxl]; exact (List.getElem?_eq_some_iff.1 hv).1
    rw [hget t ht] at hv
    simp [World.cell?, hg, hv]
  have hcap : ∀ t, t < cap * sz → (w.cell? ⟨g, t, none⟩).isSome = true := by
    intro t ht
    simp [World.cell?, hg, show t < cur.size by omega]
  have hfz : ∀ t, w.frozen? ⟨g, t, none⟩ = false := fun t => by simp [World.frozen?, hg]
  have hsb : w.shape? g = some (e, cap * sz) := by simp [World.shape?, hg, hcs]
  have hck : cap * sz ≠ 0 := by omega
  have hov : ∀ lb cb, (callFunc (ρ.f 29) #[.slice (some ⟨vb, voff, none⟩) 1 vc, .slice (some ⟨g, (i + 1) * sz, none⟩) lb cb]).run P w = .ok (.value (.bool false)) w := fun lb cb =>
    L.ov _ _ _ _ (run_overlaps_row w (ρ.t 24) (ρ.t 4) (ρ.t 9) L.t24 sz L.z9 ⟨vb, voff, none⟩ ⟨g, (i + 1) * sz, none⟩ 1 vc lb cb hvb tA e kA _ hsa hkA hsb hck (hfz _) (hfz _))
  have hdl : (xs.drop (i * sz)).length = (n - i) * sz := by rw [List.length_drop, hxl, Nat.sub_mul]
  have hw1 : IntKind.i64.wrap ((i : Int) + 1) = (i : Int) + 1 := by rw [IntKind.wrap_i64]; simp only [maxLen] at hcm; omega
  have hcp1 : ∀ ty dc sc, (Builtin.copy_ #[(ρ.t 24), (ρ.t 24)] ty #[.slice (some ⟨g, (i + 1) * sz, none⟩) (n - i) dc, .slice (some ⟨g, i * sz, none⟩) (n + 1 - i) sc]).run P w.drew = .ok (goInt ((n - i : Nat) : Int)) (w.drew.setCells g ((i + 1) * sz) (xs.drop (i * sz))) := fun ty dc sc =>
    run_copy_sz w.drew _ _ ty (ρ.t 9) g ((i + 1) * sz) (n - i) dc ⟨g, i * sz, none⟩ (n + 1 - i) sc (n - i) (xs.drop (i * sz)) L.t24 hsz (by simp only [Nat.min_def]; split <;> omega) hdl
      (fun j v hj => by rw [Addr.add_lit]; exact hcell _ v (by rwa [List.getElem?_drop] at hj))
      (fun j hj => hcap _ (by rw [hdl, Nat.sub_mul] at hj; omega)) (fun j hj => hfz _) (fun v hv => h1 v (hxs ▸ List.mem_of_mem_drop hv))
  obtain ⟨W1, hW1⟩ : ∃ W1, W1 = w.drew.setCells g ((i + 1) * sz) (xs.drop (i * sz)) := ⟨_, rfl⟩
  obtain ⟨cur1, hS1, hc1⟩ := stored_setCells (xs.drop (i * sz)) ((i + 1) * sz) w.drew cur (Stored.drew hg).here (by rw [hdl, hcs, Nat.sub_mul]; omega)
  rw [← hW1] at hS1 hcp1
  have hcl : cur.toList.length = cap * sz := by simp [hcs]
  have hc1s : cur1.size = cap * sz := by
    have := congrArg List.length hc1
    simp only [Array.length_toList, List.length_append, List.length_take, List.length_drop, hdl, hcs, Nat.sub_mul] at this
    omega
  have hcp2 : ∀ (W : World), (∀ x, W.cell? x = W1.cell? x) → (∀ x, W.frozen? x = W1.frozen? x) → ∀ ty dc, (Builtin.copy_ #[(ρ.t 24), (ρ.t 24)] ty #[.slice (some ⟨g, i * sz, none⟩) (n + 1 - i) dc, .slice (some ⟨vb, voff, none⟩) 1 vc]).run P W = .ok (goInt ((1 : Nat) : Int)) (W.setCells g (i * sz) vs) := fun W hWc hWf ty dc =>
    run_copy_sz W _ _ ty (ρ.t 9) g (i * sz) (n + 1 - i) dc ⟨vb, voff, none⟩ 1 vc 1 vs L.t24 hsz (by simp only [Nat.min_def]; split <;> omega) (by rw [hvl, Nat.one_mul])
      (fun j v hj => by
        rw [Addr.add_lit, hWc, hW1, World.cell?_setCells_out g _ _ _ _ (fun h _ => absurd h hvb)]
        exact hvs j v hj)
      (fun j hj => by
        rw [hWc, World.cell?, hS1.here]
        simp [show i * sz + j < cur1.size by omega]) (fun j hj => by rw [hWf, World.frozen?, hS1.here]; simp) h1v
  obtain ⟨cur2, hS2, hc2⟩ := stored_setCells vs (i * sz) W1 cur1 hS1.here (by omega)
  have hfin : Aside (∃ cur', Stored w (W1.setCells g (i * sz) vs) g e cur cur' ∧ cur'.size = cap * sz ∧ cur'.toList.take ((n + 1) * sz) = xs.take (i * sz) ++ vs ++ xs.drop (i * sz)) := by
    refine ⟨cur2, ((Stored.drew hg).trans hS1).trans hS2, ?_, ?_⟩
    · have := congrArg List.length hc2
      simp only [Array.length_toList, List.length_append, List.length_take, List.length_drop, hc1s] at this
      omega
    · have hA : cur.toList.take ((i + 1) * sz) = xs.take (i * sz) ++ (cur.toList.take ((i + 1) * sz)).drop (i * sz) := by
        have h0 : (cur.toList.take ((i + 1) * sz)).take (i * sz) = xs.take (i * sz) := by rw [hxs, List.take_take, List.take_take, Nat.min_eq_left (by omega), Nat.min_eq_left (by omega)]
        rw [← h0, List.take_append_drop]
      have hl1 : (xs.take (i * sz)).length = i * sz := by rw [List.length_take, hxl]; omega
      have hl2 : ((cur.toList.take ((i + 1) * sz)).drop (i * sz)).length = sz := by rw [List.length_drop, List.length_take, hcl]; omega
      rw [hc2, hc1]
      have hT : (cur.toList.take ((i + 1) * sz) ++ (xs.drop (i * sz) ++ cur.toList.drop ((i + 1) * sz + (xs.drop (i * sz)).length))).take (i * sz) = xs.take (i * sz) := by
        rw [hA, List.append_assoc, List.take_append_of_le_length (by omega), List.take_of_length_le (by omega)]
      have hD : (cur.toList.take ((i + 1) * sz) ++ (xs.drop (i * sz) ++ cur.toList.drop ((i + 1) * sz + (xs.drop (i * sz)).length))).drop (i * sz + vs.length) = xs.drop (i * sz) ++ cur.toList.drop ((i + 1) * sz + (xs.drop (i * sz)).length) := by
        rw [List.drop_append_of_le_length (by rw [List.length_take, hcl]; omega), List.drop_of_length_le (by rw [List.length_take, hcl]; omega), List.nil_append]
      rw [hT, hD, ← List.append_assoc, ← List.append_assoc, List.take_append_of_le_length (by simp only [List.length_append, hl1, hvl, hdl, Nat.sub_mul]; omega), List.take_of_length_le (by simp only [List.length_append, hl1, hvl, hdl, Nat.sub_mul]; omega)]
  have hb1 : (0 : Int) ≤ (i : Int) + 1 := by omega
  have hin : i ≤ n := by omega
  have htn : ((i : Int) + 1).toNat = i + 1 := by omega
  have hb2 : ¬ (cap = i + 1) := by omega
  have hb4 : ¬ (cap = i) := by omega
  have hz2 : ¬ ((i : Int) = (n : Int)) := by omega
  have hb3 : (i : Int) ≤ (n : Int) + 1 := by omega
  have hb5 : (n : Int) + 1 ≤ cap := by omega
  have hm63 : cap ≤ 9223372036854775807 := by unfold maxLen at hcm; omega
  clear hS1 hS2 hc2 hc1 hget hns his e1 e2 hc1s hcs hg hsb hcap hfz hcell
  rw [← hxs]
  obtain ⟨_, _, FG⟩ := L.f22
  go_enter FG, Body2.n22_ntmps ρ
  go_wp2_with (simp only [hov])
  go_region_law_o (refine step_copy_runI rfl _ _ (ρ.t 24) (ρ.t 24) rfl _ _ (by simp [Act.eval, Act.put]) (by simp [Act.eval, Act.put]) (hcp1 _ _ _) ?_)
  go_wp2_with (at_builtin; refine wpList_copy_runI _ rfl _ _ (ρ.t 24) (ρ.t 24) rfl _ _ rfl rfl (hcp2 _ (fun _ => rfl) (fun _ => rfl) _ _) ?_)
  go_ret
  refine ⟨rfl, ?_⟩
  have h := hfin.out
  rw [hW1] at h
  rw [← hxs]
  exact h
set_option maxHeartbeats 4000000 in
set_option maxRecDepth 1000000 in
/- at the end: an append -/
theorem put_end (L : PutL P ρ sz byt z) (base : Option Addr) (n cap vb voff vc : Nat) (w w' : World) (v' : Value) (hn : n ≤ cap) (hcm : cap ≤ maxLen) (hnil : base = none → n = 0 ∧ cap = 0) (hb : ∀ a, base = some a → a.spot = none)
    (hrun : ∀ ty, (Builtin.append_ #[ρ.t 24, ρ.t 24] ty #[.slice base n cap, .slice (some ⟨vb, voff, none⟩) 1 vc]).run P w = .ok v' w') :
    Calls P (ρ.f 22) #[.slice base n cap, .int .i64 n, .slice (some ⟨vb, voff, none⟩) 1 vc] w fun e1 w1 => e1 = .returned v' ∧ w1 = w' := by
  have mixed := L.mixed; have t0 := L.t0; have a0 := L.a0; have z0 := L.z0; have v0 := L.v0; have t3 := L.t3; have a3 := L.a3; have z3 := L.z3; have v3 := L.v3; have t4 := L.t4; have a4 := L.a4; have z4 := L.z4; have v4 := L.v4; have t24 := L.t24; have a24 := L.a24; have z24 := L.z24; have v24 := L.v24; have z9 := L.z9; have v9 := L.v9
  have u0 := run_underlying L.t0; have u3 := run_underlying L.t3; have u4 := run_underlying L.t4; have u24 := run_underlying L.t24
  have hm63 : cap ≤ 9223372036854775807 := by unfold maxLen at hcm; omega
  obtain ⟨_, _, FG⟩ := L.f22
  go_enter FG, Body2.n22_ntmps ρ
  cases base with
  | none =>
    obtain ⟨rfl, rfl⟩ := hnil rfl
    go_wp2_with (at_builtin; refine Lib.wpList_append_run _ rfl _ _ _ _ rfl _ _ rfl rfl _ _ (hrun _) ?_)
    go_ret
    exact ⟨rfl, rfl⟩
  | some a =>
    obtain ⟨ab, ao, asp⟩ := a
    have := hb _ rfl
    simp only at this
    subst this
    go_wp2_with (at_builtin; refine Lib.wpList_append_run _ rfl _ _ _ _ rfl _ _ rfl rfl _ _ (hrun _) ?_)
    all_goals (go_ret; exact ⟨rfl, rfl⟩)
set_option maxHeartbeats 4000000 in
set_option maxRecDepth 1000000 in
/- i < n, no room: a new row -/
theorem put_grow (L : PutL P ρ sz byt z) (g n cap i vb voff vc : Nat) (cur : Array Value) (e : TypeId) (vs : List Value) (w : World) (hi : i < n) (hn : n = cap) (hbig : (n + 1) * byt ≤ 140737488355328)
    (hg : w.heap[g]? = some (.cells cur e (0, 0))) (hcs : cur.size = cap * sz) (h1 : ∀ x ∈ cur.toList.take (n * sz), x.oneCell' = true)
    (hvl : vs.length = sz) (hvs : ∀ j v, vs[j]? = some v → w.cell? ⟨vb, voff + j, none⟩ = some v) (h1v : ∀ v ∈ vs, v.oneCell' = true) :
    Calls P (ρ.f 22) #[.slice (some ⟨g, 0, none⟩) n cap, .int .i64 i, .slice (some ⟨vb, voff, none⟩) 1 vc] w fun e1 w' => ∃ G, e1 = .returned (.slice (some ⟨w.heap.size, 0, none⟩) (n + 1) G) ∧ n + 1 ≤ G ∧ G ≤ maxLen ∧
      Below w.heap.size w w' ∧ w.heap.size < w'.heap.size ∧ w.drawn ≤ w'.drawn ∧ ∃ cur' : Array Value, w'.heap[w.heap.size]? = some (.cells cur' (ρ.t 9) (0, 0)) ∧ cur'.size = G * sz ∧ cur'.toList.take ((n + 1) * sz) = (cur.toList.take (n * sz)).take (i * sz) ++ vs ++ (cur.toList.take (n * sz)).drop (i * sz) := by
  have mixed := L.mixed; have t0 := L.t0; have a0 := L.a0; have z0 := L.z0; have v0 := L.v0; have t3 := L.t3; have a3 := L.a3; have z3 := L.z3; have v3 := L.v3; have t4 := L.t4; have a4 := L.a4; have z4 := L.z4; have v4 := L.v4; have t24 := L.t24; have a24 := L.a24; have z24 := L.z24; have v24 := L.v24; have z9 := L.z9; have v9 := L.v9
  have u0 := run_underlying L.t0; have u3 := run_underlying L.t3; have u4 := run_underlying L.t4; have u24 := run_underlying L.t24
  obtain ⟨i0, hi0, hz1, hb0, hzz⟩ := L.i9
  have hsz : (P.info? (ρ.t 9)).map (·.size) = some sz := by rw [hi0]; simp [hz1]
  subst hn
  obtain ⟨xs, hxs⟩ : ∃ xs, xs = cur.toList.take (n * sz) := ⟨_, rfl⟩
  have his : (i + 1) * sz ≤ n * sz := Nat.mul_le_mul_right _ hi
  have e1 : (i + 1) * sz = i * sz + sz := Nat.succ_mul _ _
  have e2 : (n + 1) * sz = n * sz + sz := Nat.succ_mul _ _
  have hsp := L.pos
  have hbp := L.bpos
  have hn1 : n + 1 ≤ (n + 1) * byt := Nat.le_mul_of_pos_right _ hbp
  have hxl : xs.length = n * sz := by rw [hxs]; simp; omega
  have hcell : ∀ t v, xs[t]? = some v → w.cell? ⟨g, t, none⟩ = some v := by
    intro t v hv
    have ht : t < n * sz := by rw [← hxl]; exact (List.getElem?_eq_some_iff.1 hv).1
    rw [hxs, List.getElem?_take_of_lt ht] at hv
    simp at hv
    simp [World.cell?, hg, hv]
  have hbw : g < w.heap.size := (Array.getElem?_eq_some_iff.1 hg).1
  have hv0 : 0 < vs.length := by omega
  have hvw : vb < w.heap.size := by
    have := hvs 0 _ (List.getElem?_eq_getElem hv0)
    exact World.block_lt_of_cell? w ⟨vb, voff + 0, none⟩ this
  have hkk : (n : Int) + 1 - (i : Int) = ((n + 1 - i : Nat) : Int) := by omega
  have hik : i + (n + 1 - i) = n + 1 := by omega
  have hz3 : (n : Int) < (n : Int) + 1 := by omega
  have hold : (Builtin.firstCells i0.size i (.slice (some ⟨g, 0, none⟩) i n)).run P w.drew = .ok (xs.take (i * sz)).toArray w.drew := by
    rw [hz1]
    exact run_firstCells_some w.drew sz i ⟨g, 0, none⟩ i n (xs.take (i * sz)) (by rw [List.length_take]; omega) (fun j v hj => by
      rw [Addr.add_lit, Nat.zero_add]
      rw [List.getElem?_take] at hj
      split at hj
      · exact hcell j v hj
      · cases hj)
  obtain ⟨G, hG⟩ : ∃ G, G = grownCap w (n + 1) n (ρ.t 9) := ⟨_, rfl⟩
  obtain ⟨ROW, hROW⟩ : ∃ ROW : Array Value, ROW = (xs.take (i * sz)).toArray ++ Builtin.zeroCells z.cells (n + 1 - i) ++ Builtin.zeroCells z.cells (G - (n + 1)) := ⟨_, rfl⟩
  have hGn : n + 1 ≤ G := by rw [hG]; exact grownCap_ge w _ _ _
  have hGm : G ≤ maxLen := by rw [hG]; exact grownCap_le_maxLen w (n + 1) n (ρ.t 9) (by unfold maxLen; omega)
  have hrz : ∀ ty, (Builtin.append_ #[(ρ.t 24), (ρ.t 3)] ty #[.slice (some ⟨g, 0, none⟩) i n, .int .i64 ((n : Int) + 1 - (i : Int))]).run P w =
      .ok (.slice (some ⟨w.heap.size, 0, none⟩) (n + 1) G) (w.drew.alloc (.cells ROW (ρ.t 9))) := fun ty => by
    have h := Lib.run_append_grow_zeros w (ρ.t 24) (ρ.t 3) ty (ρ.t 9) i0 _ .i64 .i64 L.t24 L.t3 hi0 hzz (some ⟨g, 0, none⟩) i n (xs.take (i * sz)) hold (n + 1 - i) (by omega) (by omega) (by omega) (by omega) (by rw [hb0]; have := Nat.mul_le_mul_right byt (show n + 1 - i ≤ n + 1 by omega); omega) (by rw [hb0, hik]; exact growslice_fits (by omega) hbig)
    rw [hik] at h
    rw [hkk, hROW, hG]
    exact h
  have hRs : ROW.size = G * sz := by
    rw [hROW]
    have hzc : ∀ k, (Builtin.zeroCells z.cells k).size = k * sz := fun k => by simp [Builtin.zeroCells, L.zc]
    simp only [Array.size_append, List.size_toArray, List.length_take, hxl, hzc, Nat.sub_mul]
    have : (n + 1) * sz ≤ G * sz := Nat.mul_le_mul_right _ hGn
    omega
  have hGs : (n + 1) * sz ≤ G * sz := Nat.mul_le_mul_right _ hGn
  obtain ⟨W1, hW1⟩ : ∃ W1, W1 = w.drew.alloc (.cells ROW (ρ.t 9)) := ⟨_, rfl⟩
  have hblk : W1.heap[w.heap.size]? = some (.cells ROW (ρ.t 9) (0, 0)) := by
    rw [hW1]
    show (w.heap.push _)[w.heap.size]? = _
    rw [Array.getElem?_push, if_pos rfl]
  have hkeep : ∀ k, k < w.heap.size → W1.heap[k]? = w.heap[k]? := fun k hk => by
    rw [hW1]
    show (w.heap.push _)[k]? = _
    rw [Array.getElem?_push, if_neg (by omega)]
  have hW1c : ∀ b j, b < w.heap.size → W1.cell? ⟨b, j, none⟩ = w.cell? ⟨b, j, none⟩ := fun b j hb => World.cell?_of_block (a := ⟨b, j, none⟩) (hkeep b hb)
  have hN : ∀ j, j < (n + 1) * sz → (W1.cell? ⟨w.heap.size, j, none⟩).isSome = true := fun j hj => by
    rw [World.cell?, hblk]
    simp [show j < ROW.size by omega]
  have hNf : ∀ j, W1.frozen? ⟨w.heap.size, j, none⟩ = false := fun j => by rw [World.frozen?, hblk]; simp
  have hcpA : ∀ (W : World), (∀ x, W.cell? x = W1.cell? x) → (∀ x, W.frozen? x = W1.frozen? x) → ∀ ty dc, (Builtin.copy_ #[(ρ.t 24), (ρ.t 24)] ty #[.slice (some ⟨w.heap.size, i * sz, none⟩) (n + 1 - i) dc, .slice (some ⟨vb, voff, none⟩) 1 vc]).run P W = .ok (goInt ((1 : Nat) : Int)) (W.setCells w.heap.size (i * sz) vs) := fun W hWc hWf ty dc =>
    run_copy_sz W _ _ ty (ρ.t 9) w.heap.size (i * sz) (n + 1 - i) dc ⟨vb, voff, none⟩ 1 vc 1 vs L.t24 hsz (by simp only [Nat.min_def]; split <;> omega) (by rw [hvl, Nat.one_mul])
      (fun j v hj => by rw [Addr.add_lit, hWc, hW1c _ _ hvw]; exact hvs j v hj)
      (fun j hj => by rw [hWc]; exact hN _ (by omega)) (fun j hj => by rw [hWf]; exact hNf _) h1v
  have hbN : g ≠ w.heap.size := by omega
  have hdl : (xs.drop (i * sz)).length = (n - i) * sz := by rw [List.length_drop, hxl, Nat.sub_mul]
  have hcpB : ∀ (W : World), (∀ x, W.cell? x = (W1.setCells w.heap.size (i * sz) vs).cell? x) → (∀ x, W.frozen? x = (W1.setCells w.heap.size (i * sz) vs).frozen? x) → ∀ ty dc sc, (Builtin.copy_ #[(ρ.t 24), (ρ.t 24)] ty #[.slice (some ⟨w.heap.size, (i + 1) * sz, none⟩) (n - i) dc, .slice (some ⟨g, i * sz, none⟩) (n - i) sc]).run P W = .ok (goInt ((n - i : Nat) : Int)) (W.setCells w.heap.size ((i + 1) * sz) (xs.drop (i * sz))) := fun W hWc hWf ty dc sc =>
    run_copy_sz W _ _ ty (ρ.t 9) w.heap.size ((i + 1) * sz) (n - i) dc ⟨g, i * sz, none⟩ (n - i) sc (n - i) (xs.drop (i * sz)) L.t24 hsz (by simp only [Nat.min_def]; split <;> omega) hdl
      (fun j v hj => by
        rw [Addr.add_lit, hWc, World.cell?_setCells_out _ _ _ _ _ (fun h _ => absurd h hbN), hW1c _ _ hbw]
        exact hcell _ v (by rwa [List.getElem?_drop] at hj))
      (fun j hj => by rw [hWc]; exact isSome_setCells _ _ _ _ (fun t ht => hN _ (by omega)) _ (hN _ (by rw [hdl, Nat.sub_mul] at hj; omega)))
      (fun j hj => by rw [hWf, World.frozen?_setCells]; exact hNf _) (fun v hv => h1 v (hxs ▸ List.mem_of_mem_drop hv))
  have hGi : ¬ (G = i) := by omega
  have hGim : ¬ (G = i + 1) := by omega
  have hci : ¬ (n = i) := by omega
  have hG63 : G ≤ 9223372036854775807 := by unfold maxLen at hGm; omega
  have hn63 : n ≤ 9223372036854775807 := by omega
  subst hW1
  have hE1 : ∀ x, ((w.alloc (.cells ROW (ρ.t 9))).drew).cell? x = (w.drew.alloc (.cells ROW (ρ.t 9))).cell? x := fun x => rfl
  have hE2 : ∀ x, ((w.alloc (.cells ROW (ρ.t 9))).drew).frozen? x = (w.drew.alloc (.cells ROW (ρ.t 9))).frozen? x := fun x => rfl
  have hF1 : ∀ x, (((w.alloc (.cells ROW (ρ.t 9))).drew.setCells w.heap.size (i * sz) vs).drew).cell? x = ((w.drew.alloc (.cells ROW (ρ.t 9))).setCells w.heap.size (i * sz) vs).cell? x := fun x => rfl
  have hF2 : ∀ x, (((w.alloc (.cells ROW (ρ.t 9))).drew.setCells w.heap.size (i * sz) vs).drew).frozen? x = ((w.drew.alloc (.cells ROW (ρ.t 9))).setCells w.heap.size (i * sz) vs).frozen? x := fun x => rfl
  have hw1 : IntKind.i64.wrap ((i : Int) + 1) = (i : Int) + 1 := by rw [IntKind.wrap_i64]; omega
  have hb1 : (0 : Int) ≤ (i : Int) + 1 := by omega
  have hin : i ≤ n := by omega
  have htn : ((i : Int) + 1).toNat = i + 1 := by omega
  have hb3 : (i : Int) ≤ (n : Int) := by omega
  have hz2 : ¬ ((i : Int) = (n : Int)) := by omega
  have hfin : Aside (Below w.heap.size w ((((w.alloc (.cells ROW (ρ.t 9))).drew.setCells w.heap.size (i * sz) vs).drew).setCells w.heap.size ((i + 1) * sz) (xs.drop (i * sz))) ∧ w.heap.size < ((((w.alloc (.cells ROW (ρ.t 9))).drew.setCells w.heap.size (i * sz) vs).drew).setCells w.heap.size ((i + 1) * sz) (xs.drop (i * sz))).heap.size ∧
      w.drawn ≤ ((((w.alloc (.cells ROW (ρ.t 9))).drew.setCells w.heap.size (i * sz) vs).drew).setCells w.heap.size ((i + 1) * sz) (xs.drop (i * sz))).drawn ∧ ∃ cur' : Array Value, ((((w.alloc (.cells ROW (ρ.t 9))).drew.setCells w.heap.size (i * sz) vs).drew).setCells w.heap.size ((i + 1) * sz) (xs.drop (i * sz))).heap[w.heap.size]? = some (.cells cur' (ρ.t 9) (0, 0)) ∧
      cur'.size = G * sz ∧ cur'.toList.take ((n + 1) * sz) = xs.take (i * sz) ++ vs ++ xs.drop (i * sz)) := by
    have hb1 : ((w.alloc (.cells ROW (ρ.t 9))).drew).heap[w.heap.size]? = some (.cells ROW (ρ.t 9) (0, 0)) := hblk
    have hkeep1 : ∀ k, k < w.heap.size → ((w.alloc (.cells ROW (ρ.t 9))).drew).heap[k]? = w.heap[k]? := hkeep
    have hsz1 : ((w.alloc (.cells ROW (ρ.t 9))).drew).heap.size = w.heap.size + 1 := by
      show (w.heap.push _).size = _
      simp
    have ho1 : ((w.alloc (.cells ROW (ρ.t 9))).drew).os = w.os := rfl
    have ho2 : ((w.alloc (.cells ROW (ρ.t 9))).drew).tape = w.tape := rfl
    have ho3 : ((w.alloc (.cells ROW (ρ.t 9))).drew).output = w.output := rfl
    have ho4 : w.drawn ≤ ((w.alloc (.cells ROW (ρ.t 9))).drew).drawn := Nat.le_succ _
    generalize (w.alloc (.cells ROW (ρ.t 9))).drew = W2 at hb1 hkeep1 hsz1 ho1 ho2 ho3 ho4 ⊢
    obtain ⟨c1, S1, hc1⟩ := stored_setCells vs (i * sz) W2 ROW hb1 (by omega)
    generalize hW3 : W2.setCells w.heap.size (i * sz) vs = W3 at S1 ⊢
    have S2 := S1.trans (Stored.drew S1.here)
    have hc1s : c1.size = G * sz := by
      have := congrArg List.length hc1
      simp only [Array.length_toList, List.length_append, List.length_take, List.length_drop, hRs] at this
      omega
    obtain ⟨c2, S3, hc2⟩ := stored_setCells (xs.drop (i * sz)) ((i + 1) * sz) W3.drew c1 S2.here (by rw [hdl, Nat.sub_mul]; omega)
    have S := S2.trans S3
    refine ⟨⟨S.os.trans ho1, S.tape.trans ho2, S.output.trans ho3, by rw [S.size, hsz1]; omega, fun k hk => (S.block k (by omega)).trans (hkeep1 k hk)⟩, by rw [S.size, hsz1]; omega, Nat.le_trans ho4 S.drawn, c2, S.here, ?_, ?_⟩
    · have := congrArg List.length hc2
      simp only [Array.length_toList, List.length_append, List.length_take, List.length_drop, hc1s, hxl] at this
      omega
    · have hR : ROW.toList.take (i * sz) = xs.take (i * sz) := by
        rw [hROW]
        simp only [Array.toList_append, List.append_assoc]
        rw [List.take_append_of_le_length (by simp only [List.length_take, hxl]; omega), List.take_of_length_le (by simp only [List.length_take, hxl]; omega)]
      have hl1 : (xs.take (i * sz)).length = i * sz := by rw [List.length_take, hxl]; omega
      have hT : c1.toList.take ((i + 1) * sz) = xs.take (i * sz) ++ vs := by
        rw [hc1, hR, ← List.append_assoc, List.take_append_of_le_length (by simp only [List.length_append, hl1]; omega), List.take_of_length_le (by simp only [List.length_append, hl1]; omega)]
      rw [hc2, hT, ← List.append_assoc, List.take_append_of_le_length (by simp only [List.length_append, hl1, hvl, hdl, Nat.sub_mul]; omega), List.take_of_length_le (by simp only [List.length_append, hl1, hvl, hdl, Nat.sub_mul]; omega)]
  rw [← hxs]
  obtain ⟨_, _, FG⟩ := L.f22
  clear hkk hik hold hROW hG hRs hblk hkeep hW1c hN hNf hcell hdl e1 e2 his hxl
  go_enter FG, Body2.n22_ntmps ρ
  go_wp2_with (first
    | (at_builtin; refine Lib.wpList_append_run _ rfl _ _ _ _ rfl _ _ rfl rfl _ _ (hrz _) ?_)
    | (at_builtin; refine wpList_copy_runI _ rfl _ _ (ρ.t 24) (ρ.t 24) rfl _ _ rfl rfl (hcpA _ hE1 hE2 _ _) ?_)
    | (at_builtin; refine wpList_copy_runI _ rfl _ _ (ρ.t 24) (ρ.t 24) rfl _ _ rfl rfl (hcpB _ (fun _ => rfl) (fun _ => rfl) _ _ _) ?_))
  go_region_law_o (refine step_copy_runI rfl _ _ (ρ.t 24) (ρ.t 24) rfl (.slice (some ⟨w.heap.size, (i + 1) * sz, none⟩) (n - i) (G - (i + 1))) (.slice (some ⟨g, i * sz, none⟩) (n - i) (n - i)) (by simp [Act.eval, Act.put]) (by simp [Act.eval, Act.put]) (hcpB _ hF1 hF2 (ρ.t 3) (G - (i + 1)) (n - i)) ?_)
  go_wp2
  go_ret
  refine ⟨G, rfl, hGn, hGm, ?_⟩
  rw [← hxs]
  exact hfin.out
/- THE CONTRACT: the row is given up; the result is a row: what stood ahead of i, the element, what stood from i on -/
theorem put_con (L : PutL P ρ sz byt z) (hsz : P.cellsOf (ρ.t 9) = sz) {n i r vc : Nat} {A : Option Addr} {xs vs : List Value} {H : Heap} (hi : i ≤ n) (hn : (n + 1) * byt ≤ 140737488355328) (hvl : vs.length = sz) (hv : Cells H A 0 vs) (hvn : 1 ≤ vc) :
    ConM P (ρ.f 22) [.slice none 0 0, .int .i64 i, .slice A 1 vc] 0 (ρ.t 9) n xs false H ⟨false, [(false, [.row r (ρ.t 9)])]⟩ (fun _ m zs _ => m = n + 1 ∧ zs = xs.take (i * sz) ++ vs ++ xs.drop (i * sz)) := by
  refine ⟨FnOK.of_bears L.f22 rfl, fun w B s hs hB hr => ?_⟩
  obtain ⟨hown, hx1, hfree⟩ := hr
  simp only at hown hx1 hfree
  have hown0 := hown
  obtain ⟨hxl, hcase⟩ := hown
  rw [hsz] at hxl hcase
  have hpos := L.pos
  have hbpos := L.bpos
  have hn1 : n + 1 ≤ (n + 1) * byt := Nat.le_mul_of_pos_right _ hbpos
  obtain ⟨vb, vo, rfl, hcell⟩ : ∃ b o, A = some ⟨b, o, none⟩ ∧ ∀ t v, vs[t]? = some v → H b (o + 0 + t) = some v ∧ v.oneCell' = true := by
    rcases hv with h | h
    · rw [h] at hvl; simp at hvl; omega
    · exact h
  have hvs : ∀ j v, vs[j]? = some v → w.cell? ⟨vb, vo + j, none⟩ = some v := fun j v hj => by
    have := (hcell j v hj)
    exact (hs _ _ _ this.1).cell this.2
  have h1v : ∀ v ∈ vs, v.oneCell' = true := fun v hv => by
    obtain ⟨j, hj, e⟩ := List.getElem_of_mem hv
    exact (hcell j v (by rw [List.getElem?_eq_getElem hj, e])).2
  have hv0 := hvs 0 _ (List.getElem?_eq_getElem (by omega))
  have hH0 := (hcell 0 _ (List.getElem?_eq_getElem (by omega))).1
  obtain ⟨tA, kA, hsa, hkA⟩ : ∃ tA kA, w.shape? vb = some (tA, kA) ∧ kA ≠ 0 := by
    rw [World.cell?] at hv0
    cases hb : w.heap[vb]? with
    | none => rw [hb] at hv0; simp at hv0
    | some ob =>
      rw [hb] at hv0
      cases ob with
      | cells cs t fz =>
        refine ⟨t, cs.size, by simp [World.shape?, hb], ?_⟩
        intro h0
        simp [Array.size_eq_zero_iff.1 h0] at hv0
      | _ => simp at hv0
  have fin : ∀ (w' : World) (v : Value), GrowsX w w' H H s.ownBlock → RowX P w' B H ⟨v, ρ.t 9, n + 1, xs.take (i * sz) ++ vs ++ xs.drop (i * sz)⟩ → (∀ g, v.ownBlock = some g → w.heap.size ≤ g ∨ s.ownBlock = some g) →
      ∃ v' H' nr ys, Ending.returned v = .returned v' ∧ Fits ⟨false, [(false, [.row r (ρ.t 9)])]⟩ ((fun _ m zs _ => m = n + 1 ∧ zs = xs.take (i * sz) ++ vs ++ xs.drop (i * sz) : List Value → PostR [(false, [.row r (ρ.t 9)])] (Heap → Prop)) ys) v' H' nr ∧
        GrowsX w w' H H' s.ownBlock ∧ (false = true → RowX P w' B H' ⟨s, ρ.t 9, n, ys⟩) ∧
        (∀ r ∈ nr, RowX P w' B H' r ∧ ∀ g, r.s.ownBlock = some g → w.heap.size ≤ g ∨ (false = false ∧ s.ownBlock = some g)) ∧ apartRows nr := by
    intro w' v hg hv hb
    refine ⟨v, H, [⟨v, ρ.t 9, n + 1, xs.take (i * sz) ++ vs ++ xs.drop (i * sz)⟩], [], rfl, ?_, hg, by simp, ?_, ?_⟩
    · exact ⟨_, _, rfl, rfl, v, rfl, rfl, rfl, rfl, rfl⟩
    · intro r hr
      rw [List.mem_singleton] at hr
      subst hr
      exact ⟨hv, fun g h => (hb g h).imp id fun h => ⟨rfl, h⟩⟩
    · exact List.pairwise_singleton _ _
  have hone : ∀ x ∈ xs.take (i * sz) ++ vs ++ xs.drop (i * sz), x.oneCell' = true := by
    intro x hx
    rw [List.append_assoc] at hx
    rcases List.mem_append.1 hx with hx | hx
    · exact hx1 x (List.mem_of_mem_take hx)
    · rcases List.mem_append.1 hx with hx | hx
      · exact h1v x hx
      · exact hx1 x (List.mem_of_mem_drop hx)
  have hnew : ∀ g, w.heap.size ≤ g → ∀ o, H g o = none := fun g hg o => by
    cases h : H g o with
    | none => rfl
    | some v =>
      have := (hs g o v h).lt
      omega
  have snapK : ∀ (w' : World) (o : Option Nat), (∀ k, k < w.heap.size → o ≠ some k → w'.heap[k]? = w.heap[k]?) → (∀ g, o = some g → ∀ k, H g k = none) → Snap H w' := by
    intro w' o hk hf b k v hv
    have hsn := hs b k v hv
    refine hsn.keep (hk b hsn.lt fun e => ?_)
    rw [hf b e k] at hv
    cases hv
  rcases Nat.eq_or_lt_of_le hi with heq | hlt
  · subst heq
    obtain ⟨i0, hi0, hz1, hb0, hzz⟩ := L.i9
    have hxi : xs.take (i * sz) ++ vs ++ xs.drop (i * sz) = xs ++ vs := by
      rw [List.take_of_length_le (by omega), List.drop_of_length_le (by omega), List.append_nil]
    have hrun := fun ty => run_append_own_at (P := P) w B (ρ.t 24) ty (ρ.t 9) i0 z sz byt L.t24 hi0 hzz hz1 hb0 L.zc hpos s i xs (by rw [← hsz]; exact hown0) ⟨vb, vo, none⟩ 1 vc vs (by rw [hvl, Nat.one_mul]) (fun k u hu => by rw [Addr.add_lit]; exact hvs k u hu) h1v (by simp only [maxLen]; omega) hn hB
    obtain ⟨v', w', r1, r2, r3, r4, r5⟩ := hrun (ρ.t 24)
    rw [← hxi] at r2
    have hty : ∀ ty, (Builtin.append_ #[ρ.t 24, ρ.t 24] ty #[s, .slice (some ⟨vb, vo, none⟩) 1 vc]).run P w = .ok v' w' := fun ty => r1
    have hcall : Calls P (ρ.f 22) #[s, .int .i64 i, .slice (some ⟨vb, vo, none⟩) 1 vc] w fun e1 w1 => e1 = .returned v' ∧ w1 = w' := by
      rcases hcase with ⟨rfl, h0⟩ | ⟨g, cap, cur, rfl, hge, hb, hnc, hcm, hcs, htake⟩
      · subst h0
        exact put_end L none 0 0 vb vo vc w w' v' (Nat.le_refl _) (Nat.zero_le _) (fun _ => ⟨rfl, rfl⟩) (fun _ h => by cases h) hty
      · exact put_end L (some ⟨g, 0, none⟩) i cap vb vo vc w w' v' hnc hcm (fun h => by cases h) (fun a h => by cases h; rfl) hty
    refine hcall.mono ?_
    rintro e w1 ⟨rfl, rfl⟩
    have hblk : ∀ k, k < w.heap.size → s.ownBlock ≠ some k → w1.heap[k]? = w.heap[k]? := fun k hk hne => r3.block k hk (fun e => hne e.symm)
    refine fin _ _ ⟨⟨r3.os, r3.tape, r3.output, r3.size, hblk, run_drawn r1⟩, Heap.le_refl _, fun _ _ _ _ => rfl, snapK _ _ hblk hfree⟩ ⟨by rw [hsz]; exact r2, hone, fun g hg => ?_⟩ (fun g hg => ?_)
    · rcases r5 with h | h
      · exact hfree g (by rw [← h]; exact hg)
      · have e : some g = some w.heap.size := hg.symm.trans h
        cases e
        exact hnew _ (Nat.le_refl _)
    · rcases r5 with h | h
      · exact .inr (by rw [← h]; exact hg)
      · have e : some g = some w.heap.size := hg.symm.trans h
        cases e
        exact .inl (Nat.le_refl _)
  · rcases hcase with ⟨rfl, h0⟩ | ⟨g, cap, cur, rfl, hge, hb, hnc, hcm, hcs, htake⟩
    · omega
    have hvg : vb ≠ g := by
      rintro rfl
      rw [hfree vb rfl] at hH0
      cases hH0
    have his : i * sz ≤ n * sz := Nat.mul_le_mul_right _ hi
    have hlen : (xs.take (i * sz) ++ vs ++ xs.drop (i * sz)).length = (n + 1) * sz := by
      simp only [List.length_append, List.length_take, List.length_drop, hxl, hvl, Nat.add_mul, Nat.one_mul]
      omega
    have hone1 : ∀ x ∈ cur.toList.take (n * sz), x.oneCell' = true := by rw [htake]; exact hx1
    rcases Nat.lt_or_ge n cap with hroom | hroom
    · refine (put_shift L g n cap i vb vo vc kA tA cur (ρ.t 9) vs w hlt hroom hcm hb hcs hone1 hvl hvg hvs h1v hsa hkA).mono ?_
      rintro e w' ⟨rfl, cur', hS, hc's, hc't⟩
      rw [htake] at hc't
      have hblk : ∀ k, k < w.heap.size → (some g : Option Nat) ≠ some k → w'.heap[k]? = w.heap[k]? := fun k hk hne => hS.block k fun h => hne (by rw [h])
      exact fin _ _ ⟨⟨hS.os, hS.tape, hS.output, by rw [hS.size]; exact Nat.le_refl _, hblk, hS.drawn⟩, Heap.le_refl _, fun _ _ _ _ => rfl, snapK _ (some g) hblk hfree⟩
        ⟨⟨by rw [hsz]; exact hlen, .inr ⟨g, cap, cur', rfl, hge, hS.here, hroom, hcm, by rw [hsz]; exact hc's, by rw [hsz]; exact hc't⟩⟩, hone, hfree⟩ (fun g h => .inr h)
    · refine (put_grow L g n cap i vb vo vc cur (ρ.t 9) vs w hlt (by omega) hn hb hcs hone1 hvl hvs h1v).mono ?_
      rintro e w' ⟨G, rfl, hGn, hGm, hbel, hgt, hdr, cur', hh, hc's, hc't⟩
      rw [htake] at hc't
      have hblk : ∀ k, k < w.heap.size → (some g : Option Nat) ≠ some k → w'.heap[k]? = w.heap[k]? := fun k hk _ => hbel.block k hk
      exact fin _ _ ⟨⟨hbel.os, hbel.tape, hbel.output, Nat.le_of_lt hgt, hblk, hdr⟩, Heap.le_refl _, fun _ _ _ _ => rfl, snapK _ (some g) hblk hfree⟩
        ⟨⟨by rw [hsz]; exact hlen, .inr ⟨w.heap.size, G, cur', rfl, hB, hh, hGn, hGm, by rw [hsz]; exact hc's, by rw [hsz]; exact hc't⟩⟩, hone, fun g' hg' => by
          have e : some w.heap.size = some g' := hg'
          cases e
          exact hnew _ (Nat.le_refl _)⟩ (fun g' hg' => by
          have e : some w.heap.size = some g' := hg'
          cases e
          exact .inl (Nat.le_refl _))
end
end Go.Vc

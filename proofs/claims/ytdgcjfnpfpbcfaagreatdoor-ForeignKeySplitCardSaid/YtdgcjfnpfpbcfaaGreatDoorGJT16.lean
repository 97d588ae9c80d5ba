/- slices.Sorted(slices.Values(l)) at ints: a new slice with the same elements in ascending order; what lay before stays. -/
import Derived.Test.YtdgcjfnpfpbcfaaGreatDoorGJT13
import Derived.RangeFuncBox
import Derived.RangeFuncLeaves
import Derived.RangeFuncBound
import Derived.RangeFuncKeeps
import Derived.Maps.AppendAt
import Derived.Shelf.Abstract
import Derived.WalkKit
import Derived.OwnWalkIn
import Derived.TacticsInMore
import Derived.LoopNIn
import Derived.LoopIn
set_option linter.unusedSectionVars false
set_option linter.unusedSimpArgs false
set_option linter.unusedVariables false
namespace Go.Vc
open Go Go.Proofs Go.Shelf Go.RowKit Go.Sort
attribute [local go_sem] Oper.semAt_some
abbrev TI : TypeId := 3
abbrev TS : TypeId := 23
theorem app_in {F : Fence} {n : Nat} {P : Program} (w : World) {ops : Array Oper} {rest : List Oper} {o : Oper} {a : Act} {Q : Exit → Act → World → Prop}
    (hg : o.guard = none) (s x : Operand) (t : TypeId) (hop : o.op = Op.call { callee := Callee.builtin Builtin.append, args := #[s, x], argTypes := #[t, t] })
    (base : Nat) (e : TypeId) (i : TypeInfo) (z : Value) (size bytes : Nat) (h1 : P.underlying t = some (.slice e)) (h2 : P.info? e = some i) (h3 : i.zero = some z) (h4 : i.size = size) (h5 : i.bytes = bytes) (h6 : z.cells.size = size) (h7 : 0 < size)
    (v : Value) (k : Nat) (xs : List Value) (hs : a.eval s = v) (hown : w.ownsRow base e size v k xs) (ad : Addr) (m c : Nat) (news : List Value) (hx : a.eval x = .slice (some ad) m c) (hn : news.length = m * size)
    (hc : ∀ j u, news[j]? = some u → w.cell? (ad.add j) = some u) (h1c : ∀ u ∈ news, u.oneCell' = true) (b1 : k + m ≤ maxLen) (b2 : (k + m) * bytes ≤ 140737488355328) (b3 : base ≤ w.heap.size)
    (hK : ∀ v' w', w'.ownsRow base e size v' (k + m) (xs ++ news) → w.grownBy w' v.ownBlock → w.drawn ≤ w'.drawn → wpListIn F n P ops Q rest (a.put o.dst v') w') :
    wpListIn F n P ops Q (o :: rest) a w := by
  refine wpListIn_plain hg fun K hK' => ?_
  obtain ⟨v', w', hrun, r1, r2, r3⟩ := run_append_own (P := P) w base t o.type e i z size bytes h1 h2 h3 h4 h5 h6 h7 v k xs hown ad m c news hn hc h1c b1 b2 b3
  have hd := run_drawn hrun
  unfold Oper.wpIn
  refine ⟨?_, ?_⟩
  · simp [Oper.about, hop, resolve, Target.leads, Sem.run_pure]
  · rw [Oper.semAt_plain F _ _ (by rw [hop]; intro c hc'; cases hc')]
    simp [execOp, hop, resolve, invoke, builtin, hs, hx, hrun, Result.andThen]
    exact hK' _ _ (hK v' w' r1 r2 hd)
set_option maxRecDepth 100000 in
set_option maxHeartbeats 2000000 in
theorem values1 (n : Nat) (hn : 1 ≤ n) (l Bs n₀ b off cap : Nat) (zs : List Int) (hreach : zs.length * 8 ≤ 140737488351232) (hb : b < n₀) (J : List Int → World → Prop)
    (hY : ∀ pre x W, J pre W → pre.length < zs.length → YieldAt Fence.wide (n - 1) Tryz.prog l #[.int .i64 x] W fun e W' => e = .returned (.bool true) ∧ J (pre ++ [x]) W' ∧ Below n₀ W W')
    (W : World) (hBs : W.cell? ⟨Bs, 0, none⟩ = some (.slice (some ⟨b, off, none⟩) zs.length cap)) (hc : ∀ j, j < zs.length → W.cell? ⟨b, off + j, none⟩ = some (.int .i64 (zs[j]?.getD 0))) (h0 : J [] W) :
    CallsIn Fence.wide n Tryz.prog 80 #[.func (.yield l) #[] #[], .pointer (some ⟨Bs, 0, none⟩)] W fun e W' => (∃ v, e = .returned v) ∧ J zs W' := by
  have hro : Fence.wide.round = none := rfl
  refine callsIn_of_wp Tryz.func80 rfl trivial ?_ hro
  simp only [Tryz.ntmps80, List.size_toArray, List.length_cons, List.length_nil, Nat.reduceAdd, Nat.reduceSub, Array.replicate_succ, Array.replicate_zero, List.push_toArray, List.append_toArray, List.nil_append, List.cons_append]
  obtain ⟨len, hlen⟩ : ∃ len, len = zs.length := ⟨_, rfl⟩
  rw [← hlen] at hreach hBs
  gi_wp2
  gi_loopw [7] (fun i wr => ∃ k : Nat, k ≤ len ∧ i = .int .i64 k ∧ J (zs.take k) wr ∧ Below n₀ W wr)
    (fun i _ => len - (Proofs.intOf i).toNat)
  case atStart => exact ⟨0, Nat.zero_le _, rfl, h0, Below.refl _ _⟩
  case round =>
    obtain ⟨k, hk, rfl, hJs, hnx⟩ := hrel
    have hcx : k < len → wr.cell? ⟨b, off + k, none⟩ = some (.int .i64 (zs[k]?.getD 0)) := fun h => (hnx.cell (p := ⟨b, off + k, none⟩) hb).trans (hc k (by omega))
    by_cases hlt : k < len
    · have hk' : k < zs.length := by omega
      obtain ⟨fn, tmps, assign, body, hy, hR⟩ := hY _ (zs[k]'hk') wr hJs (by rw [List.length_take]; omega)
      have hcx' : wr.cell? ⟨b, off + k, none⟩ = some (.int .i64 (zs[k]'hk')) := by rw [hcx hlt, List.getElem?_eq_getElem hk']; rfl
      clear hcx
      gi_wp2
      refine hR.mono ?_
      rintro e W3 ⟨rfl, hJ3, hk3⟩
      gi_wp2
      go_roundw
      case rel =>
        refine ⟨k + 1, by omega, by simp, ?_, hnx.trans hk3⟩
        rw [List.take_succ_eq_append_getElem hk']
        exact hJ3
      case measure => simp [Proofs.intOf]; omega
    · obtain rfl : k = len := by omega
      gi_wp2
      go_end0
      refine ⟨⟨_, rfl⟩, ?_⟩
      rwa [hlen, List.take_length] at hJs
set_option maxRecDepth 100000 in
set_option maxHeartbeats 1000000 in
theorem values1_none (n : Nat) (l Bs cap : Nat) (p : Option Addr) (J : List Int → World → Prop) (W : World) (hBs : W.cell? ⟨Bs, 0, none⟩ = some (.slice p 0 cap)) (h0 : J [] W) :
    CallsIn Fence.wide n Tryz.prog 80 #[.func (.yield l) #[] #[], .pointer (some ⟨Bs, 0, none⟩)] W fun e W' => (∃ v, e = .returned v) ∧ J [] W' := by
  have hro : Fence.wide.round = none := rfl
  refine callsIn_of_wp Tryz.func80 rfl trivial ?_ hro
  simp only [Tryz.ntmps80, List.size_toArray, List.length_cons, List.length_nil, Nat.reduceAdd, Nat.reduceSub, Array.replicate_succ, Array.replicate_zero, List.push_toArray, List.append_toArray, List.nil_append, List.cons_append]
  gi_wp2
  gi_loopw [7] (fun i wr => i = .int .i64 0 ∧ J [] wr) (fun _ _ => 0)
  case atStart => exact ⟨rfl, h0⟩
  case round =>
    obtain ⟨rfl, hJs⟩ := hrel
    gi_wp2
    go_end0
    exact ⟨⟨_, rfl⟩, hJs⟩
set_option maxHeartbeats 1000000 in
theorem values_call (a : Option Addr) (len cap : Nat) (w : World) :
    Calls Tryz.prog 49 #[.slice a len cap] w fun e w' => e = .returned (.func (.func 80) #[] #[.pointer (some ⟨w.heap.size, 0, none⟩)]) ∧ w' = w.alloc (.cells #[.slice a len cap] TS) := by
  go_enter Tryz.func49, Tryz.ntmps49
  go_wp2
  go_ret
  exact ⟨rfl, rfl⟩
def apAssign : Code := (Code.region 2 #[{ dst := some 5, op := Op.assign (Operand.tmp 7), type := TI, pos := "iter.go:51", after := #[], guard := none }] false)
def apBody : Code := (Code.block 1 (Code.region 3 #[{ dst := some 8, op := Op.load TS (Operand.tmp 2), type := TS, pos := "iter.go:52", after := #[], guard := none }, { dst := some 9, op := Op.move (Operand.tmp 5), type := TI, pos := "iter.go:52", after := #[], guard := none },
  { dst := some 10, op := Op.buildSlice TS 1 #[(0, Operand.tmp 9)], type := TS, pos := "iter.go:52", after := #[{ on := 1, ground := Ground.data }], guard := none },
  { dst := some 11, op := Op.call { callee := Callee.builtin Builtin.append, args := #[Operand.tmp 8, Operand.tmp 10], argTypes := #[TS, TS] }, type := TS, pos := "iter.go:52", after := #[{ on := 0, ground := Ground.data }, { on := 2, ground := Ground.data }], guard := none },
  { dst := none, op := Op.store TS (Operand.tmp 2) (Operand.tmp 11), type := 0, pos := "iter.go:52", after := #[{ on := 3, ground := Ground.data }, { on := 3, ground := Ground.chain }, { on := 0, ground := Ground.phase }, { on := 1, ground := Ground.phase }, { on := 2, ground := Ground.phase }, { on := 3, ground := Ground.phase }], guard := none }] false))
def apRec (fn : FuncId) (sv : Value) (Bs D : Nat) (st : LoopState) (pend : Option Code) : Loop :=
  { state := st, pending := pend, fn, tmps := #[.slice none 0 0, sv, .pointer (some ⟨Bs, 0, none⟩), undef, .slice none 0 0, undef, sv, undef, undef, undef, undef, undef, undef], params := #[7], assign := apAssign, body := apBody, defers := D }
abbrev eI : Int → Value := Value.int .i64
/- between two rounds: the box holds a slice that owns what has come so far; nothing that lay before the call has turned; no draw is taken back -/
structure ApAt (w0 : World) (fn : FuncId) (sv : Value) (Bs l D : Nat) (ss : List Int) (W : World) : Prop where
  box : ∃ v, W.heap[Bs]? = some (.cells #[v] TS (0, 0)) ∧ W.ownsRow w0.heap.size TI 1 v ss.length (ss.map eI)
  L : W.heap[l]? = some (.loop (apRec fn sv Bs D .ready none))
  K : W.heap[D]? = some (.deferred (some []))
  below : Below w0.heap.size w0 W
  dr : w0.drawn ≤ W.drawn
theorem grB_put (W : World) (l : Nat) (o : Obj) : W.grownBy (W.putObj l o) (some l) :=
  ⟨rfl, rfl, rfl, by simp, fun k _ hk => World.putObj_heap_other (fun e => hk (by rw [e]))⟩
theorem grB_set (W : World) (b : Nat) (v : Value) : W.grownBy (W.setCell ⟨b, 0, none⟩ v) (some b) :=
  ⟨rfl, rfl, rfl, (KeepsWalks.setCell W _ v).size, fun k _ hk => Below.heap_setCell _ _ _ k (fun e => hk (by rw [e]))⟩
theorem own_ne {W : World} {base : Nat} {e : TypeId} {size : Nat} {v : Value} {k : Nat} {xs : List Value} (h : W.ownsRow base e size v k xs) {j : Nat} {o : Obj} (hj : W.heap[j]? = some o) (hno : ∀ cur, o ≠ .cells cur e (0, 0)) :
    v.ownBlock = none ∨ v.ownBlock ≠ some j := by
  rcases h.2 with ⟨rfl, _⟩ | ⟨g, cap, cur, rfl, _, hgb, _⟩
  · exact .inl rfl
  · refine .inr fun e' => ?_
    have : g = j := by simpa [Value.ownBlock] using e'
    subst this; rw [hgb] at hj; cases hj; exact hno cur rfl
theorem box_cell {W : World} {B : Nat} {v : Value} {t : TypeId} (h : W.heap[B]? = some (.cells #[v] t (0, 0))) : W.cell? ⟨B, 0, none⟩ = some v ∧ W.frozen? ⟨B, 0, none⟩ = false := by
  constructor <;> simp [World.cell?, World.frozen?, h]
theorem box_set {W : World} {B : Nat} {v : Value} {t : TypeId} (v' : Value) (h : W.heap[B]? = some (.cells #[v] t (0, 0))) : (W.setCell ⟨B, 0, none⟩ v').heap[B]? = some (.cells #[v'] t (0, 0)) := by
  obtain ⟨hlt, hk⟩ := Array.getElem?_eq_some_iff.1 h
  show (W.heap.modify B _)[B]? = _
  rw [Array.getElem?_eq_getElem (by rw [Array.size_modify]; exact hlt), Array.getElem_modify_self, hk]
  rfl
theorem int_info : (Tryz.prog.info? TI).map (fun i => (i.zero, i.size, i.bytes)) = some (some (.int .i64 0), 1, 8) := by kernel_rfl
theorem TI_ne : ∀ {cs : Array Value} {z : Nat × Nat} {cur : Array Value} {z' : Nat × Nat}, Obj.cells cs TS z ≠ .cells cur TI z' := fun e => absurd (Obj.cells.inj e).2.1 (by decide)
set_option maxRecDepth 100000 in
set_option maxHeartbeats 2000000 in
theorem apYield (m : Nat) (w0 : World) (fn : FuncId) (sv : Value) (Bs l D : Nat) (hBl : Bs ≠ l) (hDl : D ≠ l) (hDB : D ≠ Bs) (h0B : w0.heap.size ≤ Bs) (h0l : w0.heap.size ≤ l)
    (N : Nat) (hN : N ≤ maxLen) (hNb : N * 8 ≤ 140737488355328) (ss : List Int) (x : Int) (W : World) (h : ApAt w0 fn sv Bs l D ss W) (hlen : ss.length < N) :
    YieldAt Fence.wide m Tryz.prog l #[eI x] W fun e W' => e = .returned (.bool true) ∧ ApAt w0 fn sv Bs l D (ss ++ [x]) W' ∧ Below w0.heap.size W W' := by
  obtain ⟨i0, hi, hz0, hz1, hz2⟩ := info_parts int_info
  obtain ⟨v, hv, hrow⟩ := h.box
  refine ⟨fn, #[.slice none 0 0, sv, .pointer (some ⟨Bs, 0, none⟩), undef, .slice none 0 0, undef, sv, eI x, undef, undef, undef, undef, undef], apAssign, apBody, by simpa [apRec] using run_yield (P := Tryz.prog) (args := #[eI x]) h.L rfl, roundIn_of_wpIn trivial ?_⟩
  have hl : l < W.heap.size := (Array.getElem?_eq_some_iff.1 h.L).1
  have hbr := run_beginRound (P := Tryz.prog) h.L rfl
  obtain ⟨W2, hW2⟩ : ∃ W2, W.putObj l (.loop { apRec fn sv Bs D .ready none with state := .busy }) = W2 := ⟨_, rfl⟩
  rw [hW2] at hbr
  have hg2 : W.grownBy W2 (some l) := by rw [← hW2]; exact grB_put _ _ _
  have hd2 : W.drawn ≤ W2.drawn := by rw [← hW2]; exact Nat.le_refl _
  have hv2 : W2.heap[Bs]? = some (.cells #[v] TS (0, 0)) := by rw [← hW2]; exact (World.putObj_heap_other hBl).trans hv
  have hK2 : W2.heap[D]? = some (.deferred (some [])) := by rw [← hW2]; exact (World.putObj_heap_other hDl).trans h.K
  have hL2 : W2.heap[l]? = some (.loop { apRec fn sv Bs D .ready none with state := .busy }) := by rw [← hW2]; exact World.putObj_heap_same hl
  have hrow2 : W2.ownsRow w0.heap.size TI 1 v ss.length (ss.map eI) := hrow.kept hg2 (own_ne hrow h.L (fun cur e => by cases e))
  have hb2 : Below w0.heap.size w0 W2 := h.below.grown hg2 h.below.size (fun k e => by cases e; exact h0l)
  have hz2' : Below w0.heap.size W W2 := (Below.refl _ W).grown hg2 h.below.size (fun k e => by cases e; exact h0l)
  obtain ⟨hc2, hf2⟩ := box_cell hv2
  have hBlt : Bs < W2.heap.size := (Array.getElem?_eq_some_iff.1 hv2).1
  have hl2 : l < W2.heap.size := (Array.getElem?_eq_some_iff.1 hL2).1
  have hDlt : D < W2.heap.size := (Array.getElem?_eq_some_iff.1 hK2).1
  have ne_of : ∀ {j : Nat} {o : Obj}, W2.heap[j]? = some o → (∀ cur, o ≠ .cells cur TI (0, 0)) → some j ≠ v.ownBlock := fun hj hno => by
    rcases own_ne hrow2 hj hno with e | e
    · rw [e]; simp
    · exact fun e' => e e'.symm
  have hsz2 : w0.heap.size ≤ W2.heap.size := hb2.size
  clear hW2
  unfold apAssign
  gi_wp2
  unfold apBody
  gi_wp2_with (
    gi_at_builtin
    refine app_in _ rfl _ _ TS rfl w0.heap.size TI i0 (.int .i64 0) 1 8 Tryz.underlying23 hi hz0 hz1 hz2 rfl (by decide) _ _ _ rfl (hrow2.alloc _) ⟨W2.heap.size, 0, none⟩ 1 1 [eI x] rfl rfl (cell_one_new _ _ _) (by simp [Value.oneCell']) (by omega) (by omega) (by simp; omega) ?_
    intro v' w3 hown' hg3 hd3
    have hv3 : w3.heap[Bs]? = some (.cells #[v] TS (0, 0)) := (hg3.block Bs (by simp; omega) (ne_of hv2 (fun cur => TI_ne))).trans ((Below.heap_alloc _ _ Bs hBlt).trans hv2)
    obtain ⟨hc3, hf3⟩ := box_cell hv3
    obtain ⟨g', cap', cur', rfl, hbase', hgb', hr1, hr2, hr3, hr4⟩ : ∃ g' cap' cur', v' = .slice (some ⟨g', 0, none⟩) (ss.length + 1) cap' ∧ w0.heap.size ≤ g' ∧ w3.heap[g']? = some (.cells cur' TI (0, 0)) ∧ ss.length + 1 ≤ cap' ∧ cap' ≤ maxLen ∧ cur'.size = cap' * 1 ∧ cur'.toList.take ((ss.length + 1) * 1) = ss.map eI ++ [eI x] := by
      rcases hown'.2 with ⟨_, h0⟩ | h'
      · exact absurd h0 (by omega)
      · exact h'
    simp only [Act.put, List.setIfInBounds_toArray, List.set_cons_succ, List.set_cons_zero])
  have hg3' : (W2.alloc (.cells #[eI x] TI)).grownBy w3 v.ownBlock := hg3
  have hd3' : W2.drawn ≤ w3.drawn := hd3
  have hL3 : w3.heap[l]? = some (.loop { apRec fn sv Bs D .ready none with state := .busy }) := (hg3'.block l (by simp; omega) (ne_of hL2 (fun cur e => by cases e))).trans ((Below.heap_alloc _ _ l hl2).trans hL2)
  have hK3 : w3.heap[D]? = some (.deferred (some [])) := (hg3'.block D (by simp; omega) (ne_of hK2 (fun cur e => by cases e))).trans ((Below.heap_alloc _ _ D hDlt).trans hK2)
  obtain ⟨w4, hw4⟩ : ∃ w4, w3.setCell ⟨Bs, 0, none⟩ (.slice (some ⟨g', 0, none⟩) (ss.length + 1) cap') = w4 := ⟨_, rfl⟩
  rw [hw4]
  have hg4 : w3.grownBy w4 (some Bs) := by rw [← hw4]; exact grB_set _ _ _
  have hd4 : w3.drawn ≤ w4.drawn := by rw [← hw4]; exact Nat.le_refl _
  have hv4 : w4.heap[Bs]? = some (.cells #[.slice (some ⟨g', 0, none⟩) (ss.length + 1) cap'] TS (0, 0)) := by rw [← hw4]; exact box_set _ hv3
  have hL4 : w4.heap[l]? = some (.loop { apRec fn sv Bs D .ready none with state := .busy }) := (hg4.block l (Array.getElem?_eq_some_iff.1 hL3).1 (fun e => hBl (by cases e; rfl))).trans hL3
  have hK4 : w4.heap[D]? = some (.deferred (some [])) := (hg4.block D (Array.getElem?_eq_some_iff.1 hK3).1 (fun e => hDB (by cases e; rfl))).trans hK3
  have hrow4 := hown'.kept hg4 (own_ne hown' hv3 (fun cur => TI_ne))
  have hl4 : l < w4.heap.size := (Array.getElem?_eq_some_iff.1 hL4).1
  have step : ∀ {A : World}, Below w0.heap.size A W2 → w0.heap.size ≤ A.heap.size → Below w0.heap.size A w4 := fun hA hs =>
    ((hA.alloc hsz2 _).grown hg3' (by simp; omega) (fun k e => (hrow2.lt k e).1)).grown hg4 (by have := hg3'.size; simp at this; omega) (fun k e => by cases e; exact h0B)
  have hb4 := step hb2 (Nat.le_refl _)
  have hz4 := step hz2' h.below.size
  have hs4 : w0.heap.size ≤ w4.heap.size := hb4.size
  clear hw4
  refine ⟨_, _, run_endRound none hL4, rfl, ⟨⟨_, (World.putObj_heap_other hBl).trans hv4, ?_⟩, World.putObj_heap_same hl4, (World.putObj_heap_other hDl).trans hK4, hb4.grown (grB_put _ _ _) hs4 (fun k e => by cases e; exact h0l), ?_⟩, hz4.grown (grB_put _ _ _) hs4 (fun k e => by cases e; exact h0l)⟩
  · have := hrow4.kept (grB_put w4 l (.loop { { apRec fn sv Bs D .ready none with state := .busy } with state := if (none : Option Code).isNone then .ready else .done, pending := none })) (own_ne hrow4 hL4 (fun cur e => by cases e))
    simpa using this
  · exact Nat.le_trans h.dr (Nat.le_trans hd2 (Nat.le_trans hd3' hd4))
/- the iterator: it gives zs, whatever the rounds keep -/
def Gives (n : Nat) (g : Nat) (lb : Array Value) (zs : List Int) (w : World) : Prop :=
  ∀ (l n₀ : Nat) (J : List Int → World → Prop) (W : World), Below w.heap.size w W → w.heap.size ≤ n₀ →
    (∀ pre x W, J pre W → pre.length < zs.length → YieldAt Fence.wide (n - 1) Tryz.prog l #[.int .i64 x] W fun e W' => e = .returned (.bool true) ∧ J (pre ++ [x]) W' ∧ Below n₀ W W') → J [] W →
    CallsIn Fence.wide n Tryz.prog g (#[.func (.yield l) #[] #[]] ++ lb) W fun e W' => (∃ v, e = .returned v) ∧ J zs W'
set_option maxRecDepth 100000 in
set_option maxHeartbeats 2000000 in
theorem appendSeq_in (n : Nat) (hn : 2 ≤ n) (g : Nat) (lb : Array Value) (eg : ∀ args w, (callFunc g args).run Tryz.prog w = .ok (.enter g args) w) (zs : List Int) (hN : zs.length ≤ maxLen) (hNb : zs.length * 8 ≤ 140737488355328) (w : World) (hseq : Gives (n - 1) g lb zs w) :
    CallsIn Fence.wide n Tryz.prog 106 #[.slice none 0 0, .func (.func g) #[] lb] w fun e w' => ∃ v : Value, e = .returned v ∧ w'.ownsRow w.heap.size TI 1 v zs.length (zs.map eI) ∧ Below w.heap.size w w' ∧ w.drawn ≤ w'.drawn := by
  have h1 : 1 ≤ n := by omega
  have hro : Fence.wide.round = none := rfl
  refine callsIn_of_wp_marks Tryz.func106 rfl trivial ?_ hro
  simp only [Tryz.ntmps106, List.size_toArray, List.length_cons, List.length_nil, Nat.reduceAdd, Nat.reduceSub, Array.replicate_succ, Array.replicate_zero, List.push_toArray, List.append_toArray, List.nil_append, List.cons_append]
  gi_wp2
  refine wpIn_rangeFunc ?_
  intro fn hfn
  rw [hro]
  obtain ⟨W0, hW0⟩ : ∃ W0, w.alloc (.cells #[.slice none 0 0] TS) = W0 := ⟨_, rfl⟩
  have hs0 : W0.heap.size = w.heap.size + 1 := by rw [← hW0]; simp
  have hv0 : W0.heap[w.heap.size]? = some (.cells #[.slice none 0 0] TS (0, 0)) := by rw [← hW0]; exact World.alloc_heap_new w _
  have hb0 : Below w.heap.size w W0 := by rw [← hW0]; exact (Below.refl _ w).alloc (Nat.le_refl _) _
  have hd0 : w.drawn ≤ W0.drawn := by rw [← hW0]; exact Nat.le_refl _
  rw [hW0]
  obtain ⟨W1, hW1⟩ : ∃ W1, (W0.alloc (.deferred (some []))).alloc (.loop (apRec fn (.func (.func g) #[] lb) w.heap.size W0.heap.size .ready none)) = W1 := ⟨_, rfl⟩
  have hold : ∀ k, k < W0.heap.size → W1.heap[k]? = W0.heap[k]? := fun k hk => by
    rw [← hW1]; exact (Below.heap_alloc _ _ k (by simp; omega)).trans (Below.heap_alloc _ _ k hk)
  have hb1 : Below w.heap.size w W1 := by rw [← hW1]; exact (hb0.alloc hb0.size _).alloc (by have := hb0.size; simp; omega) _
  have hd1 : w.drawn ≤ W1.drawn := by rw [← hW1]; exact hd0
  have hs1 : W1.heap.size = W0.heap.size + 2 := by rw [← hW1]; simp
  have hM : ApAt w fn (.func (.func g) #[] lb) w.heap.size (W0.heap.size + 1) W0.heap.size [] W1 :=
    ⟨⟨_, (hold w.heap.size (by omega)).trans hv0, ⟨rfl, .inl ⟨rfl, rfl⟩⟩⟩,
     by rw [← hW1]; have := World.alloc_heap_new (W0.alloc (.deferred (some []))) (.loop (apRec fn (.func (.func g) #[] lb) w.heap.size W0.heap.size .ready none)); rwa [World.size_alloc] at this,
     by rw [← hW1]; exact (Below.heap_alloc _ _ _ (by simp)).trans (World.alloc_heap_new W0 _), hb1, hd1⟩
  refine ⟨W0.heap.size + 1, [{ target := .collected W0.heap.size, args := #[] }], W1, { target := .fn (.func g) lb, args := #[.func (.yield (W0.heap.size + 1)) #[] #[]] }, W1, g,
    #[.func (.yield (W0.heap.size + 1)) #[] #[]] ++ lb, W1, ?_, ?_, ?_, ?_, fun _ => h1, ?_⟩
  · rw [← hW1]; exact run_enterLoop_outer _ _ _ _ _
  · simp [resolve, go_sem]
  · intro f' hf'; trivial
  · simp [invoke, go_sem, eg]
  · refine (hseq (W0.heap.size + 1) w.heap.size (ApAt w fn (.func (.func g) #[] lb) w.heap.size (W0.heap.size + 1) W0.heap.size) W1 hb1 (Nat.le_refl _)
      (fun pre x W hJ hl => apYield (n - 1 - 1) w fn _ w.heap.size (W0.heap.size + 1) W0.heap.size (by omega) (by omega) (by omega) (Nat.le_refl _) (by omega) zs.length hN hNb pre x W hJ hl) hM).mono ?_
    rintro e W2 ⟨⟨v0, rfl⟩, h2⟩
    obtain ⟨v, hv, hrow⟩ := h2.box
    have hend := run_endLoop (P := Tryz.prog) h2.L (by simp [apRec])
    obtain ⟨W3, hW3⟩ : ∃ W3, W2.putObj (W0.heap.size + 1) (.loop { apRec fn (.func (.func g) #[] lb) w.heap.size W0.heap.size .ready none with state := .exhausted }) = W3 := ⟨_, rfl⟩
    rw [hW3] at hend
    have hg3 : W2.grownBy W3 (some (W0.heap.size + 1)) := by rw [← hW3]; exact grB_put _ _ _
    have hd3 : W2.drawn ≤ W3.drawn := by rw [← hW3]; exact Nat.le_refl _
    have hv3 : W3.heap[w.heap.size]? = some (.cells #[v] TS (0, 0)) := by rw [← hW3]; exact (World.putObj_heap_other (by omega)).trans hv
    have hK3 : W3.heap[W0.heap.size]? = some (.deferred (some [])) := by rw [← hW3]; exact (World.putObj_heap_other (by omega)).trans h2.K
    have hrow3 := hrow.kept hg3 (own_ne hrow h2.L (fun cur e => by cases e))
    have hb3 : Below w.heap.size w W3 := h2.below.grown hg3 h2.below.size (fun k e => by cases e; omega)
    have hdd : w.drawn ≤ W3.drawn := Nat.le_trans h2.dr hd3
    obtain ⟨hc3, hf3⟩ := box_cell hv3
    clear hW3
    refine ⟨none, W3, hend, ?_⟩
    gi_wp2
    rw [← hs0]
    refine ⟨by simp, .inl ⟨_, _, rfl, run_takeDeferred hK3, ?_⟩⟩
    exact ⟨_, results_tmp rfl _ _ _, v, rfl, hrow3.kept (grB_put _ _ _) (own_ne hrow3 hK3 (fun cur e => by cases e)), hb3.grown (grB_put _ _ _) hb3.size (fun k e => by cases e; omega), hdd⟩
set_option maxRecDepth 100000 in
set_option maxHeartbeats 1000000 in
theorem collect_in (n : Nat) (hn : 3 ≤ n) (g : Nat) (lb : Array Value) (eg : ∀ args w, (callFunc g args).run Tryz.prog w = .ok (.enter g args) w) (zs : List Int) (hN : zs.length ≤ maxLen) (hNb : zs.length * 8 ≤ 140737488355328) (w : World) (hseq : Gives (n - 1 - 1) g lb zs w) :
    CallsIn Fence.wide n Tryz.prog 78 #[.func (.func g) #[] lb] w fun e w' => ∃ v : Value, e = .returned v ∧ w'.ownsRow w.heap.size TI 1 v zs.length (zs.map eI) ∧ Below w.heap.size w w' ∧ w.drawn ≤ w'.drawn := by
  have h1 : 1 ≤ n := by omega
  have hro : Fence.wide.round = none := rfl
  have hc := appendSeq_in (n - 1) (by omega) g lb eg zs hN hNb w hseq
  refine callsIn_of_wp Tryz.func78 rfl trivial ?_ hro
  simp only [Tryz.ntmps78, List.size_toArray, List.length_cons, List.length_nil, Nat.reduceAdd, Nat.reduceSub, Array.replicate_succ, Array.replicate_zero, List.push_toArray, List.append_toArray, List.nil_append, List.cons_append]
  gi_wp2_with (refine ⟨trivial, ?_⟩; gi_at_call 106; refine hc.mono ?_; rintro e w' ⟨v, rfl, hrow, hb, hd⟩)
  go_ret
  exact ⟨v, rfl, hrow, hb, hd⟩
set_option maxRecDepth 100000 in
set_option maxHeartbeats 2000000 in
theorem sorted_in (n : Nat) (hn : 4 ≤ n) (g : Nat) (lb : Array Value) (eg : ∀ args w, (callFunc g args).run Tryz.prog w = .ok (.enter g args) w) (zs : List Int) (hN : zs.length < 4611686018427387904) (hNb : zs.length * 8 ≤ 140737488355328) (w : World) (hseq : Gives (n - 1 - 1 - 1) g lb zs w) :
    CallsIn Fence.wide n Tryz.prog 48 #[.func (.func g) #[] lb] w fun e w' => ∃ v : Value, e = .returned v ∧ w'.ownsRow w.heap.size TI 1 v zs.length ((zs.mergeSort fun x y => decide (x ≤ y)).map eI) ∧ Below w.heap.size w w' ∧ w.drawn ≤ w'.drawn := by
  have h1 : 1 ≤ n := by omega
  have hro : Fence.wide.round = none := rfl
  have hc := collect_in (n - 1) (by omega) g lb eg zs (by unfold maxLen; omega) hNb w hseq
  refine callsIn_of_wp Tryz.func48 rfl trivial ?_ hro
  simp only [Tryz.ntmps48, List.size_toArray, List.length_cons, List.length_nil, Nat.reduceAdd, Nat.reduceSub, Array.replicate_succ, Array.replicate_zero, List.push_toArray, List.append_toArray, List.nil_append, List.cons_append]
  gi_wp2_with (refine ⟨trivial, ?_⟩; gi_at_call 78; refine hc.mono ?_; rintro e W ⟨v, rfl, hrow, hb, hd⟩)
  rcases hrow.2 with ⟨rfl, hz⟩ | ⟨gb, cap, cur, rfl, hbase, hgb, r1, r2, r3, r4⟩
  · obtain rfl : zs = [] := List.eq_nil_of_length_eq_zero hz
    have hs := callsIn_wide (n := n - 1).2 (Any.slices_Sort_int_none srtIL none 0 W)
    gi_wp2_with (refine ⟨trivial, ?_⟩; gi_at_call 79; refine hs.mono ?_; rintro e w' ⟨rfl, rfl⟩)
    go_ret
    exact ⟨_, rfl, by simpa using hrow, hb, hd⟩
  · simp only [Nat.mul_one] at r3 r4
    have hH : Holds (Value.int .i64) W gb 0 zs.toArray := row_holds (c := cap) hgb rfl r4
    have hgl : gb < W.heap.size := (Array.getElem?_eq_some_iff.1 hgb).1
    have hs := callsIn_wide (n := n - 1).2 (Any.slices_Sort_int srtIL gb 0 cap zs W hH hgl hN)
    gi_wp2_with (refine ⟨trivial, ?_⟩; gi_at_call 79; refine hs.mono ?_; rintro e w' ⟨rfl, m, os, rfl⟩)
    go_ret
    rw [putRow_int]
    have hsl : (zs.mergeSort fun x y => decide (x ≤ y)).length = zs.length := List.length_mergeSort _
    have hsz : ((zs.mergeSort fun x y => decide (x ≤ y)).map (Value.int .i64)).toArray.size = zs.length := by simp [hsl]
    obtain ⟨cur', k1, k2, k3, k4, k5⟩ := sorted_world (n := m) (F := ((zs.mergeSort fun x y => decide (x ≤ y)).map (Value.int .i64)).toArray) (os := os) hgb (by rw [hsz, r3]; exact r1)
    refine ⟨_, rfl, ⟨by simp [hsl], .inr ⟨gb, cap, cur', rfl, hbase, k1, r1, r2, by rw [k2, r3, Nat.mul_one], ?_⟩⟩, ⟨hb.os, hb.tape, hb.output, Nat.le_trans hb.size k5, fun k hk => (k4 k (Nat.lt_of_lt_of_le hk hb.size) (fun e => by omega)).trans (hb.block k hk)⟩, Nat.le_trans hd (Nat.le_add_right _ _)⟩
    rw [Nat.mul_one, ← hsz, k3]
theorem gives_values (n : Nat) (hn : 1 ≤ n) (w : World) (Bs : Nat) (A : Option Addr) (c : Nat) (zs : List Int) (hreach : zs.length * 8 ≤ 140737488351232) (hB : Bs < w.heap.size) (hBs : w.cell? ⟨Bs, 0, none⟩ = some (.slice A zs.length c))
    (hz : zs = [] ∨ ∃ b off, A = some ⟨b, off, none⟩ ∧ b < w.heap.size ∧ ∀ j, j < zs.length → w.cell? ⟨b, off + j, none⟩ = some (.int .i64 (zs[j]?.getD 0))) :
    Gives n 80 #[.pointer (some ⟨Bs, 0, none⟩)] zs w := fun l n₀ J W hW hn₀ hY h0 => by
  have hB' := (hW.cell (p := ⟨Bs, 0, none⟩) hB).trans hBs
  rcases hz with rfl | ⟨b, off, rfl, hb, hc⟩
  · exact values1_none n l Bs c A J W hB' h0
  · exact values1 n hn l Bs n₀ b off c zs hreach (by omega) J hY W hB' (fun j hj => (hW.cell (p := ⟨b, off + j, none⟩) hb).trans (hc j hj)) h0
/- a block of a call's own is made public -/
theorem publish {w w' : World} {H : Heap} {b : Nat} {cur : Array Value} {t : TypeId} {fz : Nat × Nat} (ys : List Value) (hs : Snap H w) (hb : Below w.heap.size w w') (hd : w.drawn ≤ w'.drawn) (hbw : w.heap.size ≤ b) (hc : w'.heap[b]? = some (.cells cur t fz))
    (hy : ∀ (o : Nat) (v : Value), ys[o]? = some v → cur[o]? = some v ∧ v.oneCell' = true) : ∃ H', Grows w w' H H' ∧ ∀ (o : Nat) (v : Value), ys[o]? = some v → H' b o = some v := by
  have hne : ∀ {b' o v}, H b' o = some v → b' ≠ b := fun h e => by have := (hs _ _ _ h).lt; omega
  refine ⟨fun b' o => if b' = b then ys[o]? else H b' o, ⟨hb, fun b' o v h => by simp only [if_neg (hne h)]; exact h, fun b' hb' o => if_neg (by omega), fun b' o v h => ?_, hd⟩, fun o v h => by simp only [if_true]; exact h⟩
  by_cases e : b' = b
  · subst e
    simp only [if_true] at h
    obtain ⟨h1, h2⟩ := hy o v h
    exact seen.of (by simp only [World.cell?, hc]; exact h1) h2
  · simp only [if_neg e] at h
    have h1 := hs b' o v h
    exact h1.keep (hb.block b' h1.lt)
def SeqV (H : Heap) (v : Value) (l : List Int) : Prop := ∃ B A c, v = .func (.func 80) #[] #[.pointer (some ⟨B, 0, none⟩)] ∧ H B 0 = some (.slice A l.length c) ∧ Sl H A l.length c l
theorem SeqV.mono {H H' : Heap} {v : Value} {l : List Int} (hle : Heap.le H H') (h : SeqV H v l) : SeqV H' v l := by
  obtain ⟨B, A, c, h1, h2, h3⟩ := h
  exact ⟨B, A, c, h1, hle _ _ _ h2, h3.mono hle⟩
theorem slices_Values {H : Heap} {A : Option Addr} {n c : Nat} {l : List Int} (hs : Sl H A n c l) : ConT Tryz.prog 49 [.slice A n c] H ⟨false, [(false, [.val])]⟩ (fun v H' => SeqV H' v l) := by
  refine ⟨FnOK.of_body Tryz.func49 (by kernel_rfl) (by kernel_rfl), fun w hw => (values_call A n c w).mono ?_⟩
  rintro e w' ⟨rfl, rfl⟩
  obtain ⟨H', hg, hH⟩ := publish (w := w) (w' := w.alloc (.cells #[.slice A n c] TS)) [.slice A n c] hw ((Below.refl _ w).alloc (Nat.le_refl _) _) (Nat.le_refl _) (Nat.le_refl _) (World.alloc_heap_new w _) (fun o v h => by
    match o, h with
    | 0, h => simp at h; subst h; exact ⟨rfl, rfl⟩
    | o + 1, h => simp at h)
  have hl := hs.len
  subst hl
  exact ⟨_, H', [], rfl, ⟨_, rfl, _, rfl, rfl, rfl, _, _, _, rfl, hH 0 _ rfl, hs.mono hg.le⟩, hg, by simp, List.Pairwise.nil⟩
theorem slices_Sorted {H : Heap} {v : Value} {l : List Int} (hv : SeqV H v l) (hb : l.length * 8 ≤ 140737488351232) : ConT Tryz.prog 48 [v] H shS (fun A n c H' => Sl H' A n c (l.mergeSort fun x y => decide (x ≤ y))) := by
  obtain ⟨B, A, c, rfl, h2, h3⟩ := hv
  refine ⟨FnOK.of_body Tryz.func48 (by kernel_rfl) (by kernel_rfl), fun w hw => ?_⟩
  have hbx := (hw _ _ _ h2)
  obtain ⟨ys, y1, y2⟩ := h3.row
  obtain ⟨e1, e2⟩ := row_int y2
  have hz : l = [] ∨ ∃ b off, A = some ⟨b, off, none⟩ ∧ b < w.heap.size ∧ ∀ j, j < l.length → w.cell? ⟨b, off + j, none⟩ = some (.int .i64 (l[j]?.getD 0)) := by
    rcases y1 with h | ⟨b, o, hA, hc⟩
    · left
      rw [e1] at h
      simpa using h
    · rcases Nat.eq_zero_or_pos l.length with h0 | h0
      · exact .inl (List.eq_nil_of_length_eq_zero h0)
      · have hcell : ∀ j, j < l.length → w.cell? ⟨b, o + j, none⟩ = some (.int .i64 (l[j]?.getD 0)) := by
          intro j hj
          have := hc j (.int .i64 (l[j]?.getD 0)) (by rw [e1, List.getElem?_map, List.getElem?_eq_getElem hj]; rfl)
          exact (hw _ _ _ (by simpa using this.1)).cell rfl
        refine .inr ⟨b, o, hA, ?_, hcell⟩
        have := hc 0 (.int .i64 (l[0]?.getD 0)) (by rw [e1, List.getElem?_map, List.getElem?_eq_getElem h0]; rfl)
        exact (hw _ _ _ this.1).lt
  have hg := gives_values 5 (by omega) w B A c l hb hbx.lt (hbx.cell rfl) hz
  have hbn := h3.bn
  refine (callsIn_wide.1 (sorted_in 8 (by omega) _ _ (enters_of Tryz.func80 (by kernel_rfl) rfl) l (by omega) (by omega) w hg)).mono ?_
  rintro e w' ⟨v, rfl, hrow, hbel, hd⟩
  have hsl : (l.mergeSort fun x y => decide (x ≤ y)).length = l.length := List.length_mergeSort _
  have hrng : ∀ x ∈ (l.mergeSort fun x y => decide (x ≤ y)), rng .i64 x := fun x hx => e2 x (by simpa using hx)
  rcases hrow.2 with ⟨rfl, hz0⟩ | ⟨gb, cap, cur, rfl, hbase, hgb, r1, r2, r3, r4⟩
  · obtain rfl : l = [] := List.eq_nil_of_length_eq_zero hz0
    refine ⟨_, H, [], rfl, ⟨_, _, _, _, rfl, rfl, rfl, ?_⟩, ⟨hbel, hle_refl H, fun _ _ _ => rfl, fun b o v h => (hw b o v h).keep (hbel.block b (hw b o v h).lt), hd⟩, by simp, List.Pairwise.nil⟩
    simpa using Sl.nil
  · simp only [Nat.mul_one] at r3 r4
    obtain ⟨H', hgr, hH⟩ := publish (b := gb) (cur := cur) ((l.mergeSort fun x y => decide (x ≤ y)).map eI) hw hbel hd hbase hgb (fun o v h => by
      have h' := h
      rw [← r4] at h
      have ho : o < l.length := by
        have := (List.getElem?_eq_some_iff.1 h').1
        rw [List.length_map, hsl] at this; exact this
      rw [List.getElem?_take_of_lt ho] at h
      refine ⟨by simpa using h, ?_⟩
      rw [List.getElem?_map] at h'
      rcases hx : (l.mergeSort fun x y => decide (x ≤ y))[o]? with _ | x
      · rw [hx] at h'; cases h'
      · rw [hx] at h'; cases h'; rfl)
    refine ⟨_, H', [], rfl, ⟨_, _, _, _, rfl, rfl, rfl, ?_⟩, hgr, by simp, List.Pairwise.nil⟩
    refine Row.sl (T := Int) (int_row hrng) (hle_refl H') ?_ hsl r1 (by show l.length * 8 ≤ _; omega) (by omega)
    refine .inr ⟨gb, 0, rfl, fun t v hv => ⟨by simpa using hH t v hv, ?_⟩⟩
    rw [List.getElem?_map] at hv
    rcases hx : (l.mergeSort fun x y => decide (x ≤ y))[t]? with _ | x
    · rw [hx] at hv; cases hv
    · rw [hx] at hv; cases hv; rfl
end Go.Vc

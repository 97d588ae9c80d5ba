/- slices.Delete on a row of the caller's own, at whatever element type. -/
import Derived.Test.YteogpcpleokfbaaGJAg7
import Derived.Shelf.SlLaysN
import Derived.Shelf.RegionOpenPlain
import Derived.WalkKit
import Derived.Deep.RegionLaw
import Derived.Lib.SliceRun
import Derived.Lib.Walk
import Derived.Deep.LoopGhost
set_option linter.unusedSectionVars false
set_option linter.unusedSimpArgs false
set_option linter.unusedVariables false
namespace Go.Vc
open Go Go.RowKit Go.Shelf Go.Proofs
/- slices.Delete: what is asked of the program -/
structure DelL (P : Program) (ρ : Ren) (sz : Nat) (z : Value) : Prop where
  mixed : P.follows .mixedOrders = true
  f45 : Bears P (ρ.f 45) (SlBodyN.n45 ρ)
  t0 : P.underlying (ρ.t 0) = some (TypeDesc.tuple #[])
  a0 : ∀ w, (isAgg (ρ.t 0)).run P w = .ok false w
  z0 : ∀ w, (Go.sizeOf (ρ.t 0)).run P w = .ok 1 w
  v0 : ∀ w, (zeroValue (ρ.t 0)).run P w = .ok (Value.tuple #[]) w
  t3 : P.underlying (ρ.t 3) = some (TypeDesc.int IntKind.i64)
  a3 : ∀ w, (isAgg (ρ.t 3)).run P w = .ok false w
  z3 : ∀ w, (Go.sizeOf (ρ.t 3)).run P w = .ok 1 w
  v3 : ∀ w, (zeroValue (ρ.t 3)).run P w = .ok (Value.int IntKind.i64 0) w
  t4 : P.underlying (ρ.t 4) = some (TypeDesc.bool)
  a4 : ∀ w, (isAgg (ρ.t 4)).run P w = .ok false w
  z4 : ∀ w, (Go.sizeOf (ρ.t 4)).run P w = .ok 1 w
  v4 : ∀ w, (zeroValue (ρ.t 4)).run P w = .ok (Value.bool false) w
  t22 : P.underlying (ρ.t 22) = some (TypeDesc.slice (ρ.t 23))
  a22 : ∀ w, (isAgg (ρ.t 22)).run P w = .ok false w
  z22 : ∀ w, (Go.sizeOf (ρ.t 22)).run P w = .ok 1 w
  v22 : ∀ w, (zeroValue (ρ.t 22)).run P w = .ok (Value.slice none 0 0) w
  z23 : ∀ w, (Go.sizeOf (ρ.t 23)).run P w = .ok sz w
  v23 : ∀ w, (zeroValue (ρ.t 23)).run P w = .ok z w
  i23 : ∃ i, P.info? (ρ.t 23) = some i ∧ i.size = sz
  zc : z.cells.size = sz
  zo : ∀ x ∈ z.cells.toList, x.oneCell' = true
  pos : 0 < sz
theorem delete_none {P : Program} {ρ : Ren} {sz : Nat} {z : Value} (L : DelL P ρ sz z) (s : Value) (i n c : Nat) (A : Option Addr) (hi : i ≤ n) (hn : n ≤ c) (w : World) :
    Calls P (ρ.f 45) #[.slice A n c, .int .i64 i, .int .i64 i] w fun e w' => e = .returned (.slice A n c) ∧ w' = w := by
  have mixed := L.mixed; have t0 := L.t0; have a0 := L.a0; have z0 := L.z0; have v0 := L.v0; have t3 := L.t3; have a3 := L.a3; have z3 := L.z3; have v3 := L.v3; have t4 := L.t4; have a4 := L.a4; have z4 := L.z4; have v4 := L.v4; have t22 := L.t22; have a22 := L.a22; have z22 := L.z22; have v22 := L.v22; have z23 := L.z23
  obtain ⟨_, _, FG⟩ := L.f45
  go_enter FG, SlBodyN.n45_ntmps ρ
  go_wp2
  all_goals (go_ret; exact ⟨rfl, rfl⟩)
set_option maxHeartbeats 4000000 in
set_option maxRecDepth 1000000 in
theorem delete_some {P : Program} {ρ : Ren} {sz : Nat} {z : Value} (L : DelL P ρ sz z) (g n cap i j : Nat) (cur : Array Value) (e : TypeId) (w : World) (hlt : i < j) (hj : j ≤ n) (hn : n ≤ cap) (hcm : cap ≤ maxLen)
    (hg : w.heap[g]? = some (.cells cur e (0, 0))) (hcs : cur.size = cap * sz) (h1 : ∀ x ∈ cur.toList.take (n * sz), x.oneCell' = true) :
    Calls P (ρ.f 45) #[.slice (some ⟨g, 0, none⟩) n cap, .int .i64 i, .int .i64 j] w fun e1 w' => e1 = .returned (.slice (some ⟨g, 0, none⟩) (n - (j - i)) cap) ∧
      ∃ cur', Stored w w' g e cur cur' ∧ cur'.size = cap * sz ∧ cur'.toList.take ((n - (j - i)) * sz) = (cur.toList.take (n * sz)).take (i * sz) ++ (cur.toList.take (n * sz)).drop (j * sz) := by
  have mixed := L.mixed; have t0 := L.t0; have a0 := L.a0; have z0 := L.z0; have v0 := L.v0; have t3 := L.t3; have a3 := L.a3; have z3 := L.z3; have v3 := L.v3; have t4 := L.t4; have a4 := L.a4; have z4 := L.z4; have v4 := L.v4; have t22 := L.t22; have a22 := L.a22; have z22 := L.z22; have v22 := L.v22; have z23 := L.z23
  obtain ⟨i0, hi0, hz1⟩ := L.i23
  obtain ⟨xs, hxs⟩ : ∃ xs, xs = cur.toList.take (n * sz) := ⟨_, rfl⟩
  have hns : n * sz ≤ cap * sz := Nat.mul_le_mul_right _ hn
  have hjs : j * sz ≤ n * sz := Nat.mul_le_mul_right _ hj
  have his : i * sz < j * sz := Nat.mul_lt_mul_of_pos_right hlt L.pos
  have hxl : xs.length = n * sz := by rw [hxs]; simp; omega
  obtain ⟨news, hnews⟩ : ∃ news, news = xs.drop (j * sz) := ⟨_, rfl⟩
  have hlen : news.length = (n - j) * sz := by rw [hnews]; simp [hxl, Nat.sub_mul]
  have hget : ∀ t, t < news.length → news[t]? = cur[j * sz + t]? := by
    intro t ht
    rw [hnews, List.getElem?_drop, hxs, List.getElem?_take_of_lt (by rw [hlen, Nat.sub_mul] at ht; omega)]
    simp
  obtain ⟨A, hA, hsrc⟩ : ∃ A : Addr, (if cap = j then some (⟨g, 0, none⟩ : Addr) else some ⟨g, j * sz, none⟩) = some A ∧ Hid (∀ t u, news[t]? = some u → w.drew.cell? (A.add t) = some u) := by
    by_cases h : cap = j
    · refine ⟨⟨g, 0, none⟩, by simp [h], fun t u hu => ?_⟩
      have h0 : news.length = 0 := by rw [hlen]; simp [show n - j = 0 by omega]
      rw [List.length_eq_zero_iff.1 h0] at hu
      simp at hu
    · refine ⟨⟨g, j * sz, none⟩, by simp [h], fun t u hu => ?_⟩
      have ht : t < news.length := (List.getElem?_eq_some_iff.1 hu).1
      rw [hget t ht] at hu
      rw [Addr.add_lit]
      show w.cell? _ = _
      simp [World.cell?, hg, hu]
  have s1 : Hid (news.length = (n - j) * sz) := hlen
  have s2 : Hid (∀ u ∈ news, u.oneCell' = true) := by
    intro u hu
    rw [hnews] at hu
    exact h1 u (hxs ▸ List.mem_of_mem_drop hu)
  have s3 : Hid (∀ t, t < news.length → (w.drew.cell? ⟨g, 0 + i * sz + t, none⟩).isSome = true ∧ w.drew.frozen? ⟨g, 0 + i * sz + t, none⟩ = false) := by
    intro t ht
    rw [hlen, Nat.sub_mul] at ht
    refine ⟨?_, ?_⟩
    · show (w.cell? _).isSome = true
      simp [World.cell?, hg, show i * sz + t < cur.size by omega]
    · show w.frozen? _ = false
      simp [World.frozen?, hg]
  obtain ⟨W1, hW1⟩ : ∃ W1, W1 = w.drew.setCells g (0 + i * sz) news := ⟨_, rfl⟩
  obtain ⟨cur1, hS1, hc1⟩ := stored_setCells news (0 + i * sz) w.drew cur (Stored.drew hg).here (by rw [hlen, hcs, Nat.sub_mul]; omega)
  rw [← hW1] at hS1
  have hc1s : cur1.size = cap * sz := by
    have := congrArg List.length hc1
    simp only [Array.length_toList, List.length_append, List.length_take, List.length_drop, hlen, hcs, Nat.sub_mul] at this
    omega
  have hms : (i + (n - j)) * sz = i * sz + (n * sz - j * sz) := by rw [Nat.add_mul, Nat.sub_mul]
  have hks : (n - (i + (n - j))) * sz = n * sz - (i * sz + (n * sz - j * sz)) := by rw [Nat.sub_mul, hms]
  have hcl : ∀ ty, (Builtin.clear_ #[ρ.t 22] ty #[.slice (some ⟨g, (i + (n - j)) * sz, none⟩) (n - (i + (n - j))) (cap - (i + (n - j)))]).run P W1 = .ok (.tuple #[]) (W1.setCells g ((i + (n - j)) * sz) (Builtin.zeroCells z.cells (n - (i + (n - j)))).toList) :=
    fun ty => run_clear t22 L.v23 L.zo hS1.here (by omega) (by rw [L.zc, hc1s, hks, hms]; omega)
  have hzl : (Builtin.zeroCells z.cells (n - (i + (n - j)))).toList.length = (n - (i + (n - j))) * sz := by simp [Builtin.zeroCells, L.zc]
  obtain ⟨cur2, hS2, hc2⟩ := stored_setCells (Builtin.zeroCells z.cells (n - (i + (n - j)))).toList ((i + (n - j)) * sz) W1 cur1 hS1.here (by rw [hzl, hc1s, hks, hms]; omega)
  have hfin : Aside (∃ cur', Stored w (W1.setCells g ((i + (n - j)) * sz) (Builtin.zeroCells z.cells (n - (i + (n - j)))).toList) g e cur cur' ∧ cur'.size = cap * sz ∧
      cur'.toList.take ((n - (j - i)) * sz) = xs.take (i * sz) ++ xs.drop (j * sz)) := by
    refine ⟨cur2, ((Stored.drew hg).trans hS1).trans hS2, ?_, ?_⟩
    · have := congrArg List.length hc2
      simp only [Array.length_toList, List.length_append, List.length_take, List.length_drop, hzl, hc1s, hks, hms] at this
      omega
    · rw [hc2, hc1, show (n - (j - i)) * sz = i * sz + (n * sz - j * sz) by rw [← hms]; congr 1; omega, Nat.zero_add, hms]
      have hcll : cur.toList.length = cap * sz := by simp [hcs]
      have hnl : news.length = n * sz - j * sz := by rw [hlen, Nat.sub_mul]
      have hL : (cur.toList.take (i * sz) ++ news).length = i * sz + (n * sz - j * sz) := by
        simp only [List.length_append, List.length_take, hcll, hnl]; omega
      have ht : (cur.toList.take (i * sz) ++ (news ++ cur.toList.drop (i * sz + news.length))).take (i * sz + (n * sz - j * sz)) = cur.toList.take (i * sz) ++ news := by
        rw [← List.append_assoc, List.take_append_of_le_length (by omega), List.take_of_length_le (by omega)]
      rw [ht, List.take_append_of_le_length (by omega), List.take_of_length_le (by omega), hnews, hxs, List.take_take, Nat.min_eq_left (by omega)]
  have hW : Hid (W1 = w.drew.setCells g (0 + i * sz) news) := hW1
  have hic : i ≤ cap := by omega
  have hjc : j ≤ cap := by omega
  have hfin' : Aside (n - (j - i) = i + (n - j)) := by show n - (j - i) = i + (n - j); omega
  clear hW1 hS1 hS2 hc2 hc1 hget hnews hlen hms hks hns hjs his hxl hc1s hzl hcs hg
  rw [← hxs]
  generalize z.cells = zc at hcl hfin
  obtain ⟨_, _, FG⟩ := L.f45
  go_enter FG, SlBodyN.n45_ntmps ρ
  go_wp2_with fail
  go_region_law_o (refine step_append_room rfl (.tmp 22) (.tmp 25) (ρ.t 22) rfl (ρ.t 23) i0 sz t22 hi0 hz1 g 0 i cap (by simp [Act.eval, Act.put]) A (n - j) (cap - j) news (by simp [Act.eval, Act.put]) s1.out hsrc.out s2.out (by omega) s3.out ?_; rw [← hW.out])
  go_wp2
  all_goals (go_ret; exact ⟨by rw [hfin'.out]; rfl, hfin.out⟩)
theorem GrowsX.same {w : World} {H : Heap} {g : Option Nat} (hs : Snap H w) : GrowsX w w H H g :=
  ⟨⟨rfl, rfl, rfl, Nat.le_refl _, fun _ _ _ => rfl, Nat.le_refl _⟩, Heap.le_refl _, fun _ _ _ _ => rfl, hs⟩
theorem FnOK.of_bears {P : Program} {f : FuncId} {B : Func} (h : Bears P f B) (hb : B.body.isSome = true) : FnOK P f := by
  obtain ⟨nm, h1, h2⟩ := h
  exact ⟨_, h2, hb, h1⟩
/- THE CONTRACT: the row is given up; the result is a row: what stood ahead of i, then what stood from j on -/
theorem delete_con {P : Program} {ρ : Ren} {sz : Nat} {z : Value} (L : DelL P ρ sz z) (hsz : P.cellsOf (ρ.t 23) = sz) {n i j r : Nat} {xs : List Value} {H : Heap} (hij : i ≤ j) (hj : j ≤ n) :
    ConM P (ρ.f 45) [.slice none 0 0, .int .i64 i, .int .i64 j] 0 (ρ.t 23) n xs false H ⟨false, [(false, [.row r (ρ.t 23)])]⟩ (fun _ m zs _ => m = n - (j - i) ∧ zs = xs.take (i * sz) ++ xs.drop (j * sz)) := by
  refine ⟨FnOK.of_bears L.f45 rfl, fun w B s hs hB hr => ?_⟩
  obtain ⟨⟨hxl, hcase⟩, hx1, hfree⟩ := hr
  simp only at hxl hcase hx1 hfree
  rw [hsz] at hxl hcase
  have fin : ∀ (w' : World) (v : Value), GrowsX w w' H H s.ownBlock → RowX P w' B H ⟨v, ρ.t 23, n - (j - i), xs.take (i * sz) ++ xs.drop (j * sz)⟩ → (∀ g, v.ownBlock = some g → s.ownBlock = some g) →
      ∃ v' H' nr ys, Ending.returned v = .returned v' ∧ Fits ⟨false, [(false, [.row r (ρ.t 23)])]⟩ ((fun _ m zs _ => m = n - (j - i) ∧ zs = xs.take (i * sz) ++ xs.drop (j * sz) : List Value → PostR [(false, [.row r (ρ.t 23)])] (Heap → Prop)) ys) v' H' nr ∧
        GrowsX w w' H H' s.ownBlock ∧ (false = true → RowX P w' B H' ⟨s, ρ.t 23, n, ys⟩) ∧
        (∀ r ∈ nr, RowX P w' B H' r ∧ ∀ g, r.s.ownBlock = some g → w.heap.size ≤ g ∨ (false = false ∧ s.ownBlock = some g)) ∧ apartRows nr := by
    intro w' v hg hv hb
    refine ⟨v, H, [⟨v, ρ.t 23, n - (j - i), xs.take (i * sz) ++ xs.drop (j * sz)⟩], [], rfl, ?_, hg, by simp, ?_, ?_⟩
    · exact ⟨_, _, rfl, rfl, v, rfl, rfl, rfl, rfl, rfl⟩
    · intro r hr
      rw [List.mem_singleton] at hr
      subst hr
      exact ⟨hv, fun g h => .inr ⟨rfl, hb g h⟩⟩
    · exact List.pairwise_singleton _ _
  have hsame : i = j → xs.take (i * sz) ++ xs.drop (j * sz) = xs ∧ n - (j - i) = n := by
    rintro rfl
    exact ⟨List.take_append_drop _ _, by omega⟩
  rcases hcase with ⟨rfl, rfl⟩ | ⟨g, cap, cur, rfl, hge, hb, hnc, hcm, hcs, htake⟩
  · obtain rfl : j = 0 := by omega
    obtain rfl : i = 0 := by omega
    refine (delete_none L (.slice none 0 0) 0 0 0 none (by omega) (by omega) w).mono ?_
    rintro e w' ⟨rfl, rfl⟩
    refine fin _ _ (GrowsX.same hs) ?_ (fun g h => h)
    obtain ⟨h1, h2⟩ := hsame rfl
    rw [h1, h2]
    exact ⟨⟨by simpa [hsz] using hxl, .inl ⟨rfl, rfl⟩⟩, hx1, hfree⟩
  · rcases Nat.eq_or_lt_of_le hij with heq | hlt
    · obtain ⟨h1, h2⟩ := hsame heq
      subst heq
      refine (delete_none L (.slice none 0 0) i n cap (some ⟨g, 0, none⟩) hj hnc w).mono ?_
      rintro e w' ⟨rfl, rfl⟩
      refine fin _ _ (GrowsX.same hs) ?_ (fun g h => h)
      rw [h1, h2]
      exact ⟨⟨by rw [hsz]; exact hxl, .inr ⟨g, cap, cur, rfl, hge, hb, hnc, hcm, by rw [hsz]; exact hcs, by rw [hsz]; exact htake⟩⟩, hx1, hfree⟩
    · refine (delete_some L g n cap i j cur (ρ.t 23) w hlt hj hnc hcm hb hcs (by rw [htake]; exact hx1)).mono ?_
      rintro e w' ⟨rfl, cur', hS, hc's, hc't⟩
      rw [htake] at hc't
      refine fin _ _ ⟨⟨hS.os, hS.tape, hS.output, by rw [hS.size]; exact Nat.le_refl _, fun k hk hne => hS.block k (fun h => hne (by rw [h]; rfl)), hS.drawn⟩, Heap.le_refl _, fun _ _ _ _ => rfl, ?_⟩ ?_ (fun g h => h)
      · intro b o v hv
        have hbg : b ≠ g := by
          rintro rfl
          rw [hfree b rfl o] at hv
          exact absurd hv (by simp)
        exact (hs b o v hv).keep (hS.block b hbg)
      · have hjs : j * sz ≤ n * sz := Nat.mul_le_mul_right _ hj
        have his : i * sz ≤ j * sz := Nat.mul_le_mul_right _ hij
        have hms : (n - (j - i)) * sz = n * sz - (j * sz - i * sz) := by rw [Nat.sub_mul, Nat.sub_mul]
        refine ⟨⟨?_, .inr ⟨g, cap, cur', rfl, hge, hS.here, Nat.le_trans (Nat.sub_le _ _) hnc, hcm, by rw [hsz]; exact hc's, by rw [hsz]; exact hc't⟩⟩, ?_, hfree⟩
        · simp only [List.length_append, List.length_take, List.length_drop, hsz, hms, hxl]
          omega
        · intro x hx
          rcases List.mem_append.1 hx with hx | hx
          · exact hx1 x (List.mem_of_mem_take hx)
          · exact hx1 x (List.mem_of_mem_drop hx)
end Go.Vc

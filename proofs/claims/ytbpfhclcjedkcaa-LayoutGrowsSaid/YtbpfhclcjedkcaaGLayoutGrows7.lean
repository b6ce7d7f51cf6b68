/- Parts of the proof: XO X108 X109 X110 X111 X114 XK. -/
import Derived.Deep.Slices
import Derived.Lib.SmallJoins
import Derived.SizedLaws
import Derived.ProofKit
import Derived.OpenShut
import Derived.Test.YtbpfhclcjedkcaaGLayoutGrows6
namespace Go.Proofs.Ytbpfhclcjedkcaa
open Go.RowKit Go.Deep Go.Joins Go.ChangeShapes

/-! ### from the row's reading to processes, views, bytes, commands -/
/-- every slice and string in a datum is within the form's reach -/
def Sz {H : Type} (t : TypeId) (d : DataW H) : Prop := ∀ n ∈ d.weights Try.prog t, n ≤ reachBytes
theorem Sz.arg {H : Type} {ts : List TypeId} {ds : List (DataW H)} (h : (DataW.weightsEach Try.prog ts ds).all (· ≤ reachBytes) = true) {j : Nat} {t : TypeId} {d : DataW H} (ht : ts[j]? = some t) (hd : ds[j]? = some d) : Sz t d := by
  intro n hn
  have := List.all_eq_true.1 h _ (DataW.weights_mem_each ht hd n hn)
  simpa using this
theorem mem_weightsAll {H : Type} {e : TypeId} {d : DataW H} : ∀ {l : List (DataW H)}, d ∈ l → ∀ n ∈ d.weights Try.prog e, n ∈ DataW.weightsAll Try.prog e l
  | x :: l, h, n, hn => by
    simp only [DataW.weightsAll, List.mem_append]
    rcases List.mem_cons.1 h with rfl | h
    · exact .inl hn
    · exact .inr (mem_weightsAll h n hn)
theorem Sz.slice {H : Type} {t e : TypeId} {elems spare : List (DataW H)} (h : Sz t (.slice elems spare)) (ht : Try.prog.underlying t = some (.slice e)) :
    (elems.length + spare.length) * Try.prog.bytesOf e ≤ reachBytes ∧ (∀ d ∈ elems, Sz e d) := by
  have hw : ∀ n, n ∈ (DataW.slice elems spare).weights Try.prog t ↔ n = (elems.length + spare.length) * Try.prog.bytesOf e ∨ n ∈ DataW.weightsAll Try.prog e elems ∨ n ∈ DataW.weightsAll Try.prog e spare := by
    intro n; simp [DataW.weights, ht]
  exact ⟨h _ ((hw _).2 (.inl rfl)), fun d hd n hn => h n ((hw _).2 (.inr (.inl (mem_weightsAll hd n hn))))⟩
theorem bytesPid : Try.prog.bytesOf 26 = 8 := by kernel_rfl
theorem bytesPids : Try.prog.bytesOf 30 = 24 := by kernel_rfl
theorem cellsPid : Try.prog.cellsOf 26 = 2 := by kernel_rfl
theorem cellsU16 : Try.prog.cellsOf 23 = 1 := by kernel_rfl
theorem cellsU32 : Try.prog.cellsOf 24 = 1 := by kernel_rfl
theorem cellsU64 : Try.prog.cellsOf 29 = 1 := by kernel_rfl
theorem cellsPids : Try.prog.cellsOf 30 = 1 := by kernel_rfl
theorem cellsLeaves : Try.prog.cellsOf 31 = 1 := by kernel_rfl
theorem cellsView : Try.prog.cellsOf 33 = 4 := by kernel_rfl
theorem list4 {α : Type} {cs : List α} (h : cs.length = 4) : ∃ c0 c1 c2 c3, cs = [c0, c1, c2, c3] := by
  match cs, h with
  | [c0, c1, c2, c3], _ => exact ⟨c0, c1, c2, c3, rfl⟩
theorem list2 {α : Type} {cs : List α} (h : cs.length = 2) : ∃ c0 c1, cs = [c0, c1] := by
  match cs, h with
  | [c0, c1], _ => exact ⟨c0, c1, rfl⟩
section
variable {H : Type} {enc : TypeId × Value → H} {w : World}
theorem open_pid {n : Nat} {cs : List Value} {x : DataW H × List MemPlace} (h : DataW.trod enc Try.prog w 0 (fun _ => true) true n 26 cs = some x) :
    ∃ i c : Int, cs = [.int .u16 i, .int .u32 c] ∧ 0 ≤ i ∧ i < 65536 ∧ 0 ≤ c ∧ c < 4294967296 := by
  obtain ⟨y0, y1, m, _, hl, h0, h1⟩ := trod_struct2 Try.underlying26 h
  rw [cellsPid] at hl
  obtain ⟨c0, c1, rfl⟩ := list2 hl
  have e0 : (([c0, c1] : List Value).drop 0).take (Try.prog.cellsOf 23) = [c0] := by rw [cellsU16]; rfl
  have e1 : (([c0, c1] : List Value).drop 1).take (Try.prog.cellsOf 24) = [c1] := by rw [cellsU32]; rfl
  obtain ⟨i, hi, _, wi⟩ := DataW.trod_int Try.underlying23 (e0 ▸ h0)
  obtain ⟨c, hc, _, wc⟩ := DataW.trod_int Try.underlying24 (e1 ▸ h1)
  cases hi; cases hc
  have b0 := bounds_u16 wi
  have b1 := bounds_u32 wc
  exact ⟨i, c, rfl, b0.1, by omega, b1.1, by omega⟩

theorem open_pids {n : Nat} {cs : List Value} {x : DataW H × List MemPlace} (h : DataW.trod enc Try.prog w 0 (fun _ => true) true n 30 cs = some x) (hs : Sz 30 x.1) :
    ∃ (a : Option Addr) (c : Nat) (xs : List Pid), cs = [.slice a xs.length c] ∧ PidRow w a xs ∧ WfPids xs ∧ xs.length ≤ 17592186044416 := by
  rcases open_slice Try.underlying30 h with ⟨hv, _⟩ | ⟨a, len, cap, m, k, D, Pl, hv, _, hl, hm, hmm, hx, hel⟩
  · exact ⟨none, 0, [], hv, .inl rfl, (by intro p hp; cases hp), by simp⟩
  · simp only [if_true] at hmm
    subst hmm
    rw [cellsPid] at hel
    have hex : ∀ i, ∃ p : Pid, i < len → (w.cell? (a.add (i * 2)) = some (.int .u16 p.1) ∧ w.cell? ((a.add (i * 2)).add 1) = some (.int .u32 p.2) ∧ 0 ≤ p.1 ∧ p.1 < 65536 ∧ 0 ≤ p.2 ∧ p.2 < 4294967296) := by
      intro i
      by_cases hi : i < len
      · obtain ⟨cs', h1, h2⟩ := hel i (by omega)
        obtain ⟨pi, pc, rfl, b0, b1, b2, b3⟩ := open_pid h2
        obtain ⟨_, _, hc⟩ := World.cells?_some h1
        exact ⟨(pi, pc), fun _ => ⟨by simpa [Addr.add] using hc 0 (by omega), by simpa using hc 1 (by omega), b0, b1, b2, b3⟩⟩
      · exact ⟨(0, 0), fun h => absurd h hi⟩
    obtain ⟨f, hf⟩ := Classical.axiomOfChoice hex
    rw [hx] at hs
    obtain ⟨hw, _⟩ := hs.slice Try.underlying30
    rw [bytesPid] at hw
    simp only [List.length_map, List.length_range] at hw
    have hlen : len ≤ 17592186044416 := by unfold reachBytes at hw; omega
    refine ⟨some a, m, (List.range len).map f, by rw [hv]; simp, ?_, ?_, by simpa using hlen⟩
    · by_cases h0 : len = 0
      · subst h0; exact .inl rfl
      · have ha := (hf 0 (by omega)).1
        have hsp : a.spot = none := by simpa [Addr.add] using World.cell?_spot ha
        obtain ⟨b, off, sp⟩ := a
        simp only at hsp
        subst hsp
        refine .inr ⟨b, off, rfl, ?_, fun i hi => ?_⟩
        · have := World.block_lt_of_cell? w _ ha
          simpa [addr_add] using this
        · have hi' : i < len := by simpa using hi
          obtain ⟨g1, g2, _⟩ := hf i hi'
          rw [addr_add, addr_add] at g2
          rw [addr_add] at g1
          simpa using ⟨g1, g2⟩
    · intro p hp
      obtain ⟨i, hi, rfl⟩ := List.mem_map.1 hp
      obtain ⟨_, _, g⟩ := hf i (by simpa using hi)
      exact g

theorem open_leaves {n : Nat} {v : Value} {x : DataW H × List MemPlace} (h : DataW.trod enc Try.prog w 0 (fun _ => true) true n 31 [v] = some x) (hs : Sz 31 x.1) :
    ∃ (a : Option Addr) (c : Nat) (ls : List (List Pid)), v = .slice a ls.length c ∧ LeafRow w a ls ∧ (∀ l ∈ ls, WfPids l) ∧ ls.length ≤ 17592186044416 ∧ ∀ l ∈ ls, l.length ≤ 17592186044416 := by
  rcases open_slice1 Try.underlying31 cellsPids h with ⟨hv, _⟩ | ⟨a, len, cap, m, k, Vs, D, Pl, hv, _, hl, hm, hmm, hx, hel⟩
  · cases hv
    exact ⟨none, 0, [], rfl, .inl rfl, (by intro p hp; cases hp), by simp, by intro p hp; cases hp⟩
  · cases hv
    simp only [if_true] at hmm
    subst hmm
    rw [hx] at hs
    obtain ⟨hw, hel2⟩ := hs.slice Try.underlying31
    rw [bytesPids] at hw
    simp only [List.length_map, List.length_range] at hw
    have hlen : len ≤ 17592186044416 := by unfold reachBytes at hw; omega
    have hex : ∀ i, ∃ l : List Pid, i < len → ∃ ai ci, (w.cell? (a.add i) = some (.slice ai l.length ci) ∧ PidRow w ai l ∧ WfPids l ∧ l.length ≤ 17592186044416) := by
      intro i
      by_cases hi : i < len
      · obtain ⟨h1, h2⟩ := hel i (by omega)
        obtain ⟨ai, ci, l, hv, hr, hw, hb⟩ := open_pids h2 (hel2 _ (List.mem_map.2 ⟨i, by simpa using hi, rfl⟩))
        have hv := List.cons.inj hv
        exact ⟨l, fun _ => ⟨ai, ci, by rw [h1, hv.1], hr, hw, hb⟩⟩
      · exact ⟨[], fun h => absurd h hi⟩
    obtain ⟨f, hf⟩ := Classical.axiomOfChoice hex
    refine ⟨some a, m, (List.range len).map f, by simp, ?_, ?_, by simpa using hlen, ?_⟩
    · by_cases h0 : len = 0
      · subst h0; exact .inl rfl
      · obtain ⟨_, _, ha, _⟩ := hf 0 (by omega)
        have hsp : a.spot = none := by simpa [Addr.add] using World.cell?_spot ha
        obtain ⟨b, off, sp⟩ := a
        simp only at hsp
        subst hsp
        refine .inr ⟨b, off, rfl, ?_, fun i hi => ?_⟩
        · have := World.block_lt_of_cell? w _ ha
          simpa [addr_add] using this
        · have hi' : i < len := by simpa using hi
          obtain ⟨ai, ci, g1, g2, _⟩ := hf i hi'
          rw [addr_add] at g1
          exact ⟨ai, ci, by simpa using g1, by simpa using g2⟩
    · intro l hl
      obtain ⟨i, hi, rfl⟩ := List.mem_map.1 hl
      obtain ⟨_, _, _, _, g, _⟩ := hf i (by simpa using hi)
      exact g
    · intro l hl
      obtain ⟨i, hi, rfl⟩ := List.mem_map.1 hl
      obtain ⟨_, _, _, _, _, g⟩ := hf i (by simpa using hi)
      exact g

/-- a view that is plain data -/
structure WfView (V : View) : Prop where
  id : 0 ≤ V.id ∧ V.id < 18446744073709551616
  ms : WfPids V.ms
  ls : ∀ l ∈ V.ls, WfPids l
  ds : WfPids V.ds
set_option maxRecDepth 100000 in
theorem open_viewL {n : Nat} {cs : List Value} {x : DataW H × List MemPlace} (h : DataW.trod enc Try.prog w 0 (fun _ => true) true n 33 cs = some x) (hs : Sz 33 x.1) :
    ∃ (V : View) (am al ad : Option Addr) (cm cl cd : Nat), cs = [.int .u64 V.id, .slice am V.ms.length cm, .slice al V.ls.length cl, .slice ad V.ds.length cd] ∧ ViewR w am al ad V ∧ WfView V := by
  obtain ⟨y0, y1, y2, y3, m, hx, hl, h0, h1, h2, h3⟩ := trod_struct4 Try.underlying33 h
  rw [cellsView] at hl
  obtain ⟨v0, v1, v2, v3, rfl⟩ := list4 hl
  have e0 : (([v0, v1, v2, v3] : List Value).drop 0).take (Try.prog.cellsOf 29) = [v0] := by rw [cellsU64]; rfl
  have e1 : (([v0, v1, v2, v3] : List Value).drop 1).take (Try.prog.cellsOf 30) = [v1] := by rw [cellsPids]; rfl
  have e2 : (([v0, v1, v2, v3] : List Value).drop 2).take (Try.prog.cellsOf 31) = [v2] := by rw [cellsLeaves]; rfl
  have e3 : (([v0, v1, v2, v3] : List Value).drop 3).take (Try.prog.cellsOf 30) = [v3] := by rw [cellsPids]; rfl
  have h0 := e0 ▸ h0
  have h1 := e1 ▸ h1
  have h2 := e2 ▸ h2
  have h3 := e3 ▸ h3
  have hw : ∀ k, (k ∈ y1.1.weights Try.prog 30 ∨ k ∈ y2.1.weights Try.prog 31 ∨ k ∈ y3.1.weights Try.prog 30) → k ≤ reachBytes := by
    intro k hk
    refine hs k ?_
    have e : x.1.weights Try.prog 33 = y0.1.weights Try.prog 29 ++ (y1.1.weights Try.prog 30 ++ (y2.1.weights Try.prog 31 ++ (y3.1.weights Try.prog 30 ++ []))) := by
      rw [hx]; simp [DataW.weights, Try.underlying33, DataW.weightsEach]
    rw [e]
    simp only [List.mem_append, List.append_nil]
    rcases hk with hk | hk | hk
    · exact .inr (.inl hk)
    · exact .inr (.inr (.inl hk))
    · exact .inr (.inr (.inr hk))
  obtain ⟨i, hi, _, wi⟩ := DataW.trod_int Try.underlying29 h0
  cases hi
  obtain ⟨am, cm, ms, hv1, rm, wm, bm⟩ := open_pids h1 (fun k hk => hw k (.inl hk))
  obtain ⟨al, cl, ls, rfl, rl, wl, bl, bl2⟩ := open_leaves h2 (fun k hk => hw k (.inr (.inl hk)))
  obtain ⟨ad, cd, ds, hv3, rd, wd, bd⟩ := open_pids h3 (fun k hk => hw k (.inr (.inr hk)))
  cases hv1; cases hv3
  have b0 := bounds_u64 wi
  exact ⟨⟨i, ms, ls, ds⟩, am, al, ad, cm, cl, cd, rfl, ⟨rm, rl, rd, by simp only; omega, by simp only; omega, by simp only; omega, fun l hl => by have := bl2 l hl; omega⟩, ⟨⟨b0.1, by simp only; omega⟩, wm, wl, wd⟩⟩
set_option maxRecDepth 100000 in
theorem open_view {base : Nat} {v : Value} {d : DataW H} {p : List MemPlace} (hv : Value.okWide Try.prog w .any base 33 v) (h : DataW.Trod enc Try.prog w 0 (fun _ => true) true 33 v d p) (hs : Sz 33 d) :
    ∃ (V : View) (am al ad : Option Addr) (cm cl cd : Nat), v = .agg #[.int .u64 V.id, .slice am V.ms.length cm, .slice al V.ls.length cl, .slice ad V.ds.length cd] ∧ ViewR w am al ad V ∧ WfView V := by
  obtain ⟨cs, rfl, hsz⟩ := Go.WideShapes.okWide_struct Try.underlying33 hv
  obtain ⟨fuel, hf⟩ := h
  obtain ⟨V, am, al, ad, cm, cl, cd, hcs, hR, hwf⟩ := open_viewL (x := (d, p)) hf hs
  exact ⟨V, am, al, ad, cm, cl, cd, by rw [← Array.toArray_toList (xs := cs)]; simp only [Value.cells] at hcs; rw [hcs], hR, hwf⟩
end
section
variable {H : Type} {enc : TypeId × Value → H} {w : World}
end
theorem cellsInt : Try.prog.cellsOf 3 = 1 := by kernel_rfl
section
variable {H : Type} {enc : TypeId × Value → H} {w : World}
end
end Go.Proofs.Ytbpfhclcjedkcaa

namespace Go.Proofs.Ytbpfhclcjedkcaa
open Go.RowKit
/-! ### layout: Next -/
structure TriBox (W3 w : World) (b : Bnd) (V : View) (am al ad : Option Addr) (cm cl cd : Nat) : Prop where
  bl : Below w.heap.size w W3
  sz : W3.heap.size = w.heap.size + 1 + 1 + 1
  vw : ViewBox W3 w.heap.size V am al ad cm cl cd
  bx : BndBox W3 (w.heap.size + 1) b
  vx : BoxV W3 (w.heap.size + 1 + 1) (.int .u64 0) (.slice none 0 0) (.slice none 0 0) (.slice none 0 0)
theorem TriBox.made (w : World) (b : Bnd) (V : View) (am al ad : Option Addr) (cm cl cd : Nat) : TriBox (((w.alloc (.cells #[.int .u64 V.id, .slice am V.ms.length cm, .slice al V.ls.length cl, .slice ad V.ds.length cd] 33)).alloc (.cells #[.int .i64 b.least, .int .i64 b.most, .int .i64 b.tmo] 117)).alloc (.cells #[.int .u64 0, .slice none 0 0, .slice none 0 0, .slice none 0 0] 33)) w b V am al ad cm cl cd := by
  have e : ∀ (W : World) (o : Obj), Below W.heap.size W (W.alloc o) := fun W o => (Below.refl _ _).alloc (Nat.le_refl _) _
  obtain ⟨X1, h1⟩ : ∃ X, w.alloc (.cells #[.int .u64 V.id, .slice am V.ms.length cm, .slice al V.ls.length cl, .slice ad V.ds.length cd] 33) = X := ⟨_, rfl⟩
  have s1 : X1.heap.size = w.heap.size + 1 := by rw [← h1]; simp
  have b1 : Below w.heap.size w X1 := by rw [← h1]; exact e _ _
  have v1 : ViewBox X1 w.heap.size V am al ad cm cl cd := by rw [← h1]; exact ViewBox.made (V := V) w
  rw [h1]
  obtain ⟨X2, h2⟩ : ∃ X, X1.alloc (.cells #[.int .i64 b.least, .int .i64 b.most, .int .i64 b.tmo] 117) = X := ⟨_, rfl⟩
  have s2 : X2.heap.size = w.heap.size + 1 + 1 := by rw [← h2]; simp [s1]
  have b2 : Below X1.heap.size X1 X2 := by rw [← h2]; exact e _ _
  have v2 : BndBox X2 (w.heap.size + 1) b := by rw [← h2, ← s1]; exact BndBox.made X1
  rw [h2]
  refine ⟨(b1.trans (b2.mono b1.size)).trans ((e _ _).mono (by omega)), by simp [s2], (v1.ext b2 v1.lt).ext (e _ _) (by omega), v2.ext (e _ _) v2.lt, ?_⟩
  rw [← s2]
  exact BoxV.made X2 _ _ _ _ _
theorem TriBox.ext {W3 w W : World} {b : Bnd} {V : View} {am al ad : Option Addr} {cm cl cd : Nat} (h : TriBox W3 w b V am al ad cm cl cd) (hb : Below W3.heap.size W3 W) : ViewBox W w.heap.size V am al ad cm cl cd ∧ BndBox W (w.heap.size + 1) b ∧ BoxV W (w.heap.size + 1 + 1) (.int .u64 0) (.slice none 0 0) (.slice none 0 0) (.slice none 0 0) ∧ Below w.heap.size w W :=
  ⟨h.vw.ext hb h.vw.lt, h.bx.ext hb h.bx.lt, h.vx.ext hb, h.bl.trans (hb.mono h.bl.size)⟩
theorem leaves_succ {ls : LL} {gone : List Pid} {k : Nat} (h : k < ls.length) {l : List Pid} (hl : l = ls[k]) : leavesV (ls.take (k + 1)) gone = leavesV (ls.take k) gone ++ (if (minusP l gone).isEmpty = true then [] else [minusP l gone]) := by
  unfold leavesV
  rw [List.take_succ_eq_append_getElem h, List.map_append, List.filter_append, ← hl]
  congr 1
  simp only [List.map_cons, List.map_nil, List.filter_cons, List.filter_nil]
  cases (minusP l gone).isEmpty <;> rfl
theorem minus_n {a b : Option Addr} {c d n m : Nat} {xs ys r : List Pid} {w : World} (hr : Hid (minusP xs ys = r)) (hn : Hid (xs.length = n)) (hm : Hid (ys.length = m)) (hn6 : n ≤ 1000) (hm6 : m ≤ 1000) (hx : PidRow w a xs) (hy : PidRow w b ys) :
    Calls Try.prog 142 #[.slice a n c, .slice b m d] w fun e w' => ∃ v, e = .returned v ∧ OwnP w' w.heap.size v r ∧ Below w.heap.size w w' := by
  have h1 := hn.out
  have h2 := hm.out
  subst h1; subst h2
  rw [← hr.out]
  exact minus_any a c xs b d ys w (by omega) (by omega) hx hy
theorem minus_le (xs ys : List Pid) : (minusP xs ys).length ≤ xs.length := List.length_filter_le _ _
set_option maxRecDepth 100000 in
set_option maxHeartbeats 12800000 in
theorem next_any {V V2 : View} {gone come : List Pid} {b : Bnd} {am al ad ag ac : Option Addr} {cm cl cd kg kc G C : Nat} {er : Int} {w : World} (hN : Hid (nextV V gone come b = (V2, er))) (hV : ViewR w am al ad V) (hwf : WfView V) (hgr : greatB V = false) (hGn : Hid (gone.length = G)) (hCn : Hid (come.length = C)) (hG : G ≤ 1000) (hC : C ≤ 1000) (hrg : PidRow w ag gone) (hrc : PidRow w ac come) (hokc : ∀ p ∈ come, ok p) (hbo : BndOk b) :
    Calls Try.prog 72 #[.agg #[.int .u64 V.id, .slice am V.ms.length cm, .slice al V.ls.length cl, .slice ad V.ds.length cd], .slice ag G kg, .slice ac C kc, .agg #[.int .i64 b.least, .int .i64 b.most, .int .i64 b.tmo]] w fun e w' => BuildRes V2 er w.heap.size (fun _ => False) w e w' := by
  obtain ⟨W3, hW3⟩ : ∃ W3, (((w.alloc (.cells #[.int .u64 V.id, .slice am V.ms.length cm, .slice al V.ls.length cl, .slice ad V.ds.length cd] 33)).alloc (.cells #[.int .i64 b.least, .int .i64 b.most, .int .i64 b.tmo] 117)).alloc (.cells #[.int .u64 0, .slice none 0 0, .slice none 0 0, .slice none 0 0] 33)) = W3 := ⟨_, rfl⟩
  have hT : TriBox W3 w b V am al ad cm cl cd := by rw [← hW3]; exact TriBox.made w b V am al ad cm cl cd
  obtain ⟨gm, gl, gd, gle, gsum⟩ := great_noC hgr
  obtain ⟨rv, hrv⟩ : ∃ r, checkB V = r := ⟨_, rfl⟩
  obtain ⟨rb, hrb⟩ : ∃ r, bchk b = r := ⟨_, rfl⟩
  obtain ⟨rm, hrm⟩ : ∃ r, mayAll come = r := ⟨_, rfl⟩
  obtain ⟨kv, hkv⟩ : ∃ k, errB rv = k := ⟨_, rfl⟩
  obtain ⟨kb, hkb⟩ : ∃ k, chkL rb = k := ⟨_, rfl⟩
  have C1 := hid (check_is (cm := cm) (cl := cl) (cd := cd) (hid hrv) hkv (hV.ext hT.bl) (by omega))
  have CB1 : Hid (∀ X, Below W3.heap.size W3 X → Calls Try.prog 163 #[.agg #[.int .i64 b.least, .int .i64 b.most, .int .i64 b.tmo]] X fun e w' => e = .returned (.int .i64 kb) ∧ Below X.heap.size X w') := hid fun X _ => lcheck_is (hid hrb) hkb hbo
  have CM1 : Hid (∀ X, Below W3.heap.size W3 X → Calls Try.prog 164 #[.slice ac C kc] X fun e w' => e = .returned (.bool rm) ∧ Below X.heap.size X w') := hid fun X h => lmay_any (hid hrm) hCn (by omega) ((hrc.ext hT.bl).ext h)
  have HT := hid hT
  have HV := hid hV
  have HWF := hid hwf
  have HRG := hid hrg
  have HRC := hid hrc
  have HOKC := hid hokc
  have HGM := hid gm
  have HGL := hid gl
  have HGLE := hid gle
  have HRV := hid hrv
  have HRB := hid hrb
  have HRM := hid hrm
  have HW3 := hid hW3
  obtain ⟨v0, v1, v2, v3⟩ := id hT.vw
  have t00 : ((0 : Int) != 0) = false := by decide
  have t11 : ((1 : Int) != 0) = true := by decide
  have hzero : ∀ (e : Int) (W : World), Below W3.heap.size W3 W → BuildRes zeroV e w.heap.size (fun _ => False) w (.returned (.tuple #[.agg #[.int .u64 0, .slice none 0 0, .slice none 0 0, .slice none 0 0], .int .i64 e])) ((((W.setCell ⟨w.heap.size + 1 + 1, 0, none⟩ (.int .u64 0)).setCell ⟨w.heap.size + 1 + 1, 1, none⟩ (.slice none 0 0)).setCell ⟨w.heap.size + 1 + 1, 2, none⟩ (.slice none 0 0)).setCell ⟨w.heap.size + 1 + 1, 3, none⟩ (.slice none 0 0)) := fun e W h => BuildRes.zero (Mut.of_below (below_put4 (hT.ext h).2.2.2 (by omega)))
  have HZ := hid hzero
  clear hT hV hwf hgr hrg hrc hokc gm gl gd gle gsum hrv hrb hrm hzero
  cases rv
  case false =>
    have hk : kv = 1 := hkv.symm
    subst hk
    have hv : (zeroV, (1 : Int)) = (V2, er) := by rw [← hN.out]; unfold nextV; rw [if_pos (.inl HRV.out)]
    obtain ⟨rfl, rfl⟩ : zeroV = V2 ∧ 1 = er := by simpa using hv
    clear hN hv CB1 CM1
    go_enter Try.func72, Try.ntmps72
    go_wp2_with fail
    (with_reducible refine C1.out.mono ?_)
    rintro e w4 ⟨rfl, hb4⟩
    obtain ⟨d0, d1, d2, d3, g0, g1, g2, g3⟩ := (HT.out.ext hb4).2.2.1
    have DD := hid ((HT.out.ext hb4).2.2.1.put (.int .u64 0) (.slice none 0 0) (.slice none 0 0) (.slice none 0 0))
    have HR := hid (HZ.out 1 _ hb4)
    clear hb4 C1 v0 v1 v2 v3 hW3
    go_wp2_with fail
    obtain ⟨q0, q1, q2, q3, -, -, -, -⟩ := DD.out
    exact bodyPost_ret (v := .tuple #[.agg #[.int .u64 0, .slice none 0 0, .slice none 0 0, .slice none 0 0], .int .i64 1]) (by simp [results, Try.results72, go_sem, q0, q1, q2, q3]) rfl HR.out
  case true =>
  have hk : kv = 0 := hkv.symm
  subst hk
  cases rb
  case false =>
    have hk : kb = 1 := hkb.symm
    subst hk
    have hv : (zeroV, (1 : Int)) = (V2, er) := by rw [← hN.out]; unfold nextV; rw [if_pos (.inr (.inl HRB.out))]
    obtain ⟨rfl, rfl⟩ : zeroV = V2 ∧ 1 = er := by simpa using hv
    clear hN hv CM1
    go_enter Try.func72, Try.ntmps72
    go_wp2_with fail
    (with_reducible refine C1.out.mono ?_)
    rintro e w4 ⟨rfl, hb4⟩
    have CBw := CB1.out _ hb4
    obtain ⟨b0, b1, b2⟩ := (HT.out.ext hb4).2.1
    clear C1 v0 v1 v2 v3 hW3 CB1
    go_wp2_with fail
    (with_reducible refine CBw.mono ?_)
    rintro e w5 ⟨rfl, hb5⟩
    have hb45 := hb4.trans (hb5.mono hb4.size)
    obtain ⟨d0, d1, d2, d3, g0, g1, g2, g3⟩ := (HT.out.ext hb45).2.2.1
    have DD := hid ((HT.out.ext hb45).2.2.1.put (.int .u64 0) (.slice none 0 0) (.slice none 0 0) (.slice none 0 0))
    have HR := hid (HZ.out 1 _ hb45)
    clear hb4 hb5 hb45 CBw b0 b1 b2
    go_wp2_with fail
    obtain ⟨q0, q1, q2, q3, -, -, -, -⟩ := DD.out
    exact bodyPost_ret (v := .tuple #[.agg #[.int .u64 0, .slice none 0 0, .slice none 0 0, .slice none 0 0], .int .i64 1]) (by simp [results, Try.results72, go_sem, q0, q1, q2, q3]) rfl HR.out
  case true =>
  have hk : kb = 0 := hkb.symm
  subst hk
  cases rm
  case false =>
    have hv : (zeroV, (1 : Int)) = (V2, er) := by rw [← hN.out]; unfold nextV; rw [if_pos (.inr (.inr HRM.out))]
    obtain ⟨rfl, rfl⟩ : zeroV = V2 ∧ 1 = er := by simpa using hv
    clear hN hv
    go_enter Try.func72, Try.ntmps72
    go_wp2_with fail
    (with_reducible refine C1.out.mono ?_)
    rintro e w4 ⟨rfl, hb4⟩
    have CBw := CB1.out _ hb4
    obtain ⟨b0, b1, b2⟩ := (HT.out.ext hb4).2.1
    clear C1 v0 v1 v2 v3 hW3 CB1
    go_wp2_with fail
    (with_reducible refine CBw.mono ?_)
    rintro e w5 ⟨rfl, hb5⟩
    have hb45 := hb4.trans (hb5.mono hb4.size)
    have CMw := CM1.out _ hb45
    clear CBw b0 b1 b2 CM1
    go_wp2_with fail
    (with_reducible refine CMw.mono ?_)
    rintro e w6 ⟨rfl, hb6⟩
    have hb46 := hb45.trans (hb6.mono hb45.size)
    obtain ⟨d0, d1, d2, d3, g0, g1, g2, g3⟩ := (HT.out.ext hb46).2.2.1
    have DD := hid ((HT.out.ext hb46).2.2.1.put (.int .u64 0) (.slice none 0 0) (.slice none 0 0) (.slice none 0 0))
    have HR := hid (HZ.out 1 _ hb46)
    clear hb4 hb5 hb45 hb6 hb46 CMw
    go_wp2_with fail
    obtain ⟨q0, q1, q2, q3, -, -, -, -⟩ := DD.out
    exact bodyPost_ret (v := .tuple #[.agg #[.int .u64 0, .slice none 0 0, .slice none 0 0, .slice none 0 0], .int .i64 1]) (by simp [results, Try.results72, go_sem, q0, q1, q2, q3]) rfl HR.out
  case true =>
  go_enter Try.func72, Try.ntmps72
  go_wp2_with fail
  (with_reducible refine C1.out.mono ?_)
  rintro e w4 ⟨rfl, hb4⟩
  have CBw := CB1.out _ hb4
  obtain ⟨b0, b1, b2⟩ := (HT.out.ext hb4).2.1
  clear C1 v0 v1 v2 v3 hW3 CB1
  go_wp2_with fail
  (with_reducible refine CBw.mono ?_)
  rintro e w4b ⟨rfl, hb4b⟩
  have hb45 := hb4.trans (hb4b.mono hb4.size)
  have CMw := CM1.out _ hb45
  clear CBw b0 b1 b2 CM1
  go_wp2_with fail
  (with_reducible refine CMw.mono ?_)
  rintro e w5 ⟨rfl, hb5⟩
  have hb35 := hb45.trans (hb5.mono hb45.size)
  have HB35 := hid hb35
  obtain ⟨v0, v1, v2, v3⟩ := (HT.out.ext hb35).1
  clear hb4 hb4b hb45 hb5 hb35 CMw
  by_cases hid0 : V.id = 4611686018427387904
  · have hv : (zeroV, (16 : Int)) = (V2, er) := by rw [← hN.out]; unfold nextV; rw [if_neg (by rw [HRV.out, HRB.out, HRM.out]; simp), if_pos hid0]
    obtain ⟨rfl, rfl⟩ : zeroV = V2 ∧ 16 = er := by simpa using hv
    have u1 : (V.id == 4611686018427387904) = true := by simp [hid0]
    have u2 : decide (V.id = 4611686018427387904) = true := decide_eq_true hid0
    obtain ⟨d0, d1, d2, d3, g0, g1, g2, g3⟩ := (HT.out.ext HB35.out).2.2.1
    have DD := hid ((HT.out.ext HB35.out).2.2.1.put (.int .u64 0) (.slice none 0 0) (.slice none 0 0) (.slice none 0 0))
    have HR := hid (HZ.out 16 _ HB35.out)
    have HID0 := hid hid0
    clear hN hv hid0
    go_wp2_with fail
    obtain ⟨q0, q1, q2, q3, -, -, -, -⟩ := DD.out
    exact bodyPost_ret (v := .tuple #[.agg #[.int .u64 0, .slice none 0 0, .slice none 0 0, .slice none 0 0], .int .i64 16]) (by simp [results, Try.results72, go_sem, q0, q1, q2, q3]) rfl HR.out
  · have u1 : (V.id == 4611686018427387904) = false := by simp [hid0]
    have u2 : decide (V.id = 4611686018427387904) = false := decide_eq_false hid0
    have hbv : buildV (V.id + 1) (minusP V.ms gone) (leavesV V.ls gone) come b = (V2, er) := by rw [← hN.out]; unfold nextV; rw [if_neg (by rw [HRV.out, HRB.out, HRM.out]; simp), if_neg hid0]
    have hchk := chk_parts HRV.out
    obtain ⟨ST, hST⟩ : ∃ l, minusP V.ms gone = l := ⟨_, rfl⟩
    obtain ⟨LV, hLV⟩ : ∃ l, leavesV V.ls gone = l := ⟨_, rfl⟩
    obtain ⟨nS, hnS⟩ : ∃ n, ST.length = n := ⟨_, rfl⟩
    have hnSl : nS ≤ 1000 := by rw [← hnS, ← hST]; have := minus_le V.ms gone; have := HGM.out; omega
    have hpm := hchk.parts.minus gone
    have hids : (minusP V.ms gone).Pairwise fun p q => p.1 ≠ q.1 := hchk.ids.sublist List.filter_sublist
    have hoka : ∀ p ∈ minusP V.ms gone ++ come, ok p := fun p hp => by
      rcases List.mem_append.1 hp with hp | hp
      · have := HWF.out.ms p (List.mem_filter.1 hp).1
        unfold ok; exact this
      · exact HOKC.out p hp
    rw [hST] at hbv hpm hids hoka
    rw [hLV] at hbv hpm
    have hidb : 0 ≤ V.id ∧ V.id < 4611686018427387904 := by have := hchk.i1; have := hchk.i2; omega
    have hwrap : IntKind.u64.wrap (V.id + 1) = V.id + 1 := by rw [IntKind.wrap_u64]; omega
    have HBV := hid hbv
    have HST := hid hST
    have HLVE := hid hLV
    have HNS := hid hnS
    have HNSL := hid hnSl
    have HPM := hid hpm
    have HIDS := hid hids
    have HOKA := hid hoka
    have HBC := HRB
    have HV5 := hid ((HV.out.ext HT.out.bl).ext HB35.out)
    have HVW5 := hid (HT.out.ext HB35.out).1
    have HBX5 := hid (HT.out.ext HB35.out).2.1
    have HVX5 := hid (HT.out.ext HB35.out).2.2.1
    have HB5 := hid (HT.out.ext HB35.out).2.2.2
    have HSZ5 : Hid (w.heap.size + 1 + 1 < w5.heap.size) := hid (by have := HB35.out.size; have := HT.out.sz; omega)
    have HRG5 : Hid (PidRow w5 ag gone) := hid ((HRG.out.ext HT.out.bl).ext HB35.out)
    have HRC5 : Hid (∀ X, Below w5.heap.size w5 X → PidRow X ac come) := hid fun X h => ((HRC.out.ext HT.out.bl).ext HB35.out).ext h
    have HACB : Hid (∀ g off, ac = some ⟨g, off, none⟩ → come ≠ [] → g < w5.heap.size) := hid fun g off e hne => by
      obtain ⟨b', off', e2, hlt, -⟩ := HRC.out.get (List.length_pos_iff.2 hne)
      rw [e] at e2
      cases e2
      have := HSZ5.out
      omega
    have HS5 : Hid (∀ X, Below w5.heap.size w5 X → X.cell? ⟨w.heap.size, 0, none⟩ = some (.int .u64 V.id) ∧ X.cell? ⟨w.heap.size, 1, none⟩ = some (.slice am V.ms.length cm) ∧ X.cell? ⟨w.heap.size + 1, 0, none⟩ = some (.int .i64 b.least) ∧ X.cell? ⟨w.heap.size + 1, 1, none⟩ = some (.int .i64 b.most) ∧ X.cell? ⟨w.heap.size + 1, 2, none⟩ = some (.int .i64 b.tmo)) := hid fun X h => ⟨cell_toB HVW5.out.c0 h, cell_toB HVW5.out.c1 h, cell_toB HBX5.out.c0 h, cell_toB HBX5.out.c1 h, cell_toB HBX5.out.c2 h⟩
    have HB59 : Hid (∀ X, Below w5.heap.size w5 X → ∀ (qm ql qd : Option Addr) (km kl kd : Nat), (((((X.setCell ⟨w.heap.size + 1 + 1, 0, none⟩ (.int .u64 V2.id)).setCell ⟨w.heap.size + 1 + 1, 1, none⟩ (.slice qm V2.ms.length km)).setCell ⟨w.heap.size + 1 + 1, 2, none⟩ (.slice ql V2.ls.length kl)).setCell ⟨w.heap.size + 1 + 1, 3, none⟩ (.slice qd V2.ds.length kd)).cell? ⟨w.heap.size, 0, none⟩ = some (.int .u64 V.id) ∧ ((((X.setCell ⟨w.heap.size + 1 + 1, 0, none⟩ (.int .u64 V2.id)).setCell ⟨w.heap.size + 1 + 1, 1, none⟩ (.slice qm V2.ms.length km)).setCell ⟨w.heap.size + 1 + 1, 2, none⟩ (.slice ql V2.ls.length kl)).setCell ⟨w.heap.size + 1 + 1, 3, none⟩ (.slice qd V2.ds.length kd)).cell? ⟨w.heap.size, 1, none⟩ = some (.slice am V.ms.length cm) ∧ ((((X.setCell ⟨w.heap.size + 1 + 1, 0, none⟩ (.int .u64 V2.id)).setCell ⟨w.heap.size + 1 + 1, 1, none⟩ (.slice qm V2.ms.length km)).setCell ⟨w.heap.size + 1 + 1, 2, none⟩ (.slice ql V2.ls.length kl)).setCell ⟨w.heap.size + 1 + 1, 3, none⟩ (.slice qd V2.ds.length kd)).cell? ⟨w.heap.size + 1, 0, none⟩ = some (.int .i64 b.least) ∧ ((((X.setCell ⟨w.heap.size + 1 + 1, 0, none⟩ (.int .u64 V2.id)).setCell ⟨w.heap.size + 1 + 1, 1, none⟩ (.slice qm V2.ms.length km)).setCell ⟨w.heap.size + 1 + 1, 2, none⟩ (.slice ql V2.ls.length kl)).setCell ⟨w.heap.size + 1 + 1, 3, none⟩ (.slice qd V2.ds.length kd)).cell? ⟨w.heap.size + 1, 1, none⟩ = some (.int .i64 b.most) ∧ ((((X.setCell ⟨w.heap.size + 1 + 1, 0, none⟩ (.int .u64 V2.id)).setCell ⟨w.heap.size + 1 + 1, 1, none⟩ (.slice qm V2.ms.length km)).setCell ⟨w.heap.size + 1 + 1, 2, none⟩ (.slice ql V2.ls.length kl)).setCell ⟨w.heap.size + 1 + 1, 3, none⟩ (.slice qd V2.ds.length kd)).cell? ⟨w.heap.size + 1, 2, none⟩ = some (.int .i64 b.tmo)) ∧ Mut (fun k => k = w.heap.size + 1 + 1) X ((((X.setCell ⟨w.heap.size + 1 + 1, 0, none⟩ (.int .u64 V2.id)).setCell ⟨w.heap.size + 1 + 1, 1, none⟩ (.slice qm V2.ms.length km)).setCell ⟨w.heap.size + 1 + 1, 2, none⟩ (.slice ql V2.ls.length kl)).setCell ⟨w.heap.size + 1 + 1, 3, none⟩ (.slice qd V2.ds.length kd))) := hid fun X h qm ql qd km kl kd => by
      have hm : Mut (fun k => k = w.heap.size + 1 + 1) X ((((X.setCell ⟨w.heap.size + 1 + 1, 0, none⟩ (.int .u64 V2.id)).setCell ⟨w.heap.size + 1 + 1, 1, none⟩ (.slice qm V2.ms.length km)).setCell ⟨w.heap.size + 1 + 1, 2, none⟩ (.slice ql V2.ls.length kl)).setCell ⟨w.heap.size + 1 + 1, 3, none⟩ (.slice qd V2.ds.length kd)) := mut4
      obtain ⟨h0, h1, h2, h3, h4⟩ := HS5.out X h
      have hs := h.size
      have h5 := HSZ5.out
      refine ⟨⟨?_, ?_, ?_, ?_, ?_⟩, hm⟩
      · exact (hm.cell (p := ⟨w.heap.size, 0, none⟩) (by show w.heap.size < _; omega) (by show ¬ w.heap.size = _; omega)).trans h0
      · exact (hm.cell (p := ⟨w.heap.size, 1, none⟩) (by show w.heap.size < _; omega) (by show ¬ w.heap.size = _; omega)).trans h1
      · exact (hm.cell (p := ⟨w.heap.size + 1, 0, none⟩) (by show w.heap.size + 1 < _; omega) (by show ¬ w.heap.size + 1 = _; omega)).trans h2
      · exact (hm.cell (p := ⟨w.heap.size + 1, 1, none⟩) (by show w.heap.size + 1 < _; omega) (by show ¬ w.heap.size + 1 = _; omega)).trans h3
      · exact (hm.cell (p := ⟨w.heap.size + 1, 2, none⟩) (by show w.heap.size + 1 < _; omega) (by show ¬ w.heap.size + 1 = _; omega)).trans h4
    clear hid0 hbv hchk hST hLV hnS hnSl hpm hids hoka hidb hN HW3
    go_wp2
    go_loopw [10, 37] (fun v i wr => ∃ (k : Nat) (cs' : List Sl), i = .int .i64 k ∧ k ≤ V.ls.length ∧ LLs wr w5.heap.size v cs' (leavesV (V.ls.take k) gone) ∧ Below w5.heap.size w5 wr) (fun _ i _ => V.ls.length - (intOf i).toNat)
    case atStart => exact ⟨0, [], rfl, Nat.zero_le _, LLs.nil _ _, Below.refl _ _⟩
    case round =>
      obtain ⟨k, cs', rfl, hk, hown, hb⟩ := hrel
      have hgl := HGL.out
      by_cases hlt : k < V.ls.length
      · obtain ⟨bb, off, ai, ci, l, he, hx, d1, d2⟩ := HV5.out.ls.at hb rfl hlt
        subst he
        have hsucc := leaves_succ (gone := gone) hlt hx
        have hll : l.length ≤ 40 := by rw [hx]; exact HGLE.out _ (List.getElem_mem hlt)
        obtain ⟨nl, hnl⟩ : ∃ n, l.length = n := ⟨_, rfl⟩
        obtain ⟨R, hR⟩ : ∃ R, minusP l gone = R := ⟨_, rfl⟩
        rw [hnl] at d1 hll
        rw [hR] at hsucc
        have CM := hid (minus_n (c := ci) (d := kg) (hid hR) (hid hnl) hGn (by omega) hG d2 (HRG5.out.ext hb))
        have hllen : (leavesV (V.ls.take k) gone).length ≤ 40 := by
          unfold leavesV
          have h1 := List.length_filter_le (fun l : List Pid => !l.isEmpty) ((V.ls.take k).map fun l => minusP l gone)
          rw [List.length_map, List.length_take] at h1
          omega
        have HOWN := hid hown
        have HB := hid hb
        have HSU := hid hsucc
        have HLLEN := hid hllen
        clear hown hb hsucc hllen hx hnl hR d2 hll
        go_wp2_with fail
        (with_reducible refine CM.out.mono ?_)
        rintro e w6 ⟨v6, rfl, hown6, hb6⟩
        obtain ⟨a6, c6, e6, e6s, hr6, hc6, hblk6⟩ := hown6.sl
        obtain ⟨n6, hn6⟩ : ∃ n, R.length = n := ⟨_, rfl⟩
        rw [hn6] at e6 e6s hblk6
        subst e6
        have hb56 := HB.out.trans (hb6.mono HB.out.size)
        cases hem : R.isEmpty
        · have hp : 0 < n6 := by rw [← hn6]; cases R with | nil => simp at hem | cons a r => simp
          have p1 : decide ((n6 : Int) > 0) = true := decide_eq_true (by omega)
          have p2 : decide ((0 : Int) < (n6 : Int)) = true := decide_eq_true (by omega)
          have p3 : decide (0 < n6) = true := decide_eq_true hp
          have hq7 : Below w6.heap.size w6 (w6.alloc (.cells #[.slice a6 n6 c6] 30)) := (Below.refl _ _).alloc (Nat.le_refl _) _
          have HO7 := hid ((HOWN.out.ext hb6).ext hq7)
          have HP7 : Hid (OwnP (w6.alloc (.cells #[.slice a6 n6 c6] 30)) w5.heap.size (encS (a6, n6, c6)) R) := hid ((hown6.ext hq7).mono2 HB.out.size)
          have HC7 : Hid ((w6.alloc (.cells #[.slice a6 n6 c6] 30)).cell? ⟨w6.heap.size, 0, none⟩ = some (encS (a6, n6, c6))) := hid (by simp [encS])
          have HV7 : Hid (∀ g, blkS (a6, n6, c6) = some g → u10.ownBlock ≠ some g) := hid fun g hg e => by have := (hblk6 g hg).1; have := (HOWN.out.blk e).2; omega
          have HU7 : Hid (∀ u ∈ cs', ∀ g, blkS u = some g → blkS (a6, n6, c6) ≠ some g) := hid fun u hu g hg e => by have := (hblk6 g e).1; have := (HOWN.out.elB hu hg).2; omega
          have hb57 := hb56.trans (hq7.mono hb56.size)
          have HB57 := hid hb57
          have HZ7 := hid hb57.size
          have HEM := hid hem
          clear hq7 hb57 hown6 hb6 e6s hr6 hc6 hblk6 hn6 CM hb56 hem
          go_wp2_with (at_builtin; go_loud (refine wpList_appendLs HO7.out HC7.out HP7.out HV7.out HU7.out (by have := HLLEN.out; omega) HZ7.out rfl rfl (by simp [Act.eval, Act.put]; try rfl) rfl ?_; intro v8 w8 hls8 hg8 hat8; have HB8 := hid (HB57.out.grown hg8 HZ7.out (fun g hg => (HO7.out.blk hg).1)); have HL8 := hid hls8; clear hls8 hg8 hat8))
          go_roundw
          case rel => exact ⟨k + 1, _, by go_num, by omega, by rw [HSU.out, HEM.out]; exact HL8.out, HB8.out⟩
          case measure => simp [intOf]; omega
        · have hp : n6 = 0 := by rw [← hn6]; cases R with | nil => rfl | cons a r => simp at hem
          have p1 : decide ((n6 : Int) > 0) = false := decide_eq_false (by omega)
          have p2 : decide ((0 : Int) < (n6 : Int)) = false := decide_eq_false (by omega)
          have p3 : decide (0 < n6) = false := decide_eq_false (by omega)
          have HP0 := hid hp
          have HO6 := hid (HOWN.out.ext hb6)
          have HB56 := hid hb56
          have HEM := hid hem
          clear hown6 hb6 e6s hr6 hc6 hblk6 hn6 CM hb56 hem hp
          go_wp2
          go_roundw
          case rel => exact ⟨k + 1, cs', by go_num, by omega, by rw [HSU.out, HEM.out]; simpa using HO6.out, HB56.out⟩
          case measure => simp [intOf]; omega
      · have htake : V.ls.take k = V.ls := List.take_of_length_le (by omega)
        rw [htake, HLVE.out] at hown
        obtain ⟨al7, c7, he7, hr7⟩ := hown.row
        obtain ⟨n7, hn7⟩ : ∃ n, LV.length = n := ⟨_, rfl⟩
        rw [hn7] at he7
        subst he7
        have HLL := hid hown
        have HN7 := hid hn7
        have HB7 := hid hb
        have HSR : Hid (wr.drew.cell? ⟨w.heap.size, 0, none⟩ = some (.int .u64 V.id) ∧ wr.drew.cell? ⟨w.heap.size, 1, none⟩ = some (.slice am V.ms.length cm) ∧ wr.drew.cell? ⟨w.heap.size + 1, 0, none⟩ = some (.int .i64 b.least) ∧ wr.drew.cell? ⟨w.heap.size + 1, 1, none⟩ = some (.int .i64 b.most) ∧ wr.drew.cell? ⟨w.heap.size + 1, 2, none⟩ = some (.int .i64 b.tmo)) := hid (HS5.out wr.drew hb.drew)
        have HSS : Hid (∀ X, Below wr.heap.size wr X → X.cell? ⟨w.heap.size, 0, none⟩ = some (.int .u64 V.id) ∧ X.cell? ⟨w.heap.size, 1, none⟩ = some (.slice am V.ms.length cm) ∧ X.cell? ⟨w.heap.size + 1, 0, none⟩ = some (.int .i64 b.least) ∧ X.cell? ⟨w.heap.size + 1, 1, none⟩ = some (.int .i64 b.most) ∧ X.cell? ⟨w.heap.size + 1, 2, none⟩ = some (.int .i64 b.tmo)) := hid fun X h => HS5.out X (HB7.out.trans (h.mono HB7.out.size))
        have CM : Hid (Calls Try.prog 142 #[.slice am V.ms.length cm, .slice ag G kg] wr.drew fun e w' => ∃ v, e = .returned v ∧ OwnP w' wr.drew.heap.size v ST ∧ Below wr.drew.heap.size wr.drew w') := hid (minus_n HST (hid rfl) hGn (by have := HGM.out; omega) hG ((HV5.out.ms.ext hb).drew) ((HRG5.out.ext hb).drew))
        clear hown hr7 hn7 hb htake hk
        go_wp2
        refine wp_region_held_drew (S := fun X => X.cell? ⟨w.heap.size, 0, none⟩ = some (.int .u64 V.id) ∧ X.cell? ⟨w.heap.size, 1, none⟩ = some (.slice am V.ms.length cm) ∧ X.cell? ⟨w.heap.size + 1, 0, none⟩ = some (.int .i64 b.least) ∧ X.cell? ⟨w.heap.size + 1, 1, none⟩ = some (.int .i64 b.most) ∧ X.cell? ⟨w.heap.size + 1, 2, none⟩ = some (.int .i64 b.tmo)) (by kernel_rfl) (by exact HSR.out) (fun hHeld => ?_)
        refine wpAnyH_take (i := 0) (oi := _) (v := .pointer (some ⟨w.heap.size, 0, none⟩)) rfl (by kernel_rfl) (by kernel_rfl) (by kernel_rfl) (fun _ _ _ h => h) (Or.inl ⟨by rfl, ?_⟩) (by assumption) ?_
        · intro W hSw
          try dsimp only at hSw
          go_simp
        try simp only [Act.put, List.getElem_toArray, List.getElem_cons_succ, List.getElem_cons_zero, List.setIfInBounds_toArray, List.set_cons_zero, List.set_cons_succ]
        refine wpAnyH_take (i := 1) (oi := _) (v := .int .u64 V.id) rfl (by kernel_rfl) (by kernel_rfl) (by kernel_rfl) (fun _ _ _ h => h) (Or.inl ⟨by rfl, ?_⟩) (by assumption) ?_
        · intro W hSw
          try dsimp only at hSw
          obtain ⟨hSw1, hSw2, hSw3, hSw4, hSw5⟩ := hSw
          go_simp
        try simp only [Act.put, List.getElem_toArray, List.getElem_cons_succ, List.getElem_cons_zero, List.setIfInBounds_toArray, List.set_cons_zero, List.set_cons_succ]
        refine wpAnyH_take (i := 2) (oi := _) (v := .int .u64 (V.id + 1)) rfl (by kernel_rfl) (by kernel_rfl) (by kernel_rfl) (fun _ _ _ h => h) (Or.inl ⟨by rfl, ?_⟩) (by assumption) ?_
        · intro W hSw
          try dsimp only at hSw
          go_simp
        try simp only [Act.put, List.getElem_toArray, List.getElem_cons_succ, List.getElem_cons_zero, List.setIfInBounds_toArray, List.set_cons_zero, List.set_cons_succ]
        refine wpAnyH_take (i := 3) (oi := _) (v := .pointer (some ⟨w.heap.size, 1, none⟩)) rfl (by kernel_rfl) (by kernel_rfl) (by kernel_rfl) (fun _ _ _ h => h) (Or.inl ⟨by rfl, ?_⟩) (by assumption) ?_
        · intro W hSw
          try dsimp only at hSw
          go_simp
        try simp only [Act.put, List.getElem_toArray, List.getElem_cons_succ, List.getElem_cons_zero, List.setIfInBounds_toArray, List.set_cons_zero, List.set_cons_succ]
        refine wpAnyH_take (i := 4) (oi := _) (v := .slice am V.ms.length cm) rfl (by kernel_rfl) (by kernel_rfl) (by kernel_rfl) (fun _ _ _ h => h) (Or.inl ⟨by rfl, ?_⟩) (by assumption) ?_
        · intro W hSw
          try dsimp only at hSw
          obtain ⟨hSw1, hSw2, hSw3, hSw4, hSw5⟩ := hSw
          go_simp
        try simp only [Act.put, List.getElem_toArray, List.getElem_cons_succ, List.getElem_cons_zero, List.setIfInBounds_toArray, List.set_cons_zero, List.set_cons_succ]
        refine wpAnyH_take (i := 5) (oi := _) (v := .slice ag G kg) rfl (by kernel_rfl) (by kernel_rfl) (by kernel_rfl) (fun _ _ _ h => h) (Or.inl ⟨by rfl, ?_⟩) (by assumption) ?_
        · intro W hSw
          try dsimp only at hSw
          go_simp
        try simp only [Act.put, List.getElem_toArray, List.getElem_cons_succ, List.getElem_cons_zero, List.setIfInBounds_toArray, List.set_cons_zero, List.set_cons_succ]
        refine wpAnyH_take (i := 7) (oi := _) (v := .slice al7 n7 c7) rfl (by kernel_rfl) (by kernel_rfl) (by kernel_rfl) (fun _ _ _ h => h) (Or.inl ⟨by rfl, ?_⟩) (by assumption) ?_
        · intro W hSw
          try dsimp only at hSw
          go_simp
        try simp only [Act.put, List.getElem_toArray, List.getElem_cons_succ, List.getElem_cons_zero, List.setIfInBounds_toArray, List.set_cons_zero, List.set_cons_succ]
        refine wpAnyH_take (i := 8) (oi := _) (v := .slice ac C kc) rfl (by kernel_rfl) (by kernel_rfl) (by kernel_rfl) (fun _ _ _ h => h) (Or.inl ⟨by rfl, ?_⟩) (by assumption) ?_
        · intro W hSw
          try dsimp only at hSw
          go_simp
        try simp only [Act.put, List.getElem_toArray, List.getElem_cons_succ, List.getElem_cons_zero, List.setIfInBounds_toArray, List.set_cons_zero, List.set_cons_succ]
        refine wpAnyH_take (i := 9) (oi := _) (v := .agg #[.int .i64 b.least, .int .i64 b.most, .int .i64 b.tmo]) rfl (by kernel_rfl) (by kernel_rfl) (by kernel_rfl) (fun _ _ _ h => h) (Or.inl ⟨by rfl, ?_⟩) (by assumption) ?_
        · intro W hSw
          try dsimp only at hSw
          obtain ⟨hSw1, hSw2, hSw3, hSw4, hSw5⟩ := hSw
          go_simp
        try simp only [Act.put, List.getElem_toArray, List.getElem_cons_succ, List.getElem_cons_zero, List.setIfInBounds_toArray, List.set_cons_zero, List.set_cons_succ]
        refine wpAnyH_ready (rs := [6]) (by kernel_rfl) (by simp) ?_
        refine AllReadyH.cons (o := _) rfl (fun K hK => ?_) AllReadyH.nil
        go_simp
        (with_reducible refine CM.out.mono ?_)
        rintro e w8 ⟨v8, rfl, hown8, hb8⟩
        obtain ⟨a8, c8, e8, hr8, -⟩ := hown8.row
        rw [HNS.out] at e8
        subst e8
        have HB8 : Hid (Below wr.heap.size wr w8) := hid ((Below.refl _ _).drew.trans hb8)
        have HR8 := hid hr8
        clear hown8 hb8 hr8 CM
        refine hK.out _ _ (HSS.out _ HB8.out) (fun hHeld => ?_)
        clear hK K
        try simp only [Act.put, List.getElem_toArray, List.getElem_cons_succ, List.getElem_cons_zero, List.setIfInBounds_toArray, List.set_cons_zero, List.set_cons_succ]
        have CB := hid (build_any (w := w8) (base := w5.heap.size) (ks := c8) (kc := kc) HBV HNS hCn HN7 HNSL.out hC HR8.out (HRC5.out w8 (HB7.out.trans (HB8.out.mono HB7.out.size))) (HLL.out.ext HB8.out) (by have := HB7.out.size; have := HB8.out.size; omega) HPM.out HIDS.out HOKA.out HBC.out (fun g off e hne hin => by have h1 := HACB.out g off e hne; have h2 := (HLL.out.inB hin).1; omega))
        refine wpAnyH_ready (rs := [10]) (by kernel_rfl) (by simp) ?_
        refine AllReadyH.cons (o := _) rfl (fun K hK => ?_) AllReadyH.nil
        go_simp
        (with_reducible refine CB.out.mono ?_)
        rintro e w9 hres
        unfold BuildRes at hres
        obtain ⟨qm, ql, qd, km, kl, kd, rfl, hst, hm⟩ := hres
        have hlow : Mut (fun k => w5.heap.size ≤ k) w8 w9 := hm.mono fun _ _ e => (HLL.out.inB e).1
        have HB9 : Hid (Below w5.heap.size w5 w9) := hid ((HB7.out.trans (HB8.out.mono HB7.out.size)).trans (hlow.below (by have := HB7.out.size; have := HB8.out.size; omega) (fun _ e => e)))
        have HST2 := hid hst
        clear hst hm hlow CB
        refine hK.out _ _ (HS5.out _ HB9.out) (fun hHeld => ?_)
        clear hK K
        try simp only [Act.put, List.getElem_toArray, List.getElem_cons_succ, List.getElem_cons_zero, List.setIfInBounds_toArray, List.set_cons_zero, List.set_cons_succ]
        refine wpAnyH_take (i := 11) (oi := _) (v := .agg #[.int .u64 V2.id, .slice qm V2.ms.length km, .slice ql V2.ls.length kl, .slice qd V2.ds.length kd]) rfl (by kernel_rfl) (by kernel_rfl) (by kernel_rfl) (fun _ _ _ h => h) (Or.inl ⟨by rfl, ?_⟩) (by assumption) ?_
        · intro W hSw
          try dsimp only at hSw
          go_simp
        try simp only [Act.put, List.getElem_toArray, List.getElem_cons_succ, List.getElem_cons_zero, List.setIfInBounds_toArray, List.set_cons_zero, List.set_cons_succ]
        refine wpAnyH_take (i := 12) (oi := _) (v := .int .i64 er) rfl (by kernel_rfl) (by kernel_rfl) (by kernel_rfl) (fun _ _ _ h => h) (Or.inl ⟨by rfl, ?_⟩) (by assumption) ?_
        · intro W hSw
          try dsimp only at hSw
          go_simp
        try simp only [Act.put, List.getElem_toArray, List.getElem_cons_succ, List.getElem_cons_zero, List.setIfInBounds_toArray, List.set_cons_zero, List.set_cons_succ]
        obtain ⟨d0, d1, d2, d3, g0, g1, g2, g3⟩ := HVX5.out.ext HB9.out
        have DD := hid ((HVX5.out.ext HB9.out).put (.int .u64 V2.id) (.slice qm V2.ms.length km) (.slice ql V2.ls.length kl) (.slice qd V2.ds.length kd))
        have HB10 := hid (HB59.out _ HB9.out qm ql qd km kl kd)
        refine wpAnyH_ready (rs := [13]) (by kernel_rfl) (by simp) ?_
        refine AllReadyH.cons (o := _) rfl (fun K hK => ?_) AllReadyH.nil
        go_simp
        clear d0 d1 d2 d3 g0 g1 g2 g3
        refine hK.out _ _ (HB10.out.1) (fun hHeld => ?_)
        clear hK K
        try simp only [Act.put, List.getElem_toArray, List.getElem_cons_succ, List.getElem_cons_zero, List.setIfInBounds_toArray, List.set_cons_zero, List.set_cons_succ]
        refine wpAnyH_ready (rs := [14]) (by kernel_rfl) (by simp) ?_
        refine AllReadyH.cons (o := _) rfl (fun K hK => ?_) AllReadyH.nil
        go_simp
        refine hK.out _ _ (HB10.out.1) (fun hHeld => ?_)
        clear hK K
        try simp only [Act.put, List.getElem_toArray, List.getElem_cons_succ, List.getElem_cons_zero, List.setIfInBounds_toArray, List.set_cons_zero, List.set_cons_succ]
        refine wpAnyH_done (by kernel_rfl) ?_ _
        obtain ⟨q0, q1, q2, q3, -, -, -, -⟩ := DD.out
        go_wp2_with fail
        refine bodyPost_ret (v := .tuple #[.agg #[.int .u64 V2.id, .slice qm V2.ms.length km, .slice ql V2.ls.length kl, .slice qd V2.ds.length kd], .int .i64 er]) (by simp [results, Try.results72, go_sem, q0, q1, q2, q3]) rfl ?_
        unfold BuildRes
        have hsz := HSZ5.out
        have hb9 := HB5.out.trans (HB9.out.mono HB5.out.size)
        exact ⟨qm, ql, qd, km, kl, kd, rfl, (HST2.out.mut HB10.out.2 (fun k e => by omega)).mono (by omega), Mut.of_below (below_put4 hb9 (by omega))⟩
end Go.Proofs.Ytbpfhclcjedkcaa

namespace Go.Proofs.Ytbpfhclcjedkcaa
open Go.RowKit
/-! ### layout.Fits; LayoutStill -/
theorem great_n {b : Bnd} {a : Option Addr} {c n : Nat} {ls : LL} {G : Int} {w : World} (hG : Hid (greatL b ls = G)) (hN : Hid (ls.length = n)) (hn : n ≤ 1000000) (hrow : LeafRow w a ls) :
    Calls Try.prog 171 #[.slice a n c, .agg #[.int .i64 b.least, .int .i64 b.most, .int .i64 b.tmo]] w fun e w' => e = .returned (.int .i64 G) ∧ Below w.heap.size w w' := by
  have hN := hN.out; subst hN
  rw [← hG.out]
  exact lgreat_any (b := b) (c := c) (by omega) hrow
theorem small_n {b : Bnd} {a : Option Addr} {c n : Nat} {ls : LL} {G : Int} {w : World} (hG : Hid (smallL b ls = G)) (hN : Hid (ls.length = n)) (hn : n ≤ 1000000) (hrow : LeafRow w a ls) :
    Calls Try.prog 172 #[.slice a n c, .agg #[.int .i64 b.least, .int .i64 b.most, .int .i64 b.tmo]] w fun e w' => e = .returned (.int .i64 G) ∧ Below w.heap.size w w' := by
  have hN := hN.out; subst hN
  rw [← hG.out]
  exact lsmall_any (b := b) (c := c) (by omega) hrow
set_option maxRecDepth 100000 in
set_option maxHeartbeats 1600000 in
theorem fits_any {V : View} {b : Bnd} {am al ad : Option Addr} {cm cl cd : Nat} {r : Bool} {w : World} (hr : Hid (fitsL b V.ls = r)) (hV : ViewR w am al ad V) (hll : V.ls.length ≤ 1000000) :
    Calls Try.prog 75 #[.agg #[.int .u64 V.id, .slice am V.ms.length cm, .slice al V.ls.length cl, .slice ad V.ds.length cd], .agg #[.int .i64 b.least, .int .i64 b.most, .int .i64 b.tmo]] w fun e w' => e = .returned (.bool r) ∧ Below w.heap.size w w' := by
  obtain ⟨W1, hW1⟩ : ∃ W1, w.alloc (.cells #[.int .u64 V.id, .slice am V.ms.length cm, .slice al V.ls.length cl, .slice ad V.ds.length cd] 33) = W1 := ⟨_, rfl⟩
  have s1 : W1.heap.size = w.heap.size + 1 := by rw [← hW1]; simp
  have b1 : Below w.heap.size w W1 := by rw [← hW1]; exact (Below.refl _ _).alloc (Nat.le_refl _) _
  have x1 : ViewBox W1 w.heap.size V am al ad cm cl cd := by rw [← hW1]; exact ViewBox.made (V := V) w
  obtain ⟨W2, hW2⟩ : ∃ W2, W1.alloc (.cells #[.int .i64 b.least, .int .i64 b.most, .int .i64 b.tmo] 117) = W2 := ⟨_, rfl⟩
  have b2 : Below W1.heap.size W1 W2 := by rw [← hW2]; exact (Below.refl _ _).alloc (Nat.le_refl _) _
  have y2 : BndBox W2 (w.heap.size + 1) b := by rw [← hW2, ← s1]; exact BndBox.made W1
  have x2 := x1.ext b2 x1.lt
  have hb2 := b1.trans (b2.mono b1.size)
  have hV2 := hV.ext hb2
  obtain ⟨G, hG⟩ : ∃ G, greatL b V.ls = G := ⟨_, rfl⟩
  obtain ⟨M, hM⟩ : ∃ M, smallL b V.ls = M := ⟨_, rfl⟩
  have hfit := hr.out
  unfold fitsL at hfit
  rw [hG, hM] at hfit
  have C1 := hid (great_n (c := cl) (hid hG) (hid rfl) hll hV2.ls)
  have C2 : Hid (∀ X, Below W2.heap.size W2 X → Calls Try.prog 172 #[.slice al V.ls.length cl, .agg #[.int .i64 b.least, .int .i64 b.most, .int .i64 b.tmo]] X fun e w' => e = .returned (.int .i64 M) ∧ Below X.heap.size X w') := hid fun X h => small_n (c := cl) (hid hM) (hid rfl) hll (hV2.ls.ext h)
  obtain ⟨v0, v1, v2, v3⟩ := id x2
  obtain ⟨z0, z1, z2⟩ := id y2
  have HX := hid x2
  have HY := hid y2
  have HB2 := hid hb2
  clear hr hV hll b1 x1 b2 y2 x2 hb2 hV2 hG hM
  cases hg : decide (G < 0)
  · rw [hg] at hfit
    have hfr : r = false := hfit.symm
    subst hfr
    clear hfit
    go_enter Try.func75, Try.ntmps75
    go_wp2_with fail
    (with_reducible refine C1.out.mono ?_)
    rintro e w3 ⟨rfl, hb3⟩
    have HB3 := hid (HB2.out.trans (hb3.mono HB2.out.size))
    clear hb3 C1 v0 v1 v2 v3 z0 z1 z2 hW1 hW2 C2
    go_wp2
    go_ret
    exact ⟨rfl, HB3.out⟩
  · rw [hg, Bool.true_and] at hfit
    go_enter Try.func75, Try.ntmps75
    go_wp2_with fail
    (with_reducible refine C1.out.mono ?_)
    rintro e w3 ⟨rfl, hb3⟩
    have C2w := C2.out _ hb3
    have HB3 := hid (HB2.out.trans (hb3.mono HB2.out.size))
    clear C1 v0 v1 v2 v3 z0 z1 z2 hW1 hW2 C2
    obtain ⟨v0, v1, v2, v3⟩ := HX.out.ext hb3 HX.out.lt
    obtain ⟨z0, z1, z2⟩ := HY.out.ext hb3 HY.out.lt
    clear hb3
    go_wp2_with fail
    (with_reducible refine C2w.mono ?_)
    rintro e w4 ⟨rfl, hb4⟩
    have HB4 := hid (HB3.out.trans (hb4.mono HB3.out.size))
    have HF := hid hfit
    clear hb4 C2w v0 v1 v2 v3 z0 z1 z2
    go_wp2
    go_ret
    exact ⟨by first | rfl | rw [HF.out] | (show _ = _; simp [hfit]), HB4.out⟩
end Go.Proofs.Ytbpfhclcjedkcaa

namespace Go.Proofs.Ytbpfhclcjedkcaa
open Go.RowKit
/-! ### the law LayoutStill -/
structure DuoBox (W2 w : World) (b : Bnd) (V : View) (am al ad : Option Addr) (cm cl cd : Nat) : Prop where
  bl : Below w.heap.size w W2
  vw : ViewBox W2 w.heap.size V am al ad cm cl cd
  bx : BndBox W2 (w.heap.size + 1) b
theorem DuoBox.made (w : World) (b : Bnd) (V : View) (am al ad : Option Addr) (cm cl cd : Nat) : DuoBox ((w.alloc (.cells #[.int .u64 V.id, .slice am V.ms.length cm, .slice al V.ls.length cl, .slice ad V.ds.length cd] 33)).alloc (.cells #[.int .i64 b.least, .int .i64 b.most, .int .i64 b.tmo] 117)) w b V am al ad cm cl cd := by
  have e : ∀ (W : World) (o : Obj), Below W.heap.size W (W.alloc o) := fun W o => (Below.refl _ _).alloc (Nat.le_refl _) _
  obtain ⟨X1, h1⟩ : ∃ X, w.alloc (.cells #[.int .u64 V.id, .slice am V.ms.length cm, .slice al V.ls.length cl, .slice ad V.ds.length cd] 33) = X := ⟨_, rfl⟩
  have s1 : X1.heap.size = w.heap.size + 1 := by rw [← h1]; simp
  have b1 : Below w.heap.size w X1 := by rw [← h1]; exact e _ _
  have v1 : ViewBox X1 w.heap.size V am al ad cm cl cd := by rw [← h1]; exact ViewBox.made (V := V) w
  rw [h1]
  refine ⟨b1.trans ((e _ _).mono b1.size), v1.ext (e _ _) v1.lt, ?_⟩
  rw [← s1]
  exact BndBox.made X1
theorem DuoBox.ext {W2 w W : World} {b : Bnd} {V : View} {am al ad : Option Addr} {cm cl cd : Nat} (h : DuoBox W2 w b V am al ad cm cl cd) (hb : Below W2.heap.size W2 W) : DuoBox W w b V am al ad cm cl cd :=
  ⟨h.bl.trans (hb.mono h.bl.size), h.vw.ext hb h.vw.lt, h.bx.ext hb h.bx.lt⟩
theorem ViewBox.mutN {G : Nat → Prop} {w w' : World} {b : Nat} {V : View} {am al ad : Option Addr} {cm cl cd : Nat} (h : ViewBox w b V am al ad cm cl cd) (hm : Mut G w w') (hG : ¬ G b) : ViewBox w' b V am al ad cm cl cd :=
  ⟨cell_mut h.c0 hm hG, cell_mut h.c1 hm hG, cell_mut h.c2 hm hG, cell_mut h.c3 hm hG⟩
end Go.Proofs.Ytbpfhclcjedkcaa

namespace Go.Proofs.Ytbpfhclcjedkcaa
open Go.RowKit
/-! ### LayoutRight, LayoutGrows in plain words -/
section
variable {i : Int} {ms : List Pid} {b : Bnd} {V : View}
theorem ord_leaf {ls : LL} (h : Parts ms ls) {c : List Pid} (hc : c ∈ ordR ms ls) : c.length ≤ ms.length ∧ ∀ p ∈ c, p ∈ ms := by
  obtain ⟨l, hl, rfl⟩ := h.ord_mem hc
  exact ⟨List.length_filter_le _ _, fun p hp => (List.mem_filter.1 hp).1⟩
theorem BuiltOk.less (h : BuiltOk i ms b V) : ms.length ≤ 24 := (members_parts.1 h.mem).1.2
theorem BuiltOk.small (h : BuiltOk i ms b V) : greatB V = false := by
  have hl := h.less
  obtain ⟨ls, hp, -, rfl⟩ := h.ex
  have h1 := full_len hp.ord_full
  rw [← total_flat, hp.ord_flat.length_eq] at h1
  have h2 : (leadersL ms (heads (ordR ms ls))).length ≤ ms.length := List.length_filter_le _ _
  unfold greatB
  simp only [Bool.or_eq_false_iff, decide_eq_false_iff_not, List.any_eq_false, decide_eq_true_eq]
  exact ⟨by omega, by omega, by omega, fun c hc => by have := (ord_leaf hp hc).1; omega⟩
theorem BuiltOk.wf (h : BuiltOk i ms b V) (hi : 0 ≤ i ∧ i < 18446744073709551616) (hm : WfPids ms) : WfView V := by
  obtain ⟨ls, hp, -, rfl⟩ := h.ex
  exact ⟨hi, hm, fun c hc p hpc => hm p ((ord_leaf hp hc).2 p hpc), fun p hpl => hm p (List.mem_filter.1 hpl).1⟩
end
theorem wf_app {xs ys : List Pid} (h1 : WfPids xs) (h2 : WfPids ys) : WfPids (xs ++ ys) := fun p hp => (List.mem_append.1 hp).elim (h1 p) (h2 p)
theorem wf_minus {xs ys : List Pid} (h1 : WfPids xs) : WfPids (minusP xs ys) := fun p hp => h1 p (List.mem_filter.1 hp).1
structure RightV (V V2 : View) (gone come : List Pid) (b : Bnd) : Prop where
  chk : refCheckB V2 = true
  fit : fitsL b V2.ls = true
  id : V2.id = V.id + 1
  i1 : 0 ≤ V.id
  i2 : V.id < 4611686018427387904
  ms : V2.ms = minusP V.ms gone ++ come
  ld : min 3 V2.ms.length ≤ V2.ds.length
  sm : greatB V2 = false
  wf : WfView V2
theorem next_right {V V2 : View} {gone come : List Pid} {b : Bnd} (h : nextV V gone come b = (V2, 0)) (hwf : WfView V) (hc : WfPids come) : RightV V V2 gone come b := by
  have h0 : (nextV V gone come b).2 = 0 := by rw [h]
  obtain ⟨g1, g2, g3, g4, g5, g6, g7, g8, g9⟩ := next_ok h0
  rw [h] at g6
  have hV := chk_parts g1
  have h1 := hV.i1
  have hw : WfView V2 := g6.wf (by omega) (wf_app (wf_minus hwf.ms) hc)
  refine ⟨?_, g6.fits, g6.id, by omega, g4, g6.ms, ?_, g6.small, hw⟩
  · rw [← check_eq V2 hw.ms]
    exact g6.check (by omega) (by omega)
  · rw [g6.ms]; exact g6.leads
theorem stepsV_snoc (b : Bnd) (p : Pid) : ∀ (l : List Pid) (V : View), stepsV b (l ++ [p]) V = (stepsV b l V).bind (stepsV b [p])
  | [], V => rfl
  | q :: r, V => by
    rw [List.cons_append]
    unfold stepsV
    by_cases h : (nextV V [] [q] b).2 = 0
    · rw [if_pos h, if_pos h]; exact stepsV_snoc b p r _
    · rw [if_neg h, if_neg h]; rfl
theorem comeOk_take {S : List Int} {come : List Pid} (h : comeOk S come = true) (k : Nat) : comeOk S (come.take k) = true := by
  rw [comeOk_iff] at h ⊢
  exact ⟨fun p hp => h.1 p (List.mem_of_mem_take hp), h.2.sublist (List.take_sublist k come)⟩
theorem mayAll_take {come : List Pid} (h : mayAll come = true) (k : Nat) : mayAll (come.take k) = true := by
  unfold mayAll at h ⊢
  rw [List.all_eq_true] at h ⊢
  exact fun p hp => h p (List.mem_of_mem_take hp)
/-- one more comes -/
theorem grow_step {V : View} {come : List Pid} {b : Bnd} (h : (nextV V [] come b).2 = 0) (hid : V.id ≤ 1152921504606846976) (hl : come.length ≤ 12) (hc : WfPids come) {k : Nat} (hk : k < come.length) {Y : View} (hY : stepsV b (come.take k) V = some Y) (hwf : WfView Y) {p : Pid} (hp : p = come[k]) :
    ∃ Y', nextV Y [] [p] b = (Y', 0) ∧ stepsV b (come.take (k + 1)) V = some Y' ∧ WfView Y' ∧ greatB Y' = false := by
  obtain ⟨g1, g2, g3, g4, g5, g6, g7, g8, g9⟩ := next_ok h
  rw [minus_nil] at g7 g8 g9
  have hlen : (V.ms ++ come).length = V.ms.length + come.length := List.length_append
  have h1 := (chk_parts g1).i1
  obtain ⟨Y2, e, -, -⟩ := steps_ok g2 (come.take (k + 1)) g1 (by rw [List.length_take]; omega) (mayAll_take g3 _) (comeOk_take g7 _) (by rw [List.length_take]; omega)
  have e2 := e
  rw [List.take_succ_eq_append_getElem hk, stepsV_snoc, hY, ← hp] at e
  have e : stepsV b [p] Y = some Y2 := e
  unfold stepsV at e
  by_cases hn : (nextV Y [] [p] b).2 = 0
  · rw [if_pos hn] at e
    have e : some (nextV Y [] [p] b).1 = some Y2 := e
    have e : (nextV Y [] [p] b).1 = Y2 := Option.some.inj e
    have hpair : nextV Y [] [p] b = (Y2, 0) := by rw [← e, ← hn]
    have hr := next_right hpair hwf (fun q hq => by rw [List.mem_singleton.1 hq, hp]; exact hc _ (List.getElem_mem hk))
    exact ⟨Y2, hpair, e2, hr.wf, hr.sm⟩
  · rw [if_neg hn] at e; cases e
theorem grow_end {V : View} {come : List Pid} {b : Bnd} (h : (nextV V [] come b).2 = 0) (hid : V.id ≤ 1152921504606846976) (hl : come.length ≤ 12) {Y : View} (hY : stepsV b come V = some Y) :
    Y.ms = V.ms ++ come ∧ (come ≠ [] → fitsL b Y.ls = true) := by
  obtain ⟨g1, g2, g3, g4, g5, g6, g7, g8, g9⟩ := next_ok h
  rw [minus_nil] at g7 g8 g9
  have hlen : (V.ms ++ come).length = V.ms.length + come.length := List.length_append
  obtain ⟨Y2, e, e1, e2⟩ := steps_ok g2 come g1 (by omega) g3 g7 (by omega)
  rw [hY] at e
  cases e
  exact ⟨e1, e2⟩
end Go.Proofs.Ytbpfhclcjedkcaa

namespace Go.Proofs.Ytbpfhclcjedkcaa
open Go.RowKit
/-! ### the law LayoutGrows -/
theorem run_midP {a : Option Addr} {n c k : Nat} (h : k + 1 ≤ c) (W : World) : (Instr.slice 30 (.slice a n c) (some (.int .i64 k)) (some (.int .i64 ((k : Int) + 1))) none).run Try.prog W = .ok (.slice (a.map (·.add (k * 2))) 1 (c - k)) W := by
  have hs : ∀ W, (sizeOf 26).run Try.prog W = .ok 2 W := fun W => Try.sizeOf26 W
  have e : ((k : Int) + 1) = ((k + 1 : Nat) : Int) := by omega
  have hck : ¬ c = k := by omega
  rw [e]
  have h2 : k ≤ k + 1 := by omega
  simp [Instr.slice, run_underlying Try.underlying30, Instr.sliceBounds, run_sliceBound, hs, Result.andThen, h, h2, hck, addr_add, -Int.natCast_add]
theorem PidRow.mid {w : World} {a : Option Addr} {xs : List Pid} (h : PidRow w a xs) {k : Nat} (hk : k < xs.length) : PidRow w (a.map (·.add (k * 2))) [xs[k]] := by
  obtain ⟨b, off, rfl, hb, hcell⟩ := h.get (by omega)
  refine .inr ⟨b, off + k * 2, by simp [addr_add], hb, fun i hi => ?_⟩
  have hi0 : i = 0 := by simp at hi; omega
  subst hi0
  have := hcell k hk
  simpa using this
set_option maxRecDepth 100000 in
set_option maxHeartbeats 12800000 in
theorem layoutGrows_law {V : View} {b : Bnd} {come : List Pid} {am al ad ac : Option Addr} {cm cl cd kc : Nat} {w : World} (hV : ViewR w am al ad V) (hwf : WfView V) (hrc : PidRow w ac come) (hwc : WfPids come) (hlc : come.length ≤ 17592186044416 ∧ come.length ≤ kc) (hbo : BndOk b) :
    Calls Try.prog 16 #[.agg #[.int .u64 V.id, .slice am V.ms.length cm, .slice al V.ls.length cl, .slice ad V.ds.length cd], .slice ac come.length kc, .agg #[.int .i64 b.least, .int .i64 b.most, .int .i64 b.tmo]] w fun e w' => e = .returned (.bool true) ∧ Below w.heap.size w w' := by
  obtain ⟨W2, hW2⟩ : ∃ W2, ((w.alloc (.cells #[.int .u64 V.id, .slice am V.ms.length cm, .slice al V.ls.length cl, .slice ad V.ds.length cd] 33)).alloc (.cells #[.int .i64 b.least, .int .i64 b.most, .int .i64 b.tmo] 117)) = W2 := ⟨_, rfl⟩
  have hT : DuoBox W2 w b V am al ad cm cl cd := by rw [← hW2]; exact DuoBox.made w b V am al ad cm cl cd
  obtain ⟨C, hC⟩ : ∃ n, come.length = n := ⟨_, rfl⟩
  rw [hC] at hlc
  rw [hC]
  obtain ⟨gv, hgv⟩ : ∃ r, greatB V = r := ⟨_, rfl⟩
  have hV2 := hV.ext hT.bl
  have C1 := hid (great_is (cm := cm) (cl := cl) (cd := cd) (hid hgv) hV2)
  have HT := hid hT
  have HV2 := hid hV2
  have HC := hid hC
  have HKC := hid hlc.2
  obtain ⟨v0, v1, v2, v3⟩ := id hT.vw
  by_cases hbad : gv = true ∨ 12 < C
  · have u : gv = true ∨ (gv = false ∧ decide ((C : Int) > 12) = true ∧ decide ((12 : Int) < (C : Int)) = true) := by
      cases gv
      · have := hbad.resolve_left (by simp)
        exact .inr ⟨rfl, decide_eq_true (by omega), decide_eq_true (by omega)⟩
      · exact .inl rfl
    clear hT hV hV2 hgv hbo hwf hC hrc hwc hlc HKC hbad
    rcases u with rfl | ⟨rfl, p1, p2⟩
    · go_enter Try.func16, Try.ntmps16
      go_wp2_with fail
      (with_reducible refine C1.out.mono ?_)
      rintro e w3 ⟨rfl, hb3⟩
      have HB3 := hid (HT.out.ext hb3).bl
      clear hb3 C1 v0 v1 v2 v3 hW2
      have CA := hid (awakeL_any w3)
      go_wp2_with fail
      (with_reducible refine CA.out.mono ?_)
      rintro e wA ⟨rfl, hbA⟩
      have HBA := hid ((HB3.out).trans (hbA.mono (HB3.out).size))
      clear hbA CA
      go_wp2
      go_ret
      exact ⟨rfl, HBA.out⟩
    · go_enter Try.func16, Try.ntmps16
      go_wp2_with fail
      (with_reducible refine C1.out.mono ?_)
      rintro e w3 ⟨rfl, hb3⟩
      have HB3 := hid (HT.out.ext hb3).bl
      clear hb3 C1 v0 v1 v2 v3 hW2
      have CA := hid (awakeL_any w3)
      go_wp2_with fail
      (with_reducible refine CA.out.mono ?_)
      rintro e wA ⟨rfl, hbA⟩
      have HBA := hid ((HB3.out).trans (hbA.mono (HB3.out).size))
      clear hbA CA
      go_wp2
      go_ret
      exact ⟨rfl, HBA.out⟩
  obtain ⟨rfl, hC12⟩ : gv = false ∧ C ≤ 12 := by
    cases gv
    · exact ⟨rfl, by omega⟩
    · exact absurd (.inl rfl) hbad
  clear hbad
  have p1 : decide ((C : Int) > 12) = false := decide_eq_false (by omega)
  have p2 : decide ((12 : Int) < (C : Int)) = false := decide_eq_false (by omega)
  obtain ⟨V2, er, hN⟩ : ∃ V2 er, nextV V [] come b = (V2, er) := ⟨_, _, rfl⟩
  have hrc2 := hrc.ext hT.bl
  have CN : Hid (∀ X, Below W2.heap.size W2 X → Calls Try.prog 72 #[.agg #[.int .u64 V.id, .slice am V.ms.length cm, .slice al V.ls.length cl, .slice ad V.ds.length cd], .slice none 0 0, .slice ac C kc, .agg #[.int .i64 b.least, .int .i64 b.most, .int .i64 b.tmo]] X fun e w' => BuildRes V2 er X.heap.size (fun _ => False) X e w') := hid fun X h => next_any (hid hN) (hV2.ext h) hwf hgv (hid rfl) HC (by omega) (by omega) (.inl rfl) (hrc2.ext h) (fun p hp => by have := hwc p hp; unfold ok; exact this) hbo
  have HRC2 := hid hrc2
  have HN := hid hN
  have HWF := hid hwf
  have HWC := hid hwc
  have HG0 := hid hgv
  have HC12 := hid hC12
  have HBO := hid hbo
  clear hT hV hV2 hgv hbo hwf hN hC hrc hwc hlc hrc2 hC12
  go_enter Try.func16, Try.ntmps16
  go_wp2_with fail
  (with_reducible refine C1.out.mono ?_)
  rintro e w3 ⟨rfl, hb3⟩
  have CNw := CN.out _ hb3
  have HT3 := hid (HT.out.ext hb3)
  have HB23 := hid hb3
  clear hb3 C1 v0 v1 v2 v3 hW2 CN
  obtain ⟨v0, v1, v2, v3⟩ := HT3.out.vw
  obtain ⟨z0, z1, z2⟩ := HT3.out.bx
  go_wp2_with fail
  (with_reducible refine CNw.mono ?_)
  rintro e w4 hres
  clear p1 p2
  unfold BuildRes at hres
  obtain ⟨qm, ql, qd, km, kl, kd, rfl, hst, hm⟩ := hres
  have hb34 : Below w3.heap.size w3 w4 := hm.below (Nat.le_refl _) (fun _ e => e.elim)
  have hvr := hst.r
  obtain ⟨W5, hW5⟩ : ∃ W5, w4.alloc (.cells #[.int .u64 V2.id, .slice qm V2.ms.length km, .slice ql V2.ls.length kl, .slice qd V2.ds.length kd] 33) = W5 := ⟨_, rfl⟩
  have hb45 : Below w4.heap.size w4 W5 := by rw [← hW5]; exact (Below.refl _ _).alloc (Nat.le_refl _) _
  have y5 : ViewBox W5 w4.heap.size V2 qm ql qd km kl kd := by rw [← hW5]; exact ViewBox.made (V := V2) w4
  have hb35 := hb34.trans (hb45.mono hb34.size)
  have HB25 := hid (HB23.out.trans (hb35.mono HB23.out.size))
  have HT5 := hid (HT3.out.ext hb35)
  have HY5 := hid y5
  have HVR5 := hid (hvr.ext hb45)
  have HV5 := hid (HV2.out.ext HB25.out)
  have HRC5 := hid (HRC2.out.ext HB25.out)
  clear hst hm hb34 hvr hb45 hb35 y5 CNw v0 v1 v2 v3 z0 z1 z2
  obtain ⟨v0, v1, v2, v3⟩ := HT5.out.vw
  by_cases her : er = 0
  case neg =>
    have t1 : (er != 0) = true := by simpa using her
    have HE := hid her
    clear her
    have CA := hid (awakeL_any W5)
    clear v0 v1 v2 v3
    go_wp2_with fail
    (with_reducible refine CA.out.mono ?_)
    rintro e wA ⟨rfl, hbA⟩
    clear hW5
    have HBA := hid ((HT5.out.bl).trans (hbA.mono (HT5.out.bl).size))
    clear hbA CA
    go_wp2
    go_ret
    exact ⟨rfl, HBA.out⟩
  subst her
  have t1 : ((0 : Int) != 0) = false := by decide
  by_cases hbig : V.id ≤ 1152921504606846976
  case neg =>
    have u1 : decide (V.id > 1152921504606846976) = true := decide_eq_true (by omega)
    have u2 : decide (1152921504606846976 < V.id) = true := decide_eq_true (by omega)
    have HE := hid hbig
    clear hbig
    have CA := hid (awakeL_any W5)
    go_wp2_with fail
    (with_reducible refine CA.out.mono ?_)
    rintro e wA ⟨rfl, hbA⟩
    clear hW5
    have HBA := hid ((HT5.out.bl).trans (hbA.mono (HT5.out.bl).size))
    clear hbA CA
    go_wp2
    go_ret
    exact ⟨rfl, HBA.out⟩
  have u1 : decide (V.id > 1152921504606846976) = false := decide_eq_false (by omega)
  have u2 : decide (1152921504606846976 < V.id) = false := decide_eq_false (by omega)
  have HBIG := hid hbig
  clear hbig
  obtain ⟨W6, hW6⟩ : ∃ W6, W5.alloc (.cells #[.int .u64 V.id, .slice am V.ms.length cm, .slice al V.ls.length cl, .slice ad V.ds.length cd] 33) = W6 := ⟨_, rfl⟩
  obtain ⟨yb, hyb⟩ : ∃ q, W5.heap.size = q := ⟨_, rfl⟩
  have hb56 : Below W5.heap.size W5 W6 := by rw [← hW6]; exact (Below.refl _ _).alloc (Nat.le_refl _) _
  have y6 : BoxV W6 yb (.int .u64 V.id) (.slice am V.ms.length cm) (.slice al V.ls.length cl) (.slice ad V.ds.length cd) := by rw [← hW6, ← hyb]; exact BoxV.made W5 _ _ _ _ _
  have HY6 := hid y6
  have HB56 := hid hb56
  have HYB := hid hyb
  have HS : Hid (∀ X, Below W5.heap.size W5 X → DuoBox X w b V am al ad cm cl cd ∧ ViewBox X w4.heap.size V2 qm ql qd km kl kd) := hid fun X h => ⟨HT5.out.ext h, HY5.out.ext h HY5.out.lt⟩
  clear hb56 y6
  go_wp2
  go_loopw [10] (fun i wr => ∃ (k : Nat) (Y : View) (ym yl yd : Option Addr) (em el ed : Nat), i = .int .i64 k ∧ k ≤ C ∧ stepsV b (come.take k) V = some Y ∧ WfView Y ∧ greatB Y = false ∧ BoxV wr yb (.int .u64 Y.id) (.slice ym Y.ms.length em) (.slice yl Y.ls.length el) (.slice yd Y.ds.length ed) ∧ (∀ W', Mut (fun k => k = yb) wr W' → ViewR W' ym yl yd Y) ∧ Below W5.heap.size W5 wr) (fun i _ => C - (intOf i).toNat)
  case atStart =>
    have hrow : ∀ W', Mut (fun k => k = yb) W6 W' → ViewR W' am al ad V := fun W' hm => HV5.out.ext (HB56.out.trans (hm.below HB56.out.size (fun k e => by have := HYB.out; omega)))
    exact ⟨0, V, am, al, ad, cm, cl, cd, rfl, Nat.zero_le _, rfl, HWF.out, HG0.out, by first | exact HY6.out | (rw [hW6]; exact HY6.out), by first | exact hrow | (rw [hW6]; exact hrow), by first | exact HB56.out | (rw [hW6]; exact HB56.out)⟩
  case round =>
    obtain ⟨k, Y, ym, yl, yd, em, el, ed, rfl, hk, hst, hwfY, hgrY, hbox, hrow, hb⟩ := hrel
    by_cases hlt : k < C
    · have hkc : k < come.length := by rw [HC.out]; exact hlt
      obtain ⟨p, hp⟩ : ∃ p, p = come[k] := ⟨_, rfl⟩
      obtain ⟨Y2, hn2, hst2, hwf2, hgr2⟩ := grow_step (by rw [HN.out]) HBIG.out (by rw [HC.out]; exact HC12.out) HWC.out hkc hst hwfY hp
      obtain ⟨A5, hA5⟩ : ∃ A5, ac.map (·.add (k * 2)) = A5 := ⟨_, rfl⟩
      obtain ⟨K5, hK5⟩ : ∃ K5, kc - k = K5 := ⟨_, rfl⟩
      have U5 : ∀ W, (Instr.slice 30 (.slice ac C kc) (some (.int .i64 k)) (some (.int .i64 ((k : Int) + 1))) none).run Try.prog W = .ok (.slice A5 1 K5) W := fun W => by rw [run_midP (by have := HKC.out; omega) W, hA5, hK5]
      have hrow5 : ∀ X, Below wr.heap.size wr X → PidRow X A5 [p] := fun X h => by
        have := (HRC5.out.ext (hb.trans (h.mono hb.size))).mid hkc
        rw [hA5, ← hp] at this
        exact this
      have hrowY : ∀ X, Below wr.heap.size wr X → ViewR X ym yl yd Y := fun X h => hrow X (Mut.of_below h)
      have CX : Hid (∀ X, Below wr.heap.size wr X → Calls Try.prog 72 #[.agg #[.int .u64 Y.id, .slice ym Y.ms.length em, .slice yl Y.ls.length el, .slice yd Y.ds.length ed], .slice none 0 0, .slice A5 1 K5, .agg #[.int .i64 b.least, .int .i64 b.most, .int .i64 b.tmo]] X fun e w' => BuildRes Y2 0 X.heap.size (fun _ => False) X e w') := hid fun X h => next_any (hid hn2) (hrowY X h) hwfY hgrY (hid rfl) (hid rfl) (by omega) (by omega) (.inl rfl) (hrow5 X h) (fun q hq => by rw [List.mem_singleton.1 hq, hp]; have := HWC.out _ (List.getElem_mem hkc); unfold ok; exact this) HBO.out
      have hwk : IntKind.i64.wrap ((k : Int) + 1) = (k : Int) + 1 := by rw [IntKind.wrap_i64]; have := HC12.out; omega
      have HSL : Hid (∀ X, Below wr.heap.size wr X → BoxV X yb (.int .u64 Y.id) (.slice ym Y.ms.length em) (.slice yl Y.ls.length el) (.slice yd Y.ds.length ed) ∧ BndBox X (w.heap.size + 1) b) := hid fun X h => ⟨hbox.ext h, (HS.out X (hb.trans (h.mono hb.size))).1.bx⟩
      have HYLT : Hid (yb < wr.heap.size) := hid hbox.lt
      have HB := hid hb
      have HST2 := hid hst2
      have HWF2 := hid hwf2
      have HGR2 := hid hgr2
      have HLT := hid hlt
      clear hst hwfY hgrY hbox hrow hb hkc hp hn2 hst2 hwf2 hgr2 hA5 hK5 hrow5 hrowY v0 v1 v2 v3 t1 u1 u2
      go_wp2
      refine wp_region_held_drew (S := fun X => BoxV X yb (.int .u64 Y.id) (.slice ym Y.ms.length em) (.slice yl Y.ls.length el) (.slice yd Y.ds.length ed) ∧ BndBox X (w.heap.size + 1) b) (by kernel_rfl) (by exact HSL.out _ (Below.refl _ _).drew) (fun hHeld => ?_)
      refine wpAnyH_take (i := 0) (oi := _) (v := .agg #[.int .u64 Y.id, .slice ym Y.ms.length em, .slice yl Y.ls.length el, .slice yd Y.ds.length ed]) rfl (by kernel_rfl) (by kernel_rfl) (by kernel_rfl) (fun _ _ _ h => h) (Or.inl ⟨by rfl, ?_⟩) (by assumption) ?_
      · intro W hSw
        try dsimp only at hSw
        obtain ⟨⟨h0, h1, h2, h3, -, -, -, -⟩, -⟩ := hSw
        go_simp
      try simp only [Act.put, List.getElem_toArray, List.getElem_cons_succ, List.getElem_cons_zero, List.setIfInBounds_toArray, List.set_cons_zero, List.set_cons_succ]
      refine wpAnyH_take (i := 1) (oi := _) (v := .slice ac C kc) rfl (by kernel_rfl) (by kernel_rfl) (by kernel_rfl) (fun _ _ _ h => h) (Or.inl ⟨by rfl, ?_⟩) (by assumption) ?_
      · intro W hSw
        try dsimp only at hSw
        go_simp
      try simp only [Act.put, List.getElem_toArray, List.getElem_cons_succ, List.getElem_cons_zero, List.setIfInBounds_toArray, List.set_cons_zero, List.set_cons_succ]
      refine wpAnyH_take (i := 2) (oi := _) (v := .int .i64 k) rfl (by kernel_rfl) (by kernel_rfl) (by kernel_rfl) (fun _ _ _ h => h) (Or.inl ⟨by rfl, ?_⟩) (by assumption) ?_
      · intro W hSw
        try dsimp only at hSw
        go_simp
      try simp only [Act.put, List.getElem_toArray, List.getElem_cons_succ, List.getElem_cons_zero, List.setIfInBounds_toArray, List.set_cons_zero, List.set_cons_succ]
      refine wpAnyH_take (i := 3) (oi := _) (v := .int .i64 k) rfl (by kernel_rfl) (by kernel_rfl) (by kernel_rfl) (fun _ _ _ h => h) (Or.inl ⟨by rfl, ?_⟩) (by assumption) ?_
      · intro W hSw
        try dsimp only at hSw
        go_simp
      try simp only [Act.put, List.getElem_toArray, List.getElem_cons_succ, List.getElem_cons_zero, List.setIfInBounds_toArray, List.set_cons_zero, List.set_cons_succ]
      refine wpAnyH_take (i := 4) (oi := _) (v := .int .i64 ((k : Int) + 1)) rfl (by kernel_rfl) (by kernel_rfl) (by kernel_rfl) (fun _ _ _ h => h) (Or.inl ⟨by rfl, ?_⟩) (by assumption) ?_
      · intro W hSw
        try dsimp only at hSw
        go_simp
      try simp only [Act.put, List.getElem_toArray, List.getElem_cons_succ, List.getElem_cons_zero, List.setIfInBounds_toArray, List.set_cons_zero, List.set_cons_succ]
      refine wpAnyH_take (i := 5) (oi := _) (v := .slice A5 1 K5) rfl (by kernel_rfl) (by kernel_rfl) (by kernel_rfl) (fun _ _ _ h => h) (Or.inl ⟨by rfl, ?_⟩) (by assumption) ?_
      · intro W hSw
        try dsimp only at hSw
        go_simp
      try simp only [Act.put, List.getElem_toArray, List.getElem_cons_succ, List.getElem_cons_zero, List.setIfInBounds_toArray, List.set_cons_zero, List.set_cons_succ]
      refine wpAnyH_take (i := 6) (oi := _) (v := .agg #[.int .i64 b.least, .int .i64 b.most, .int .i64 b.tmo]) rfl (by kernel_rfl) (by kernel_rfl) (by kernel_rfl) (fun _ _ _ h => h) (Or.inl ⟨by rfl, ?_⟩) (by assumption) ?_
      · intro W hSw
        try dsimp only at hSw
        obtain ⟨-, ⟨h0, h1, h2⟩⟩ := hSw
        go_simp
      try simp only [Act.put, List.getElem_toArray, List.getElem_cons_succ, List.getElem_cons_zero, List.setIfInBounds_toArray, List.set_cons_zero, List.set_cons_succ]
      refine wpAnyH_ready (rs := [7, 11]) (by kernel_rfl) (by simp) ?_
      refine AllReadyH.cons (o := _) rfl (fun K hK => ?_) (AllReadyH.cons (o := _) rfl (fun K hK => ?_) AllReadyH.nil)
      · go_simp
        (with_reducible refine (CX.out _ (Below.refl wr.heap.size wr).drew).mono ?_)
        rintro e w8 hres
        unfold BuildRes at hres
        obtain ⟨zm, zl, zd, fm, fl, fd, rfl, hst8, hm8⟩ := hres
        have hb8 : Below (wr.drew).heap.size (wr.drew) w8 := hm8.below (Nat.le_refl _) (fun _ e => e.elim)
        have HB8 : Hid (Below wr.heap.size wr w8) := hid ((Below.refl wr.heap.size wr).drew.trans (hb8.mono (Below.refl wr.heap.size wr).drew.size))
        have HST8 := hid hst8
        clear hst8 hm8 hb8
        refine hK.out _ _ (HSL.out _ HB8.out) (fun hHeld => ?_)
        clear hK K
        try simp only [Act.put, List.getElem_toArray, List.getElem_cons_succ, List.getElem_cons_zero, List.setIfInBounds_toArray, List.set_cons_zero, List.set_cons_succ]
        refine wpAnyH_take (i := 8) (oi := _) (v := .tuple #[.agg #[.int .u64 Y2.id, .slice zm Y2.ms.length fm, .slice zl Y2.ls.length fl, .slice zd Y2.ds.length fd], .int .i64 0]) rfl (by kernel_rfl) (by kernel_rfl) (by kernel_rfl) (fun _ _ _ h => h) (Or.inl ⟨by rfl, ?_⟩) (by assumption) ?_
        · intro W hSw
          try dsimp only at hSw
          go_simp
        try simp only [Act.put, List.getElem_toArray, List.getElem_cons_succ, List.getElem_cons_zero, List.setIfInBounds_toArray, List.set_cons_zero, List.set_cons_succ]
        refine wpAnyH_take (i := 9) (oi := _) (v := .agg #[.int .u64 Y2.id, .slice zm Y2.ms.length fm, .slice zl Y2.ls.length fl, .slice zd Y2.ds.length fd]) rfl (by kernel_rfl) (by kernel_rfl) (by kernel_rfl) (fun _ _ _ h => h) (Or.inl ⟨by rfl, ?_⟩) (by assumption) ?_
        · intro W hSw
          try dsimp only at hSw
          go_simp
        try simp only [Act.put, List.getElem_toArray, List.getElem_cons_succ, List.getElem_cons_zero, List.setIfInBounds_toArray, List.set_cons_zero, List.set_cons_succ]
        refine wpAnyH_take (i := 10) (oi := _) (v := .int .i64 0) rfl (by kernel_rfl) (by kernel_rfl) (by kernel_rfl) (fun _ _ _ h => h) (Or.inl ⟨by rfl, ?_⟩) (by assumption) ?_
        · intro W hSw
          try dsimp only at hSw
          go_simp
        try simp only [Act.put, List.getElem_toArray, List.getElem_cons_succ, List.getElem_cons_zero, List.setIfInBounds_toArray, List.set_cons_zero, List.set_cons_succ]
        refine wpAnyH_ready (rs := [11]) (by kernel_rfl) (by simp) ?_
        refine AllReadyH.cons (o := _) rfl (fun K hK => ?_) AllReadyH.nil
        go_simp
        have HBZ : Hid (Below wr.heap.size wr (w8.alloc (.cells #[.int .u64 0, .slice none 0 0, .slice none 0 0, .slice none 0 0] 33))) := hid (HB8.out.alloc HB8.out.size _)
        refine hK.out _ _ (HSL.out _ HBZ.out) (fun hHeld => ?_)
        clear hK K
        try simp only [Act.put, List.getElem_toArray, List.getElem_cons_succ, List.getElem_cons_zero, List.setIfInBounds_toArray, List.set_cons_zero, List.set_cons_succ]
        refine wpAnyH_ready (rs := [12]) (by kernel_rfl) (by simp) ?_
        refine AllReadyH.cons (o := _) rfl (fun K hK => ?_) AllReadyH.nil
        go_simp
        have BX9 : Hid (BoxV (w8.alloc (.cells #[.int .u64 Y2.id, .slice zm Y2.ms.length fm, .slice zl Y2.ls.length fl, .slice zd Y2.ds.length fd] 33)) w8.heap.size (.int .u64 Y2.id) (.slice zm Y2.ms.length fm) (.slice zl Y2.ls.length fl) (.slice zd Y2.ds.length fd)) := hid (BoxV.made _ _ _ _ _ _)
        have HB9 : Hid (Below wr.heap.size wr (w8.alloc (.cells #[.int .u64 Y2.id, .slice zm Y2.ms.length fm, .slice zl Y2.ls.length fl, .slice zd Y2.ds.length fd] 33))) := hid (HB8.out.alloc HB8.out.size _)
        have HRV : Hid (∀ W', Mut (fun k => k = yb) (w8.alloc (.cells #[.int .u64 Y2.id, .slice zm Y2.ms.length fm, .slice zl Y2.ls.length fl, .slice zd Y2.ds.length fd] 33)) W' → ViewR W' zm zl zd Y2) := hid fun W' hm => HST8.out (fun k => k = yb) (fun k e => by have := HYLT.out; simp; omega) W' ((Mut.of_below ((Below.refl _ _).alloc (Nat.le_refl _) _)).trans hm)
        refine hK.out _ _ (HSL.out _ HB9.out) (fun hHeld => ?_)
        clear hK K
        try simp only [Act.put, List.getElem_toArray, List.getElem_cons_succ, List.getElem_cons_zero, List.setIfInBounds_toArray, List.set_cons_zero, List.set_cons_succ]
        refine wpAnyH_ready (rs := [13]) (by kernel_rfl) (by simp) ?_
        refine AllReadyH.cons (o := _) rfl (fun K hK => ?_) AllReadyH.nil
        go_simp
        refine hK.out _ _ (HSL.out _ HB9.out) (fun hHeld => ?_)
        clear hK K
        try simp only [Act.put, List.getElem_toArray, List.getElem_cons_succ, List.getElem_cons_zero, List.setIfInBounds_toArray, List.set_cons_zero, List.set_cons_succ]
        refine wpAnyH_done (by kernel_rfl) ?_ _
        obtain ⟨s0, s1, s2, s3, -, -, -, -⟩ := BX9.out
        have hbox9 := (HSL.out _ HB9.out).1
        obtain ⟨d0, d1, d2, d3, g0, g1, g2, g3⟩ := id hbox9
        have NB := hid (hbox9.put (.int .u64 Y2.id) (.slice zm Y2.ms.length fm) (.slice zl Y2.ls.length fl) (.slice zd Y2.ds.length fd))
        have NW := hid (below_put4 (b := yb) (u0 := .int .u64 Y2.id) (u1 := .slice zm Y2.ms.length fm) (u2 := .slice zl Y2.ls.length fl) (u3 := .slice zd Y2.ds.length fd) (HB.out.trans (HB9.out.mono HB.out.size)) (by have := HYB.out; omega))
        have t2 : ((0 : Int) != 0) = false := by decide
        clear hbox9 BX9 HSL CX U5
        go_wp2
        go_roundw
        case rel => exact ⟨k + 1, Y2, zm, zl, zd, fm, fl, fd, by go_num, by have := HLT.out; omega, HST2.out, HWF2.out, HGR2.out, NB.out, fun W' hm => HRV.out W' (mut4.trans hm), NW.out⟩
        case measure => have := HLT.out; simp [intOf]; omega
      · go_simp
        have HBZ : Hid (Below wr.heap.size wr (wr.alloc (.cells #[.int .u64 0, .slice none 0 0, .slice none 0 0, .slice none 0 0] 33)).drew) := hid ((Below.refl _ _).alloc (Nat.le_refl _) _).drew
        have HXZ : Hid (BoxV (wr.alloc (.cells #[.int .u64 0, .slice none 0 0, .slice none 0 0, .slice none 0 0] 33)).drew wr.heap.size (.int .u64 0) (.slice none 0 0) (.slice none 0 0) (.slice none 0 0)) := hid ((BoxV.made wr _ _ _ _ _).ext (Below.refl _ _).drew)
        refine hK.out _ _ (HSL.out _ HBZ.out) (fun hHeld => ?_)
        clear hK K
        try simp only [Act.put, List.getElem_toArray, List.getElem_cons_succ, List.getElem_cons_zero, List.setIfInBounds_toArray, List.set_cons_zero, List.set_cons_succ]
        refine wpAnyH_ready (rs := [7]) (by kernel_rfl) (by simp) ?_
        refine AllReadyH.cons (o := _) rfl (fun K hK => ?_) AllReadyH.nil
        go_simp
        (with_reducible refine (CX.out _ HBZ.out).mono ?_)
        rintro e w8 hres
        unfold BuildRes at hres
        obtain ⟨zm, zl, zd, fm, fl, fd, rfl, hst8, hm8⟩ := hres
        have hb8 : Below ((wr.alloc (.cells #[.int .u64 0, .slice none 0 0, .slice none 0 0, .slice none 0 0] 33)).drew).heap.size ((wr.alloc (.cells #[.int .u64 0, .slice none 0 0, .slice none 0 0, .slice none 0 0] 33)).drew) w8 := hm8.below (Nat.le_refl _) (fun _ e => e.elim)
        have HB8 : Hid (Below wr.heap.size wr w8) := hid (HBZ.out.trans (hb8.mono HBZ.out.size))
        have HST8 := hid hst8
        have HX8 := hid (HXZ.out.ext hb8)
        clear hst8 hm8 hb8
        refine hK.out _ _ (HSL.out _ HB8.out) (fun hHeld => ?_)
        clear hK K
        try simp only [Act.put, List.getElem_toArray, List.getElem_cons_succ, List.getElem_cons_zero, List.setIfInBounds_toArray, List.set_cons_zero, List.set_cons_succ]
        refine wpAnyH_take (i := 8) (oi := _) (v := .tuple #[.agg #[.int .u64 Y2.id, .slice zm Y2.ms.length fm, .slice zl Y2.ls.length fl, .slice zd Y2.ds.length fd], .int .i64 0]) rfl (by kernel_rfl) (by kernel_rfl) (by kernel_rfl) (fun _ _ _ h => h) (Or.inl ⟨by rfl, ?_⟩) (by assumption) ?_
        · intro W hSw
          try dsimp only at hSw
          go_simp
        try simp only [Act.put, List.getElem_toArray, List.getElem_cons_succ, List.getElem_cons_zero, List.setIfInBounds_toArray, List.set_cons_zero, List.set_cons_succ]
        refine wpAnyH_take (i := 9) (oi := _) (v := .agg #[.int .u64 Y2.id, .slice zm Y2.ms.length fm, .slice zl Y2.ls.length fl, .slice zd Y2.ds.length fd]) rfl (by kernel_rfl) (by kernel_rfl) (by kernel_rfl) (fun _ _ _ h => h) (Or.inl ⟨by rfl, ?_⟩) (by assumption) ?_
        · intro W hSw
          try dsimp only at hSw
          go_simp
        try simp only [Act.put, List.getElem_toArray, List.getElem_cons_succ, List.getElem_cons_zero, List.setIfInBounds_toArray, List.set_cons_zero, List.set_cons_succ]
        refine wpAnyH_take (i := 10) (oi := _) (v := .int .i64 0) rfl (by kernel_rfl) (by kernel_rfl) (by kernel_rfl) (fun _ _ _ h => h) (Or.inl ⟨by rfl, ?_⟩) (by assumption) ?_
        · intro W hSw
          try dsimp only at hSw
          go_simp
        try simp only [Act.put, List.getElem_toArray, List.getElem_cons_succ, List.getElem_cons_zero, List.setIfInBounds_toArray, List.set_cons_zero, List.set_cons_succ]
        refine wpAnyH_ready (rs := [12]) (by kernel_rfl) (by simp) ?_
        refine AllReadyH.cons (o := _) rfl (fun K hK => ?_) AllReadyH.nil
        obtain ⟨d0, d1, d2, d3, g0, g1, g2, g3⟩ := HX8.out
        go_simp
        have BX9 := hid (HX8.out.put (.int .u64 Y2.id) (.slice zm Y2.ms.length fm) (.slice zl Y2.ls.length fl) (.slice zd Y2.ds.length fd))
        have HB9 := hid (below_put4 (b := wr.heap.size) (u0 := .int .u64 Y2.id) (u1 := .slice zm Y2.ms.length fm) (u2 := .slice zl Y2.ls.length fl) (u3 := .slice zd Y2.ds.length fd) HB8.out (Nat.le_refl _))
        have HRV : Hid (∀ W', Mut (fun k => k = yb) ((((w8.setCell ⟨wr.heap.size, 0, none⟩ (.int .u64 Y2.id)).setCell ⟨wr.heap.size, 1, none⟩ (.slice zm Y2.ms.length fm)).setCell ⟨wr.heap.size, 2, none⟩ (.slice zl Y2.ls.length fl)).setCell ⟨wr.heap.size, 3, none⟩ (.slice zd Y2.ds.length fd)) W' → ViewR W' zm zl zd Y2) := hid fun W' hm => HST8.out (fun k => k = yb ∨ k = wr.heap.size) (fun k e => by have := HYLT.out; rcases e with e | e <;> simp <;> omega) W' ((mut4.mono fun _ _ e => .inr e).trans (hm.mono fun _ _ e => .inl e))
        clear d0 d1 d2 d3 g0 g1 g2 g3
        refine hK.out _ _ (HSL.out _ HB9.out) (fun hHeld => ?_)
        clear hK K
        try simp only [Act.put, List.getElem_toArray, List.getElem_cons_succ, List.getElem_cons_zero, List.setIfInBounds_toArray, List.set_cons_zero, List.set_cons_succ]
        refine wpAnyH_ready (rs := [13]) (by kernel_rfl) (by simp) ?_
        refine AllReadyH.cons (o := _) rfl (fun K hK => ?_) AllReadyH.nil
        go_simp
        refine hK.out _ _ (HSL.out _ HB9.out) (fun hHeld => ?_)
        clear hK K
        try simp only [Act.put, List.getElem_toArray, List.getElem_cons_succ, List.getElem_cons_zero, List.setIfInBounds_toArray, List.set_cons_zero, List.set_cons_succ]
        refine wpAnyH_done (by kernel_rfl) ?_ _
        obtain ⟨s0, s1, s2, s3, -, -, -, -⟩ := BX9.out
        have hbox9 := (HSL.out _ HB9.out).1
        obtain ⟨d0, d1, d2, d3, g0, g1, g2, g3⟩ := id hbox9
        have NB := hid (hbox9.put (.int .u64 Y2.id) (.slice zm Y2.ms.length fm) (.slice zl Y2.ls.length fl) (.slice zd Y2.ds.length fd))
        have NW := hid (below_put4 (b := yb) (u0 := .int .u64 Y2.id) (u1 := .slice zm Y2.ms.length fm) (u2 := .slice zl Y2.ls.length fl) (u3 := .slice zd Y2.ds.length fd) (HB.out.trans (HB9.out.mono HB.out.size)) (by have := HYB.out; omega))
        have t2 : ((0 : Int) != 0) = false := by decide
        clear hbox9 BX9 HSL CX U5
        go_wp2
        go_roundw
        case rel => exact ⟨k + 1, Y2, zm, zl, zd, fm, fl, fd, by go_num, by have := HLT.out; omega, HST2.out, HWF2.out, HGR2.out, NB.out, fun W' hm => HRV.out W' (mut4.trans hm), NW.out⟩
        case measure => have := HLT.out; simp [intOf]; omega
    · have hkC : k = C := by omega
      subst hkC
      have htk : come.take k = come := List.take_of_length_le (by rw [HC.out]; exact Nat.le_refl _)
      rw [htk] at hst
      obtain ⟨hms, hfit⟩ := grow_end (by rw [HN.out]) HBIG.out (by rw [HC.out]; exact HC12.out) hst
      have hrt := next_right HN.out HWF.out HWC.out
      have hm2 : V2.ms = V.ms ++ come := by have := hrt.ms; rw [minus_nil] at this; exact this
      have hyb2 : ViewBox wr yb Y ym yl yd em el ed := ⟨hbox.c0, hbox.c1, hbox.c2, hbox.c3⟩
      have HSE : Hid (∀ X, Below wr.heap.size wr X → DuoBox X w b V am al ad cm cl cd ∧ ViewBox X w4.heap.size V2 qm ql qd km kl kd ∧ ViewBox X yb Y ym yl yd em el ed) := hid fun X h => ⟨(HS.out X (hb.trans (h.mono hb.size))).1, (HS.out X (hb.trans (h.mono hb.size))).2, hyb2.ext h hbox.lt⟩
      have HRY : Hid (∀ X, Below wr.heap.size wr X → ViewR X ym yl yd Y) := hid fun X h => hrow X (Mut.of_below h)
      have HR2 : Hid (∀ X, Below wr.heap.size wr X → ViewR X qm ql qd V2) := hid fun X h => HVR5.out.ext (hb.trans (h.mono hb.size))
      have HRV : Hid (∀ X, Below wr.heap.size wr X → ViewR X am al ad V) := hid fun X h => HV5.out.ext (hb.trans (h.mono hb.size))
      have HRC : Hid (∀ X, Below wr.heap.size wr X → PidRow X ac come) := hid fun X h => HRC5.out.ext (hb.trans (h.mono hb.size))
      have HMS := hid hms
      have HFIT := hid hfit
      have HM2 := hid hm2
      have HRT := hid hrt
      have HGY := hid (great_noC hgrY)
      have HGV := hid (great_noC HG0.out)
      have HG2 := hid (great_noC hrt.sm)
      have HB := hid hb
      have HBT : Hid (Below w.heap.size w wr) := hid (HT5.out.bl.trans (hb.mono HT5.out.bl.size))
      clear hst hwfY hgrY hbox hrow hb hms hfit hrt hm2 hyb2 htk v0 v1 v2 v3 t1 u1 u2 hlt
      by_cases hk0 : k = 0
      · have HK0 := hid hk0
        have q1 : ((k : Int) == 0) = true := by simp [hk0]
        have q2 : decide (k = 0) = true := decide_eq_true hk0
        clear hk0
        go_wp2
        refine wp_region_held_drew (S := fun X => DuoBox X w b V am al ad cm cl cd ∧ ViewBox X w4.heap.size V2 qm ql qd km kl kd ∧ ViewBox X yb Y ym yl yd em el ed) (by kernel_rfl) (by exact HSE.out _ (Below.refl _ _).drew) (fun hHeld => ?_)
        refine wpAnyH_take (i := 0) (oi := _) (v := .pointer (some ⟨w4.heap.size, 1, none⟩)) rfl (by kernel_rfl) (by kernel_rfl) (by kernel_rfl) (fun _ _ _ h => h) (Or.inl ⟨by rfl, ?_⟩) (by assumption) ?_
        · intro W hSw
          try dsimp only at hSw
          go_simp
        try simp only [Act.put, List.getElem_toArray, List.getElem_cons_succ, List.getElem_cons_zero, List.setIfInBounds_toArray, List.set_cons_zero, List.set_cons_succ]
        refine wpAnyH_take (i := 1) (oi := _) (v := .slice qm V2.ms.length km) rfl (by kernel_rfl) (by kernel_rfl) (by kernel_rfl) (fun _ _ _ h => h) (Or.inl ⟨by rfl, ?_⟩) (by assumption) ?_
        · intro W hSw
          try dsimp only at hSw
          obtain ⟨-, ⟨h0, h1, h2, h3⟩, -⟩ := hSw
          go_simp
        try simp only [Act.put, List.getElem_toArray, List.getElem_cons_succ, List.getElem_cons_zero, List.setIfInBounds_toArray, List.set_cons_zero, List.set_cons_succ]
        refine wpAnyH_take (i := 3) (oi := _) (v := .pointer (some ⟨w.heap.size, 1, none⟩)) rfl (by kernel_rfl) (by kernel_rfl) (by kernel_rfl) (fun _ _ _ h => h) (Or.inl ⟨by rfl, ?_⟩) (by assumption) ?_
        · intro W hSw
          try dsimp only at hSw
          go_simp
        try simp only [Act.put, List.getElem_toArray, List.getElem_cons_succ, List.getElem_cons_zero, List.setIfInBounds_toArray, List.set_cons_zero, List.set_cons_succ]
        refine wpAnyH_take (i := 4) (oi := _) (v := .slice am V.ms.length cm) rfl (by kernel_rfl) (by kernel_rfl) (by kernel_rfl) (fun _ _ _ h => h) (Or.inl ⟨by rfl, ?_⟩) (by assumption) ?_
        · intro W hSw
          try dsimp only at hSw
          obtain ⟨⟨-, ⟨h0, h1, h2, h3⟩, -⟩, -, -⟩ := hSw
          go_simp
        try simp only [Act.put, List.getElem_toArray, List.getElem_cons_succ, List.getElem_cons_zero, List.setIfInBounds_toArray, List.set_cons_zero, List.set_cons_succ]
        refine wpAnyH_take (i := 6) (oi := _) (v := .slice ac k kc) rfl (by kernel_rfl) (by kernel_rfl) (by kernel_rfl) (fun _ _ _ h => h) (Or.inl ⟨by rfl, ?_⟩) (by assumption) ?_
        · intro W hSw
          try dsimp only at hSw
          go_simp
        try simp only [Act.put, List.getElem_toArray, List.getElem_cons_succ, List.getElem_cons_zero, List.setIfInBounds_toArray, List.set_cons_zero, List.set_cons_succ]
        refine wpAnyH_ready (rs := [2]) (by kernel_rfl) (by simp) ?_
        refine AllReadyH.cons (o := _) rfl (fun K hK => ?_) AllReadyH.nil
        go_simp
        have HB3 : Hid (Below wr.heap.size wr (wr.drew.alloc (.cells #[] 26))) := hid ((Below.refl _ _).drew.alloc (Nat.le_refl _) _)
        have HO3 : Hid (OwnP (wr.drew.alloc (.cells #[] 26)) wr.heap.size (.slice (some ⟨wr.heap.size, 0, none⟩) 0 0) []) := hid (World.ownsRow_made (w := wr.drew) #[] 0 (Nat.le_refl _) (by unfold maxLen; omega) (by simp))
        refine hK.out _ _ (HSE.out _ HB3.out) (fun hHeld => ?_)
        clear hK K
        try simp only [Act.put, List.getElem_toArray, List.getElem_cons_succ, List.getElem_cons_zero, List.setIfInBounds_toArray, List.set_cons_zero, List.set_cons_succ]
        refine wpAnyH_ready (rs := [5]) (by kernel_rfl) (by simp) ?_
        refine AllReadyH.cons (o := _) rfl (fun K hK => ?_) AllReadyH.nil
        refine step_appendPat (by rfl) HO3.out (HRV.out _ HB3.out).ms (hid rfl) (by have := HGV.out.1; simp; omega) HB3.out.size rfl rfl rfl ?_
        intro v4 w14 hown4 hg4 hat4
        have HB4 := hid (HB3.out.grown hg4 HB3.out.size (fun g hg => (HO3.out.blk hg).1))
        have HO4 := hid hown4
        clear hown4 hg4 hat4
        refine hK.out _ _ (HSE.out _ HB4.out) (fun hHeld => ?_)
        clear hK K
        try simp only [Act.put, List.getElem_toArray, List.getElem_cons_succ, List.getElem_cons_zero, List.setIfInBounds_toArray, List.set_cons_zero, List.set_cons_succ]
        refine wpAnyH_ready (rs := [7]) (by kernel_rfl) (by simp) ?_
        refine AllReadyH.cons (o := _) rfl (fun K hK => ?_) AllReadyH.nil
        refine step_appendPat (by rfl) HO4.out (HRC.out _ HB4.out) HC (by have := HGV.out.1; have := HC12.out; simp; omega) HB4.out.size rfl rfl rfl ?_
        intro v6 w16 hown6 hg6 hat6
        have HB6 := hid (HB4.out.grown hg6 HB4.out.size (fun g hg => (HO4.out.blk hg).1))
        rw [List.nil_append, ← HM2.out] at hown6
        obtain ⟨a6, c6, e6, hr6, -⟩ := hown6.row
        subst e6
        have HR6 := hid hr6
        clear hown6 hg6 hat6 hr6
        refine hK.out _ _ (HSE.out _ HB6.out) (fun hHeld => ?_)
        clear hK K
        try simp only [Act.put, List.getElem_toArray, List.getElem_cons_succ, List.getElem_cons_zero, List.setIfInBounds_toArray, List.set_cons_zero, List.set_cons_succ]
        have CS1 := hid (sameR_is (xs := V2.ms) (ys := V2.ms) (ca := km) (cb := c6) (bm := true) (hid (by simp)) (by have := HG2.out.1; omega) (by have := HG2.out.1; omega) (HR2.out _ HB6.out).ms HR6.out)
        refine wpAnyH_ready (rs := [8]) (by kernel_rfl) (by simp) ?_
        refine AllReadyH.cons (o := _) rfl (fun K hK => ?_) AllReadyH.nil
        go_simp
        (with_reducible refine CS1.out.mono ?_)
        rintro e w17 ⟨rfl, hb17⟩
        have HB17 := hid (HB6.out.trans (hb17.mono HB6.out.size))
        clear hb17 CS1
        refine hK.out _ _ (HSE.out _ HB17.out) (fun hHeld => ?_)
        clear hK K
        try simp only [Act.put, List.getElem_toArray, List.getElem_cons_succ, List.getElem_cons_zero, List.setIfInBounds_toArray, List.set_cons_zero, List.set_cons_succ]
        refine wpAnyH_take (i := 9) (oi := _) (v := .bool true) rfl (by kernel_rfl) (by kernel_rfl) (by kernel_rfl) (fun _ _ _ h => h) (Or.inl ⟨by rfl, ?_⟩) (by assumption) ?_
        · intro W hSw
          try dsimp only at hSw
          go_simp
        try simp only [Act.put, List.getElem_toArray, List.getElem_cons_succ, List.getElem_cons_zero, List.setIfInBounds_toArray, List.set_cons_zero, List.set_cons_succ]
        refine wpAnyH_take (i := 10) (oi := _) (v := .slice ac k kc) rfl (by kernel_rfl) (by kernel_rfl) (by kernel_rfl) (fun _ _ _ h => h) (Or.inl ⟨by rfl, ?_⟩) (by assumption) ?_
        · intro W hSw
          try dsimp only at hSw
          go_simp
        try simp only [Act.put, List.getElem_toArray, List.getElem_cons_succ, List.getElem_cons_zero, List.setIfInBounds_toArray, List.set_cons_zero, List.set_cons_succ]
        refine wpAnyH_take (i := 11) (oi := _) (v := .int .i64 k) rfl (by kernel_rfl) (by kernel_rfl) (by kernel_rfl) (fun _ _ _ h => h) (Or.inl ⟨by rfl, ?_⟩) (by assumption) ?_
        · intro W hSw
          try dsimp only at hSw
          go_simp
        try simp only [Act.put, List.getElem_toArray, List.getElem_cons_succ, List.getElem_cons_zero, List.setIfInBounds_toArray, List.set_cons_zero, List.set_cons_succ]
        refine wpAnyH_take (i := 12) (oi := _) (v := .bool true) rfl (by kernel_rfl) (by kernel_rfl) (by kernel_rfl) (fun _ _ _ h => h) (Or.inl ⟨by rfl, ?_⟩) (by assumption) ?_
        · intro W hSw
          try dsimp only at hSw
          go_simp
        try simp only [Act.put, List.getElem_toArray, List.getElem_cons_succ, List.getElem_cons_zero, List.setIfInBounds_toArray, List.set_cons_zero, List.set_cons_succ]
        refine wpAnyH_take (i := 13) (oi := _) (v := .bool true) rfl (by kernel_rfl) (by kernel_rfl) (by kernel_rfl) (fun _ _ _ h => h) (Or.inl ⟨by rfl, ?_⟩) (by assumption) ?_
        · intro W hSw
          try dsimp only at hSw
          go_simp
        try simp only [Act.put, List.getElem_toArray, List.getElem_cons_succ, List.getElem_cons_zero, List.setIfInBounds_toArray, List.set_cons_zero, List.set_cons_succ]
        refine wpAnyH_take (i := 14) (oi := _) (v := undef) rfl (by kernel_rfl) (by kernel_rfl) (by kernel_rfl) (fun _ _ _ h => h) (Or.inr ⟨by rfl, rfl⟩) (by assumption) ?_
        try simp only [Act.put, List.getElem_toArray, List.getElem_cons_succ, List.getElem_cons_zero, List.setIfInBounds_toArray, List.set_cons_zero, List.set_cons_succ]
        refine wpAnyH_take (i := 15) (oi := _) (v := undef) rfl (by kernel_rfl) (by kernel_rfl) (by kernel_rfl) (fun _ _ _ h => h) (Or.inr ⟨by rfl, rfl⟩) (by assumption) ?_
        try simp only [Act.put, List.getElem_toArray, List.getElem_cons_succ, List.getElem_cons_zero, List.setIfInBounds_toArray, List.set_cons_zero, List.set_cons_succ]
        refine wpAnyH_take (i := 16) (oi := _) (v := undef) rfl (by kernel_rfl) (by kernel_rfl) (by kernel_rfl) (fun _ _ _ h => h) (Or.inr ⟨by rfl, rfl⟩) (by assumption) ?_
        try simp only [Act.put, List.getElem_toArray, List.getElem_cons_succ, List.getElem_cons_zero, List.setIfInBounds_toArray, List.set_cons_zero, List.set_cons_succ]
        refine wpAnyH_take (i := 17) (oi := _) (v := undef) rfl (by kernel_rfl) (by kernel_rfl) (by kernel_rfl) (fun _ _ _ h => h) (Or.inr ⟨by rfl, rfl⟩) (by assumption) ?_
        try simp only [Act.put, List.getElem_toArray, List.getElem_cons_succ, List.getElem_cons_zero, List.setIfInBounds_toArray, List.set_cons_zero, List.set_cons_succ]
        refine wpAnyH_take (i := 18) (oi := _) (v := undef) rfl (by kernel_rfl) (by kernel_rfl) (by kernel_rfl) (fun _ _ _ h => h) (Or.inr ⟨by rfl, rfl⟩) (by assumption) ?_
        try simp only [Act.put, List.getElem_toArray, List.getElem_cons_succ, List.getElem_cons_zero, List.setIfInBounds_toArray, List.set_cons_zero, List.set_cons_succ]
        refine wpAnyH_take (i := 19) (oi := _) (v := undef) rfl (by kernel_rfl) (by kernel_rfl) (by kernel_rfl) (fun _ _ _ h => h) (Or.inr ⟨by rfl, rfl⟩) (by assumption) ?_
        try simp only [Act.put, List.getElem_toArray, List.getElem_cons_succ, List.getElem_cons_zero, List.setIfInBounds_toArray, List.set_cons_zero, List.set_cons_succ]
        refine wpAnyH_take (i := 20) (oi := _) (v := undef) rfl (by kernel_rfl) (by kernel_rfl) (by kernel_rfl) (fun _ _ _ h => h) (Or.inr ⟨by rfl, rfl⟩) (by assumption) ?_
        try simp only [Act.put, List.getElem_toArray, List.getElem_cons_succ, List.getElem_cons_zero, List.setIfInBounds_toArray, List.set_cons_zero, List.set_cons_succ]
        refine wpAnyH_take (i := 21) (oi := _) (v := undef) rfl (by kernel_rfl) (by kernel_rfl) (by kernel_rfl) (fun _ _ _ h => h) (Or.inr ⟨by rfl, rfl⟩) (by assumption) ?_
        try simp only [Act.put, List.getElem_toArray, List.getElem_cons_succ, List.getElem_cons_zero, List.setIfInBounds_toArray, List.set_cons_zero, List.set_cons_succ]
        refine wpAnyH_take (i := 22) (oi := _) (v := undef) rfl (by kernel_rfl) (by kernel_rfl) (by kernel_rfl) (fun _ _ _ h => h) (Or.inr ⟨by rfl, rfl⟩) (by assumption) ?_
        try simp only [Act.put, List.getElem_toArray, List.getElem_cons_succ, List.getElem_cons_zero, List.setIfInBounds_toArray, List.set_cons_zero, List.set_cons_succ]
        refine wpAnyH_take (i := 23) (oi := _) (v := undef) rfl (by kernel_rfl) (by kernel_rfl) (by kernel_rfl) (fun _ _ _ h => h) (Or.inr ⟨by rfl, rfl⟩) (by assumption) ?_
        try simp only [Act.put, List.getElem_toArray, List.getElem_cons_succ, List.getElem_cons_zero, List.setIfInBounds_toArray, List.set_cons_zero, List.set_cons_succ]
        refine wpAnyH_take (i := 24) (oi := _) (v := .bool true) rfl (by kernel_rfl) (by kernel_rfl) (by kernel_rfl) (fun _ _ _ h => h) (Or.inl ⟨by rfl, ?_⟩) (by assumption) ?_
        · intro W hSw
          try dsimp only at hSw
          go_simp
        try simp only [Act.put, List.getElem_toArray, List.getElem_cons_succ, List.getElem_cons_zero, List.setIfInBounds_toArray, List.set_cons_zero, List.set_cons_succ]
        refine wpAnyH_take (i := 25) (oi := _) (v := .bool true) rfl (by kernel_rfl) (by kernel_rfl) (by kernel_rfl) (fun _ _ _ h => h) (Or.inl ⟨by rfl, ?_⟩) (by assumption) ?_
        · intro W hSw
          try dsimp only at hSw
          go_simp
        try simp only [Act.put, List.getElem_toArray, List.getElem_cons_succ, List.getElem_cons_zero, List.setIfInBounds_toArray, List.set_cons_zero, List.set_cons_succ]
        refine wpAnyH_take (i := 26) (oi := _) (v := .bool true) rfl (by kernel_rfl) (by kernel_rfl) (by kernel_rfl) (fun _ _ _ h => h) (Or.inl ⟨by rfl, ?_⟩) (by assumption) ?_
        · intro W hSw
          try dsimp only at hSw
          go_simp
        try simp only [Act.put, List.getElem_toArray, List.getElem_cons_succ, List.getElem_cons_zero, List.setIfInBounds_toArray, List.set_cons_zero, List.set_cons_succ]
        refine wpAnyH_take (i := 27) (oi := _) (v := .agg #[.int .u64 V2.id, .slice qm V2.ms.length km, .slice ql V2.ls.length kl, .slice qd V2.ds.length kd]) rfl (by kernel_rfl) (by kernel_rfl) (by kernel_rfl) (fun _ _ _ h => h) (Or.inl ⟨by rfl, ?_⟩) (by assumption) ?_
        · intro W hSw
          try dsimp only at hSw
          obtain ⟨-, ⟨h0, h1, h2, h3⟩, -⟩ := hSw
          go_simp
        try simp only [Act.put, List.getElem_toArray, List.getElem_cons_succ, List.getElem_cons_zero, List.setIfInBounds_toArray, List.set_cons_zero, List.set_cons_succ]
        refine wpAnyH_take (i := 28) (oi := _) (v := .agg #[.int .i64 b.least, .int .i64 b.most, .int .i64 b.tmo]) rfl (by kernel_rfl) (by kernel_rfl) (by kernel_rfl) (fun _ _ _ h => h) (Or.inl ⟨by rfl, ?_⟩) (by assumption) ?_
        · intro W hSw
          try dsimp only at hSw
          obtain ⟨⟨-, -, ⟨h0, h1, h2⟩⟩, -, -⟩ := hSw
          go_simp
        try simp only [Act.put, List.getElem_toArray, List.getElem_cons_succ, List.getElem_cons_zero, List.setIfInBounds_toArray, List.set_cons_zero, List.set_cons_succ]
        have CF2 := hid (fits_any (b := b) (cm := km) (cl := kl) (cd := kd) (hid HRT.out.fit) (HR2.out _ HB17.out) (by have := HG2.out.2.1; omega))
        refine wpAnyH_ready (rs := [29]) (by kernel_rfl) (by simp) ?_
        refine AllReadyH.cons (o := _) rfl (fun K hK => ?_) AllReadyH.nil
        go_simp
        (with_reducible refine CF2.out.mono ?_)
        rintro e w20 ⟨rfl, hb20⟩
        have HB20 := hid (HB17.out.trans (hb20.mono HB17.out.size))
        have CA := hid (awakeL_any w20)
        clear hb20 CF2
        refine hK.out _ _ (HSE.out _ HB20.out) (fun hHeld => ?_)
        clear hK K
        try simp only [Act.put, List.getElem_toArray, List.getElem_cons_succ, List.getElem_cons_zero, List.setIfInBounds_toArray, List.set_cons_zero, List.set_cons_succ]
        refine wpAnyH_take (i := 30) (oi := _) (v := .bool true) rfl (by kernel_rfl) (by kernel_rfl) (by kernel_rfl) (fun _ _ _ h => h) (Or.inl ⟨by rfl, ?_⟩) (by assumption) ?_
        · intro W hSw
          try dsimp only at hSw
          go_simp
        try simp only [Act.put, List.getElem_toArray, List.getElem_cons_succ, List.getElem_cons_zero, List.setIfInBounds_toArray, List.set_cons_zero, List.set_cons_succ]
        refine wpAnyH_take (i := 31) (oi := _) (v := .bool true) rfl (by kernel_rfl) (by kernel_rfl) (by kernel_rfl) (fun _ _ _ h => h) (Or.inl ⟨by rfl, ?_⟩) (by assumption) ?_
        · intro W hSw
          try dsimp only at hSw
          go_simp
        try simp only [Act.put, List.getElem_toArray, List.getElem_cons_succ, List.getElem_cons_zero, List.setIfInBounds_toArray, List.set_cons_zero, List.set_cons_succ]
        refine wpAnyH_ready (rs := [32]) (by kernel_rfl) (by simp) ?_
        refine AllReadyH.cons (o := _) rfl (fun K hK => ?_) AllReadyH.nil
        go_simp
        (with_reducible refine CA.out.mono ?_)
        rintro e w21 ⟨rfl, hb21⟩
        have HB21 := hid (HB20.out.trans (hb21.mono HB20.out.size))
        clear hb21 CA
        refine hK.out _ _ (HSE.out _ HB21.out) (fun hHeld => ?_)
        clear hK K
        try simp only [Act.put, List.getElem_toArray, List.getElem_cons_succ, List.getElem_cons_zero, List.setIfInBounds_toArray, List.set_cons_zero, List.set_cons_succ]
        refine wpAnyH_take (i := 33) (oi := _) (v := .bool true) rfl (by kernel_rfl) (by kernel_rfl) (by kernel_rfl) (fun _ _ _ h => h) (Or.inl ⟨by rfl, ?_⟩) (by assumption) ?_
        · intro W hSw
          try dsimp only at hSw
          go_simp
        try simp only [Act.put, List.getElem_toArray, List.getElem_cons_succ, List.getElem_cons_zero, List.setIfInBounds_toArray, List.set_cons_zero, List.set_cons_succ]
        refine wpAnyH_ready (rs := [34]) (by kernel_rfl) (by simp) ?_
        refine AllReadyH.cons (o := _) rfl (fun K hK => ?_) AllReadyH.nil
        go_simp
        refine hK.out _ _ (HSE.out _ HB21.out) (fun hHeld => ?_)
        clear hK K
        try simp only [Act.put, List.getElem_toArray, List.getElem_cons_succ, List.getElem_cons_zero, List.setIfInBounds_toArray, List.set_cons_zero, List.set_cons_succ]
        refine wpAnyH_done (by kernel_rfl) ?_ _
        go_wp2
        go_ret
        exact ⟨rfl, HBT.out.trans (HB21.out.mono HBT.out.size)⟩
      · have HK0 := hid hk0
        have q1 : ((k : Int) == 0) = false := by simp [hk0]
        have q2 : decide (k = 0) = false := decide_eq_false hk0
        clear hk0
        go_wp2
        refine wp_region_held_drew (S := fun X => DuoBox X w b V am al ad cm cl cd ∧ ViewBox X w4.heap.size V2 qm ql qd km kl kd ∧ ViewBox X yb Y ym yl yd em el ed) (by kernel_rfl) (by exact HSE.out _ (Below.refl _ _).drew) (fun hHeld => ?_)
        refine wpAnyH_take (i := 0) (oi := _) (v := .pointer (some ⟨w4.heap.size, 1, none⟩)) rfl (by kernel_rfl) (by kernel_rfl) (by kernel_rfl) (fun _ _ _ h => h) (Or.inl ⟨by rfl, ?_⟩) (by assumption) ?_
        · intro W hSw
          try dsimp only at hSw
          go_simp
        try simp only [Act.put, List.getElem_toArray, List.getElem_cons_succ, List.getElem_cons_zero, List.setIfInBounds_toArray, List.set_cons_zero, List.set_cons_succ]
        refine wpAnyH_take (i := 1) (oi := _) (v := .slice qm V2.ms.length km) rfl (by kernel_rfl) (by kernel_rfl) (by kernel_rfl) (fun _ _ _ h => h) (Or.inl ⟨by rfl, ?_⟩) (by assumption) ?_
        · intro W hSw
          try dsimp only at hSw
          obtain ⟨-, ⟨h0, h1, h2, h3⟩, -⟩ := hSw
          go_simp
        try simp only [Act.put, List.getElem_toArray, List.getElem_cons_succ, List.getElem_cons_zero, List.setIfInBounds_toArray, List.set_cons_zero, List.set_cons_succ]
        refine wpAnyH_take (i := 3) (oi := _) (v := .pointer (some ⟨w.heap.size, 1, none⟩)) rfl (by kernel_rfl) (by kernel_rfl) (by kernel_rfl) (fun _ _ _ h => h) (Or.inl ⟨by rfl, ?_⟩) (by assumption) ?_
        · intro W hSw
          try dsimp only at hSw
          go_simp
        try simp only [Act.put, List.getElem_toArray, List.getElem_cons_succ, List.getElem_cons_zero, List.setIfInBounds_toArray, List.set_cons_zero, List.set_cons_succ]
        refine wpAnyH_take (i := 4) (oi := _) (v := .slice am V.ms.length cm) rfl (by kernel_rfl) (by kernel_rfl) (by kernel_rfl) (fun _ _ _ h => h) (Or.inl ⟨by rfl, ?_⟩) (by assumption) ?_
        · intro W hSw
          try dsimp only at hSw
          obtain ⟨⟨-, ⟨h0, h1, h2, h3⟩, -⟩, -, -⟩ := hSw
          go_simp
        try simp only [Act.put, List.getElem_toArray, List.getElem_cons_succ, List.getElem_cons_zero, List.setIfInBounds_toArray, List.set_cons_zero, List.set_cons_succ]
        refine wpAnyH_take (i := 6) (oi := _) (v := .slice ac k kc) rfl (by kernel_rfl) (by kernel_rfl) (by kernel_rfl) (fun _ _ _ h => h) (Or.inl ⟨by rfl, ?_⟩) (by assumption) ?_
        · intro W hSw
          try dsimp only at hSw
          go_simp
        try simp only [Act.put, List.getElem_toArray, List.getElem_cons_succ, List.getElem_cons_zero, List.setIfInBounds_toArray, List.set_cons_zero, List.set_cons_succ]
        refine wpAnyH_ready (rs := [2]) (by kernel_rfl) (by simp) ?_
        refine AllReadyH.cons (o := _) rfl (fun K hK => ?_) AllReadyH.nil
        go_simp
        have HB3 : Hid (Below wr.heap.size wr (wr.drew.alloc (.cells #[] 26))) := hid ((Below.refl _ _).drew.alloc (Nat.le_refl _) _)
        have HO3 : Hid (OwnP (wr.drew.alloc (.cells #[] 26)) wr.heap.size (.slice (some ⟨wr.heap.size, 0, none⟩) 0 0) []) := hid (World.ownsRow_made (w := wr.drew) #[] 0 (Nat.le_refl _) (by unfold maxLen; omega) (by simp))
        refine hK.out _ _ (HSE.out _ HB3.out) (fun hHeld => ?_)
        clear hK K
        try simp only [Act.put, List.getElem_toArray, List.getElem_cons_succ, List.getElem_cons_zero, List.setIfInBounds_toArray, List.set_cons_zero, List.set_cons_succ]
        refine wpAnyH_ready (rs := [5]) (by kernel_rfl) (by simp) ?_
        refine AllReadyH.cons (o := _) rfl (fun K hK => ?_) AllReadyH.nil
        refine step_appendPat (by rfl) HO3.out (HRV.out _ HB3.out).ms (hid rfl) (by have := HGV.out.1; simp; omega) HB3.out.size rfl rfl rfl ?_
        intro v4 w14 hown4 hg4 hat4
        have HB4 := hid (HB3.out.grown hg4 HB3.out.size (fun g hg => (HO3.out.blk hg).1))
        have HO4 := hid hown4
        clear hown4 hg4 hat4
        refine hK.out _ _ (HSE.out _ HB4.out) (fun hHeld => ?_)
        clear hK K
        try simp only [Act.put, List.getElem_toArray, List.getElem_cons_succ, List.getElem_cons_zero, List.setIfInBounds_toArray, List.set_cons_zero, List.set_cons_succ]
        refine wpAnyH_ready (rs := [7]) (by kernel_rfl) (by simp) ?_
        refine AllReadyH.cons (o := _) rfl (fun K hK => ?_) AllReadyH.nil
        refine step_appendPat (by rfl) HO4.out (HRC.out _ HB4.out) HC (by have := HGV.out.1; have := HC12.out; simp; omega) HB4.out.size rfl rfl rfl ?_
        intro v6 w16 hown6 hg6 hat6
        have HB6 := hid (HB4.out.grown hg6 HB4.out.size (fun g hg => (HO4.out.blk hg).1))
        rw [List.nil_append, ← HM2.out] at hown6
        obtain ⟨a6, c6, e6, hr6, -⟩ := hown6.row
        subst e6
        have HR6 := hid hr6
        clear hown6 hg6 hat6 hr6
        refine hK.out _ _ (HSE.out _ HB6.out) (fun hHeld => ?_)
        clear hK K
        try simp only [Act.put, List.getElem_toArray, List.getElem_cons_succ, List.getElem_cons_zero, List.setIfInBounds_toArray, List.set_cons_zero, List.set_cons_succ]
        have CS1 := hid (sameR_is (xs := V2.ms) (ys := V2.ms) (ca := km) (cb := c6) (bm := true) (hid (by simp)) (by have := HG2.out.1; omega) (by have := HG2.out.1; omega) (HR2.out _ HB6.out).ms HR6.out)
        refine wpAnyH_ready (rs := [8]) (by kernel_rfl) (by simp) ?_
        refine AllReadyH.cons (o := _) rfl (fun K hK => ?_) AllReadyH.nil
        go_simp
        (with_reducible refine CS1.out.mono ?_)
        rintro e w17 ⟨rfl, hb17⟩
        have HB17 := hid (HB6.out.trans (hb17.mono HB6.out.size))
        clear hb17 CS1
        refine hK.out _ _ (HSE.out _ HB17.out) (fun hHeld => ?_)
        clear hK K
        try simp only [Act.put, List.getElem_toArray, List.getElem_cons_succ, List.getElem_cons_zero, List.setIfInBounds_toArray, List.set_cons_zero, List.set_cons_succ]
        refine wpAnyH_take (i := 9) (oi := _) (v := .bool true) rfl (by kernel_rfl) (by kernel_rfl) (by kernel_rfl) (fun _ _ _ h => h) (Or.inl ⟨by rfl, ?_⟩) (by assumption) ?_
        · intro W hSw
          try dsimp only at hSw
          go_simp
        try simp only [Act.put, List.getElem_toArray, List.getElem_cons_succ, List.getElem_cons_zero, List.setIfInBounds_toArray, List.set_cons_zero, List.set_cons_succ]
        refine wpAnyH_take (i := 10) (oi := _) (v := .slice ac k kc) rfl (by kernel_rfl) (by kernel_rfl) (by kernel_rfl) (fun _ _ _ h => h) (Or.inl ⟨by rfl, ?_⟩) (by assumption) ?_
        · intro W hSw
          try dsimp only at hSw
          go_simp
        try simp only [Act.put, List.getElem_toArray, List.getElem_cons_succ, List.getElem_cons_zero, List.setIfInBounds_toArray, List.set_cons_zero, List.set_cons_succ]
        refine wpAnyH_take (i := 11) (oi := _) (v := .int .i64 k) rfl (by kernel_rfl) (by kernel_rfl) (by kernel_rfl) (fun _ _ _ h => h) (Or.inl ⟨by rfl, ?_⟩) (by assumption) ?_
        · intro W hSw
          try dsimp only at hSw
          go_simp
        try simp only [Act.put, List.getElem_toArray, List.getElem_cons_succ, List.getElem_cons_zero, List.setIfInBounds_toArray, List.set_cons_zero, List.set_cons_succ]
        refine wpAnyH_take (i := 12) (oi := _) (v := .bool false) rfl (by kernel_rfl) (by kernel_rfl) (by kernel_rfl) (fun _ _ _ h => h) (Or.inl ⟨by rfl, ?_⟩) (by assumption) ?_
        · intro W hSw
          try dsimp only at hSw
          go_simp
        try simp only [Act.put, List.getElem_toArray, List.getElem_cons_succ, List.getElem_cons_zero, List.setIfInBounds_toArray, List.set_cons_zero, List.set_cons_succ]
        refine wpAnyH_take (i := 13) (oi := _) (v := .bool false) rfl (by kernel_rfl) (by kernel_rfl) (by kernel_rfl) (fun _ _ _ h => h) (Or.inl ⟨by rfl, ?_⟩) (by assumption) ?_
        · intro W hSw
          try dsimp only at hSw
          go_simp
        try simp only [Act.put, List.getElem_toArray, List.getElem_cons_succ, List.getElem_cons_zero, List.setIfInBounds_toArray, List.set_cons_zero, List.set_cons_succ]
        refine wpAnyH_take (i := 14) (oi := _) (v := .pointer (some ⟨w4.heap.size, 1, none⟩)) rfl (by kernel_rfl) (by kernel_rfl) (by kernel_rfl) (fun _ _ _ h => h) (Or.inl ⟨by rfl, ?_⟩) (by assumption) ?_
        · intro W hSw
          try dsimp only at hSw
          go_simp
        try simp only [Act.put, List.getElem_toArray, List.getElem_cons_succ, List.getElem_cons_zero, List.setIfInBounds_toArray, List.set_cons_zero, List.set_cons_succ]
        refine wpAnyH_take (i := 15) (oi := _) (v := .slice qm V2.ms.length km) rfl (by kernel_rfl) (by kernel_rfl) (by kernel_rfl) (fun _ _ _ h => h) (Or.inl ⟨by rfl, ?_⟩) (by assumption) ?_
        · intro W hSw
          try dsimp only at hSw
          obtain ⟨-, ⟨h0, h1, h2, h3⟩, -⟩ := hSw
          go_simp
        try simp only [Act.put, List.getElem_toArray, List.getElem_cons_succ, List.getElem_cons_zero, List.setIfInBounds_toArray, List.set_cons_zero, List.set_cons_succ]
        refine wpAnyH_take (i := 16) (oi := _) (v := .pointer (some ⟨yb, 1, none⟩)) rfl (by kernel_rfl) (by kernel_rfl) (by kernel_rfl) (fun _ _ _ h => h) (Or.inl ⟨by rfl, ?_⟩) (by assumption) ?_
        · intro W hSw
          try dsimp only at hSw
          go_simp
        try simp only [Act.put, List.getElem_toArray, List.getElem_cons_succ, List.getElem_cons_zero, List.setIfInBounds_toArray, List.set_cons_zero, List.set_cons_succ]
        refine wpAnyH_take (i := 17) (oi := _) (v := .slice ym Y.ms.length em) rfl (by kernel_rfl) (by kernel_rfl) (by kernel_rfl) (fun _ _ _ h => h) (Or.inl ⟨by rfl, ?_⟩) (by assumption) ?_
        · intro W hSw
          try dsimp only at hSw
          obtain ⟨-, -, ⟨h0, h1, h2, h3⟩⟩ := hSw
          go_simp
        try simp only [Act.put, List.getElem_toArray, List.getElem_cons_succ, List.getElem_cons_zero, List.setIfInBounds_toArray, List.set_cons_zero, List.set_cons_succ]
        have CS2 := hid (sameR_is (xs := V2.ms) (ys := Y.ms) (ca := km) (cb := em) (bm := true) (hid (by rw [HM2.out, HMS.out]; simp)) (by have := HG2.out.1; omega) (by have := HGY.out.1; omega) (HR2.out _ HB17.out).ms (HRY.out _ HB17.out).ms)
        refine wpAnyH_ready (rs := [18]) (by kernel_rfl) (by simp) ?_
        refine AllReadyH.cons (o := _) rfl (fun K hK => ?_) AllReadyH.nil
        go_simp
        (with_reducible refine CS2.out.mono ?_)
        rintro e w18 ⟨rfl, hb18⟩
        have HB18 := hid (HB17.out.trans (hb18.mono HB17.out.size))
        clear hb18 CS2
        refine hK.out _ _ (HSE.out _ HB18.out) (fun hHeld => ?_)
        clear hK K
        try simp only [Act.put, List.getElem_toArray, List.getElem_cons_succ, List.getElem_cons_zero, List.setIfInBounds_toArray, List.set_cons_zero, List.set_cons_succ]
        refine wpAnyH_take (i := 19) (oi := _) (v := .bool true) rfl (by kernel_rfl) (by kernel_rfl) (by kernel_rfl) (fun _ _ _ h => h) (Or.inl ⟨by rfl, ?_⟩) (by assumption) ?_
        · intro W hSw
          try dsimp only at hSw
          go_simp
        try simp only [Act.put, List.getElem_toArray, List.getElem_cons_succ, List.getElem_cons_zero, List.setIfInBounds_toArray, List.set_cons_zero, List.set_cons_succ]
        refine wpAnyH_take (i := 20) (oi := _) (v := .agg #[.int .u64 Y.id, .slice ym Y.ms.length em, .slice yl Y.ls.length el, .slice yd Y.ds.length ed]) rfl (by kernel_rfl) (by kernel_rfl) (by kernel_rfl) (fun _ _ _ h => h) (Or.inl ⟨by rfl, ?_⟩) (by assumption) ?_
        · intro W hSw
          try dsimp only at hSw
          obtain ⟨-, -, ⟨h0, h1, h2, h3⟩⟩ := hSw
          go_simp
        try simp only [Act.put, List.getElem_toArray, List.getElem_cons_succ, List.getElem_cons_zero, List.setIfInBounds_toArray, List.set_cons_zero, List.set_cons_succ]
        refine wpAnyH_take (i := 21) (oi := _) (v := .agg #[.int .i64 b.least, .int .i64 b.most, .int .i64 b.tmo]) rfl (by kernel_rfl) (by kernel_rfl) (by kernel_rfl) (fun _ _ _ h => h) (Or.inl ⟨by rfl, ?_⟩) (by assumption) ?_
        · intro W hSw
          try dsimp only at hSw
          obtain ⟨⟨-, -, ⟨h0, h1, h2⟩⟩, -, -⟩ := hSw
          go_simp
        try simp only [Act.put, List.getElem_toArray, List.getElem_cons_succ, List.getElem_cons_zero, List.setIfInBounds_toArray, List.set_cons_zero, List.set_cons_succ]
        have CF1 := hid (fits_any (b := b) (cm := em) (cl := el) (cd := ed) (hid (HFIT.out (fun e => by have := HC.out; rw [e] at this; have h2 := HK0.out; simp at this; omega))) (HRY.out _ HB18.out) (by have := HGY.out.2.1; omega))
        refine wpAnyH_ready (rs := [22]) (by kernel_rfl) (by simp) ?_
        refine AllReadyH.cons (o := _) rfl (fun K hK => ?_) AllReadyH.nil
        go_simp
        (with_reducible refine CF1.out.mono ?_)
        rintro e w19 ⟨rfl, hb19⟩
        have HB19 := hid (HB18.out.trans (hb19.mono HB18.out.size))
        clear hb19 CF1
        refine hK.out _ _ (HSE.out _ HB19.out) (fun hHeld => ?_)
        clear hK K
        try simp only [Act.put, List.getElem_toArray, List.getElem_cons_succ, List.getElem_cons_zero, List.setIfInBounds_toArray, List.set_cons_zero, List.set_cons_succ]
        refine wpAnyH_take (i := 23) (oi := _) (v := .bool true) rfl (by kernel_rfl) (by kernel_rfl) (by kernel_rfl) (fun _ _ _ h => h) (Or.inl ⟨by rfl, ?_⟩) (by assumption) ?_
        · intro W hSw
          try dsimp only at hSw
          go_simp
        try simp only [Act.put, List.getElem_toArray, List.getElem_cons_succ, List.getElem_cons_zero, List.setIfInBounds_toArray, List.set_cons_zero, List.set_cons_succ]
        refine wpAnyH_take (i := 24) (oi := _) (v := .bool true) rfl (by kernel_rfl) (by kernel_rfl) (by kernel_rfl) (fun _ _ _ h => h) (Or.inl ⟨by rfl, ?_⟩) (by assumption) ?_
        · intro W hSw
          try dsimp only at hSw
          go_simp
        try simp only [Act.put, List.getElem_toArray, List.getElem_cons_succ, List.getElem_cons_zero, List.setIfInBounds_toArray, List.set_cons_zero, List.set_cons_succ]
        refine wpAnyH_take (i := 25) (oi := _) (v := .bool true) rfl (by kernel_rfl) (by kernel_rfl) (by kernel_rfl) (fun _ _ _ h => h) (Or.inl ⟨by rfl, ?_⟩) (by assumption) ?_
        · intro W hSw
          try dsimp only at hSw
          go_simp
        try simp only [Act.put, List.getElem_toArray, List.getElem_cons_succ, List.getElem_cons_zero, List.setIfInBounds_toArray, List.set_cons_zero, List.set_cons_succ]
        refine wpAnyH_take (i := 26) (oi := _) (v := .bool true) rfl (by kernel_rfl) (by kernel_rfl) (by kernel_rfl) (fun _ _ _ h => h) (Or.inl ⟨by rfl, ?_⟩) (by assumption) ?_
        · intro W hSw
          try dsimp only at hSw
          go_simp
        try simp only [Act.put, List.getElem_toArray, List.getElem_cons_succ, List.getElem_cons_zero, List.setIfInBounds_toArray, List.set_cons_zero, List.set_cons_succ]
        refine wpAnyH_take (i := 27) (oi := _) (v := .agg #[.int .u64 V2.id, .slice qm V2.ms.length km, .slice ql V2.ls.length kl, .slice qd V2.ds.length kd]) rfl (by kernel_rfl) (by kernel_rfl) (by kernel_rfl) (fun _ _ _ h => h) (Or.inl ⟨by rfl, ?_⟩) (by assumption) ?_
        · intro W hSw
          try dsimp only at hSw
          obtain ⟨-, ⟨h0, h1, h2, h3⟩, -⟩ := hSw
          go_simp
        try simp only [Act.put, List.getElem_toArray, List.getElem_cons_succ, List.getElem_cons_zero, List.setIfInBounds_toArray, List.set_cons_zero, List.set_cons_succ]
        refine wpAnyH_take (i := 28) (oi := _) (v := .agg #[.int .i64 b.least, .int .i64 b.most, .int .i64 b.tmo]) rfl (by kernel_rfl) (by kernel_rfl) (by kernel_rfl) (fun _ _ _ h => h) (Or.inl ⟨by rfl, ?_⟩) (by assumption) ?_
        · intro W hSw
          try dsimp only at hSw
          obtain ⟨⟨-, -, ⟨h0, h1, h2⟩⟩, -, -⟩ := hSw
          go_simp
        try simp only [Act.put, List.getElem_toArray, List.getElem_cons_succ, List.getElem_cons_zero, List.setIfInBounds_toArray, List.set_cons_zero, List.set_cons_succ]
        have CF2 := hid (fits_any (b := b) (cm := km) (cl := kl) (cd := kd) (hid HRT.out.fit) (HR2.out _ HB19.out) (by have := HG2.out.2.1; omega))
        refine wpAnyH_ready (rs := [29]) (by kernel_rfl) (by simp) ?_
        refine AllReadyH.cons (o := _) rfl (fun K hK => ?_) AllReadyH.nil
        go_simp
        (with_reducible refine CF2.out.mono ?_)
        rintro e w20 ⟨rfl, hb20⟩
        have HB20 := hid (HB19.out.trans (hb20.mono HB19.out.size))
        have CA := hid (awakeL_any w20)
        clear hb20 CF2
        refine hK.out _ _ (HSE.out _ HB20.out) (fun hHeld => ?_)
        clear hK K
        try simp only [Act.put, List.getElem_toArray, List.getElem_cons_succ, List.getElem_cons_zero, List.setIfInBounds_toArray, List.set_cons_zero, List.set_cons_succ]
        refine wpAnyH_take (i := 30) (oi := _) (v := .bool true) rfl (by kernel_rfl) (by kernel_rfl) (by kernel_rfl) (fun _ _ _ h => h) (Or.inl ⟨by rfl, ?_⟩) (by assumption) ?_
        · intro W hSw
          try dsimp only at hSw
          go_simp
        try simp only [Act.put, List.getElem_toArray, List.getElem_cons_succ, List.getElem_cons_zero, List.setIfInBounds_toArray, List.set_cons_zero, List.set_cons_succ]
        refine wpAnyH_take (i := 31) (oi := _) (v := .bool true) rfl (by kernel_rfl) (by kernel_rfl) (by kernel_rfl) (fun _ _ _ h => h) (Or.inl ⟨by rfl, ?_⟩) (by assumption) ?_
        · intro W hSw
          try dsimp only at hSw
          go_simp
        try simp only [Act.put, List.getElem_toArray, List.getElem_cons_succ, List.getElem_cons_zero, List.setIfInBounds_toArray, List.set_cons_zero, List.set_cons_succ]
        refine wpAnyH_ready (rs := [32]) (by kernel_rfl) (by simp) ?_
        refine AllReadyH.cons (o := _) rfl (fun K hK => ?_) AllReadyH.nil
        go_simp
        (with_reducible refine CA.out.mono ?_)
        rintro e w21 ⟨rfl, hb21⟩
        have HB21 := hid (HB20.out.trans (hb21.mono HB20.out.size))
        clear hb21 CA
        refine hK.out _ _ (HSE.out _ HB21.out) (fun hHeld => ?_)
        clear hK K
        try simp only [Act.put, List.getElem_toArray, List.getElem_cons_succ, List.getElem_cons_zero, List.setIfInBounds_toArray, List.set_cons_zero, List.set_cons_succ]
        refine wpAnyH_take (i := 33) (oi := _) (v := .bool true) rfl (by kernel_rfl) (by kernel_rfl) (by kernel_rfl) (fun _ _ _ h => h) (Or.inl ⟨by rfl, ?_⟩) (by assumption) ?_
        · intro W hSw
          try dsimp only at hSw
          go_simp
        try simp only [Act.put, List.getElem_toArray, List.getElem_cons_succ, List.getElem_cons_zero, List.setIfInBounds_toArray, List.set_cons_zero, List.set_cons_succ]
        refine wpAnyH_ready (rs := [34]) (by kernel_rfl) (by simp) ?_
        refine AllReadyH.cons (o := _) rfl (fun K hK => ?_) AllReadyH.nil
        go_simp
        refine hK.out _ _ (HSE.out _ HB21.out) (fun hHeld => ?_)
        clear hK K
        try simp only [Act.put, List.getElem_toArray, List.getElem_cons_succ, List.getElem_cons_zero, List.setIfInBounds_toArray, List.set_cons_zero, List.set_cons_succ]
        refine wpAnyH_done (by kernel_rfl) ?_ _
        go_wp2
        go_ret
        exact ⟨rfl, HBT.out.trans (HB21.out.mono HBT.out.size)⟩
end Go.Proofs.Ytbpfhclcjedkcaa

namespace Go.Proofs.Ytbpfhclcjedkcaa
open Go.RowKit Go.Deep Go.Joins Go.ChangeShapes
/-! ### from the row's reading to bounds, and to processes -/
theorem cellsBounds : Try.prog.cellsOf 117 = 3 := by kernel_rfl
theorem list3 {α : Type} {cs : List α} (h : cs.length = 3) : ∃ c0 c1 c2, cs = [c0, c1, c2] := by
  match cs, h with
  | [c0, c1, c2], _ => exact ⟨c0, c1, c2, rfl⟩
theorem trod_struct3 {H : Type} {enc : TypeId × Value → H} {P : Program} {w : World} {base : Nat} {spare : Nat → Bool} {held : Bool} {t : TypeId} {f0 f1 f2 : Field} {fuel : Nat} {cs : List Value} {x : DataW H × List MemPlace} (ht : P.underlying t = some (.struct #[f0, f1, f2])) (h : DataW.trod enc P w base spare held fuel t cs = some x) :
    ∃ y0 y1 y2 n, x.1 = .agg [y0.1, y1.1, y2.1] ∧ cs.length = P.cellsOf t ∧ DataW.trod enc P w base spare held n f0.type ((cs.drop f0.offset).take (P.cellsOf f0.type)) = some y0 ∧ DataW.trod enc P w base spare held n f1.type ((cs.drop f1.offset).take (P.cellsOf f1.type)) = some y1 ∧ DataW.trod enc P w base spare held n f2.type ((cs.drop f2.offset).take (P.cellsOf f2.type)) = some y2 := by
  obtain ⟨xs, n, _, rfl, hl, hlen, hf⟩ := DataW.trod_struct ht h
  match xs, hlen with
  | [y0, y1, y2], _ => exact ⟨y0, y1, y2, n, by simp, hl, by simpa using hf 0 f0 rfl, by simpa using hf 1 f1 rfl, by simpa using hf 2 f2 rfl⟩
section
variable {H : Type} {enc : TypeId × Value → H} {w : World}
set_option maxRecDepth 100000 in
theorem open_bounds {base : Nat} {v : Value} {d : DataW H} {p : List MemPlace} (hv : Value.okWide Try.prog w .any base 117 v) (h : DataW.Trod enc Try.prog w 0 (fun _ => true) true 117 v d p) :
    ∃ b : Bnd, v = .agg #[.int .i64 b.least, .int .i64 b.most, .int .i64 b.tmo] ∧ BndOk b := by
  obtain ⟨cs, rfl, hsz⟩ := Go.WideShapes.okWide_struct Try.underlying117 hv
  obtain ⟨fuel, hf⟩ := h
  obtain ⟨y0, y1, y2, m, hx, hl, h0, h1, h2⟩ := trod_struct3 (x := (d, p)) Try.underlying117 hf
  simp only [Value.cells] at h0 h1 h2 hl
  rw [cellsBounds] at hl
  obtain ⟨v0, v1, v2, hcs⟩ := list3 hl
  rw [hcs] at h0 h1 h2
  have e0 : (([v0, v1, v2] : List Value).drop 0).take (Try.prog.cellsOf 3) = [v0] := by rw [cellsInt]; rfl
  have e1 : (([v0, v1, v2] : List Value).drop 1).take (Try.prog.cellsOf 3) = [v1] := by rw [cellsInt]; rfl
  have e2 : (([v0, v1, v2] : List Value).drop 2).take (Try.prog.cellsOf 3) = [v2] := by rw [cellsInt]; rfl
  have h0 := e0 ▸ h0
  have h1 := e1 ▸ h1
  have h2 := e2 ▸ h2
  obtain ⟨i0, hi0, _, wi0⟩ := DataW.trod_int Try.underlying3 h0
  obtain ⟨i1, hi1, _, wi1⟩ := DataW.trod_int Try.underlying3 h1
  obtain ⟨i2, hi2, _, wi2⟩ := DataW.trod_int Try.underlying3 h2
  cases hi0; cases hi1; cases hi2
  exact ⟨⟨i0, i1, i2⟩, by rw [← Array.toArray_toList (xs := cs), hcs], ⟨bounds_i64 wi0, bounds_i64 wi1⟩⟩
theorem slice_capK {t e : TypeId} (ht : Try.prog.underlying t = some (.slice e)) {a : Option Addr} {n c : Nat} {d : DataW H} {p : List MemPlace} (h : DataW.Trod enc Try.prog w 0 (fun _ => true) true t (.slice a n c) d p) : n ≤ c := by
  obtain ⟨fuel, hf⟩ := h
  rcases Go.Deep.open_slice (x := (d, p)) ht (by simpa [Value.cells] using hf) with ⟨hv, _⟩ | ⟨a, len, cap, m, k, D, Pl, hv, _, hl, _⟩
  · cases hv; exact Nat.le_refl _
  · cases hv; exact hl
set_option maxRecDepth 100000 in
theorem open_pidsK {base : Nat} {v : Value} {d : DataW H} {p : List MemPlace} (hv : Value.okWide Try.prog w .any base 30 v) (h : DataW.Trod enc Try.prog w 0 (fun _ => true) true 30 v d p) (hs : Sz 30 d) :
    ∃ (a : Option Addr) (c : Nat) (xs : List Pid), v = .slice a xs.length c ∧ PidRow w a xs ∧ WfPids xs ∧ xs.length ≤ 17592186044416 ∧ xs.length ≤ c := by
  obtain ⟨a0, len0, cap0, rfl⟩ := Go.WideShapes.okWide_slice Try.underlying30 hv
  have h0 := h
  obtain ⟨fuel, hf⟩ := h
  obtain ⟨a, c, xs, hcs, hr, hw, hl⟩ := open_pids (x := (d, p)) hf hs
  have hv1 := (List.cons.inj hcs).1
  rw [hv1] at h0
  exact ⟨a, c, xs, hv1, hr, hw, hl, slice_capK Try.underlying30 h0⟩
end
end Go.Proofs.Ytbpfhclcjedkcaa


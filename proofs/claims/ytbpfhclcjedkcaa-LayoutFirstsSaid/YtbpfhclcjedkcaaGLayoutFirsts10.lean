/- Parts of the proof: X104 XO X117 XK. -/
import Derived.Deep.Slices
import Derived.Lib.SmallJoins
import Derived.SizedLaws
import Derived.ProofKit
import Derived.OpenShut
import Derived.Test.YtbpfhclcjedkcaaX116
namespace Go.Proofs.Ytbpfhclcjedkcaa
open Go.RowKit
/-! ### layer 17: the document's example -/
def l3 : List Pid := [(1, 1), (2, 1), (3, 1)]
def v3 : View := ⟨1, l3, [[(1, 1), (2, 1)], [(3, 1)]], l3⟩
theorem first3 : firstV l3 ⟨1, 2, 0⟩ = (v3, 0) := by kernel_rfl
structure Box3 (W : World) (s : Nat) : Prop where
  a0 : W.cell? ⟨s, 0, none⟩ = some (.int .u16 1)
  a1 : W.cell? ⟨s, 1, none⟩ = some (.int .u32 1)
  b0 : W.cell? ⟨s + 1, 0, none⟩ = some (.int .u16 2)
  b1 : W.cell? ⟨s + 1, 1, none⟩ = some (.int .u32 1)
  c0 : W.cell? ⟨s + 1 + 1, 0, none⟩ = some (.int .u16 3)
  c1 : W.cell? ⟨s + 1 + 1, 1, none⟩ = some (.int .u32 1)
theorem Box3.ext {W W' : World} {s : Nat} (h : Box3 W s) (hb : Below W.heap.size W W') : Box3 W' s :=
  ⟨cell_to h.a0 hb, cell_to h.a1 hb, cell_to h.b0 hb, cell_to h.b1 hb, cell_to h.c0 hb, cell_to h.c1 hb⟩
theorem Box3.made (w : World) : Box3 (((w.alloc (.cells #[.int .u16 1, .int .u32 1] 26)).alloc (.cells #[.int .u16 2, .int .u32 1] 26)).alloc (.cells #[.int .u16 3, .int .u32 1] 26)) w.heap.size := by
  have h0 : ∀ o o' : Obj, Below (w.alloc o).heap.size (w.alloc o) ((w.alloc o).alloc o') := fun o o' => (Below.refl _ _).alloc (Nat.le_refl _) _
  have k0 : (w.alloc (.cells #[.int .u16 1, .int .u32 1] 26)).cell? ⟨w.heap.size, 0, none⟩ = some (.int .u16 1) := by simp
  have k1 : (w.alloc (.cells #[.int .u16 1, .int .u32 1] 26)).cell? ⟨w.heap.size, 1, none⟩ = some (.int .u32 1) := by simp
  have m0 : ((w.alloc (.cells #[.int .u16 1, .int .u32 1] 26)).alloc (.cells #[.int .u16 2, .int .u32 1] 26)).cell? ⟨w.heap.size + 1, 0, none⟩ = some (.int .u16 2) := by simp
  have m1 : ((w.alloc (.cells #[.int .u16 1, .int .u32 1] 26)).alloc (.cells #[.int .u16 2, .int .u32 1] 26)).cell? ⟨w.heap.size + 1, 1, none⟩ = some (.int .u32 1) := by simp
  have z : ((w.alloc (.cells #[.int .u16 1, .int .u32 1] 26)).alloc (.cells #[.int .u16 2, .int .u32 1] 26)).heap.size = w.heap.size + 1 + 1 := by simp
  have c : ∀ W : World, (W.alloc (.cells #[.int .u16 3, .int .u32 1] 26)).cell? ⟨W.heap.size, 0, none⟩ = some (.int .u16 3) ∧ (W.alloc (.cells #[.int .u16 3, .int .u32 1] 26)).cell? ⟨W.heap.size, 1, none⟩ = some (.int .u32 1) := fun W => ⟨by simp, by simp⟩
  have cc := c ((w.alloc (.cells #[.int .u16 1, .int .u32 1] 26)).alloc (.cells #[.int .u16 2, .int .u32 1] 26))
  rw [z] at cc
  have e : ∀ W : World, ∀ o, Below W.heap.size W (W.alloc o) := fun W o => (Below.refl _ _).alloc (Nat.le_refl _) _
  exact ⟨cell_to (cell_to k0 (e _ _)) (e _ _), cell_to (cell_to k1 (e _ _)) (e _ _), cell_to m0 (e _ _), cell_to m1 (e _ _), cc.1, cc.2⟩
theorem row3 (W : World) : PidRow (W.alloc (.cells #[.int .u16 1, .int .u32 1, .int .u16 2, .int .u32 1, .int .u16 3, .int .u32 1] 26)) (some ⟨W.heap.size, 0, none⟩) l3 :=
  .inr ⟨_, 0, rfl, by simp, fun i hi => by
    have : i = 0 ∨ i = 1 ∨ i = 2 := by simp [l3] at hi; omega
    rcases this with rfl | rfl | rfl <;> exact ⟨by simp [l3], by simp [l3]⟩⟩
theorem row2 (W : World) : PidRow (W.alloc (.cells #[.int .u16 1, .int .u32 1, .int .u16 2, .int .u32 1] 26)) (some ⟨W.heap.size, 0, none⟩) [(1, 1), (2, 1)] :=
  .inr ⟨_, 0, rfl, by simp, fun i hi => by
    have : i = 0 ∨ i = 1 := by simp at hi; omega
    rcases this with rfl | rfl <;> exact ⟨by simp, by simp⟩⟩
set_option maxRecDepth 100000 in
set_option maxHeartbeats 3200000 in
theorem awakeL_any (w : World) : Calls Try.prog 45 #[] w fun e w' => e = .returned (.bool true) ∧ Below w.heap.size w w' := by
  have hal : ∀ (W : World) (o : Obj), Below W.heap.size W (W.alloc o) := fun W o => (Below.refl _ _).alloc (Nat.le_refl _) _
  obtain ⟨W3, hW3⟩ : ∃ W3, (((w.alloc (.cells #[.int .u16 1, .int .u32 1] 26)).alloc (.cells #[.int .u16 2, .int .u32 1] 26)).alloc (.cells #[.int .u16 3, .int .u32 1] 26)) = W3 := ⟨_, rfl⟩
  have hz3 : W3.heap.size = w.heap.size + 1 + 1 + 1 := by rw [← hW3]; simp
  have hb3 : Below w.heap.size w W3 := by rw [← hW3]; exact ((hal w _).trans ((hal _ _).mono (by simp))).trans ((hal _ _).mono (by simp; omega))
  have hx3 : Box3 W3 w.heap.size := by rw [← hW3]; exact Box3.made w
  have hr3 := row3 W3
  rw [hz3] at hr3
  have C1 := hid (first_any (c := 3) (n := 3) (hid first3) (hid rfl) (by omega) hr3 (by intro p hp; unfold ok; simp [l3] at hp; rcases hp with rfl | rfl | rfl <;> decide) ⟨by decide, by decide⟩)
  have HB4 := hid (hb3.trans ((hal W3 (.cells #[.int .u16 1, .int .u32 1, .int .u16 2, .int .u32 1, .int .u16 3, .int .u32 1] 26)).mono hb3.size))
  have HX4 := hid (hx3.ext (hal W3 (.cells #[.int .u16 1, .int .u32 1, .int .u16 2, .int .u32 1, .int .u16 3, .int .u32 1] 26)))
  obtain ⟨i0, i1, j0, j1, k0, k1⟩ := id hx3
  clear hr3 hx3 hb3
  go_enter Try.func45, Try.ntmps45
  go_wp2_with fail
  (with_reducible refine C1.out.mono ?_)
  rintro e w5 hres
  clear i0 i1 j0 j1 k0 k1 hz3 hW3
  unfold BuildRes at hres
  obtain ⟨qm, ql, qd, km, kl, kd, rfl, hst, hm⟩ := hres
  have hb5 : Below (W3.alloc (.cells #[.int .u16 1, .int .u32 1, .int .u16 2, .int .u32 1, .int .u16 3, .int .u32 1] 26)).heap.size (W3.alloc (.cells #[.int .u16 1, .int .u32 1, .int .u16 2, .int .u32 1, .int .u16 3, .int .u32 1] 26)) w5 := hm.below (Nat.le_refl _) (fun k e => e.elim)
  have hb05 := HB4.out.trans (hb5.mono HB4.out.size)
  have hx5 := HX4.out.ext hb5
  have hv5 := hst.r
  obtain ⟨X5, hX5⟩ : ∃ X5, w5.alloc (.cells #[.int .u64 v3.id, .slice qm v3.ms.length km, .slice ql v3.ls.length kl, .slice qd v3.ds.length kd] 33) = X5 := ⟨_, rfl⟩
  have e5 : Below w5.heap.size w5 X5 := by rw [← hX5]; exact hal _ _
  have s5 : X5.heap.size = w5.heap.size + 1 := by rw [← hX5]; simp
  have y5 : ViewBox X5 w5.heap.size v3 qm ql qd km kl kd := by rw [← hX5]; exact ViewBox.made w5
  have x5 := hx5.ext e5
  obtain ⟨X6, hX6⟩ : ∃ X6, X5.alloc (.cells #[.int .u16 1, .int .u32 1, .int .u16 2, .int .u32 1, .int .u16 3, .int .u32 1] 26) = X6 := ⟨_, rfl⟩
  have e6 : Below X5.heap.size X5 X6 := by rw [← hX6]; exact hal _ _
  have s6 : X6.heap.size = w5.heap.size + 1 + 1 := by rw [← hX6]; simp [s5]
  have x6 := x5.ext e6
  have r6 : PidRow X6 (some ⟨w5.heap.size + 1, 0, none⟩) l3 := by rw [← hX6, ← s5]; exact row3 X5
  obtain ⟨X7, hX7⟩ : ∃ X7, X6.alloc (.cells #[.int .u16 1, .int .u32 1, .int .u16 2, .int .u32 1] 26) = X7 := ⟨_, rfl⟩
  have e7 : Below X6.heap.size X6 X7 := by rw [← hX7]; exact hal _ _
  have s7 : X7.heap.size = w5.heap.size + 1 + 1 + 1 := by rw [← hX7]; simp [s6]
  have x7 := x6.ext e7
  have r7 : PidRow X7 (some ⟨w5.heap.size + 1 + 1, 0, none⟩) [(1, 1), (2, 1)] := by rw [← hX7, ← s6]; exact row2 X6
  obtain ⟨X8, hX8⟩ : ∃ X8, X7.alloc (.cells #[.int .u16 3, .int .u32 1] 26) = X8 := ⟨_, rfl⟩
  have e8 : Below X7.heap.size X7 X8 := by rw [← hX8]; exact hal _ _
  have s8 : X8.heap.size = w5.heap.size + 1 + 1 + 1 + 1 := by rw [← hX8]; simp [s7]
  have x8 := x7.ext e8
  have r8 : PidRow X8 (some ⟨w5.heap.size + 1 + 1 + 1, 0, none⟩) [(3, 1)] := by rw [← hX8, ← s7]; exact PidRow.one X7 3 1
  obtain ⟨X9, hX9⟩ : ∃ X9, X8.alloc (.cells #[.slice (some ⟨w5.heap.size + 1 + 1, 0, none⟩) 2 2, .slice (some ⟨w5.heap.size + 1 + 1 + 1, 0, none⟩) 1 1] 30) = X9 := ⟨_, rfl⟩
  have e9 : Below X8.heap.size X8 X9 := by rw [← hX9]; exact hal _ _
  have s9 : X9.heap.size = w5.heap.size + 1 + 1 + 1 + 1 + 1 := by rw [← hX9]; simp [s8]
  have x9 := x8.ext e9
  have n0 : X9.cell? ⟨w5.heap.size + 1 + 1 + 1 + 1, 0, none⟩ = some (.slice (some ⟨w5.heap.size + 1 + 1, 0, none⟩) 2 2) := by rw [← hX9, ← s8]; simp
  have n1 : X9.cell? ⟨w5.heap.size + 1 + 1 + 1 + 1, 1, none⟩ = some (.slice (some ⟨w5.heap.size + 1 + 1 + 1, 0, none⟩) 1 1) := by rw [← hX9, ← s8]; simp
  obtain ⟨X10, hX10⟩ : ∃ X10, X9.alloc (.cells #[.int .u16 1, .int .u32 1, .int .u16 2, .int .u32 1, .int .u16 3, .int .u32 1] 26) = X10 := ⟨_, rfl⟩
  have e10 : Below X9.heap.size X9 X10 := by rw [← hX10]; exact hal _ _
  have r10 : PidRow X10 (some ⟨w5.heap.size + 1 + 1 + 1 + 1 + 1, 0, none⟩) l3 := by rw [← hX10, ← s9]; exact row3 X9
  have p6 := (((r6.ext e7).ext e8).ext e9).ext e10
  have p7 := ((r7.ext e8).ext e9).ext e10
  have p8 := (r8.ext e9).ext e10
  have hvl : ViewR X10 (some ⟨w5.heap.size + 1, 0, none⟩) (some ⟨w5.heap.size + 1 + 1 + 1 + 1, 0, none⟩) (some ⟨w5.heap.size + 1 + 1 + 1 + 1 + 1, 0, none⟩) v3 :=
    ⟨p6, .inr ⟨_, 0, rfl, by have := e10.size; omega, fun i hi => by
      have : i = 0 ∨ i = 1 := by simp [v3] at hi; omega
      rcases this with rfl | rfl
      · exact ⟨_, 2, by rw [Nat.zero_add]; exact cell_to n0 e10, p7⟩
      · exact ⟨_, 1, by rw [Nat.zero_add]; exact cell_to n1 e10, p8⟩⟩, r10, by decide, by decide, by decide, by decide⟩
  have hva := (((((hv5.ext e5).ext e6).ext e7).ext e8).ext e9).ext e10
  have hb10 : Below w.heap.size w X10 := ((((((hb05.trans (e5.mono hb05.size)).trans (e6.mono (by have := hb05.size; omega))).trans (e7.mono (by have := hb05.size; omega))).trans (e8.mono (by have := hb05.size; omega))).trans (e9.mono (by have := hb05.size; omega))).trans (e10.mono (by have := hb05.size; omega)))
  have CS : Calls Try.prog 20 #[.agg #[.int .u64 v3.id, .slice qm v3.ms.length km, .slice ql v3.ls.length kl, .slice qd v3.ds.length kd], .agg #[.int .u64 1, .slice (some ⟨w5.heap.size + 1, 0, none⟩) 3 3, .slice (some ⟨w5.heap.size + 1 + 1 + 1 + 1, 0, none⟩) 2 2, .slice (some ⟨w5.heap.size + 1 + 1 + 1 + 1 + 1, 0, none⟩) 3 3]] X10 fun e w' => e = .returned (.bool true) ∧ Below X10.heap.size X10 w' := by
    have h := refSame_any v3 v3 qm ql qd (some ⟨w5.heap.size + 1, 0, none⟩) (some ⟨w5.heap.size + 1 + 1 + 1 + 1, 0, none⟩) (some ⟨w5.heap.size + 1 + 1 + 1 + 1 + 1, 0, none⟩) km kl kd 3 2 3 X10 hva hvl
    rw [sameB_refl] at h
    exact h
  have CS := hid CS
  have HB10 := hid hb10
  obtain ⟨a0, a1, b0, b1, c0, c1⟩ := x5
  obtain ⟨a0', a1', b0', b1', c0', c1'⟩ := x6
  obtain ⟨-, -, -, -, c02, c12⟩ := x7
  obtain ⟨a09, a19, b09, b19, c09, c19⟩ := x9
  obtain ⟨y0, y1, y2, y3⟩ := y5
  clear hb5 hb05 hx5 hv5 hst hm e5 e6 e7 e8 e9 e10 r6 r7 r8 r10 p6 p7 p8 hvl hva hb10 n0 n1 x8 C1 HX4 HB4
  go_wp2_with fail
  (with_reducible refine CS.out.mono ?_)
  rintro e w11 ⟨rfl, hb11⟩
  have HB11 := hid (HB10.out.trans (hb11.mono HB10.out.size))
  clear hb11 CS hX5 hX6 hX7 hX8 hX9 hX10 a0 a1 b0 b1 c0 c1 a0' a1' b0' b1' c0' c1' c02 c12 a09 a19 b09 b19 c09 c19 y0 y1 y2 y3
  go_wp2
  go_ret
  exact ⟨rfl, HB11.out⟩
end Go.Proofs.Ytbpfhclcjedkcaa

namespace Go.Proofs.Ytbpfhclcjedkcaa
open Go.RowKit Go.Deep Go.Joins Go.ChangeShapes

/-! ### from the row's reading to processes, views, bytes, commands -/
/-- every slice and string in a datum is within the form's reach -/
def Sz {H : Type} (t : TypeId) (d : DataW H) : Prop := ∀ n ∈ d.weights Try.prog t, n ≤ reachBytes
theorem Sz.arg {H : Type} {ts : List TypeId} {ds : List (DataW H)} (h : (DataW.weightsEach Try.prog ts ds).all (· ≤ reachBytes) = true) {j : Nat} {t : TypeId} {d : DataW H} (ht : ts[j]? = some t) (hd : ds[j]? = some d) : Sz t d := by
  intro n hn
  have := List.all_eq_true.1 h _ (DataW.weights_mem_each ht hd n hn)
  simpa using this
theorem mem_weightsAll {H : Type} {e : TypeId} {d : DataW H} : ∀ {l : List (DataW H)}, d ∈ l → ∀ n ∈ d.weights Try.prog e, n ∈ DataW.weightsAll Try.prog e l
  | x :: l, h, n, hn => by
    simp only [DataW.weightsAll, List.mem_append]
    rcases List.mem_cons.1 h with rfl | h
    · exact .inl hn
    · exact .inr (mem_weightsAll h n hn)
theorem Sz.slice {H : Type} {t e : TypeId} {elems spare : List (DataW H)} (h : Sz t (.slice elems spare)) (ht : Try.prog.underlying t = some (.slice e)) :
    (elems.length + spare.length) * Try.prog.bytesOf e ≤ reachBytes ∧ (∀ d ∈ elems, Sz e d) := by
  have hw : ∀ n, n ∈ (DataW.slice elems spare).weights Try.prog t ↔ n = (elems.length + spare.length) * Try.prog.bytesOf e ∨ n ∈ DataW.weightsAll Try.prog e elems ∨ n ∈ DataW.weightsAll Try.prog e spare := by
    intro n; simp [DataW.weights, ht]
  exact ⟨h _ ((hw _).2 (.inl rfl)), fun d hd n hn => h n ((hw _).2 (.inr (.inl (mem_weightsAll hd n hn))))⟩
theorem bytesPid : Try.prog.bytesOf 26 = 8 := by kernel_rfl
theorem cellsPid : Try.prog.cellsOf 26 = 2 := by kernel_rfl
theorem cellsU16 : Try.prog.cellsOf 23 = 1 := by kernel_rfl
theorem cellsU32 : Try.prog.cellsOf 24 = 1 := by kernel_rfl
theorem list2 {α : Type} {cs : List α} (h : cs.length = 2) : ∃ c0 c1, cs = [c0, c1] := by
  match cs, h with
  | [c0, c1], _ => exact ⟨c0, c1, rfl⟩
section
variable {H : Type} {enc : TypeId × Value → H} {w : World}
theorem open_pid {n : Nat} {cs : List Value} {x : DataW H × List MemPlace} (h : DataW.trod enc Try.prog w 0 (fun _ => true) true n 26 cs = some x) :
    ∃ i c : Int, cs = [.int .u16 i, .int .u32 c] ∧ 0 ≤ i ∧ i < 65536 ∧ 0 ≤ c ∧ c < 4294967296 := by
  obtain ⟨y0, y1, m, _, hl, h0, h1⟩ := trod_struct2 Try.underlying26 h
  rw [cellsPid] at hl
  obtain ⟨c0, c1, rfl⟩ := list2 hl
  have e0 : (([c0, c1] : List Value).drop 0).take (Try.prog.cellsOf 23) = [c0] := by rw [cellsU16]; rfl
  have e1 : (([c0, c1] : List Value).drop 1).take (Try.prog.cellsOf 24) = [c1] := by rw [cellsU32]; rfl
  obtain ⟨i, hi, _, wi⟩ := DataW.trod_int Try.underlying23 (e0 ▸ h0)
  obtain ⟨c, hc, _, wc⟩ := DataW.trod_int Try.underlying24 (e1 ▸ h1)
  cases hi; cases hc
  have b0 := bounds_u16 wi
  have b1 := bounds_u32 wc
  exact ⟨i, c, rfl, b0.1, by omega, b1.1, by omega⟩

theorem open_pids {n : Nat} {cs : List Value} {x : DataW H × List MemPlace} (h : DataW.trod enc Try.prog w 0 (fun _ => true) true n 30 cs = some x) (hs : Sz 30 x.1) :
    ∃ (a : Option Addr) (c : Nat) (xs : List Pid), cs = [.slice a xs.length c] ∧ PidRow w a xs ∧ WfPids xs ∧ xs.length ≤ 17592186044416 := by
  rcases open_slice Try.underlying30 h with ⟨hv, _⟩ | ⟨a, len, cap, m, k, D, Pl, hv, _, hl, hm, hmm, hx, hel⟩
  · exact ⟨none, 0, [], hv, .inl rfl, (by intro p hp; cases hp), by simp⟩
  · simp only [if_true] at hmm
    subst hmm
    rw [cellsPid] at hel
    have hex : ∀ i, ∃ p : Pid, i < len → (w.cell? (a.add (i * 2)) = some (.int .u16 p.1) ∧ w.cell? ((a.add (i * 2)).add 1) = some (.int .u32 p.2) ∧ 0 ≤ p.1 ∧ p.1 < 65536 ∧ 0 ≤ p.2 ∧ p.2 < 4294967296) := by
      intro i
      by_cases hi : i < len
      · obtain ⟨cs', h1, h2⟩ := hel i (by omega)
        obtain ⟨pi, pc, rfl, b0, b1, b2, b3⟩ := open_pid h2
        obtain ⟨_, _, hc⟩ := World.cells?_some h1
        exact ⟨(pi, pc), fun _ => ⟨by simpa [Addr.add] using hc 0 (by omega), by simpa using hc 1 (by omega), b0, b1, b2, b3⟩⟩
      · exact ⟨(0, 0), fun h => absurd h hi⟩
    obtain ⟨f, hf⟩ := Classical.axiomOfChoice hex
    rw [hx] at hs
    obtain ⟨hw, _⟩ := hs.slice Try.underlying30
    rw [bytesPid] at hw
    simp only [List.length_map, List.length_range] at hw
    have hlen : len ≤ 17592186044416 := by unfold reachBytes at hw; omega
    refine ⟨some a, m, (List.range len).map f, by rw [hv]; simp, ?_, ?_, by simpa using hlen⟩
    · by_cases h0 : len = 0
      · subst h0; exact .inl rfl
      · have ha := (hf 0 (by omega)).1
        have hsp : a.spot = none := by simpa [Addr.add] using World.cell?_spot ha
        obtain ⟨b, off, sp⟩ := a
        simp only at hsp
        subst hsp
        refine .inr ⟨b, off, rfl, ?_, fun i hi => ?_⟩
        · have := World.block_lt_of_cell? w _ ha
          simpa [addr_add] using this
        · have hi' : i < len := by simpa using hi
          obtain ⟨g1, g2, _⟩ := hf i hi'
          rw [addr_add, addr_add] at g2
          rw [addr_add] at g1
          simpa using ⟨g1, g2⟩
    · intro p hp
      obtain ⟨i, hi, rfl⟩ := List.mem_map.1 hp
      obtain ⟨_, _, g⟩ := hf i (by simpa using hi)
      exact g

end
section
variable {H : Type} {enc : TypeId × Value → H} {w : World}
end
theorem cellsInt : Try.prog.cellsOf 3 = 1 := by kernel_rfl
section
variable {H : Type} {enc : TypeId × Value → H} {w : World}
end
end Go.Proofs.Ytbpfhclcjedkcaa

namespace Go.Proofs.Ytbpfhclcjedkcaa
open Go.RowKit
/-! ### the reference's First; the law LayoutFirsts -/
theorem lcheckR_is {b : Bnd} {w : World} {r : Bool} (hr : Hid (bchk b = r)) (hb : BndOk b) :
    Calls Try.prog 166 #[.agg #[.int .i64 b.least, .int .i64 b.most, .int .i64 b.tmo]] w fun e w' => e = .returned (.bool r) ∧ Below w.heap.size w w' := by
  have := lcheckR_any (w := w) hb
  rw [hr.out] at this
  exact this
set_option maxRecDepth 100000 in
set_option maxHeartbeats 3200000 in
theorem refFirst_any {w : World} {l : List Pid} {b : Bnd} {a : Option Addr} {c n : Nat} {V : View} {er : Int} (hV : Hid (firstV l b = (V, er))) (hn : Hid (l.length = n)) (hnl : n ≤ 1000) (hrow : PidRow w a l) (hok : ∀ p ∈ l, ok p) (hbo : BndOk b) :
    Calls Try.prog 70 #[.slice a n c, .agg #[.int .i64 b.least, .int .i64 b.most, .int .i64 b.tmo]] w fun e w' => RefRes V er w e w' := by
  obtain ⟨W2, hW2⟩ : ∃ W2, ((w.alloc (.cells #[.int .i64 b.least, .int .i64 b.most, .int .i64 b.tmo] 117)).alloc (.cells #[.int .u64 0, .slice none 0 0, .slice none 0 0, .slice none 0 0] 33)) = W2 := ⟨_, rfl⟩
  have hT : TwoBox W2 w b := by rw [← hW2]; exact TwoBox.made w b
  have HT := hid hT
  obtain ⟨rb, hrb⟩ : ∃ r, bchk b = r := ⟨_, rfl⟩
  obtain ⟨rm, hrm⟩ : ∃ r, mayAll l = r := ⟨_, rfl⟩
  obtain ⟨c0, c1, c2⟩ := id hT.bx
  have HOK := hid hok
  have HROW := hid hrow
  clear hT hok hrow
  cases rb
  case false =>
    have hv : (zeroV, (1 : Int)) = (V, er) := by rw [← hV.out]; unfold firstV; rw [if_pos (.inl hrb)]
    obtain ⟨rfl, rfl⟩ : zeroV = V ∧ 1 = er := by simpa using hv
    have C1 := hid (lcheckR_is (w := W2) (hid hrb) hbo)
    have t1 : ((1 : Int) != 0) = true := by decide
    clear hV hv hrb hrm
    go_enter Try.func70, Try.ntmps70
    go_wp2_with fail
    (with_reducible refine C1.out.mono ?_)
    rintro e w3 ⟨rfl, hb3⟩
    obtain ⟨d0, d1, d2, d3, g0, g1, g2, g3⟩ := HT.out.vx.ext hb3
    have DD := hid ((HT.out.vx.ext hb3).put (.int .u64 0) (.slice none 0 0) (.slice none 0 0) (.slice none 0 0))
    have HB3 := hid (HT.out.bl.trans (hb3.mono HT.out.bl.size))
    clear hb3 C1 c0 c1 c2 hW2
    go_wp2_with fail
    obtain ⟨q0, q1, q2, q3, -, -, -, -⟩ := DD.out
    exact bodyPost_ret (v := .tuple #[.agg #[.int .u64 0, .slice none 0 0, .slice none 0 0, .slice none 0 0], .int .i64 1]) (by simp [results, Try.results70, go_sem, q0, q1, q2, q3]) rfl
      (RefRes.zero ⟨rfl, rfl⟩ (below_put4 HB3.out (by omega)))
  case true =>
    have C1 := hid (lcheckR_is (w := W2) (hid hrb) hbo)
    have CM : Hid (∀ W, Below W2.heap.size W2 W → Calls Try.prog 167 #[.slice a n c] W fun e w' => e = .returned (.bool rm) ∧ Below W.heap.size W w') := hid fun W h => mayRAll_any (hid hrm) hn hnl HOK.out ((HROW.out.ext HT.out.bl).ext h)
    have t1 : ((0 : Int) != 0) = false := by decide
    cases rm
    case false =>
      have hv : (zeroV, (1 : Int)) = (V, er) := by rw [← hV.out]; unfold firstV; rw [if_pos (.inr hrm)]
      obtain ⟨rfl, rfl⟩ : zeroV = V ∧ 1 = er := by simpa using hv
      clear hV hv hrb hrm
      go_enter Try.func70, Try.ntmps70
      go_wp2_with fail
      (with_reducible refine C1.out.mono ?_)
      rintro e w3 ⟨rfl, hb3⟩
      have CMw := CM.out _ hb3
      clear c0 c1 c2 C1 CM
      go_wp2_with fail
      (with_reducible refine CMw.mono ?_)
      rintro e w4 ⟨rfl, hb4⟩
      have hb24 := hb3.trans (hb4.mono hb3.size)
      obtain ⟨d0, d1, d2, d3, g0, g1, g2, g3⟩ := HT.out.vx.ext hb24
      have DD := hid ((HT.out.vx.ext hb24).put (.int .u64 0) (.slice none 0 0) (.slice none 0 0) (.slice none 0 0))
      have HB3 := hid (HT.out.bl.trans (hb24.mono HT.out.bl.size))
      clear hb3 hb4 hb24 CMw hW2
      go_wp2_with fail
      obtain ⟨q0, q1, q2, q3, -, -, -, -⟩ := DD.out
      exact bodyPost_ret (v := .tuple #[.agg #[.int .u64 0, .slice none 0 0, .slice none 0 0, .slice none 0 0], .int .i64 1]) (by simp [results, Try.results70, go_sem, q0, q1, q2, q3]) rfl
        (RefRes.zero ⟨rfl, rfl⟩ (below_put4 HB3.out (by omega)))
    case true =>
      have hv : buildV 1 [] [] l b = (V, er) := by rw [← hV.out]; unfold firstV; rw [if_neg (by rw [hrb, hrm]; simp)]
      have HV := hid hv
      have HRB := hid hrb
      clear hV hv hrb hrm
      go_enter Try.func70, Try.ntmps70
      go_wp2_with fail
      (with_reducible refine C1.out.mono ?_)
      rintro e w3 ⟨rfl, hb3⟩
      have CMw := CM.out _ hb3
      clear c0 c1 c2 C1 CM
      go_wp2_with fail
      (with_reducible refine CMw.mono ?_)
      rintro e w4 ⟨rfl, hb4⟩
      have hb24 := hb3.trans (hb4.mono hb3.size)
      obtain ⟨c0, c1, c2⟩ := HT.out.bx.ext hb24 HT.out.bx.lt
      have HVX4 := hid (HT.out.vx.ext hb24)
      have HB3 := hid (HT.out.bl.trans (hb24.mono HT.out.bl.size))
      have HSZ4 : Hid (w.heap.size + 1 < w4.heap.size) := hid (by have := hb24.size; have := HT.out.sz; omega)
      have C3 := hid (refBuild_any (w := w4) (c := c) HV hn hnl (HROW.out.ext HB3.out) HRB.out)
      clear hb3 hb4 hb24 CMw hW2
      go_wp2_with fail
      (with_reducible refine C3.out.mono ?_)
      rintro e w5 hres
      unfold RefRes at hres
      obtain ⟨qm, ql, qd, km, kl, kd, rfl, hst, hb5⟩ := hres
      have hvx5 := HVX4.out.ext hb5
      obtain ⟨d0, d1, d2, d3, g0, g1, g2, g3⟩ := id hvx5
      have DD := hid (hvx5.put (.int .u64 V.id) (.slice qm V.ms.length km) (.slice ql V.ls.length kl) (.slice qd V.ds.length kd))
      have HB5 := hid (HB3.out.trans (hb5.mono HB3.out.size))
      have HST := hid hst
      clear hvx5 hb5 hst C3 c0 c1 c2
      go_wp2_with fail
      obtain ⟨q0, q1, q2, q3, -, -, -, -⟩ := DD.out
      refine bodyPost_ret (v := .tuple #[.agg #[.int .u64 V.id, .slice qm V.ms.length km, .slice ql V.ls.length kl, .slice qd V.ds.length kd], .int .i64 er]) (by simp [results, Try.results70, go_sem, q0, q1, q2, q3]) rfl ?_
      unfold RefRes
      exact ⟨qm, ql, qd, km, kl, kd, rfl, (HST.out.mut mut4 (fun k e => by have := HSZ4.out; omega)).mono (by have := HSZ4.out; omega), below_put4 HB5.out (by omega)⟩

set_option maxRecDepth 100000 in
set_option maxHeartbeats 6400000 in
theorem layoutFirsts_law {l : List Pid} {b : Bnd} {a : Option Addr} {c : Nat} {w : World} (hrow : PidRow w a l) (hwl : WfPids l) (_hl : l.length ≤ 17592186044416 ∧ l.length ≤ c) (hbo : BndOk b) :
    Calls Try.prog 13 #[.slice a l.length c, .agg #[.int .i64 b.least, .int .i64 b.most, .int .i64 b.tmo]] w fun e w' => e = .returned (.bool true) ∧ Below w.heap.size w w' := by
  obtain ⟨n, hn⟩ : ∃ n, l.length = n := ⟨_, rfl⟩
  rw [hn]
  obtain ⟨W2, hW2⟩ : ∃ W2, w.alloc (.cells #[.int .i64 b.least, .int .i64 b.most, .int .i64 b.tmo] 117) = W2 := ⟨_, rfl⟩
  have hbl : Below w.heap.size w W2 := by rw [← hW2]; exact (Below.refl _ _).alloc (Nat.le_refl _) _
  have hbx : BndBox W2 w.heap.size b := by rw [← hW2]; exact BndBox.made w
  have HBL := hid hbl
  have HBX := hid hbx
  by_cases h40 : 40 < n
  · have p1 : decide ((n : Int) > 40) = true := decide_eq_true (by omega)
    have p2 : decide ((40 : Int) < (n : Int)) = true := decide_eq_true (by omega)
    have CA := hid (awakeL_any W2)
    have H40 := hid h40
    clear hbl hbx hrow hwl _hl hbo h40 hn
    go_enter Try.func13, Try.ntmps13
    go_wp2_with fail
    (with_reducible refine CA.out.mono ?_)
    rintro e w3 ⟨rfl, hb3⟩
    have HB3 := hid (HBL.out.trans (hb3.mono HBL.out.size))
    clear hb3 CA hW2
    go_wp2
    go_ret
    exact ⟨rfl, HB3.out⟩
  have p1 : decide ((n : Int) > 40) = false := decide_eq_false (by omega)
  have p2 : decide ((40 : Int) < (n : Int)) = false := decide_eq_false (by omega)
  obtain ⟨V, er, hV⟩ : ∃ V er, firstV l b = (V, er) := ⟨_, _, rfl⟩
  have hok : ∀ p ∈ l, ok p := fun p hp => by have := hwl p hp; unfold ok; exact this
  have HROW := hid (hrow.ext hbl)
  have HN := hid hn
  have HV := hid hV
  have HOK := hid hok
  have HBO := hid hbo
  have H40 : Hid (n ≤ 40) := hid (by omega)
  have C1 := hid (first_any (c := c) HV HN (by omega) HROW.out hok hbo)
  obtain ⟨z0, z1, z2⟩ := id hbx
  clear hbl hbx hrow hwl _hl hbo h40 hn hV hok
  go_enter Try.func13, Try.ntmps13
  go_wp2_with fail
  (with_reducible refine C1.out.mono ?_)
  rintro e w4 hres
  unfold BuildRes at hres
  obtain ⟨qm, ql, qd, km, kl, kd, rfl, hst, hm⟩ := hres
  have hb24 : Below W2.heap.size W2 w4 := hm.below (Nat.le_refl _) (fun _ e => e.elim)
  have hvr := hst.r
  obtain ⟨W5, hW5⟩ : ∃ W5, w4.alloc (.cells #[.int .u64 V.id, .slice qm V.ms.length km, .slice ql V.ls.length kl, .slice qd V.ds.length kd] 33) = W5 := ⟨_, rfl⟩
  have hb45 : Below w4.heap.size w4 W5 := by rw [← hW5]; exact (Below.refl _ _).alloc (Nat.le_refl _) _
  have y5 : ViewBox W5 w4.heap.size V qm ql qd km kl kd := by rw [← hW5]; exact ViewBox.made (V := V) w4
  have HB25 := hid (hb24.trans (hb45.mono hb24.size))
  have HY5 := hid y5
  have HVR5 := hid (hvr.ext hb45)
  have C2 := hid (refFirst_any (c := c) HV HN (by have := H40.out; omega) (HROW.out.ext HB25.out) HOK.out HBO.out)
  clear hst hm hb24 hvr hb45 y5 C1 z0 z1 z2 hW2 p1 p2
  obtain ⟨z0, z1, z2⟩ := HBX.out.ext HB25.out HBX.out.lt
  go_wp2_with fail
  (with_reducible refine C2.out.mono ?_)
  rintro e w6 hres
  unfold RefRes at hres
  obtain ⟨rm, rl, rd, jm, jl, jd, rfl, hst, hb56⟩ := hres
  have hvr := hst.r
  obtain ⟨W7, hW7⟩ : ∃ W7, w6.alloc (.cells #[.int .u64 V.id, .slice rm V.ms.length jm, .slice rl V.ls.length jl, .slice rd V.ds.length jd] 33) = W7 := ⟨_, rfl⟩
  have hb67 : Below w6.heap.size w6 W7 := by rw [← hW7]; exact (Below.refl _ _).alloc (Nat.le_refl _) _
  have y7 : ViewBox W7 w6.heap.size V rm rl rd jm jl jd := by rw [← hW7]; exact ViewBox.made (V := V) w6
  have hb57 := hb56.trans (hb67.mono hb56.size)
  obtain ⟨v0, v1, v2, v3⟩ := HY5.out.ext hb57 HY5.out.lt
  obtain ⟨u0, u1, u2, u3⟩ := id y7
  have CS := (refSame_any V V qm ql qd rm rl rd km kl kd jm jl jd W7 (HVR5.out.ext hb57) (hvr.ext hb67))
  rw [sameB_refl] at CS
  have CS := hid CS
  have HB27 := hid (HB25.out.trans (hb57.mono HB25.out.size))
  have e1 : (er == er) = true := by simp
  clear hst hvr hb56 hb67 hb57 y7 C2 z0 z1 z2 hW5
  go_wp2_with fail
  (with_reducible refine CS.out.mono ?_)
  rintro e w8 ⟨rfl, hb8⟩
  have HB8 := hid (HB27.out.trans (hb8.mono HB27.out.size))
  have CA := hid (awakeL_any w8)
  clear hb8 CS v0 v1 v2 v3 u0 u1 u2 u3 hW7
  go_wp2_with fail
  (with_reducible refine CA.out.mono ?_)
  rintro e w9 ⟨rfl, hb9⟩
  have HB9 := hid (HBL.out.trans ((HB8.out.trans (hb9.mono HB8.out.size)).mono HBL.out.size))
  clear hb9 CA
  go_wp2
  go_ret
  exact ⟨rfl, HB9.out⟩
end Go.Proofs.Ytbpfhclcjedkcaa

namespace Go.Proofs.Ytbpfhclcjedkcaa
open Go.RowKit Go.Deep Go.Joins Go.ChangeShapes
/-! ### from the row's reading to bounds, and to processes -/
theorem cellsBounds : Try.prog.cellsOf 117 = 3 := by kernel_rfl
theorem list3 {α : Type} {cs : List α} (h : cs.length = 3) : ∃ c0 c1 c2, cs = [c0, c1, c2] := by
  match cs, h with
  | [c0, c1, c2], _ => exact ⟨c0, c1, c2, rfl⟩
theorem trod_struct3 {H : Type} {enc : TypeId × Value → H} {P : Program} {w : World} {base : Nat} {spare : Nat → Bool} {held : Bool} {t : TypeId} {f0 f1 f2 : Field} {fuel : Nat} {cs : List Value} {x : DataW H × List MemPlace} (ht : P.underlying t = some (.struct #[f0, f1, f2])) (h : DataW.trod enc P w base spare held fuel t cs = some x) :
    ∃ y0 y1 y2 n, x.1 = .agg [y0.1, y1.1, y2.1] ∧ cs.length = P.cellsOf t ∧ DataW.trod enc P w base spare held n f0.type ((cs.drop f0.offset).take (P.cellsOf f0.type)) = some y0 ∧ DataW.trod enc P w base spare held n f1.type ((cs.drop f1.offset).take (P.cellsOf f1.type)) = some y1 ∧ DataW.trod enc P w base spare held n f2.type ((cs.drop f2.offset).take (P.cellsOf f2.type)) = some y2 := by
  obtain ⟨xs, n, _, rfl, hl, hlen, hf⟩ := DataW.trod_struct ht h
  match xs, hlen with
  | [y0, y1, y2], _ => exact ⟨y0, y1, y2, n, by simp, hl, by simpa using hf 0 f0 rfl, by simpa using hf 1 f1 rfl, by simpa using hf 2 f2 rfl⟩
section
variable {H : Type} {enc : TypeId × Value → H} {w : World}
set_option maxRecDepth 100000 in
theorem open_bounds {base : Nat} {v : Value} {d : DataW H} {p : List MemPlace} (hv : Value.okWide Try.prog w .any base 117 v) (h : DataW.Trod enc Try.prog w 0 (fun _ => true) true 117 v d p) :
    ∃ b : Bnd, v = .agg #[.int .i64 b.least, .int .i64 b.most, .int .i64 b.tmo] ∧ BndOk b := by
  obtain ⟨cs, rfl, hsz⟩ := Go.WideShapes.okWide_struct Try.underlying117 hv
  obtain ⟨fuel, hf⟩ := h
  obtain ⟨y0, y1, y2, m, hx, hl, h0, h1, h2⟩ := trod_struct3 (x := (d, p)) Try.underlying117 hf
  simp only [Value.cells] at h0 h1 h2 hl
  rw [cellsBounds] at hl
  obtain ⟨v0, v1, v2, hcs⟩ := list3 hl
  rw [hcs] at h0 h1 h2
  have e0 : (([v0, v1, v2] : List Value).drop 0).take (Try.prog.cellsOf 3) = [v0] := by rw [cellsInt]; rfl
  have e1 : (([v0, v1, v2] : List Value).drop 1).take (Try.prog.cellsOf 3) = [v1] := by rw [cellsInt]; rfl
  have e2 : (([v0, v1, v2] : List Value).drop 2).take (Try.prog.cellsOf 3) = [v2] := by rw [cellsInt]; rfl
  have h0 := e0 ▸ h0
  have h1 := e1 ▸ h1
  have h2 := e2 ▸ h2
  obtain ⟨i0, hi0, _, wi0⟩ := DataW.trod_int Try.underlying3 h0
  obtain ⟨i1, hi1, _, wi1⟩ := DataW.trod_int Try.underlying3 h1
  obtain ⟨i2, hi2, _, wi2⟩ := DataW.trod_int Try.underlying3 h2
  cases hi0; cases hi1; cases hi2
  exact ⟨⟨i0, i1, i2⟩, by rw [← Array.toArray_toList (xs := cs), hcs], ⟨bounds_i64 wi0, bounds_i64 wi1⟩⟩
theorem slice_capK {t e : TypeId} (ht : Try.prog.underlying t = some (.slice e)) {a : Option Addr} {n c : Nat} {d : DataW H} {p : List MemPlace} (h : DataW.Trod enc Try.prog w 0 (fun _ => true) true t (.slice a n c) d p) : n ≤ c := by
  obtain ⟨fuel, hf⟩ := h
  rcases Go.Deep.open_slice (x := (d, p)) ht (by simpa [Value.cells] using hf) with ⟨hv, _⟩ | ⟨a, len, cap, m, k, D, Pl, hv, _, hl, _⟩
  · cases hv; exact Nat.le_refl _
  · cases hv; exact hl
set_option maxRecDepth 100000 in
theorem open_pidsK {base : Nat} {v : Value} {d : DataW H} {p : List MemPlace} (hv : Value.okWide Try.prog w .any base 30 v) (h : DataW.Trod enc Try.prog w 0 (fun _ => true) true 30 v d p) (hs : Sz 30 d) :
    ∃ (a : Option Addr) (c : Nat) (xs : List Pid), v = .slice a xs.length c ∧ PidRow w a xs ∧ WfPids xs ∧ xs.length ≤ 17592186044416 ∧ xs.length ≤ c := by
  obtain ⟨a0, len0, cap0, rfl⟩ := Go.WideShapes.okWide_slice Try.underlying30 hv
  have h0 := h
  obtain ⟨fuel, hf⟩ := h
  obtain ⟨a, c, xs, hcs, hr, hw, hl⟩ := open_pids (x := (d, p)) hf hs
  have hv1 := (List.cons.inj hcs).1
  rw [hv1] at h0
  exact ⟨a, c, xs, hv1, hr, hw, hl, slice_capK Try.underlying30 h0⟩
end
end Go.Proofs.Ytbpfhclcjedkcaa


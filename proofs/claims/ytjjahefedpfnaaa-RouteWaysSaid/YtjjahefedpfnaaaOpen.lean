import Derived.Test.YtjjahefedpfnaaaPA
import Derived.Deep.Slices
import Derived.Lib.SmallJoins
import Derived.SizedLaws
import Derived.ProofKit
import Derived.OpenShut
namespace Go.Proofs.Ytjjahefedpfnaaa
open Go.RowKit Go.Deep Go.Joins Go.ChangeShapes

/-- every slice and string in a datum is within the form's reach -/
def Sz {H : Type} (t : TypeId) (d : DataW H) : Prop := ∀ n ∈ d.weights Try.prog t, n ≤ reachBytes
theorem Sz.arg {H : Type} {ts : List TypeId} {ds : List (DataW H)} (h : (DataW.weightsEach Try.prog ts ds).all (· ≤ reachBytes) = true) {j : Nat} {t : TypeId} {d : DataW H} (ht : ts[j]? = some t) (hd : ds[j]? = some d) : Sz t d := by
  intro n hn
  have := List.all_eq_true.1 h _ (DataW.weights_mem_each ht hd n hn)
  simpa using this
theorem mem_weightsAll {H : Type} {e : TypeId} {d : DataW H} : ∀ {l : List (DataW H)}, d ∈ l → ∀ n ∈ d.weights Try.prog e, n ∈ DataW.weightsAll Try.prog e l
  | x :: l, h, n, hn => by
    simp only [DataW.weightsAll, List.mem_append]
    rcases List.mem_cons.1 h with rfl | h
    · exact .inl hn
    · exact .inr (mem_weightsAll h n hn)
theorem Sz.slice {H : Type} {t e : TypeId} {elems spare : List (DataW H)} (h : Sz t (.slice elems spare)) (ht : Try.prog.underlying t = some (.slice e)) :
    (elems.length + spare.length) * Try.prog.bytesOf e ≤ reachBytes ∧ (∀ d ∈ elems, Sz e d) := by
  have hw : ∀ n, n ∈ (DataW.slice elems spare).weights Try.prog t ↔ n = (elems.length + spare.length) * Try.prog.bytesOf e ∨ n ∈ DataW.weightsAll Try.prog e elems ∨ n ∈ DataW.weightsAll Try.prog e spare := by
    intro n; simp [DataW.weights, ht]
  exact ⟨h _ ((hw _).2 (.inl rfl)), fun d hd n hn => h n ((hw _).2 (.inr (.inl (mem_weightsAll hd n hn))))⟩

theorem bytes36 : Try.prog.bytesOf 32 = 8 := by kernel_rfl
theorem bytes23 : Try.prog.bytesOf 33 = 24 := by kernel_rfl
theorem cells36 : Try.prog.cellsOf 32 = 2 := by kernel_rfl
theorem cells33 : Try.prog.cellsOf 29 = 1 := by kernel_rfl
theorem cells34 : Try.prog.cellsOf 30 = 1 := by kernel_rfl
theorem cells23 : Try.prog.cellsOf 33 = 1 := by kernel_rfl
theorem cells26 : Try.prog.cellsOf 68 = 4 := by kernel_rfl

section
variable {H : Type} {enc : TypeId × Value → H} {w : World}
theorem open_pid {n : Nat} {cs : List Value} {x : DataW H × List MemPlace} (h : DataW.trod enc Try.prog w 0 (fun _ => true) true n 32 cs = some x) :
    ∃ i c : Int, cs = [.int .u16 i, .int .u32 c] ∧ 0 ≤ i ∧ i < 65536 ∧ 0 ≤ c ∧ c < 4294967296 := by
  obtain ⟨y0, y1, m, _, hl, h0, h1⟩ := trod_struct2 Try.underlying32 h
  rw [cells36] at hl
  obtain ⟨c0, c1, rfl⟩ : ∃ c0 c1, cs = [c0, c1] := by
    rcases cs with _ | ⟨c0, _ | ⟨c1, _ | ⟨c2, r⟩⟩⟩
    · simp at hl
    · simp at hl
    · exact ⟨c0, c1, rfl⟩
    · simp at hl
  · have e0 : (([c0, c1] : List Value).drop 0).take (Try.prog.cellsOf 29) = [c0] := by rw [cells33]; rfl
    have e1 : (([c0, c1] : List Value).drop 1).take (Try.prog.cellsOf 30) = [c1] := by rw [cells34]; rfl
    obtain ⟨i, hi, _, wi⟩ := DataW.trod_int Try.underlying29 (e0 ▸ h0)
    obtain ⟨c, hc, _, wc⟩ := DataW.trod_int Try.underlying30 (e1 ▸ h1)
    cases hi; cases hc
    have b0 := bounds_u16 wi
    have b1 := bounds_u32 wc
    exact ⟨i, c, rfl, b0.1, by omega, b1.1, by omega⟩

theorem open_pids {n : Nat} {v : Value} {x : DataW H × List MemPlace} (h : DataW.trod enc Try.prog w 0 (fun _ => true) true n 33 [v] = some x) (hs : Sz 33 x.1) :
    ∃ (a : Option Addr) (c : Nat) (xs : List Pid), v = .slice a xs.length c ∧ PidRow w a xs ∧ WfPids xs ∧ xs.length ≤ 17592186044416 := by
  rcases open_slice Try.underlying33 h with ⟨hv, _⟩ | ⟨a, len, cap, m, k, D, Pl, hv, _, hl, hm, hmm, hx, hel⟩
  · cases hv
    exact ⟨none, 0, [], rfl, .inl rfl, (by intro p hp; cases hp), by simp⟩
  · cases hv
    simp only [if_true] at hmm
    subst hmm
    rw [cells36] at hel
    have hex : ∀ i, ∃ p : Pid, i < len → (w.cell? (a.add (i * 2)) = some (.int .u16 p.1) ∧ w.cell? ((a.add (i * 2)).add 1) = some (.int .u32 p.2) ∧ 0 ≤ p.1 ∧ p.1 < 65536 ∧ 0 ≤ p.2 ∧ p.2 < 4294967296) := by
      intro i
      by_cases hi : i < len
      · obtain ⟨cs', h1, h2⟩ := hel i (by omega)
        obtain ⟨pi, pc, rfl, b0, b1, b2, b3⟩ := open_pid h2
        obtain ⟨_, _, hc⟩ := World.cells?_some h1
        exact ⟨(pi, pc), fun _ => ⟨by simpa [Addr.add] using hc 0 (by omega), by simpa using hc 1 (by omega), b0, b1, b2, b3⟩⟩
      · exact ⟨(0, 0), fun h => absurd h hi⟩
    obtain ⟨f, hf⟩ := Classical.axiomOfChoice hex
    rw [hx] at hs
    obtain ⟨hw, _⟩ := hs.slice Try.underlying33
    rw [bytes36] at hw
    simp only [List.length_map, List.length_range] at hw
    have hlen : len ≤ 17592186044416 := by unfold reachBytes at hw; omega
    refine ⟨some a, m, (List.range len).map f, by simp, ?_, ?_, by simpa using hlen⟩
    · by_cases h0 : len = 0
      · subst h0; exact .inl rfl
      · have ha := (hf 0 (by omega)).1
        have hsp : a.spot = none := by simpa [Addr.add] using World.cell?_spot ha
        obtain ⟨b, off, sp⟩ := a
        simp only at hsp
        subst hsp
        refine .inr ⟨b, off, rfl, ?_, fun i hi => ?_⟩
        · have := World.block_lt_of_cell? w _ ha
          simpa [addr_add] using this
        · have hi' : i < len := by simpa using hi
          obtain ⟨g1, g2, _⟩ := hf i hi'
          rw [addr_add, addr_add] at g2
          rw [addr_add] at g1
          simpa using ⟨g1, g2⟩
    · intro p hp
      obtain ⟨i, hi, rfl⟩ := List.mem_map.1 hp
      obtain ⟨_, _, g⟩ := hf i (by simpa using hi)
      exact g

theorem open_leaves {n : Nat} {v : Value} {x : DataW H × List MemPlace} (h : DataW.trod enc Try.prog w 0 (fun _ => true) true n 66 [v] = some x) (hs : Sz 66 x.1) :
    ∃ (a : Option Addr) (c : Nat) (ls : List (List Pid)), v = .slice a ls.length c ∧ LeafRow w a ls ∧ (∀ l ∈ ls, WfPids l) ∧ ls.length ≤ 17592186044416 ∧ ∀ l ∈ ls, l.length ≤ 17592186044416 := by
  rcases open_slice1 Try.underlying66 cells23 h with ⟨hv, _⟩ | ⟨a, len, cap, m, k, Vs, D, Pl, hv, _, hl, hm, hmm, hx, hel⟩
  · cases hv
    exact ⟨none, 0, [], rfl, .inl rfl, (by intro p hp; cases hp), by simp, by intro p hp; cases hp⟩
  · cases hv
    simp only [if_true] at hmm
    subst hmm
    rw [hx] at hs
    obtain ⟨hw, hel2⟩ := hs.slice Try.underlying66
    rw [bytes23] at hw
    simp only [List.length_map, List.length_range] at hw
    have hlen : len ≤ 17592186044416 := by unfold reachBytes at hw; omega
    have hex : ∀ i, ∃ l : List Pid, i < len → ∃ ai ci, (w.cell? (a.add i) = some (.slice ai l.length ci) ∧ PidRow w ai l ∧ WfPids l ∧ l.length ≤ 17592186044416) := by
      intro i
      by_cases hi : i < len
      · obtain ⟨h1, h2⟩ := hel i (by omega)
        obtain ⟨ai, ci, l, hv, hr, hw, hb⟩ := open_pids h2 (hel2 _ (List.mem_map.2 ⟨i, by simpa using hi, rfl⟩))
        exact ⟨l, fun _ => ⟨ai, ci, by rw [h1, hv], hr, hw, hb⟩⟩
      · exact ⟨[], fun h => absurd h hi⟩
    obtain ⟨f, hf⟩ := Classical.axiomOfChoice hex
    refine ⟨some a, m, (List.range len).map f, by simp, ?_, ?_, by simpa using hlen, ?_⟩
    · by_cases h0 : len = 0
      · subst h0; exact .inl rfl
      · obtain ⟨_, _, ha, _⟩ := hf 0 (by omega)
        have hsp : a.spot = none := by simpa [Addr.add] using World.cell?_spot ha
        obtain ⟨b, off, sp⟩ := a
        simp only at hsp
        subst hsp
        refine .inr ⟨b, off, rfl, ?_, fun i hi => ?_⟩
        · have := World.block_lt_of_cell? w _ ha
          simpa [addr_add] using this
        · have hi' : i < len := by simpa using hi
          obtain ⟨ai, ci, g1, g2, _⟩ := hf i hi'
          rw [addr_add] at g1
          exact ⟨ai, ci, by simpa using g1, by simpa using g2⟩
    · intro l hl
      obtain ⟨i, hi, rfl⟩ := List.mem_map.1 hl
      obtain ⟨_, _, _, _, g, _⟩ := hf i (by simpa using hi)
      exact g
    · intro l hl
      obtain ⟨i, hi, rfl⟩ := List.mem_map.1 hl
      obtain ⟨_, _, _, _, _, g⟩ := hf i (by simpa using hi)
      exact g

/-- a view that is plain data -/
structure WfView (V : View) : Prop where
  id : 0 ≤ V.id ∧ V.id < 18446744073709551616
  ms : WfPids V.ms
  ls : ∀ l ∈ V.ls, WfPids l
  ds : WfPids V.ds
set_option maxRecDepth 100000 in
theorem open_view {base : Nat} {v : Value} {d : DataW H} {p : List MemPlace} (hv : Value.okWide Try.prog w .any base 68 v) (h : DataW.Trod enc Try.prog w 0 (fun _ => true) true 68 v d p) (hs : Sz 68 d) :
    ∃ (V : View) (am al ad : Option Addr) (cm cl cd : Nat), v = .agg #[.int .u64 V.id, .slice am V.ms.length cm, .slice al V.ls.length cl, .slice ad V.ds.length cd] ∧ ViewR w am al ad V ∧ WfView V := by
  obtain ⟨v0, v1, v2, v3, y0, y1, y2, y3, n, rfl, rfl, _, h0, h1, h2, h3⟩ := open_agg4 Try.underlying68 (by kernel_rfl) cells26 hv h
  have hw : ∀ k, (k ∈ y1.1.weights Try.prog 33 ∨ k ∈ y2.1.weights Try.prog 66 ∨ k ∈ y3.1.weights Try.prog 33) → k ≤ reachBytes := by
    intro k hk
    refine hs k ?_
    have e : (DataW.agg [y0.1, y1.1, y2.1, y3.1]).weights Try.prog 68 = y0.1.weights Try.prog 65 ++ (y1.1.weights Try.prog 33 ++ (y2.1.weights Try.prog 66 ++ (y3.1.weights Try.prog 33 ++ []))) := by
      simp [DataW.weights, Try.underlying68, DataW.weightsEach]
    rw [e]
    simp only [List.mem_append, List.append_nil]
    rcases hk with hk | hk | hk
    · exact .inr (.inl hk)
    · exact .inr (.inr (.inl hk))
    · exact .inr (.inr (.inr hk))
  obtain ⟨i, hi, _, wi⟩ := DataW.trod_int Try.underlying65 h0
  cases hi
  obtain ⟨am, cm, ms, rfl, rm, wm, bm⟩ := open_pids h1 (fun k hk => hw k (.inl hk))
  obtain ⟨al, cl, ls, rfl, rl, wl, bl, bl2⟩ := open_leaves h2 (fun k hk => hw k (.inr (.inl hk)))
  obtain ⟨ad, cd, ds, rfl, rd, wd, bd⟩ := open_pids h3 (fun k hk => hw k (.inr (.inr hk)))
  have b0 := bounds_u64 wi
  exact ⟨⟨i, ms, ls, ds⟩, am, al, ad, cm, cl, cd, rfl, ⟨rm, rl, rd, by simp only; omega, by simp only; omega, by simp only; omega, fun l hl => by have := bl2 l hl; omega⟩, ⟨⟨b0.1, by simp only; omega⟩, wm, wl, wd⟩⟩
set_option maxRecDepth 100000 in
theorem open_pidsV {base : Nat} {v : Value} {d : DataW H} {p : List MemPlace} (hv : Value.okWide Try.prog w .any base 33 v) (h : DataW.Trod enc Try.prog w 0 (fun _ => true) true 33 v d p) (hs : Sz 33 d) :
    ∃ (a : Option Addr) (c : Nat) (xs : List Pid), v = .slice a xs.length c ∧ PidRow w a xs ∧ WfPids xs ∧ xs.length ≤ 17592186044416 := by
  obtain ⟨a0, len, cap, rfl⟩ := Go.WideShapes.okWide_slice Try.underlying33 hv
  obtain ⟨fuel, hf⟩ := h
  exact open_pids (x := (d, p)) hf hs
set_option maxRecDepth 100000 in
theorem open_pidV {base : Nat} {v : Value} {d : DataW H} {p : List MemPlace} (hv : Value.okWide Try.prog w .any base 32 v) (h : DataW.Trod enc Try.prog w 0 (fun _ => true) true 32 v d p) :
    ∃ (x y : Int), v = .agg #[.int .u16 x, .int .u32 y] ∧ 0 ≤ x ∧ x < 65536 ∧ 0 ≤ y ∧ y < 4294967296 := by
  obtain ⟨cs, rfl, hsz⟩ := Go.WideShapes.okWide_struct Try.underlying32 hv
  obtain ⟨fuel, hf⟩ := h
  obtain ⟨i, c, hcs, b⟩ := open_pid (x := (d, p)) hf
  exact ⟨i, c, by rw [← Array.toArray_toList (xs := cs)]; simp only [Value.cells] at hcs; rw [hcs], b⟩
end
end Go.Proofs.Ytjjahefedpfnaaa

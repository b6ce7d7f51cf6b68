import Derived.Test.YtbpfhclcjedkcaaXO
import Derived.Test.YtbpfhclcjedkcaaX52
import Derived.Test.YtbpfhclcjedkcaaX55
namespace Go.Proofs.Ytbpfhclcjedkcaa
open Go.RowKit Go.Deep Go.Joins Go.ChangeShapes
/-! ### from the row's reading to rows of views -/
theorem bytesView : Try.prog.bytesOf 33 = 80 := by kernel_rfl
section
variable {H : Type} {enc : TypeId × Value → H} {w : World}
/-- the leaves' slice has room for them -/
theorem leaves_cap {n : Nat} {a : Option Addr} {l c : Nat} {x : DataW H × List MemPlace} (h : DataW.trod enc Try.prog w 0 (fun _ => true) true n 31 [.slice a l c] = some x) : l ≤ c := by
  rcases open_slice1 Try.underlying31 cellsPids h with ⟨hv, _⟩ | ⟨a, len, cap, m, k, Vs, D, Pl, hv, _, hl, _⟩
  · cases hv; exact Nat.le_refl _
  · cases hv; exact hl
set_option maxRecDepth 100000 in
theorem open_viewK {n : Nat} {cs : List Value} {x : DataW H × List MemPlace} (h : DataW.trod enc Try.prog w 0 (fun _ => true) true n 33 cs = some x) (hs : Sz 33 x.1) :
    ∃ e : VE, cs = e.cells ∧ ViewR w e.am e.al e.ad e.V ∧ WfView e.V ∧ e.V.ls.length ≤ e.cl := by
  obtain ⟨V, am, al, ad, cm, cl, cd, rfl, hR, hwf⟩ := open_viewL h hs
  refine ⟨⟨V, am, al, ad, cm, cl, cd⟩, rfl, hR, hwf, ?_⟩
  obtain ⟨y0, y1, y2, y3, m, hx, hl, h0, h1, h2, h3⟩ := trod_struct4 Try.underlying33 h
  have e2 : (([Value.int .u64 V.id, .slice am V.ms.length cm, .slice al V.ls.length cl, .slice ad V.ds.length cd] : List Value).drop 2).take (Try.prog.cellsOf 31) = [.slice al V.ls.length cl] := by rw [cellsLeaves]; rfl
  exact leaves_cap (e2 ▸ h2)
theorem open_views {n : Nat} {cs : List Value} {x : DataW H × List MemPlace} (h : DataW.trod enc Try.prog w 0 (fun _ => true) true n 22 cs = some x) (hs : Sz 22 x.1) :
    ∃ (a : Option Addr) (c : Nat) (es : List VE), cs = [.slice a es.length c] ∧ VRow w a es ∧ (∀ e ∈ es, WfView e.V ∧ e.V.ls.length ≤ e.cl) ∧ es.length ≤ 17592186044416 := by
  rcases open_slice Try.underlying22 h with ⟨hv, _⟩ | ⟨a, len, cap, m, k, D, Pl, hv, _, hl, hm, hmm, hx, hel⟩
  · exact ⟨none, 0, [], hv, ⟨.inl rfl, by intro e he; cases he⟩, (by intro e he; cases he), by simp⟩
  · simp only [if_true] at hmm
    subst hmm
    rw [hx] at hs
    obtain ⟨hw, hel2⟩ := hs.slice Try.underlying22
    rw [bytesView] at hw
    simp only [List.length_map, List.length_range] at hw
    have hlen : len ≤ 17592186044416 := by unfold reachBytes at hw; omega
    rw [cellsView] at hel
    have hex : ∀ i, ∃ e : VE, i < len → ((∀ j u, e.cells[j]? = some u → w.cell? ((a.add (i * 4)).add j) = some u) ∧ ViewR w e.am e.al e.ad e.V ∧ WfView e.V ∧ e.V.ls.length ≤ e.cl) := by
      intro i
      by_cases hi : i < len
      · obtain ⟨cs', h1, h2⟩ := hel i (by omega)
        obtain ⟨e, rfl, g1, g2, g3⟩ := open_viewK h2 (hel2 _ (List.mem_map.2 ⟨i, by simpa using hi, rfl⟩))
        obtain ⟨_, _, hc⟩ := World.cells?_some h1
        refine ⟨e, fun _ => ⟨fun j u hu => ?_, g1, g2, g3⟩⟩
        have hj : j < 4 := (List.getElem?_eq_some_iff.1 hu).1
        have := hc j (by omega)
        rw [this]; exact hu
      · exact ⟨⟨zeroV, none, none, none, 0, 0, 0⟩, fun h => absurd h hi⟩
    obtain ⟨f, hf⟩ := Classical.axiomOfChoice hex
    refine ⟨some a, m, (List.range len).map f, by rw [hv]; simp, ⟨?_, ?_⟩, ?_, by simpa using hlen⟩
    · by_cases h0 : len = 0
      · subst h0; exact .inl rfl
      · have ha := (hf 0 (by omega)).1 0 _ rfl
        have hsp : a.spot = none := by simpa [Addr.add] using World.cell?_spot ha
        obtain ⟨b, off, sp⟩ := a
        simp only at hsp
        subst hsp
        refine .inr ⟨b, off, rfl, ?_, fun i hi => ?_⟩
        · have := World.block_lt_of_cell? w _ ha
          simpa [addr_add] using this
        · have hi' : i < len := by simpa using hi
          obtain ⟨g, -⟩ := hf i hi'
          have g0 := g 0 _ rfl
          have g1 := g 1 _ rfl
          have g2 := g 2 _ rfl
          have g3 := g 3 _ rfl
          simp only [addr_add, Nat.add_zero] at g0 g1 g2 g3
          simpa using ⟨g0, g1, g2, g3⟩
    · intro e he
      obtain ⟨i, hi, rfl⟩ := List.mem_map.1 he
      exact (hf i (by simpa using hi)).2.1
    · intro e he
      obtain ⟨i, hi, rfl⟩ := List.mem_map.1 he
      exact (hf i (by simpa using hi)).2.2
set_option maxRecDepth 100000 in
theorem open_viewsV {base : Nat} {v : Value} {d : DataW H} {p : List MemPlace} (hv : Value.okWide Try.prog w .any base 22 v) (h : DataW.Trod enc Try.prog w 0 (fun _ => true) true 22 v d p) (hs : Sz 22 d) :
    ∃ (a : Option Addr) (c : Nat) (es : List VE), v = .slice a es.length c ∧ VRow w a es ∧ (∀ e ∈ es, WfView e.V ∧ e.V.ls.length ≤ e.cl) ∧ es.length ≤ 17592186044416 := by
  obtain ⟨a0, len0, cap0, rfl⟩ := Go.WideShapes.okWide_slice Try.underlying22 hv
  obtain ⟨fuel, hf⟩ := h
  obtain ⟨a, c, es, hcs, r⟩ := open_views (x := (d, p)) hf hs
  exact ⟨a, c, es, (List.cons.inj hcs).1, r⟩
set_option maxRecDepth 100000 in
theorem open_pidO {base : Nat} {v : Value} {d : DataW H} {p : List MemPlace} (hv : Value.okWide Try.prog w .any base 26 v) (h : DataW.Trod enc Try.prog w 0 (fun _ => true) true 26 v d p) :
    ∃ x y : Int, v = .agg #[.int .u16 x, .int .u32 y] ∧ okP (x, y) := by
  obtain ⟨cs, rfl, hsz⟩ := Go.WideShapes.okWide_struct Try.underlying26 hv
  obtain ⟨fuel, hf⟩ := h
  obtain ⟨x, y, hcs, h1, h2, h3, h4⟩ := open_pid (x := (d, p)) hf
  refine ⟨x, y, ?_, h1, h2, h3, h4⟩
  simp only [Value.cells] at hcs
  rw [← Array.toArray_toList (xs := cs), hcs]
end
theorem ewf_all {es : List VE} (h : ∀ e ∈ es, WfView e.V ∧ e.V.ls.length ≤ e.cl) : ∀ e ∈ es, EWf e := fun e he => ⟨(h e he).1, (h e he).2⟩
end Go.Proofs.Ytbpfhclcjedkcaa

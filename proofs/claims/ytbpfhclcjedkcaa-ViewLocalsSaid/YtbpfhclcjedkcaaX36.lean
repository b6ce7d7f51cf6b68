import Derived.Test.YtbpfhclcjedkcaaX35
import Derived.Test.YtbpfhclcjedkcaaRA
import Derived.Test.YtbpfhclcjedkcaaXO
import Derived.Test.YtbpfhclcjedkcaaXL
namespace Go.Proofs.Ytbpfhclcjedkcaa
open Go.RowKit

/-! ### ViewBack -/
theorem OwnP.head {w : World} {base : Nat} {v : Value} {xs : List Pid} (h : OwnP w base v xs) (hx : 0 < xs.length) : ∃ g c, v = .slice (some ⟨g, 0, none⟩) xs.length c ∧ base ≤ g ∧ g < w.heap.size ∧ (∃ z : Int, w.cell? ⟨g, 1, none⟩ = some (.int .u32 z)) ∧ w.frozen? ⟨g, 1, none⟩ = false := by
  obtain ⟨a', c', e', hr, -⟩ := h.row
  have hfr : ∀ (g cap : Nat), v = .slice (some ⟨g, 0, none⟩) xs.length cap → w.frozen? ⟨g, 1, none⟩ = false := fun g cap hv => by
    subst hv
    exact World.ownsRow.frozenAt (e := 26) (size := 2) (base := base) (xs := pidCells xs) h 1
  rcases h.2 with ⟨rfl, hn⟩ | ⟨g, cap, cur, rfl, hb, hg, -⟩
  · omega
  · cases e'
    obtain ⟨b, off, x, y, e, -, -, d2⟩ := hr.at (Below.refl _ _) rfl hx
    cases e
    exact ⟨g, _, rfl, hb, (Array.getElem?_eq_some_iff.1 hg).1, ⟨y, by simpa using d2⟩, hfr g _ rfl⟩
theorem OwnLL.head {w : World} {base : Nat} {v : Value} {Ls : List (List Pid)} (h : OwnLL w base v Ls) (hx : 0 < Ls.length) : ∃ g c vi l, v = .slice (some ⟨g, 0, none⟩) Ls.length c ∧ base ≤ g ∧ g < w.heap.size ∧ w.cell? ⟨g, 0, none⟩ = some vi ∧ l ∈ Ls ∧ OwnP w base vi l := by
  obtain ⟨cells, ho, he⟩ := h
  have hcells := fun g => World.ownsRow.cells (g := g) ho
  obtain ⟨vi, h1, h2, -⟩ := he 0 hx
  rcases ho.2 with ⟨rfl, hn⟩ | ⟨g, cap, cur, rfl, hb, hg, -⟩
  · omega
  · have := hcells g rfl 0 _ h1
    rw [addr_add] at this
    exact ⟨g, cap, vi, Ls[0], rfl, hb, (Array.getElem?_eq_some_iff.1 hg).1, by simpa using this, List.getElem_mem _, h2⟩
theorem check_parts {V : View} (h : checkB V = true) : 0 < V.ms.length ∧ 0 < V.ls.length ∧ 0 < V.ds.length ∧ ∀ l ∈ V.ls, 0 < l.length := by
  unfold checkB at h
  simp only [Bool.and_eq_true, decide_eq_true_eq, chkFrom_iff, chkEnd, ris_same, List.nil_append, Nat.zero_add] at h
  obtain ⟨a, b, c, d, e, f, g, h, i⟩ := h
  unfold membersB at c
  rw [memFrom_iff] at c
  have hc := c.1.1
  refine ⟨hc, ?_, List.length_pos_iff.2 h, fun l hl => List.length_pos_iff.2 (d l hl).1⟩
  rcases Nat.eq_zero_or_pos V.ls.length with h0 | h0
  · rw [List.length_eq_zero_iff] at h0
    rw [h0] at e; simp [lens] at e; omega
  · exact h0
theorem ViewR.own {w : World} {b1 b2 b3 : Nat} {V : View} {am al ad : Option Addr} {cm cl cd : Nat} (hm : OwnP w b1 (.slice am V.ms.length cm) V.ms) (hl : OwnLL w b2 (.slice al V.ls.length cl) V.ls) (hd : OwnP w b3 (.slice ad V.ds.length cd) V.ds) {w0 : World} {x y z : Option Addr} (hV : ViewR w0 x y z V) : ViewR w am al ad V := by
  obtain ⟨a1, c1, e1, r1, -⟩ := hm.row
  obtain ⟨a2, c2, e2, r2⟩ := hl.row
  obtain ⟨a3, c3, e3, r3, -⟩ := hd.row
  cases e1; cases e2; cases e3
  exact ⟨r1, r2, r3, hV.lm, hV.ll, hV.ld, hV.le⟩
theorem same_i {V : View} {i : Nat} {am al ad bm bl bd : Option Addr} {cm cl cd em el ed : Nat} {w : World} (hi : V.id = (i : Int)) (hA : ViewR w am al ad V) (hB : ViewR w bm bl bd V) :
   Calls Try.prog 140 #[.agg #[.int .u64 i, .slice am V.ms.length cm, .slice al V.ls.length cl, .slice ad V.ds.length cd], .agg #[.int .u64 i, .slice bm V.ms.length em, .slice bl V.ls.length el, .slice bd V.ds.length ed]] w fun e w' => e = .returned (.bool true) ∧ Below w.heap.size w w' := by
  have := viewSame_is (r := true) (cm := cm) (cl := cl) (cd := cd) (em := em) (el := el) (ed := ed) (hid (sameB_refl V)) hA hB
  rw [hi] at this; exact this
theorem rsame_i {V : View} {i : Nat} {am al ad bm bl bd : Option Addr} {cm cl cd em el ed : Nat} {w : World} (hi : V.id = (i : Int)) (hA : ViewR w am al ad V) (hB : ViewR w bm bl bd V) :
   Calls Try.prog 20 #[.agg #[.int .u64 i, .slice am V.ms.length cm, .slice al V.ls.length cl, .slice ad V.ds.length cd], .agg #[.int .u64 i, .slice bm V.ms.length em, .slice bl V.ls.length el, .slice bd V.ds.length ed]] w fun e w' => e = .returned (.bool true) ∧ Below w.heap.size w w' := by
  have := refSame_is (r := true) (cm := cm) (cl := cl) (cd := cd) (em := em) (el := el) (ed := ed) (hid (sameB_refl V)) hA hB
  rw [hi] at this; exact this
theorem great_i {V : View} {i : Nat} {am al ad : Option Addr} {cm cl cd : Nat} {w : World} {r : Bool} (hi : V.id = (i : Int)) (h : Hid (greatB V = r)) (hV : ViewR w am al ad V) :
   Calls Try.prog 18 #[.agg #[.int .u64 i, .slice am V.ms.length cm, .slice al V.ls.length cl, .slice ad V.ds.length cd]] w fun e w' => e = .returned (.bool r) ∧ Below w.heap.size w w' := by
  have := great_is (cm := cm) (cl := cl) (cd := cd) h hV
  rw [hi] at this; exact this
theorem check_i {V : View} {i : Nat} {am al ad : Option Addr} {cm cl cd : Nat} {w : World} {bm : Bool} {k : Int} (hi : V.id = (i : Int)) (h : Hid (checkB V = bm)) (hk : errB bm = k) (hV : ViewR w am al ad V) (hsum : lens V.ls ≤ 549755813888) :
   Calls Try.prog 22 #[.agg #[.int .u64 i, .slice am V.ms.length cm, .slice al V.ls.length cl, .slice ad V.ds.length cd]] w fun e w' => e = .returned (.int .i64 k) ∧ Below w.heap.size w w' := by
  have := check_is (cm := cm) (cl := cl) (cd := cd) h hk hV hsum
  rw [hi] at this; exact this
end Go.Proofs.Ytbpfhclcjedkcaa

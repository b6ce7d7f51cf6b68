import Derived.Test.YtjjahefedpfnaaaDoorD5
namespace Go.Proofs.YtjjahefedpfnaaaDoor
open Go.RowKit
theorem alloc1_at (w : World) (A : Obj) : (w.alloc A).heap[w.heap.size]? = some A := by
  show (w.heap.push A)[w.heap.size]? = some A
  simp only [Array.getElem?_push_size]
theorem OwnP.emptyAt {w : World} {b : Nat} (hg : w.heap[b]? = some (.cells #[] 30)) : OwnP w b (.slice (some ⟨b, 0, none⟩) 0 0) [] := by
  refine ⟨rfl, .inr ⟨b, 0, #[], rfl, Nat.le_refl _, hg, by simp, by simp, by simp, by simp [pidCells]⟩⟩
set_option maxRecDepth 100000 in
set_option maxHeartbeats 3200000 in
theorem pidSorts_law (a : Option Addr) (c : Nat) (xs : List Pid) (w : World) (hx : PidRow w a xs) (hok : ∀ p ∈ xs, ok p) :
    Calls Tryd.prog 3 #[.slice a xs.length c] w fun e w' => e = .returned (.bool true) ∧ Below w.heap.size w w' := by
  by_cases h3 : 300 < xs.length
  · have h1' : decide (300 < (xs.length : Int)) = true := by simp; omega
    go_enter Tryd.func3, Tryd.ntmps3
    go_wp2_with (go_at_call 4; refine (awake_any _).mono ?_; rintro e w7 ⟨rfl, hb7⟩)
    go_ret
    exact ⟨rfl, hb7⟩
  · have h1' : decide (300 < (xs.length : Int)) = false := by simp; omega
    have HE : Hid ((w.alloc (.cells #[] 30)).heap[w.heap.size]? = some (.cells #[] 30)) := hid (alloc1_at w _)
    have HB0 : Hid (Below w.heap.size w (w.alloc (.cells #[] 30))) := hid ((Below.refl _ _).alloc (Nat.le_refl _) _)
    have HX := hid hx
    have HOK := hid hok
    have HEQ : Hid (decide (sortP xs = sortR [] xs) = true) := hid (by simp [sortR_eq hok])
    have HL1 : Hid ((sortP xs).length ≤ 300) := hid (by
      unfold sortP; rw [sortL_length]
      have := (unionL_len xs []).1
      unfold dedup keys; simp at this ⊢; omega)
    have HL2 : Hid ((sortR [] xs).length ≤ 300) := hid (by rw [← of_decide_eq_true HEQ.out]; exact HL1.out)
    clear hok hx
    go_enter Tryd.func3, Tryd.ntmps3
    go_wp2_with (at_builtin; refine wpList_appendP (OwnP.emptyAt HE.out) (HX.out.ext HB0.out) ?cb ?cz rfl rfl rfl rfl ?_; rotate_right; intro v8 w8 hown8 hg8 hnil8; obtain ⟨a8, c8, rfl, hrow8, -⟩ := (show OwnP w8 w.heap.size v8 xs by simpa using hown8).row; have hB8 : Below w.heap.size w w8 := HB0.out.grown hg8 (by simp) (fun g hg => by simp [Value.ownBlock] at hg; omega); clear hnil8 hg8 hown8)
    case cb => simp; omega
    case cz => simp
    have z8 := hB8.size
    refine (sort_any a8 c8 xs _ (by omega) hrow8 HOK.out).mono ?_
    rintro e w9 ⟨v9, rfl, hown9, hb9⟩
    obtain ⟨a9, c9, rfl, hrow9, -⟩ := hown9.row
    have z9 := hb9.size
    have hB9 := hB8.trans (hb9.mono z8)
    clear hown9
    go_wp2_with fail
    refine (refSort_any a c xs _ (by omega) (HX.out.ext hB9)).mono ?_
    rintro e w10 ⟨a10, c10, rfl, hrow10, -, hb10⟩
    have z10 := hb10.size
    have hB10 := hB9.trans (hb10.mono (by omega))
    go_wp2_with fail
    refine (sameR_is (bm := true) HEQ (by have := HL1.out; omega) (by have := HL2.out; omega) (hrow9.ext hb10) hrow10).mono ?_
    rintro e w11 ⟨rfl, hb11⟩
    have z11 := hb11.size
    have hB11 := hB10.trans (hb11.mono (by omega))
    go_wp2_with fail
    refine (sameR_is (bm := true) (hid (by simp)) (by omega) (by omega) (((hrow8.ext hb9).ext hb10).ext hb11) (HX.out.ext hB11)).mono ?_
    rintro e w12 ⟨rfl, hb12⟩
    have hB12 := hB11.trans (hb12.mono (by omega))
    go_wp2_with (go_at_call 4; refine (awake_any _).mono ?_; rintro e w13 ⟨rfl, hb13⟩)
    go_ret
    exact ⟨rfl, hB12.trans (hb13.mono hB12.size)⟩
end Go.Proofs.YtjjahefedpfnaaaDoor

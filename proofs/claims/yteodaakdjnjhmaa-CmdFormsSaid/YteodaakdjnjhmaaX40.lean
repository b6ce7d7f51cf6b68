import Derived.Test.YteodaakdjnjhmaaX39
import Derived.Test.YteodaakdjnjhmaaX30
namespace Go.Proofs.Yteodaakdjnjhmaa
open Go.RowKit

/-! ### CmdBack -/
theorem greatC_v {A : CmdD} (h : greatC A = false) : greatB A.v = false := by
  unfold greatC at h
  simp only [Bool.or_eq_false_iff, decide_eq_false_iff_not] at h
  exact h.2
theorem cmdF_byte {A : CmdD} (h : ∀ b ∈ A.data, b < 256) : ∀ b ∈ cmdF A, b < 256 := by
  unfold cmdF
  intro b hb
  rcases List.mem_append.1 hb with h1 | h1
  · exact short_byteA _ b h1
  · split at h1
    · simp only [List.mem_append] at h1
      rcases h1 with h1 | h1 | h1 | h1 | h1
      · exact pidF_byte b h1
      · exact short_byteA _ b h1
      · exact short_byteA _ b h1
      · exact short_byteA _ b h1
      · exact h b h1
    · split at h1
      · exact viewF_byte b h1
      · cases h1
/-- a row of bytes of the call's own, whatever it holds -/
def OwnI (w : World) (base : Nat) (v : Value) (n : Nat) : Prop := ∃ cs : List Value, w.ownsRow base 5 1 v n cs ∧ ∀ c ∈ cs, ∃ z : Int, c = .int .u8 z
theorem OwnB.toI {w : World} {base : Nat} {v : Value} {bs : List Nat} (h : OwnB w base v bs) : OwnI w base v bs.length := ⟨u8C bs, h, fun c hc => by
  unfold u8C at hc
  obtain ⟨x, -, rfl⟩ := List.mem_map.1 hc
  exact ⟨_, rfl⟩⟩
theorem OwnI.at {w : World} {base n : Nat} {v : Value} (h : OwnI w base v n) {k : Nat} (hk : k < n) : ∃ g c z, v = .slice (some ⟨g, 0, none⟩) n c ∧ base ≤ g ∧ g < w.heap.size ∧ w.cell? ⟨g, k, none⟩ = some (.int .u8 z) ∧ w.frozen? ⟨g, k, none⟩ = false ∧ ∀ x : Int, OwnI (w.setCell ⟨g, k, none⟩ (.int .u8 x)) base v n := by
  obtain ⟨cs, ho, hc⟩ := h
  have hl := ho.1
  rcases ho.2 with ⟨rfl, hn⟩ | ⟨g, cap, cur, rfl, hb, hg, -⟩
  · omega
  · have hkl : k < cs.length := by omega
    obtain ⟨z, hz⟩ := hc cs[k] (List.getElem_mem _)
    refine ⟨g, cap, z, rfl, hb, (Array.getElem?_eq_some_iff.1 hg).1, ?_, World.ownsRow.frozenAt ho k, fun x => ?_⟩
    · rw [World.ownsRow.cellAt ho k (by omega), List.getElem?_eq_getElem hkl, hz]
    · refine ⟨cs.set k (.int .u8 x), (World.ownsRow.stored ho k (.int .u8 x)).1, fun c hcc => ?_⟩
      rcases List.mem_or_eq_of_mem_set hcc with h1 | h1
      · exact hc c h1
      · exact ⟨x, h1⟩
theorem OwnI.ext {w w' : World} {base n : Nat} {v : Value} (h : OwnI w base v n) (hb : Below w.heap.size w w') : OwnI w' base v n := by
  obtain ⟨cs, ho, hc⟩ := h
  refine ⟨cs, ⟨ho.1, ?_⟩, hc⟩
  rcases ho.2 with hn | ⟨g, cap, cur, rfl, hbb, hgg, rest⟩
  · exact .inl hn
  · exact .inr ⟨g, cap, cur, rfl, hbb, (hb.block g (Array.getElem?_eq_some_iff.1 hgg).1).trans hgg, rest⟩
theorem OwnI.row {w : World} {base n : Nat} {v : Value} (h : OwnI w base v n) : ∃ a c, v = .slice a n c := by
  obtain ⟨cs, ho, hc⟩ := h
  rcases ho.2 with ⟨rfl, hn⟩ | ⟨g, cap, cur, rfl, -⟩
  · exact ⟨none, 0, by rw [hn]⟩
  · exact ⟨_, _, rfl⟩

set_option maxRecDepth 100000 in
set_option maxHeartbeats 12800000 in
theorem cmdBack_law {A B : CmdD} {da am al ad db bm bl bd : Option Addr} {dc cm cl cd ec em el ed : Nat} {w : World} (hA : CmdIn w da am al ad A) (hB : CmdIn w db bm bl bd B) :
    Calls Try.prog 8 #[.agg (cmdL da am al ad dc cm cl cd A), .agg (cmdL db bm bl bd ec em el ed B)] w fun e w' => e = .returned (.bool true) ∧ Below w.heap.size w w' := by
  have hl : ∀ (x : CmdD) (da am al ad : Option Addr) (dc cm cl cd : Nat), cmdL da am al ad dc cm cl cd x = #[.int .i64 x.kind, .int .u16 x.fr.1, .int .u32 x.fr.2, .int .u64 x.num, .int .u64 x.vw, .slice da x.data.length dc, .int .u64 x.v.id, .slice am x.v.ms.length cm, .slice al x.v.ls.length cl, .slice ad x.v.ds.length cd] := fun _ _ _ _ _ _ _ _ _ => rfl
  obtain ⟨W2, hW2⟩ : ∃ W2, ((w.alloc (.cells (cmdL da am al ad dc cm cl cd A) 42)).alloc (.cells (cmdL db bm bl bd ec em el ed B) 42)) = W2 := ⟨_, rfl⟩
  have hB2 : Below w.heap.size w W2 := by rw [← hW2]; exact ((Below.refl _ _).alloc (Nat.le_refl _) _).alloc (by simp) _
  have xA : CmdBox W2 w.heap.size A da am al ad dc cm cl cd := by rw [← hW2]; exact (CmdBox.made (c := A) w).ext ((Below.refl _ _).alloc (Nat.le_refl _) _) (by simp)
  have xB : CmdBox W2 (w.heap.size + 1) B db bm bl bd ec em el ed := by
    rw [← hW2]
    have := CmdBox.made (c := B) (da := db) (am := bm) (al := bl) (ad := bd) (dc := ec) (cm := em) (cl := el) (cd := ed) (w.alloc (.cells (cmdL da am al ad dc cm cl cd A) 42))
    simpa using this
  have hA2 := hA.ext hB2
  have hB22 := hB.ext hB2
  have XA : Hid (∀ W, Below W2.heap.size W2 W → CmdBox W w.heap.size A da am al ad dc cm cl cd) := hid fun W h => xA.ext h xA.lt
  have XB : Hid (∀ W, Below W2.heap.size W2 W → CmdBox W (w.heap.size + 1) B db bm bl bd ec em el ed) := hid fun W h => xB.ext h xB.lt
  have HB2 := hid hB2
  have HA2 := hid hA2
  have HB22 := hid hB22
  obtain ⟨ga, hga⟩ : ∃ r, greatC A = r := ⟨_, rfl⟩
  obtain ⟨gb, hgb⟩ : ∃ r, greatC B = r := ⟨_, rfl⟩
  have GA : Hid (∀ W, Below W2.heap.size W2 W → Calls Try.prog 22 #[.agg (cmdL da am al ad dc cm cl cd A)] W fun e w' => e = .returned (.bool ga) ∧ Below W2.heap.size W2 w') := hid fun W h => relB h (cmdGreat_is (hid hga) (hA2.v.ext h))
  have GB : Hid (∀ W, Below W2.heap.size W2 W → Calls Try.prog 22 #[.agg (cmdL db bm bl bd ec em el ed B)] W fun e w' => e = .returned (.bool gb) ∧ Below W2.heap.size W2 w') := hid fun W h => relB h (cmdGreat_is (hid hgb) (hB22.v.ext h))
  have AW : Hid (∀ W, Below W2.heap.size W2 W → Calls Try.prog 25 #[] W fun e w' => e = .returned (.bool true) ∧ Below W2.heap.size W2 w') := hid fun W h => relB h (awakeC_any W)
  obtain ⟨ca, hca⟩ : ∃ r, (cmdChk A : Int) = r := ⟨_, rfl⟩
  obtain ⟨cb, hcb⟩ : ∃ r, (cmdChk B : Int) = r := ⟨_, rfl⟩
  obtain ⟨sm, hsm⟩ : ∃ r, sameC A B = r := ⟨_, rfl⟩
  have CA : Hid (greatC A = false → ∀ W, Below W2.heap.size W2 W → Calls Try.prog 23 #[.agg (cmdL da am al ad dc cm cl cd A)] W fun e w' => e = .returned (.int .i64 ca) ∧ Below W2.heap.size W2 w') := hid fun g W h => relB h (cmdCheck_is (hid hca) ((hA2.ext h).r g) (by have := (greatC_no g).2; omega) hA2.wf.ms hA2.fr)
  have CB : Hid (greatC B = false → ∀ W, Below W2.heap.size W2 W → Calls Try.prog 23 #[.agg (cmdL db bm bl bd ec em el ed B)] W fun e w' => e = .returned (.int .i64 cb) ∧ Below W2.heap.size W2 w') := hid fun g W h => relB h (cmdCheck_is (hid hcb) ((hB22.ext h).r g) (by have := (greatC_no g).2; omega) hB22.wf.ms hB22.fr)
  have CS : Hid (greatC A = false → greatC B = false → ∀ W, Below W2.heap.size W2 W → Calls Try.prog 24 #[.agg (cmdL da am al ad dc cm cl cd A), .agg (cmdL db bm bl bd ec em el ed B)] W fun e w' => e = .returned (.bool sm) ∧ Below W2.heap.size W2 w') := hid fun g g2 W h => relB h (cmdSameR_is (hid hsm) ((hA2.ext h).r g) ((hB22.ext h).r g2))
  have H2 := Below.refl W2.heap.size W2
  obtain ⟨a0, a1, a2, a3, a4, a5, a6, a7, a8, a9⟩ := id xA
  obtain ⟨b0, b1, b2, b3, b4, b5, b6, b7, b8, b9⟩ := id xB
  have HGA := hid hga
  have HGB := hid hgb
  have HCA := hid hca
  have HCB := hid hcb
  have HSM := hid hsm
  have HW2 := hid hW2
  clear hB2 xA xB hA2 hB22 hga hgb hca hcb hsm
  have fA : ∀ W, Below W2.heap.size W2 W → CmdBox W w.heap.size A da am al ad dc cm cl cd ∧ CmdBox W (w.heap.size + 1) B db bm bl bd ec em el ed := fun W h => ⟨XA.out W h, XB.out W h⟩
  have FA := hid fA
  clear fA
  simp only [hl] at GA GB CA CB CS hW2 ⊢
  cases ga
  case true =>
    go_enter Try.func8, Try.ntmps8
    go_wp2_with (first
      | (go_at_call 22; (with_reducible refine (GA.out _ H2).mono ?_); rintro e w3 ⟨rfl, hb3⟩; clear a0 a1 a2 a3 a4 a5 a6 a7 a8 a9 b0 b1 b2 b3 b4 b5 b6 b7 b8 b9; obtain ⟨⟨a0, a1, a2, a3, a4, a5, a6, a7, a8, a9⟩, ⟨b0, b1, b2, b3, b4, b5, b6, b7, b8, b9⟩⟩ := FA.out _ hb3)
      | (go_at_call 25; (with_reducible refine (AW.out _ hb3).mono ?_); rintro e w9 ⟨rfl, hb9⟩))
    go_ret
    exact ⟨rfl, HB2.out.trans (hb9.mono HB2.out.size)⟩
  cases gb
  case true =>
    go_enter Try.func8, Try.ntmps8
    go_wp2_with (first
      | (go_at_call 22; (with_reducible refine (GA.out _ H2).mono ?_); rintro e w3 ⟨rfl, hb3⟩; clear a0 a1 a2 a3 a4 a5 a6 a7 a8 a9 b0 b1 b2 b3 b4 b5 b6 b7 b8 b9; obtain ⟨⟨a0, a1, a2, a3, a4, a5, a6, a7, a8, a9⟩, ⟨b0, b1, b2, b3, b4, b5, b6, b7, b8, b9⟩⟩ := FA.out _ hb3)
      | (go_at_call 22; (with_reducible refine (GB.out _ hb3).mono ?_); rintro e w4 ⟨rfl, hb4⟩; clear a0 a1 a2 a3 a4 a5 a6 a7 a8 a9 b0 b1 b2 b3 b4 b5 b6 b7 b8 b9; obtain ⟨⟨a0, a1, a2, a3, a4, a5, a6, a7, a8, a9⟩, ⟨b0, b1, b2, b3, b4, b5, b6, b7, b8, b9⟩⟩ := FA.out _ hb4)
      | (go_at_call 25; (with_reducible refine (AW.out _ hb4).mono ?_); rintro e w9 ⟨rfl, hb9⟩))
    go_ret
    exact ⟨rfl, HB2.out.trans (hb9.mono HB2.out.size)⟩
  go_enter Try.func8, Try.ntmps8
  go_wp2_with (first
    | (go_at_call 22; (with_reducible refine (GA.out _ H2).mono ?_); rintro e w3 ⟨rfl, hb3⟩; clear a0 a1 a2 a3 a4 a5 a6 a7 a8 a9 b0 b1 b2 b3 b4 b5 b6 b7 b8 b9; obtain ⟨⟨a0, a1, a2, a3, a4, a5, a6, a7, a8, a9⟩, ⟨b0, b1, b2, b3, b4, b5, b6, b7, b8, b9⟩⟩ := FA.out _ hb3)
    | (go_at_call 22; (with_reducible refine (GB.out _ hb3).mono ?_); rintro e w4 ⟨rfl, hb4⟩; clear a0 a1 a2 a3 a4 a5 a6 a7 a8 a9 b0 b1 b2 b3 b4 b5 b6 b7 b8 b9; obtain ⟨⟨a0, a1, a2, a3, a4, a5, a6, a7, a8, a9⟩, ⟨b0, b1, b2, b3, b4, b5, b6, b7, b8, b9⟩⟩ := FA.out _ hb4))
  obtain ⟨gm, gl, gd, gle, gsum⟩ := great_no (greatC_v HGA.out)
  have hA4 := HA2.out.ext hb4
  have hgA := greatC_no HGA.out
  obtain ⟨iA, hiA⟩ : ∃ i : Nat, A.v.id = (i : Int) := ⟨A.v.id.toNat, by have := hA4.wf.id.1; omega⟩
  have CC := cmdCopy_any (dc := dc) (cm := cm) (cl := cl) (cd := cd) hiA hA4.dr (by omega) hA4.v (by omega) (by omega) (by omega) (fun l hl => by have := gle l hl; omega)
  rw [← hiA] at CC
  have HCC := hid CC
  have HB4 := hid hb4
  clear gm gl gd gle gsum hA4 hgA CC hiA
  (with_reducible refine HCC.out.mono ?_)
  rintro e w5 ⟨qd, q4, q5, q6, kd, k4, k5, k6, rfl, hod5, hvx5, hb5⟩
  clear a0 a1 a2 a3 a4 a5 a6 a7 a8 a9 b0 b1 b2 b3 b4 b5 b6 b7 b8 b9
  clear HCC hb3 hb4 hW2 GA GB
  have hq : Below w5.heap.size w5 (w5.alloc (.cells #[.int .i64 A.kind, .int .u16 A.fr.1, .int .u32 A.fr.2, .int .u64 A.num, .int .u64 A.vw, .slice qd A.data.length kd, .int .u64 A.v.id, .slice q4 A.v.ms.length k4, .slice q5 A.v.ls.length k5, .slice q6 A.v.ds.length k6] 42)) := (Below.refl _ _).alloc (Nat.le_refl _) _
  have hb26 : Below W2.heap.size W2 (w5.alloc (.cells #[.int .i64 A.kind, .int .u16 A.fr.1, .int .u32 A.fr.2, .int .u64 A.num, .int .u64 A.vw, .slice qd A.data.length kd, .int .u64 A.v.id, .slice q4 A.v.ms.length k4, .slice q5 A.v.ls.length k5, .slice q6 A.v.ds.length k6] 42)) := HB4.out.trans ((hb5.trans (hq.mono hb5.size)).mono HB4.out.size)
  have xx : Box10 (w5.alloc (.cells #[.int .i64 A.kind, .int .u16 A.fr.1, .int .u32 A.fr.2, .int .u64 A.num, .int .u64 A.vw, .slice qd A.data.length kd, .int .u64 A.v.id, .slice q4 A.v.ms.length k4, .slice q5 A.v.ls.length k5, .slice q6 A.v.ds.length k6] 42)) w5.heap.size (.int .i64 A.kind) (.int .u16 A.fr.1) (.int .u32 A.fr.2) (.int .u64 A.num) (.int .u64 A.vw) (.slice qd A.data.length kd) (.int .u64 A.v.id) (.slice q4 A.v.ms.length k4) (.slice q5 A.v.ls.length k5) (.slice q6 A.v.ds.length k6) := Box10.made _ _ _ _ _ _ _ _ _ _ _ _ rfl
  have hod6 := hod5.ext hq
  have hvx6 := hvx5.ext hq
  have HDB : Hid (∀ g, (Value.slice qd A.data.length kd).ownBlock = some g → g < w5.heap.size) := hid (fun g hg => (World.ownsRow.lt hod5 g hg).2)
  have HZ5 : Hid (W2.heap.size ≤ w4.heap.size ∧ w4.heap.size ≤ w5.heap.size) := hid ⟨HB4.out.size, hb5.size⟩
  have hz6 : ((w5.alloc (.cells #[.int .i64 A.kind, .int .u16 A.fr.1, .int .u32 A.fr.2, .int .u64 A.num, .int .u64 A.vw, .slice qd A.data.length kd, .int .u64 A.v.id, .slice q4 A.v.ms.length k4, .slice q5 A.v.ls.length k5, .slice q6 A.v.ds.length k6] 42))).heap.size = w5.heap.size + 1 := by simp
  go_wp2_with fail
  generalize (w5.alloc (.cells #[.int .i64 A.kind, .int .u16 A.fr.1, .int .u32 A.fr.2, .int .u64 A.num, .int .u64 A.vw, .slice qd A.data.length kd, .int .u64 A.v.id, .slice q4 A.v.ms.length k4, .slice q5 A.v.ls.length k5, .slice q6 A.v.ds.length k6] 42)) = w6 at hb26 xx hod6 hvx6 hz6 ⊢
  have fab := FA.out _ hb26
  have HS : Hid (∀ W, Below w6.heap.size w6 W → (W.cell? ⟨w5.heap.size, 0, none⟩ = some (.int .i64 A.kind) ∧ W.cell? ⟨w5.heap.size, 1, none⟩ = some (.int .u16 A.fr.1) ∧ W.cell? ⟨w5.heap.size, 2, none⟩ = some (.int .u32 A.fr.2) ∧ W.cell? ⟨w5.heap.size, 3, none⟩ = some (.int .u64 A.num) ∧ W.cell? ⟨w5.heap.size, 4, none⟩ = some (.int .u64 A.vw) ∧ W.cell? ⟨w5.heap.size, 5, none⟩ = some (.slice qd A.data.length kd) ∧ W.cell? ⟨w5.heap.size, 6, none⟩ = some (.int .u64 A.v.id) ∧ W.cell? ⟨w5.heap.size, 7, none⟩ = some (.slice q4 A.v.ms.length k4) ∧ W.cell? ⟨w5.heap.size, 8, none⟩ = some (.slice q5 A.v.ls.length k5) ∧ W.cell? ⟨w5.heap.size, 9, none⟩ = some (.slice q6 A.v.ds.length k6) ∧ W.cell? ⟨w.heap.size, 0, none⟩ = some (.int .i64 A.kind) ∧ W.cell? ⟨w.heap.size, 1, none⟩ = some (.int .u16 A.fr.1) ∧ W.cell? ⟨w.heap.size, 2, none⟩ = some (.int .u32 A.fr.2) ∧ W.cell? ⟨w.heap.size, 3, none⟩ = some (.int .u64 A.num) ∧ W.cell? ⟨w.heap.size, 4, none⟩ = some (.int .u64 A.vw) ∧ W.cell? ⟨w.heap.size, 5, none⟩ = some (.slice da A.data.length dc) ∧ W.cell? ⟨w.heap.size, 6, none⟩ = some (.int .u64 A.v.id) ∧ W.cell? ⟨w.heap.size, 7, none⟩ = some (.slice am A.v.ms.length cm) ∧ W.cell? ⟨w.heap.size, 8, none⟩ = some (.slice al A.v.ls.length cl) ∧ W.cell? ⟨w.heap.size, 9, none⟩ = some (.slice ad A.v.ds.length cd) ∧ W.cell? ⟨w.heap.size + 1, 0, none⟩ = some (.int .i64 B.kind) ∧ W.cell? ⟨w.heap.size + 1, 1, none⟩ = some (.int .u16 B.fr.1) ∧ W.cell? ⟨w.heap.size + 1, 2, none⟩ = some (.int .u32 B.fr.2) ∧ W.cell? ⟨w.heap.size + 1, 3, none⟩ = some (.int .u64 B.num) ∧ W.cell? ⟨w.heap.size + 1, 4, none⟩ = some (.int .u64 B.vw) ∧ W.cell? ⟨w.heap.size + 1, 5, none⟩ = some (.slice db B.data.length ec) ∧ W.cell? ⟨w.heap.size + 1, 6, none⟩ = some (.int .u64 B.v.id) ∧ W.cell? ⟨w.heap.size + 1, 7, none⟩ = some (.slice bm B.v.ms.length em) ∧ W.cell? ⟨w.heap.size + 1, 8, none⟩ = some (.slice bl B.v.ls.length el) ∧ W.cell? ⟨w.heap.size + 1, 9, none⟩ = some (.slice bd B.v.ds.length ed))) := hid fun W h => ⟨cell_toB (xx.c0) h, cell_toB (xx.c1) h, cell_toB (xx.c2) h, cell_toB (xx.c3) h, cell_toB (xx.c4) h, cell_toB (xx.c5) h, cell_toB (xx.c6) h, cell_toB (xx.c7) h, cell_toB (xx.c8) h, cell_toB (xx.c9) h, cell_toB (fab.1.c0) h, cell_toB (fab.1.c1) h, cell_toB (fab.1.c2) h, cell_toB (fab.1.c3) h, cell_toB (fab.1.c4) h, cell_toB (fab.1.c5) h, cell_toB (fab.1.c6) h, cell_toB (fab.1.c7) h, cell_toB (fab.1.c8) h, cell_toB (fab.1.c9) h, cell_toB (fab.2.c0) h, cell_toB (fab.2.c1) h, cell_toB (fab.2.c2) h, cell_toB (fab.2.c3) h, cell_toB (fab.2.c4) h, cell_toB (fab.2.c5) h, cell_toB (fab.2.c6) h, cell_toB (fab.2.c7) h, cell_toB (fab.2.c8) h, cell_toB (fab.2.c9) h⟩
  have hxR : CmdR w6 qd q4 q5 q6 A := by
    obtain ⟨x1, x2, e1, hr, -⟩ := hod6.row
    cases e1
    exact ⟨hr, by have := (greatC_no HGA.out).1; omega, (HA2.out.ext hb26).db, hvx6⟩
  have SA : Hid (∀ W, Below w6.heap.size w6 W → Calls Try.prog 47 #[.agg #[.int .i64 A.kind, .int .u16 A.fr.1, .int .u32 A.fr.2, .int .u64 A.num, .int .u64 A.vw, .slice qd A.data.length kd, .int .u64 A.v.id, .slice q4 A.v.ms.length k4, .slice q5 A.v.ls.length k5, .slice q6 A.v.ds.length k6], .agg #[.int .i64 A.kind, .int .u16 A.fr.1, .int .u32 A.fr.2, .int .u64 A.num, .int .u64 A.vw, .slice da A.data.length dc, .int .u64 A.v.id, .slice am A.v.ms.length cm, .slice al A.v.ls.length cl, .slice ad A.v.ds.length cd]] W fun e w' => e = .returned (.bool true) ∧ Below w6.heap.size w6 w') := hid fun W h => relB h (by
    have := cmdSame_any (A := A) (B := A) (dc := kd) (cm := k4) (cl := k5) (cd := k6) (ec := dc) (em := cm) (el := cl) (ed := cd) (hxR.ext h) (((HA2.out.ext hb26).r HGA.out).ext h)
    rw [sameC_self] at this; exact this)
  have SB : Hid (∀ W, Below w6.heap.size w6 W → Calls Try.prog 47 #[.agg #[.int .i64 A.kind, .int .u16 A.fr.1, .int .u32 A.fr.2, .int .u64 A.num, .int .u64 A.vw, .slice da A.data.length dc, .int .u64 A.v.id, .slice am A.v.ms.length cm, .slice al A.v.ls.length cl, .slice ad A.v.ds.length cd], .agg #[.int .i64 B.kind, .int .u16 B.fr.1, .int .u32 B.fr.2, .int .u64 B.num, .int .u64 B.vw, .slice db B.data.length ec, .int .u64 B.v.id, .slice bm B.v.ms.length em, .slice bl B.v.ls.length el, .slice bd B.v.ds.length ed]] W fun e w' => e = .returned (.bool sm) ∧ Below w6.heap.size w6 w') := hid fun W h => relB h (by
    have := cmdSame_any (A := A) (B := B) (dc := dc) (cm := cm) (cl := cl) (cd := cd) (ec := ec) (em := em) (el := el) (ed := ed) (((HA2.out.ext hb26).r HGA.out).ext h) (((HB22.out.ext hb26).r HGB.out).ext h)
    rw [HSM.out] at this; exact this)
  have SR : Hid (∀ W, Below w6.heap.size w6 W → Calls Try.prog 24 #[.agg #[.int .i64 A.kind, .int .u16 A.fr.1, .int .u32 A.fr.2, .int .u64 A.num, .int .u64 A.vw, .slice da A.data.length dc, .int .u64 A.v.id, .slice am A.v.ms.length cm, .slice al A.v.ls.length cl, .slice ad A.v.ds.length cd], .agg #[.int .i64 B.kind, .int .u16 B.fr.1, .int .u32 B.fr.2, .int .u64 B.num, .int .u64 B.vw, .slice db B.data.length ec, .int .u64 B.v.id, .slice bm B.v.ms.length em, .slice bl B.v.ls.length el, .slice bd B.v.ds.length ed]] W fun e w' => e = .returned (.bool sm) ∧ Below w6.heap.size w6 w') := hid fun W h => relB h (cmdSameR_is (dc := dc) (cm := cm) (cl := cl) (cd := cd) (ec := ec) (em := em) (el := el) (ed := ed) HSM.out (((HA2.out.ext hb26).r HGA.out).ext h) (((HB22.out.ext hb26).r HGB.out).ext h))
  have hneq : ∀ W, (binOp .neq 4 (.bool sm) (.bool sm)).run Try.prog W = .ok (.bool false) W := fun W => by cases sm <;> simp [go_sem]
  have H0 : Below w6.heap.size w6 w6.drew := (Below.refl _ _).drew
  have HB26 := hid hb26
  have HXX := hid xx
  have HOD6 := hid hod6
  have HZ6 := hid hz6
  clear hb26 xx hod6 hvx6 hxR fab hq hod5 hvx5 hb5 hz6
  refine wp_region_held_drew (S := fun W => W.cell? ⟨w5.heap.size, 0, none⟩ = some (.int .i64 A.kind) ∧ W.cell? ⟨w5.heap.size, 1, none⟩ = some (.int .u16 A.fr.1) ∧ W.cell? ⟨w5.heap.size, 2, none⟩ = some (.int .u32 A.fr.2) ∧ W.cell? ⟨w5.heap.size, 3, none⟩ = some (.int .u64 A.num) ∧ W.cell? ⟨w5.heap.size, 4, none⟩ = some (.int .u64 A.vw) ∧ W.cell? ⟨w5.heap.size, 5, none⟩ = some (.slice qd A.data.length kd) ∧ W.cell? ⟨w5.heap.size, 6, none⟩ = some (.int .u64 A.v.id) ∧ W.cell? ⟨w5.heap.size, 7, none⟩ = some (.slice q4 A.v.ms.length k4) ∧ W.cell? ⟨w5.heap.size, 8, none⟩ = some (.slice q5 A.v.ls.length k5) ∧ W.cell? ⟨w5.heap.size, 9, none⟩ = some (.slice q6 A.v.ds.length k6) ∧ W.cell? ⟨w.heap.size, 0, none⟩ = some (.int .i64 A.kind) ∧ W.cell? ⟨w.heap.size, 1, none⟩ = some (.int .u16 A.fr.1) ∧ W.cell? ⟨w.heap.size, 2, none⟩ = some (.int .u32 A.fr.2) ∧ W.cell? ⟨w.heap.size, 3, none⟩ = some (.int .u64 A.num) ∧ W.cell? ⟨w.heap.size, 4, none⟩ = some (.int .u64 A.vw) ∧ W.cell? ⟨w.heap.size, 5, none⟩ = some (.slice da A.data.length dc) ∧ W.cell? ⟨w.heap.size, 6, none⟩ = some (.int .u64 A.v.id) ∧ W.cell? ⟨w.heap.size, 7, none⟩ = some (.slice am A.v.ms.length cm) ∧ W.cell? ⟨w.heap.size, 8, none⟩ = some (.slice al A.v.ls.length cl) ∧ W.cell? ⟨w.heap.size, 9, none⟩ = some (.slice ad A.v.ds.length cd) ∧ W.cell? ⟨w.heap.size + 1, 0, none⟩ = some (.int .i64 B.kind) ∧ W.cell? ⟨w.heap.size + 1, 1, none⟩ = some (.int .u16 B.fr.1) ∧ W.cell? ⟨w.heap.size + 1, 2, none⟩ = some (.int .u32 B.fr.2) ∧ W.cell? ⟨w.heap.size + 1, 3, none⟩ = some (.int .u64 B.num) ∧ W.cell? ⟨w.heap.size + 1, 4, none⟩ = some (.int .u64 B.vw) ∧ W.cell? ⟨w.heap.size + 1, 5, none⟩ = some (.slice db B.data.length ec) ∧ W.cell? ⟨w.heap.size + 1, 6, none⟩ = some (.int .u64 B.v.id) ∧ W.cell? ⟨w.heap.size + 1, 7, none⟩ = some (.slice bm B.v.ms.length em) ∧ W.cell? ⟨w.heap.size + 1, 8, none⟩ = some (.slice bl B.v.ls.length el) ∧ W.cell? ⟨w.heap.size + 1, 9, none⟩ = some (.slice bd B.v.ds.length ed)) (by kernel_rfl) (HS.out _ H0) (fun hHeld => ?_)
  refine wpAnyH_take (i := 0) (oi := _) (v := .agg #[.int .i64 A.kind, .int .u16 A.fr.1, .int .u32 A.fr.2, .int .u64 A.num, .int .u64 A.vw, .slice qd A.data.length kd, .int .u64 A.v.id, .slice q4 A.v.ms.length k4, .slice q5 A.v.ls.length k5, .slice q6 A.v.ds.length k6]) rfl (by kernel_rfl) (by kernel_rfl) (by kernel_rfl) (fun _ _ _ h => h) (Or.inl ⟨by rfl, ?_⟩) (by assumption) ?_
  · intro W hSw
    try dsimp only at hSw
    go_simp
  try simp only [Act.put, List.getElem_toArray, List.getElem_cons_succ, List.getElem_cons_zero, List.setIfInBounds_toArray, List.set_cons_zero, List.set_cons_succ]
  refine wpAnyH_take (i := 1) (oi := _) (v := .agg #[.int .i64 A.kind, .int .u16 A.fr.1, .int .u32 A.fr.2, .int .u64 A.num, .int .u64 A.vw, .slice da A.data.length dc, .int .u64 A.v.id, .slice am A.v.ms.length cm, .slice al A.v.ls.length cl, .slice ad A.v.ds.length cd]) rfl (by kernel_rfl) (by kernel_rfl) (by kernel_rfl) (fun _ _ _ h => h) (Or.inl ⟨by rfl, ?_⟩) (by assumption) ?_
  · intro W hSw
    try dsimp only at hSw
    go_simp
  try simp only [Act.put, List.getElem_toArray, List.getElem_cons_succ, List.getElem_cons_zero, List.setIfInBounds_toArray, List.set_cons_zero, List.set_cons_succ]
  refine wpAnyH_ready (rs := [2]) (by kernel_rfl) (by simp) ?_
  refine AllReadyH.cons (o := _) rfl (fun K hK => ?_) AllReadyH.nil
  go_simp
  (with_reducible refine (SA.out _ H0).mono ?_)
  rintro e w7 ⟨rfl, hb7⟩
  refine hK.out _ _ (HS.out _ (hb7)) (fun hHeld => ?_)
  clear hK K
  try simp only [Act.put, List.getElem_toArray, List.getElem_cons_succ, List.getElem_cons_zero, List.setIfInBounds_toArray, List.set_cons_zero, List.set_cons_succ]
  refine wpAnyH_take (i := 3) (oi := _) (v := .bool false) rfl (by kernel_rfl) (by kernel_rfl) (by kernel_rfl) (fun _ _ _ h => h) (Or.inl ⟨by rfl, ?_⟩) (by assumption) ?_
  · intro W hSw
    try dsimp only at hSw
    go_simp
  try simp only [Act.put, List.getElem_toArray, List.getElem_cons_succ, List.getElem_cons_zero, List.setIfInBounds_toArray, List.set_cons_zero, List.set_cons_succ]
  refine wpAnyH_take (i := 4) (oi := _) (v := .bool false) rfl (by kernel_rfl) (by kernel_rfl) (by kernel_rfl) (fun _ _ _ h => h) (Or.inl ⟨by rfl, ?_⟩) (by assumption) ?_
  · intro W hSw
    try dsimp only at hSw
    go_simp
  try simp only [Act.put, List.getElem_toArray, List.getElem_cons_succ, List.getElem_cons_zero, List.setIfInBounds_toArray, List.set_cons_zero, List.set_cons_succ]
  refine wpAnyH_take (i := 5) (oi := _) (v := .agg #[.int .i64 A.kind, .int .u16 A.fr.1, .int .u32 A.fr.2, .int .u64 A.num, .int .u64 A.vw, .slice da A.data.length dc, .int .u64 A.v.id, .slice am A.v.ms.length cm, .slice al A.v.ls.length cl, .slice ad A.v.ds.length cd]) rfl (by kernel_rfl) (by kernel_rfl) (by kernel_rfl) (fun _ _ _ h => h) (Or.inl ⟨by rfl, ?_⟩) (by assumption) ?_
  · intro W hSw
    try dsimp only at hSw
    go_simp
  try simp only [Act.put, List.getElem_toArray, List.getElem_cons_succ, List.getElem_cons_zero, List.setIfInBounds_toArray, List.set_cons_zero, List.set_cons_succ]
  refine wpAnyH_take (i := 6) (oi := _) (v := .agg #[.int .i64 B.kind, .int .u16 B.fr.1, .int .u32 B.fr.2, .int .u64 B.num, .int .u64 B.vw, .slice db B.data.length ec, .int .u64 B.v.id, .slice bm B.v.ms.length em, .slice bl B.v.ls.length el, .slice bd B.v.ds.length ed]) rfl (by kernel_rfl) (by kernel_rfl) (by kernel_rfl) (fun _ _ _ h => h) (Or.inl ⟨by rfl, ?_⟩) (by assumption) ?_
  · intro W hSw
    try dsimp only at hSw
    go_simp
  try simp only [Act.put, List.getElem_toArray, List.getElem_cons_succ, List.getElem_cons_zero, List.setIfInBounds_toArray, List.set_cons_zero, List.set_cons_succ]
  refine wpAnyH_take (i := 8) (oi := _) (v := .agg #[.int .i64 A.kind, .int .u16 A.fr.1, .int .u32 A.fr.2, .int .u64 A.num, .int .u64 A.vw, .slice da A.data.length dc, .int .u64 A.v.id, .slice am A.v.ms.length cm, .slice al A.v.ls.length cl, .slice ad A.v.ds.length cd]) rfl (by kernel_rfl) (by kernel_rfl) (by kernel_rfl) (fun _ _ _ h => h) (Or.inl ⟨by rfl, ?_⟩) (by assumption) ?_
  · intro W hSw
    try dsimp only at hSw
    go_simp
  try simp only [Act.put, List.getElem_toArray, List.getElem_cons_succ, List.getElem_cons_zero, List.setIfInBounds_toArray, List.set_cons_zero, List.set_cons_succ]
  refine wpAnyH_take (i := 9) (oi := _) (v := .agg #[.int .i64 B.kind, .int .u16 B.fr.1, .int .u32 B.fr.2, .int .u64 B.num, .int .u64 B.vw, .slice db B.data.length ec, .int .u64 B.v.id, .slice bm B.v.ms.length em, .slice bl B.v.ls.length el, .slice bd B.v.ds.length ed]) rfl (by kernel_rfl) (by kernel_rfl) (by kernel_rfl) (fun _ _ _ h => h) (Or.inl ⟨by rfl, ?_⟩) (by assumption) ?_
  · intro W hSw
    try dsimp only at hSw
    go_simp
  try simp only [Act.put, List.getElem_toArray, List.getElem_cons_succ, List.getElem_cons_zero, List.setIfInBounds_toArray, List.set_cons_zero, List.set_cons_succ]
  refine wpAnyH_ready (rs := [7]) (by kernel_rfl) (by simp) ?_
  refine AllReadyH.cons (o := _) rfl (fun K hK => ?_) AllReadyH.nil
  go_simp
  (with_reducible refine (SB.out _ hb7).mono ?_)
  rintro e w8 ⟨rfl, hb8⟩
  refine hK.out _ _ (HS.out _ (hb8)) (fun hHeld => ?_)
  clear hK K
  try simp only [Act.put, List.getElem_toArray, List.getElem_cons_succ, List.getElem_cons_zero, List.setIfInBounds_toArray, List.set_cons_zero, List.set_cons_succ]
  refine wpAnyH_ready (rs := [10]) (by kernel_rfl) (by simp) ?_
  refine AllReadyH.cons (o := _) rfl (fun K hK => ?_) AllReadyH.nil
  go_simp
  (with_reducible refine (SR.out _ hb8).mono ?_)
  rintro e w9 ⟨rfl, hb9⟩
  refine hK.out _ _ (HS.out _ (hb9)) (fun hHeld => ?_)
  clear hK K
  try simp only [Act.put, List.getElem_toArray, List.getElem_cons_succ, List.getElem_cons_zero, List.setIfInBounds_toArray, List.set_cons_zero, List.set_cons_succ]
  refine wpAnyH_take (i := 11) (oi := _) (v := .bool false) rfl (by kernel_rfl) (by kernel_rfl) (by kernel_rfl) (fun _ _ _ h => h) (Or.inl ⟨by rfl, ?_⟩) (by assumption) ?_
  · intro W hSw
    try dsimp only at hSw
    go_simp
  try simp only [Act.put, List.getElem_toArray, List.getElem_cons_succ, List.getElem_cons_zero, List.setIfInBounds_toArray, List.set_cons_zero, List.set_cons_succ]
  refine wpAnyH_take (i := 12) (oi := _) (v := .bool false) rfl (by kernel_rfl) (by kernel_rfl) (by kernel_rfl) (fun _ _ _ h => h) (Or.inl ⟨by rfl, ?_⟩) (by assumption) ?_
  · intro W hSw
    try dsimp only at hSw
    go_simp
  try simp only [Act.put, List.getElem_toArray, List.getElem_cons_succ, List.getElem_cons_zero, List.setIfInBounds_toArray, List.set_cons_zero, List.set_cons_succ]
  refine wpAnyH_done (by kernel_rfl) ?_ _
  have hb29 := HB26.out.trans (hb9.mono HB26.out.size)
  have HB9 := hid hb9
  clear hHeld SA SB SR HS H0 hneq hb7 hb8 hb9
  obtain ⟨⟨a0, a1, a2, a3, a4, a5, a6, a7, a8, a9⟩, ⟨b0, b1, b2, b3, b4, b5, b6, b7, b8, b9⟩⟩ := FA.out _ hb29
  have KA0 := cmdCheck_is (dc := dc) (cm := cm) (cl := cl) (cd := cd) HCA ((HA2.out.ext hb29).r HGA.out) (by have := (greatC_no HGA.out).2; omega) HA2.out.wf.ms HA2.out.fr
  rw [hl] at KA0
  have KA := hid KA0
  have HB29 := hid hb29
  clear KA0
  go_wp2_with fail
  (with_reducible refine KA.out.mono ?_)
  rintro e w10 ⟨rfl, hb910⟩
  have hb10 := HB29.out.trans (hb910.mono HB29.out.size)
  have HB10 := hid (HB9.out.trans (hb910.mono HB9.out.size))
  clear hb910
  clear a0 a1 a2 a3 a4 a5 a6 a7 a8 a9 b0 b1 b2 b3 b4 b5 b6 b7 b8 b9
  clear KA hb29
  by_cases h5 : ca = 0
  case neg =>
    have t5 : (ca != 0) = true := by simpa using h5
    have AW2 := hid (AW.out _ hb10)
    clear h5
    go_wp2_with fail
    (with_reducible refine AW2.out.mono ?_)
    rintro e w11 ⟨rfl, hb11⟩
    go_wp2
    go_ret
    exact ⟨rfl, HB2.out.trans (hb11.mono HB2.out.size)⟩
  case pos =>
  have t5 : (ca != 0) = false := by simpa using h5
  have H5 : Hid (cmdChk A = 0) := hid (by have := HCA.out; omega)
  clear h5
  obtain ⟨⟨a0, a1, a2, a3, a4, a5, a6, a7, a8, a9⟩, ⟨b0, b1, b2, b3, b4, b5, b6, b7, b8, b9⟩⟩ := FA.out _ hb10
  have KB0 := cmdCheck_is (dc := ec) (cm := em) (cl := el) (cd := ed) HCB ((HB22.out.ext hb10).r HGB.out) (by have := (greatC_no HGB.out).2; omega) HB22.out.wf.ms HB22.out.fr
  rw [hl] at KB0
  have KB := hid KB0
  have HB210 := hid hb10
  clear KB0
  go_wp2_with fail
  (with_reducible refine KB.out.mono ?_)
  rintro e w11 ⟨rfl, hb1011⟩
  clear a0 a1 a2 a3 a4 a5 a6 a7 a8 a9 b0 b1 b2 b3 b4 b5 b6 b7 b8 b9
  have hb11 := HB210.out.trans (hb1011.mono HB210.out.size)
  have HB611 := hid (HB10.out.trans (hb1011.mono HB10.out.size))
  clear KB hb1011
  by_cases h6 : cb = 0
  case neg =>
    have t6 : (cb != 0) = true := by simpa using h6
    have AW2 := hid (AW.out _ hb11)
    clear h6
    go_wp2_with fail
    (with_reducible refine AW2.out.mono ?_)
    rintro e w12 ⟨rfl, hb12⟩
    go_wp2
    go_ret
    exact ⟨rfl, HB2.out.trans (hb12.mono HB2.out.size)⟩
  case pos =>
  have t6 : (cb != 0) = false := by simpa using h6
  have H6 : Hid (cmdChk B = 0) := hid (by have := HCB.out; omega)
  clear h6
  have gA := greatC_no HGA.out
  have gB := greatC_no HGB.out
  have hA11 := HA2.out.ext hb11
  have hB11 := HB22.out.ext hb11
  have hq11 := (Below.refl w11.heap.size w11).alloc (Nat.le_refl _) (.cells #[.slice none 0 0] 48)
  have P1 := cmdPut_any (dc := dc) (cm := cm) (cl := cl) (cd := cd) (WrIs.made w11 48) (by simp) (hA11.dr.ext hq11) hA11.db gA.1 (hA11.dr.far (Nat.le_refl _)) hA11.v hq11 (Nat.le_refl _) hA11.fr hA11.wf.ms hA11.wf.id (by omega) H5.out
  rw [hl, List.nil_append] at P1
  have HP1 := hid P1
  have HB211 := hid hb11
  have HA11 := hid hA11
  have HB11 := hid hB11
  have hb211L := hb11.trans (hq11.mono hb11.size)
  obtain ⟨⟨a0, a1, a2, a3, a4, a5, a6, a7, a8, a9⟩, ⟨b0, b1, b2, b3, b4, b5, b6, b7, b8, b9⟩⟩ := FA.out _ hb211L
  clear P1 hA11 hB11 hq11 hb11 hb10 hb211L gA gB CA CB CS
  go_wp2_with fail
  (with_reducible refine HP1.out.mono ?_)
  rintro e w12 ⟨rfl, v12, hw12⟩
  clear a0 a1 a2 a3 a4 a5 a6 a7 a8 a9 b0 b1 b2 b3 b4 b5 b6 b7 b8 b9
  have hq11 := (Below.refl w11.heap.size w11).alloc (Nat.le_refl _) (.cells #[.slice none 0 0] 48)
  have hb1112 := below_mut hq11 hw12.mt (Nat.le_refl _)
  have hb212 := HB211.out.trans (hb1112.mono HB211.out.size)
  have gB := greatC_no HGB.out
  have hfa := cmdF_small HA11.out H5.out
  have hfb := cmdF_small HB11.out H6.out
  have P2 := cmdPut_any (dc := ec) (cm := em) (cl := el) (cd := ed) hw12.wr (by omega) (HB11.out.dr.ext hb1112) HB11.out.db gB.1 (HB11.out.dr.far (Nat.le_refl _)) HB11.out.v hb1112 (Nat.le_refl _) HB11.out.fr HB11.out.wf.ms HB11.out.wf.id (by omega) H6.out
  rw [hl] at P2
  have HP2 := hid P2
  have HW12 := hid hw12
  have HB1112 := hid hb1112
  obtain ⟨⟨a0, a1, a2, a3, a4, a5, a6, a7, a8, a9⟩, ⟨b0, b1, b2, b3, b4, b5, b6, b7, b8, b9⟩⟩ := FA.out _ hb212
  clear P2 hw12 hb1112 hb212 gB hq11 HP1
  go_wp2_with fail
  (with_reducible refine HP2.out.mono ?_)
  rintro e w13 ⟨rfl, v13, hw13⟩
  clear a0 a1 a2 a3 a4 a5 a6 a7 a8 a9 b0 b1 b2 b3 b4 b5 b6 b7 b8 b9
  have hb1113 := below_mut HB1112.out hw13.mt (Nat.le_refl _)
  have HB213 := hid (HB211.out.trans (hb1113.mono HB211.out.size))
  have hb613 := HB611.out.trans (hb1113.mono HB611.out.size)
  have xx13 := HXX.out.ext hb613 HXX.out.lt
  have hod13 := (HOD6.out.ext hb613).toI
  have HW13 := hid hw13.wr
  have HXX13 := hid xx13
  have HOD13 := hid hod13
  have HZ613 : Hid (w6.heap.size ≤ w11.heap.size ∧ w11.heap.size < w13.heap.size) := hid ⟨HB611.out.size, hw13.wr.lt⟩
  obtain ⟨x0, x1, x2, x3, x4, x5, x6, x7, x8, x9, -⟩ := xx13
  have hz6' := HZ6.out
  have hA400 := (greatC_no HGA.out).1
  have hz5' := HZ5.out
  clear hb1113 hb613 hod13 hw13 HP2 HW12 HB1112 HXX HOD6
  go_wp2_with fail
  go_loopw [7] (fun i wr => ∃ k : Nat, k ≤ A.data.length ∧ i = .int .i64 k ∧ OwnI wr w4.heap.size (.slice qd A.data.length kd) A.data.length ∧ Mut (fun k => w4.heap.size ≤ k ∧ k < w5.heap.size) w13 wr) (fun i _ => A.data.length - (intOf i).toNat)
  case atStart => exact ⟨0, Nat.zero_le _, rfl, HOD13.out, Mut.refl _ _⟩
  case round =>
    obtain ⟨k, hk, rfl, hoi, hmut⟩ := hrel
    clear x0 x1 x2 x3 x4 x5 x6 x7 x8 x9
    have xr := HXX13.out.mutT hmut (fun e => by omega)
    by_cases hlt : k < A.data.length
    · have t1 : decide ((k : Int) < (A.data.length : Int)) = true := by simpa using hlt
      have t1' : decide (k < A.data.length) = true := by simpa using hlt
      obtain ⟨g, cc, z, e, hg1, hg2, hcell, hfroz, hset⟩ := hoi.at hlt
      have hgb := HDB.out g (by rw [e]; rfl)
      cases e
      have HS0 : Below wr.heap.size wr wr.drew := (Below.refl _ _).drew
      have xd := xr.ext HS0 xr.lt
      have y5 := xd.c5
      have hcd := cell_toB hcell HS0
      have hfd : wr.drew.frozen? ⟨g, k, none⟩ = false := (HS0.frozen (by exact hg2)).trans hfroz
      have x5 := xr.c5
      have HMU := hid hmut
      have HG := hid (And.intro hg1 hgb)
      have hsetd : ∀ x : Int, OwnI (wr.drew.setCell ⟨g, k, none⟩ (.int .u8 x)) w4.heap.size (.slice (some ⟨g, 0, none⟩) A.data.length kd) A.data.length := fun x => by
        have := (hoi.ext HS0).at hlt
        obtain ⟨g', cc', z', e', -, -, -, -, h⟩ := this
        cases e'
        exact h x
      have HSETD := hid hsetd
      have hgne : g ≠ w5.heap.size := by omega
      have HX5 : Hid (∀ v : Value, (wr.drew.setCell ⟨g, k, none⟩ v).cell? ⟨w5.heap.size, 5, none⟩ = some (.slice (some ⟨g, 0, none⟩) A.data.length kd)) := hid fun v => (off_blk (fun e => hgne e.symm)).trans y5
      have HLT := hid hlt
      clear hoi hmut xr hset hsetd hgb hcell hfroz xd
      go_wp2_with fail
      refine wp_region_held_drew (S := fun W => W.cell? ⟨w5.heap.size, 5, none⟩ = some (.slice (some ⟨g, 0, none⟩) A.data.length kd)) (by kernel_rfl) y5 (fun hHeld => ?_)
      refine wpAnyH_take (i := 0) (oi := _) (v := .pointer (some ⟨w5.heap.size, 5, none⟩)) rfl (by kernel_rfl) (by kernel_rfl) (by kernel_rfl) (fun _ _ _ h => h) (Or.inl ⟨by rfl, ?_⟩) (by assumption) ?_
      · intro W hSw
        try dsimp only at hSw
        go_simp
      try simp only [Act.put, List.getElem_toArray, List.getElem_cons_succ, List.getElem_cons_zero, List.setIfInBounds_toArray, List.set_cons_zero, List.set_cons_succ]
      refine wpAnyH_take (i := 1) (oi := _) (v := .slice (some ⟨g, 0, none⟩) A.data.length kd) rfl (by kernel_rfl) (by kernel_rfl) (by kernel_rfl) (fun _ _ _ h => h) (Or.inl ⟨by rfl, ?_⟩) (by assumption) ?_
      · intro W hSw
        try dsimp only at hSw
        go_simp
      try simp only [Act.put, List.getElem_toArray, List.getElem_cons_succ, List.getElem_cons_zero, List.setIfInBounds_toArray, List.set_cons_zero, List.set_cons_succ]
      refine wpAnyH_take (i := 2) (oi := _) (v := .int .i64 k) rfl (by kernel_rfl) (by kernel_rfl) (by kernel_rfl) (fun _ _ _ h => h) (Or.inl ⟨by rfl, ?_⟩) (by assumption) ?_
      · intro W hSw
        try dsimp only at hSw
        go_simp
      try simp only [Act.put, List.getElem_toArray, List.getElem_cons_succ, List.getElem_cons_zero, List.setIfInBounds_toArray, List.set_cons_zero, List.set_cons_succ]
      refine wpAnyH_take (i := 3) (oi := _) (v := .pointer (some ⟨w5.heap.size, 5, none⟩)) rfl (by kernel_rfl) (by kernel_rfl) (by kernel_rfl) (fun _ _ _ h => h) (Or.inl ⟨by rfl, ?_⟩) (by assumption) ?_
      · intro W hSw
        try dsimp only at hSw
        go_simp
      try simp only [Act.put, List.getElem_toArray, List.getElem_cons_succ, List.getElem_cons_zero, List.setIfInBounds_toArray, List.set_cons_zero, List.set_cons_succ]
      refine wpAnyH_take (i := 4) (oi := _) (v := .slice (some ⟨g, 0, none⟩) A.data.length kd) rfl (by kernel_rfl) (by kernel_rfl) (by kernel_rfl) (fun _ _ _ h => h) (Or.inl ⟨by rfl, ?_⟩) (by assumption) ?_
      · intro W hSw
        try dsimp only at hSw
        go_simp
      try simp only [Act.put, List.getElem_toArray, List.getElem_cons_succ, List.getElem_cons_zero, List.setIfInBounds_toArray, List.set_cons_zero, List.set_cons_succ]
      refine wpAnyH_take (i := 5) (oi := _) (v := .int .i64 k) rfl (by kernel_rfl) (by kernel_rfl) (by kernel_rfl) (fun _ _ _ h => h) (Or.inl ⟨by rfl, ?_⟩) (by assumption) ?_
      · intro W hSw
        try dsimp only at hSw
        go_simp
      try simp only [Act.put, List.getElem_toArray, List.getElem_cons_succ, List.getElem_cons_zero, List.setIfInBounds_toArray, List.set_cons_zero, List.set_cons_succ]
      refine wpAnyH_take (i := 6) (oi := _) (v := .pointer (some ⟨g, k, none⟩)) rfl (by kernel_rfl) (by kernel_rfl) (by kernel_rfl) (fun _ _ _ h => h) (Or.inl ⟨by rfl, ?_⟩) (by assumption) ?_
      · intro W hSw
        try dsimp only at hSw
        go_simp
      try simp only [Act.put, List.getElem_toArray, List.getElem_cons_succ, List.getElem_cons_zero, List.setIfInBounds_toArray, List.set_cons_zero, List.set_cons_succ]
      refine wpAnyH_ready (rs := [7]) (by kernel_rfl) (by simp) ?_
      refine AllReadyH.cons (o := _) rfl (fun K hK => ?_) AllReadyH.nil
      go_simp
      refine hK.out _ _ (y5) (fun hHeld => ?_)
      clear hK K
      try simp only [Act.put, List.getElem_toArray, List.getElem_cons_succ, List.getElem_cons_zero, List.setIfInBounds_toArray, List.set_cons_zero, List.set_cons_succ]
      refine wpAnyH_ready (rs := [8]) (by kernel_rfl) (by simp) ?_
      refine AllReadyH.cons (o := _) rfl (fun K hK => ?_) AllReadyH.nil
      go_simp
      refine hK.out _ _ (y5) (fun hHeld => ?_)
      clear hK K
      try simp only [Act.put, List.getElem_toArray, List.getElem_cons_succ, List.getElem_cons_zero, List.setIfInBounds_toArray, List.set_cons_zero, List.set_cons_succ]
      refine wpAnyH_ready (rs := [9]) (by kernel_rfl) (by simp) ?_
      refine AllReadyH.cons (o := _) rfl (fun K hK => ?_) AllReadyH.nil
      go_simp
      refine hK.out _ _ (y5) (fun hHeld => ?_)
      clear hK K
      try simp only [Act.put, List.getElem_toArray, List.getElem_cons_succ, List.getElem_cons_zero, List.setIfInBounds_toArray, List.set_cons_zero, List.set_cons_succ]
      refine wpAnyH_ready (rs := [10]) (by kernel_rfl) (by simp) ?_
      refine AllReadyH.cons (o := _) rfl (fun K hK => ?_) AllReadyH.nil
      go_simp
      refine hK.out _ _ (HX5.out _) (fun hHeld => ?_)
      clear hK K
      try simp only [Act.put, List.getElem_toArray, List.getElem_cons_succ, List.getElem_cons_zero, List.setIfInBounds_toArray, List.set_cons_zero, List.set_cons_succ]
      refine wpAnyH_done (by kernel_rfl) ?_ _
      go_wp2
      go_roundw
      case rel => exact ⟨k + 1, by have := HLT.out; omega, by go_num, HSETD.out _, (HMU.out.drew).trans (mut1.mono (fun k' _ e => by rw [e]; exact HG.out))⟩
      case measure => have := HLT.out; simp [intOf]; omega
    · have t1 : decide ((k : Int) < (A.data.length : Int)) = false := by simpa using hlt
      have t1' : decide (k < A.data.length) = false := by simpa using hlt
      have hwr : WrIs wr w11.heap.size v13 (cmdF A ++ cmdF B) :=
        ⟨cell_mut HW13.out.c hmut (fun e => by have e : w4.heap.size ≤ w11.heap.size ∧ w11.heap.size < w5.heap.size := e; have := HZ613.out; omega), (World.frozen?_of_block (w := w13) (a := ⟨w11.heap.size, 0, none⟩) (hmut.block _ HW13.out.lt (fun e => by have e : w4.heap.size ≤ w11.heap.size ∧ w11.heap.size < w5.heap.size := e; have := HZ613.out; omega))).trans HW13.out.f, HW13.out.own.mutT hmut (fun k' e => by have e : w4.heap.size ≤ k' ∧ k' < w5.heap.size := e; have := HZ613.out; omega)⟩
      have hb2r : Below W2.heap.size W2 wr := HB213.out.trans (hmut.below HB213.out.size (fun k e => by omega))
      have x5 := xr.c5
      have D := hid (wDone_any hwr (by rw [List.length_append]; omega))
      have HB2R := hid hb2r
      clear hwr hb2r hmut hoi xr hlt
      go_wp2_with fail
      (with_reducible refine D.out.mono ?_)
      rintro e w15 ⟨v15, rfl, hown15, hb15⟩
      obtain ⟨q15, k15, e15, hr15, -⟩ := hown15.row
      subst e15
      obtain ⟨NF, hNF⟩ : ∃ n, (cmdF A ++ cmdF B).length = n := ⟨_, rfl⟩
      rw [hNF]
      have hNFl : NF ≤ 600000 := by rw [← hNF, List.length_append]; omega
      have RD := hid (read_any (c := k15) (hid hNF) (by omega) (fun b hb => (List.mem_append.1 hb).elim (fun h => cmdF_byte HA11.out.db b h) (fun h => cmdF_byte HB11.out.db b h)) hr15)
      have HB215 := hid (HB2R.out.trans (hb15.mono HB2R.out.size))
      clear D hown15 hb15 hr15 hNF x5
      go_wp2_with fail
      (with_reducible refine RD.out.mono ?_)
      rintro e w16 ⟨s16, rfl, hs16, ⟨a16, c16, hR16⟩, hb16⟩
      have G1 := cmdGet_any (hid (rCmd_back HA11.out.wfC H5.out HA11.out.laid (cmdF B))) hR16
      have HB216 := hid (HB215.out.trans (hb16.mono HB215.out.size))
      have HS16 : Hid (W2.heap.size ≤ s16 ∧ s16 < w16.heap.size) := hid ⟨by have := HB215.out.size; omega, hR16.lt⟩
      simp only [hl] at G1
      have HG1 := hid G1
      clear RD G1 hR16 hb16 hs16
      go_wp2_with fail
      (with_reducible refine HG1.out.mono ?_)
      rintro e w17 ⟨yd, y1, y2, y3, yk, yk1, yk2, yk3, rfl, oyd, oy1, oy2, oy3, ⟨a17, c17, hR17⟩, hM17⟩
      have hrb : rCmd ⟨cmdF B, 0⟩ = (B, ⟨[], 0⟩) := by
        have := rCmd_back HB11.out.wfC H6.out HB11.out.laid []
        rw [List.append_nil] at this; exact this
      have G2 := cmdGet_any (hid hrb) hR17
      simp only [hl] at G2
      have HG2 := hid G2
      have HB217 := hid (HB216.out.trans (hM17.below HB216.out.size (fun k e => by rw [e]; exact HS16.out.1)))
      have HY17 := hid (And.intro oyd (And.intro oy1 (And.intro oy2 oy3)))
      have HZ17 := hid hM17.size
      clear HG1 G2 oyd oy1 oy2 oy3 hR17 hM17 hrb
      go_wp2_with fail
      (with_reducible refine HG2.out.mono ?_)
      rintro e w18 ⟨zd, z1, z2, z3, zk, zk1, zk2, zk3, rfl, ozd, oz1, oz2, oz3, ⟨a18, c18, hR18⟩, hM18⟩
      have HB218 := hid (HB217.out.trans (hM18.below HB217.out.size (fun k e => by rw [e]; exact HS16.out.1)))
      have HM18 := hid hM18
      have HR18 := hid hR18
      have HZ18 := hid (And.intro ozd (And.intro oz1 (And.intro oz2 oz3)))
      clear HG2 ozd oz1 oz2 oz3 hR18 hM18
      have hq19 : Below w18.heap.size w18 ((w18.alloc (.cells #[.int .i64 A.kind, .int .u16 A.fr.1, .int .u32 A.fr.2, .int .u64 A.num, .int .u64 A.vw, .slice yd A.data.length yk, .int .u64 A.v.id, .slice y1 A.v.ms.length yk1, .slice y2 A.v.ls.length yk2, .slice y3 A.v.ds.length yk3] 42)).alloc (.cells #[.int .i64 B.kind, .int .u16 B.fr.1, .int .u32 B.fr.2, .int .u64 B.num, .int .u64 B.vw, .slice zd B.data.length zk, .int .u64 B.v.id, .slice z1 B.v.ms.length zk1, .slice z2 B.v.ls.length zk2, .slice z3 B.v.ds.length zk3] 42)) := ((Below.refl _ _).alloc (Nat.le_refl _) _).alloc (by simp) _
      have yb : Box10 ((w18.alloc (.cells #[.int .i64 A.kind, .int .u16 A.fr.1, .int .u32 A.fr.2, .int .u64 A.num, .int .u64 A.vw, .slice yd A.data.length yk, .int .u64 A.v.id, .slice y1 A.v.ms.length yk1, .slice y2 A.v.ls.length yk2, .slice y3 A.v.ds.length yk3] 42)).alloc (.cells #[.int .i64 B.kind, .int .u16 B.fr.1, .int .u32 B.fr.2, .int .u64 B.num, .int .u64 B.vw, .slice zd B.data.length zk, .int .u64 B.v.id, .slice z1 B.v.ms.length zk1, .slice z2 B.v.ls.length zk2, .slice z3 B.v.ds.length zk3] 42)) w18.heap.size (.int .i64 A.kind) (.int .u16 A.fr.1) (.int .u32 A.fr.2) (.int .u64 A.num) (.int .u64 A.vw) (.slice yd A.data.length yk) (.int .u64 A.v.id) (.slice y1 A.v.ms.length yk1) (.slice y2 A.v.ls.length yk2) (.slice y3 A.v.ds.length yk3) := (Box10.made _ _ _ _ _ _ _ _ _ _ _ _ rfl).ext ((Below.refl _ _).alloc (Nat.le_refl _) _) (by simp)
      have zb : Box10 ((w18.alloc (.cells #[.int .i64 A.kind, .int .u16 A.fr.1, .int .u32 A.fr.2, .int .u64 A.num, .int .u64 A.vw, .slice yd A.data.length yk, .int .u64 A.v.id, .slice y1 A.v.ms.length yk1, .slice y2 A.v.ls.length yk2, .slice y3 A.v.ds.length yk3] 42)).alloc (.cells #[.int .i64 B.kind, .int .u16 B.fr.1, .int .u32 B.fr.2, .int .u64 B.num, .int .u64 B.vw, .slice zd B.data.length zk, .int .u64 B.v.id, .slice z1 B.v.ms.length zk1, .slice z2 B.v.ls.length zk2, .slice z3 B.v.ds.length zk3] 42)) (w18.heap.size + 1) (.int .i64 B.kind) (.int .u16 B.fr.1) (.int .u32 B.fr.2) (.int .u64 B.num) (.int .u64 B.vw) (.slice zd B.data.length zk) (.int .u64 B.v.id) (.slice z1 B.v.ms.length zk1) (.slice z2 B.v.ls.length zk2) (.slice z3 B.v.ds.length zk3) := Box10.made _ _ _ _ _ _ _ _ _ _ _ _ (by simp)
      have hb219 := HB218.out.trans (hq19.mono HB218.out.size)
      have kY : CmdR ((w18.alloc (.cells #[.int .i64 A.kind, .int .u16 A.fr.1, .int .u32 A.fr.2, .int .u64 A.num, .int .u64 A.vw, .slice yd A.data.length yk, .int .u64 A.v.id, .slice y1 A.v.ms.length yk1, .slice y2 A.v.ls.length yk2, .slice y3 A.v.ds.length yk3] 42)).alloc (.cells #[.int .i64 B.kind, .int .u16 B.fr.1, .int .u32 B.fr.2, .int .u64 B.num, .int .u64 B.vw, .slice zd B.data.length zk, .int .u64 B.v.id, .slice z1 B.v.ms.length zk1, .slice z2 B.v.ls.length zk2, .slice z3 B.v.ds.length zk3] 42)) yd y1 y2 y3 A := by
        have h18 : ∀ k', (fun k => k = s16) k' → k' < w16.heap.size := fun k' e => by rw [e]; exact HS16.out.2
        have o1 := (HY17.out.1.mutT HM18.out h18).ext hq19
        have o2 := (HY17.out.2.1.mutT HM18.out h18).ext hq19
        have o3 := (HY17.out.2.2.1.mutT HM18.out h18).ext hq19
        have o4 := (HY17.out.2.2.2.mutT HM18.out h18).ext hq19
        obtain ⟨x1, x2, e1, hr, -⟩ := o1.row
        cases e1
        exact ⟨hr, by omega, HA11.out.db, ViewR.own o2 o3 o4 HA11.out.v⟩
      have kZ : CmdR ((w18.alloc (.cells #[.int .i64 A.kind, .int .u16 A.fr.1, .int .u32 A.fr.2, .int .u64 A.num, .int .u64 A.vw, .slice yd A.data.length yk, .int .u64 A.v.id, .slice y1 A.v.ms.length yk1, .slice y2 A.v.ls.length yk2, .slice y3 A.v.ds.length yk3] 42)).alloc (.cells #[.int .i64 B.kind, .int .u16 B.fr.1, .int .u32 B.fr.2, .int .u64 B.num, .int .u64 B.vw, .slice zd B.data.length zk, .int .u64 B.v.id, .slice z1 B.v.ms.length zk1, .slice z2 B.v.ls.length zk2, .slice z3 B.v.ds.length zk3] 42)) zd z1 z2 z3 B := by
        have o1 := HZ18.out.1.ext hq19
        have o2 := HZ18.out.2.1.ext hq19
        have o3 := HZ18.out.2.2.1.ext hq19
        have o4 := HZ18.out.2.2.2.ext hq19
        obtain ⟨x1, x2, e1, hr, -⟩ := o1.row
        cases e1
        exact ⟨hr, by have := (greatC_no HGB.out).1; omega, HB11.out.db, ViewR.own o2 o3 o4 HB11.out.v⟩
      have SY := cmdSameR_is (dc := yk) (cm := yk1) (cl := yk2) (cd := yk3) (ec := dc) (em := cm) (el := cl) (ed := cd) (hid (sameC_self A)) kY ((HA2.out.ext hb219).r HGA.out)
      simp only [hl] at SY
      have HSY := hid SY
      have KZ := hid kZ
      have HZB := hid zb
      have HB219 := hid hb219
      have HR19 := hid (HR18.out.ext hq19)
      obtain ⟨c0, c1, c2, c3, c4, c5, c6, c7, c8, c9, -⟩ := yb
      obtain ⟨⟨a0, a1, a2, a3, a4, a5, a6, a7, a8, a9⟩, ⟨b0, b1, b2, b3, b4, b5, b6, b7, b8, b9⟩⟩ := FA.out _ hb219
      clear SY kY kZ zb hb219 hq19
      go_wp2_with fail
      (with_reducible refine HSY.out.mono ?_)
      rintro e w20 ⟨rfl, hb20⟩
      clear a0 a1 a2 a3 a4 a5 a6 a7 a8 a9 b0 b1 b2 b3 b4 b5 b6 b7 b8 b9
      clear c0 c1 c2 c3 c4 c5 c6 c7 c8 c9
      have hb220 := HB219.out.trans (hb20.mono HB219.out.size)
      have SZ := cmdSameR_is (dc := zk) (cm := zk1) (cl := zk2) (cd := zk3) (ec := ec) (em := em) (el := el) (ed := ed) (hid (sameC_self B)) (KZ.out.ext hb20) ((HB22.out.ext hb220).r HGB.out)
      simp only [hl] at SZ
      have HSZ := hid SZ
      have HR20 := hid (HR19.out.ext hb20)
      have HB220 := hid hb220
      obtain ⟨c0, c1, c2, c3, c4, c5, c6, c7, c8, c9, -⟩ := HZB.out.ext hb20 HZB.out.lt
      obtain ⟨⟨a0, a1, a2, a3, a4, a5, a6, a7, a8, a9⟩, ⟨b0, b1, b2, b3, b4, b5, b6, b7, b8, b9⟩⟩ := FA.out _ hb220
      clear SZ HSY hb20 hb220
      go_wp2_with fail
      (with_reducible refine HSZ.out.mono ?_)
      rintro e w21 ⟨rfl, hb21⟩
      clear a0 a1 a2 a3 a4 a5 a6 a7 a8 a9 b0 b1 b2 b3 b4 b5 b6 b7 b8 b9
      clear c0 c1 c2 c3 c4 c5 c6 c7 c8 c9
      have EN := rEnd_any (HR20.out.ext hb21)
      have hre : rEnd (⟨[], 0⟩ : RS) = 0 := by decide
      rw [hre] at EN
      have HEN := hid EN
      have AW2 := hid (AW.out _ (HB220.out.trans (hb21.mono HB220.out.size)))
      clear EN HSZ hb21
      go_wp2_with fail
      refine HEN.out.mono ?_
      rintro e w22 ⟨rfl, rfl⟩
      go_wp2_with fail
      (with_reducible refine AW2.out.mono ?_)
      rintro e w23 ⟨rfl, hb23⟩
      go_wp2
      go_ret
      exact ⟨rfl, HB2.out.trans (hb23.mono HB2.out.size)⟩
end Go.Proofs.Yteodaakdjnjhmaa

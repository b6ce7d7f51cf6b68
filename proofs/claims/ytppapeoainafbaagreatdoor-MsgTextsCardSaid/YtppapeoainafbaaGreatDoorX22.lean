/- Parts of the proof: X22. -/
import Derived.Test.YtppapeoainafbaaGreatDoorGMsgTexts2
namespace Go.Proofs.YtppapeoainafbaaGreatDoor
open Go.RowKit

/-! ### a command in its box; cmd.Same and the reference's -/
def cmdL (da am al ad : Option Addr) (dc cm cl cd : Nat) (c : CmdD) : Array Value :=
  #[.int .i64 c.kind, .int .u16 c.fr.1, .int .u32 c.fr.2, .int .u64 c.num, .int .u64 c.vw, .slice da c.data.length dc, .int .u64 c.v.id, .slice am c.v.ms.length cm, .slice al c.v.ls.length cl, .slice ad c.v.ds.length cd]
structure CmdR (w : World) (da am al ad : Option Addr) (c : CmdD) : Prop where
  dr : ByteRow w da c.data
  dl : c.data.length ≤ 70368744177664
  db : ∀ b ∈ c.data, b < 256
  v : ViewR w am al ad c.v
theorem CmdR.ext {w w' : World} {da am al ad : Option Addr} {c : CmdD} (h : CmdR w da am al ad c) (hb : Below w.heap.size w w') : CmdR w' da am al ad c :=
  ⟨h.dr.ext hb, h.dl, h.db, h.v.ext hb⟩
structure CmdBox (w : World) (b : Nat) (c : CmdD) (da am al ad : Option Addr) (dc cm cl cd : Nat) : Prop where
  c0 : w.cell? ⟨b, 0, none⟩ = some (.int .i64 c.kind)
  c1 : w.cell? ⟨b, 1, none⟩ = some (.int .u16 c.fr.1)
  c2 : w.cell? ⟨b, 2, none⟩ = some (.int .u32 c.fr.2)
  c3 : w.cell? ⟨b, 3, none⟩ = some (.int .u64 c.num)
  c4 : w.cell? ⟨b, 4, none⟩ = some (.int .u64 c.vw)
  c5 : w.cell? ⟨b, 5, none⟩ = some (.slice da c.data.length dc)
  c6 : w.cell? ⟨b, 6, none⟩ = some (.int .u64 c.v.id)
  c7 : w.cell? ⟨b, 7, none⟩ = some (.slice am c.v.ms.length cm)
  c8 : w.cell? ⟨b, 8, none⟩ = some (.slice al c.v.ls.length cl)
  c9 : w.cell? ⟨b, 9, none⟩ = some (.slice ad c.v.ds.length cd)
section
variable {w w' : World} {b : Nat} {c : CmdD} {da am al ad : Option Addr} {dc cm cl cd : Nat}
theorem CmdBox.lt (h : CmdBox w b c da am al ad dc cm cl cd) : b < w.heap.size := World.block_lt_of_cell? w _ h.c0
theorem CmdBox.ext (h : CmdBox w b c da am al ad dc cm cl cd) {B : Nat} (hb : Below B w w') (hB : b < B) : CmdBox w' b c da am al ad dc cm cl cd := by
  have g : ∀ k, w'.cell? ⟨b, k, none⟩ = w.cell? ⟨b, k, none⟩ := fun k => hb.cell (by exact hB)
  exact ⟨(g 0).trans h.c0, (g 1).trans h.c1, (g 2).trans h.c2, (g 3).trans h.c3, (g 4).trans h.c4, (g 5).trans h.c5, (g 6).trans h.c6, (g 7).trans h.c7, (g 8).trans h.c8, (g 9).trans h.c9⟩
theorem CmdBox.made (w : World) : CmdBox (w.alloc (.cells (cmdL da am al ad dc cm cl cd c) 35)) w.heap.size c da am al ad dc cm cl cd := by
  unfold cmdL
  exact ⟨by simp, by simp, by simp, by simp, by simp, by simp, by simp, by simp, by simp, by simp⟩
end
def sameC (a b : CmdD) : Bool := decide (a.kind = b.kind) && (decide (a.fr = b.fr) && (decide (a.num = b.num) && (decide (a.vw = b.vw) && (decide (a.data = b.data) && sameB a.v b.v))))
theorem bEqual_b {a b : Option Addr} {ca cb n m : Nat} {xs ys : List Nat} {w : World} {r : Bool} (h : Hid (decide (xs = ys) = r)) (hn : Hid (xs.length = n)) (hm : Hid (ys.length = m)) (hbx : ∀ b ∈ xs, b < 256) (hby : ∀ b ∈ ys, b < 256) (hx : ByteRow w a xs) (hy : ByteRow w b ys) :
   Calls Tryz.prog 111 #[.slice a n ca, .slice b m cb] w fun e w' => e = .returned (.bool r) ∧ Below w.heap.size w w' :=
  (bEqual_is h hn hm hbx hby hx hy).mono fun _ _ ⟨h1, h2⟩ => ⟨h1, h2 ▸ Below.refl _ _⟩
theorem viewSame_is {A B : View} {am al ad bm bl bd : Option Addr} {cm cl cd em el ed : Nat} {w : World} {r : Bool} (h : Hid (sameB A B = r)) (hA : ViewR w am al ad A) (hB : ViewR w bm bl bd B) :
   Calls Tryz.prog 110 #[.agg #[.int .u64 A.id, .slice am A.ms.length cm, .slice al A.ls.length cl, .slice ad A.ds.length cd], .agg #[.int .u64 B.id, .slice bm B.ms.length em, .slice bl B.ls.length el, .slice bd B.ds.length ed]] w fun e w' => e = .returned (.bool r) ∧ Below w.heap.size w w' := by
  have := viewSame_any A B am al ad bm bl bd cm cl cd em el ed w hA hB
  rw [h.out] at this; exact this
theorem refSame_is {A B : View} {am al ad bm bl bd : Option Addr} {cm cl cd em el ed : Nat} {w : World} {r : Bool} (h : Hid (sameB A B = r)) (hA : ViewR w am al ad A) (hB : ViewR w bm bl bd B) :
   Calls Tryz.prog 16 #[.agg #[.int .u64 A.id, .slice am A.ms.length cm, .slice al A.ls.length cl, .slice ad A.ds.length cd], .agg #[.int .u64 B.id, .slice bm B.ms.length em, .slice bl B.ls.length el, .slice bd B.ds.length ed]] w fun e w' => e = .returned (.bool r) ∧ Below w.heap.size w w' := by
  have := refSame_any A B am al ad bm bl bd cm cl cd em el ed w hA hB
  rw [h.out] at this; exact this

set_option maxRecDepth 100000 in
set_option maxHeartbeats 6400000 in
theorem cmdSame_any {A B : CmdD} {da am al ad db bm bl bd : Option Addr} {dc cm cl cd ec em el ed : Nat} {w : World} (hA : CmdR w da am al ad A) (hB : CmdR w db bm bl bd B) :
   Calls Tryz.prog 109 #[.agg (cmdL da am al ad dc cm cl cd A), .agg (cmdL db bm bl bd ec em el ed B)] w fun e w' => e = .returned (.bool (sameC A B)) ∧ Below w.heap.size w w' := by
  have hB2 : Below w.heap.size w ((w.alloc (.cells (cmdL da am al ad dc cm cl cd A) 35)).alloc (.cells (cmdL db bm bl bd ec em el ed B) 35)) := ((Below.refl _ _).alloc (Nat.le_refl _) _).alloc (by simp) _
  have hA2 := hA.ext hB2
  have hBb := hB.ext hB2
  have xA : CmdBox ((w.alloc (.cells (cmdL da am al ad dc cm cl cd A) 35)).alloc (.cells (cmdL db bm bl bd ec em el ed B) 35)) w.heap.size A da am al ad dc cm cl cd := (CmdBox.made (c := A) w).ext ((Below.refl _ _).alloc (Nat.le_refl _) _) (by simp)
  have xB : CmdBox ((w.alloc (.cells (cmdL da am al ad dc cm cl cd A) 35)).alloc (.cells (cmdL db bm bl bd ec em el ed B) 35)) (w.heap.size + 1) B db bm bl bd ec em el ed := by
    have := CmdBox.made (c := B) (da := db) (am := bm) (al := bl) (ad := bd) (dc := ec) (cm := em) (cl := el) (cd := ed) (w.alloc (.cells (cmdL da am al ad dc cm cl cd A) 35))
    simpa using this
  have hAdl := hA.dl
  have hBdl := hB.dl
  obtain ⟨a0, a1, a2, a3, a4, a5, a6, a7, a8, a9⟩ := id xA
  obtain ⟨b0, b1, b2, b3, b4, b5, b6, b7, b8, b9⟩ := id xB
  have hdr := hA2.dr
  have hdrb := hBb.dr
  have hdb := hA2.db
  have hdbb := hBb.db
  have hvA := hA2.v
  have hvB := hBb.v
  have he := fun w => eql_pid A.fr.1 A.fr.2 B.fr.1 B.fr.2 w
  have hl : ∀ (x : CmdD) (da am al ad : Option Addr) (dc cm cl cd : Nat), cmdL da am al ad dc cm cl cd x = #[.int .i64 x.kind, .int .u16 x.fr.1, .int .u32 x.fr.2, .int .u64 x.num, .int .u64 x.vw, .slice da x.data.length dc, .int .u64 x.v.id, .slice am x.v.ms.length cm, .slice al x.v.ls.length cl, .slice ad x.v.ds.length cd] := fun _ _ _ _ _ _ _ _ _ => rfl
  simp only [hl] at *
  clear hA hB hA2 hBb hl
  have HNA : Hid (A.data.length = A.data.length) := hid rfl
  have HNB : Hid (B.data.length = B.data.length) := hid rfl
  by_cases h1 : A.kind = B.kind
  · have h1' : (A.kind == B.kind) = true := by simpa using h1
    have H1 := hid h1
    clear h1
    by_cases h2 : A.fr = B.fr
    · rw [show decide ((A.fr.1, A.fr.2) = (B.fr.1, B.fr.2)) = true from decide_eq_true (p := (A.fr.1, A.fr.2) = (B.fr.1, B.fr.2)) h2] at he
      have H2 := hid h2
      clear h2
      by_cases h3 : A.num = B.num
      · have h3' : ((A.num : Int) == (B.num : Int)) = true := by rw [beq_iff_eq]; omega
        have H3 := hid h3
        clear h3
        by_cases h4 : A.vw = B.vw
        · have h4' : ((A.vw : Int) == (B.vw : Int)) = true := by rw [beq_iff_eq]; omega
          have H4 := hid h4
          clear h4
          cases h5 : decide (A.data = B.data)
          · have H5 := hid h5
            clear h5
            go_enter Tryz.func109, Tryz.ntmps109
            go_wp2_with (first
              | (go_at_call 111; refine (bEqual_b H5 HNA HNB hdb hdbb hdr hdrb).mono ?_; rintro e w3 ⟨rfl, hb3⟩))
            go_ret
            exact ⟨ret_bool (by unfold sameC; simp only [H1.out, H2.out, H3.out, H4.out, decide_true, Bool.true_and]; rw [H5.out]; rfl), hB2.trans (hb3.mono hB2.size)⟩
          · have H5 := hid h5
            clear h5
            obtain ⟨r, hr⟩ : ∃ r, sameB A.v B.v = r := ⟨_, rfl⟩
            have HR := hid hr
            clear hr
            go_enter Tryz.func109, Tryz.ntmps109
            go_wp2_with (first
              | (go_at_call 111; refine (bEqual_b H5 HNA HNB hdb hdbb hdr hdrb).mono ?_; rintro e w3 ⟨rfl, hb3⟩; obtain ⟨p0, p1, p2, p3, p4, p5, p6, p7, p8, p9⟩ := xA.ext hb3 xA.lt; obtain ⟨q0, q1, q2, q3, q4, q5, q6, q7, q8, q9⟩ := xB.ext hb3 xB.lt)
              | (go_at_call 110; refine (viewSame_is HR (hvA.ext hb3) (hvB.ext hb3)).mono ?_; rintro e w4 ⟨rfl, hb4⟩))
            go_ret
            exact ⟨ret_bool (by unfold sameC; simp only [H1.out, H2.out, H3.out, H4.out, decide_true, Bool.true_and]; rw [H5.out, HR.out]; rfl), (hB2.trans (hb3.mono hB2.size)).trans (hb4.mono (by have := hB2.size; have := hb3.size; omega))⟩
        · have h4' : ((A.vw : Int) == (B.vw : Int)) = false := by rw [beq_eq_false_iff_ne]; omega
          have H4 : Hid (¬ (A.vw = B.vw)) := h4
          clear h4
          go_enter Tryz.func109, Tryz.ntmps109
          go_wp2
          go_ret
          exact ⟨ret_bool (by unfold sameC; (try simp only [decide_true, Bool.true_and, H1.out, H2.out, H3.out]); rw [decide_eq_false H4.out]; rfl), hB2⟩
      · have h3' : ((A.num : Int) == (B.num : Int)) = false := by rw [beq_eq_false_iff_ne]; omega
        have H3 : Hid (¬ (A.num = B.num)) := h3
        clear h3
        go_enter Tryz.func109, Tryz.ntmps109
        go_wp2
        go_ret
        exact ⟨ret_bool (by unfold sameC; (try simp only [decide_true, Bool.true_and, H1.out, H2.out]); rw [decide_eq_false H3.out]; rfl), hB2⟩
    · rw [show decide ((A.fr.1, A.fr.2) = (B.fr.1, B.fr.2)) = false from decide_eq_false (p := (A.fr.1, A.fr.2) = (B.fr.1, B.fr.2)) h2] at he
      have H2 : Hid (¬ (A.fr = B.fr)) := h2
      clear h2
      go_enter Tryz.func109, Tryz.ntmps109
      go_wp2
      go_ret
      exact ⟨ret_bool (by unfold sameC; (try simp only [decide_true, Bool.true_and, H1.out]); rw [decide_eq_false H2.out]; rfl), hB2⟩
  · have h1' : (A.kind == B.kind) = false := by simpa using h1
    have H1 : Hid (¬ (A.kind = B.kind)) := h1
    clear h1
    go_enter Tryz.func109, Tryz.ntmps109
    go_wp2
    go_ret
    exact ⟨ret_bool (by unfold sameC; (try simp only [decide_true, Bool.true_and]); rw [decide_eq_false H1.out]; rfl), hB2⟩

set_option maxRecDepth 100000 in
set_option maxHeartbeats 6400000 in
theorem cmdSameR_any {A B : CmdD} {da am al ad db bm bl bd : Option Addr} {dc cm cl cd ec em el ed : Nat} {w : World} (hA : CmdR w da am al ad A) (hB : CmdR w db bm bl bd B) :
   Calls Tryz.prog 42 #[.agg (cmdL da am al ad dc cm cl cd A), .agg (cmdL db bm bl bd ec em el ed B)] w fun e w' => e = .returned (.bool (sameC A B)) ∧ Below w.heap.size w w' := by
  have hB2 : Below w.heap.size w ((w.alloc (.cells (cmdL da am al ad dc cm cl cd A) 35)).alloc (.cells (cmdL db bm bl bd ec em el ed B) 35)) := ((Below.refl _ _).alloc (Nat.le_refl _) _).alloc (by simp) _
  have hA2 := hA.ext hB2
  have hBb := hB.ext hB2
  have xA : CmdBox ((w.alloc (.cells (cmdL da am al ad dc cm cl cd A) 35)).alloc (.cells (cmdL db bm bl bd ec em el ed B) 35)) w.heap.size A da am al ad dc cm cl cd := (CmdBox.made (c := A) w).ext ((Below.refl _ _).alloc (Nat.le_refl _) _) (by simp)
  have xB : CmdBox ((w.alloc (.cells (cmdL da am al ad dc cm cl cd A) 35)).alloc (.cells (cmdL db bm bl bd ec em el ed B) 35)) (w.heap.size + 1) B db bm bl bd ec em el ed := by
    have := CmdBox.made (c := B) (da := db) (am := bm) (al := bl) (ad := bd) (dc := ec) (cm := em) (cl := el) (cd := ed) (w.alloc (.cells (cmdL da am al ad dc cm cl cd A) 35))
    simpa using this
  have hAdl := hA.dl
  have hBdl := hB.dl
  obtain ⟨a0, a1, a2, a3, a4, a5, a6, a7, a8, a9⟩ := id xA
  obtain ⟨b0, b1, b2, b3, b4, b5, b6, b7, b8, b9⟩ := id xB
  have hdr := hA2.dr
  have hdrb := hBb.dr
  have hdb := hA2.db
  have hdbb := hBb.db
  have hvA := hA2.v
  have hvB := hBb.v
  have he := fun w => eql_pid A.fr.1 A.fr.2 B.fr.1 B.fr.2 w
  have hl : ∀ (x : CmdD) (da am al ad : Option Addr) (dc cm cl cd : Nat), cmdL da am al ad dc cm cl cd x = #[.int .i64 x.kind, .int .u16 x.fr.1, .int .u32 x.fr.2, .int .u64 x.num, .int .u64 x.vw, .slice da x.data.length dc, .int .u64 x.v.id, .slice am x.v.ms.length cm, .slice al x.v.ls.length cl, .slice ad x.v.ds.length cd] := fun _ _ _ _ _ _ _ _ _ => rfl
  simp only [hl] at *
  clear hA hB hA2 hBb hl
  have HNA : Hid (A.data.length = A.data.length) := hid rfl
  have HNB : Hid (B.data.length = B.data.length) := hid rfl
  by_cases h1 : A.kind = B.kind
  · have h1' : (A.kind == B.kind) = true := by simpa using h1
    have H1 := hid h1
    clear h1
    by_cases h2 : A.fr = B.fr
    · rw [show decide ((A.fr.1, A.fr.2) = (B.fr.1, B.fr.2)) = true from decide_eq_true (p := (A.fr.1, A.fr.2) = (B.fr.1, B.fr.2)) h2] at he
      have H2 := hid h2
      clear h2
      by_cases h3 : A.num = B.num
      · have h3' : ((A.num : Int) == (B.num : Int)) = true := by rw [beq_iff_eq]; omega
        have H3 := hid h3
        clear h3
        by_cases h4 : A.vw = B.vw
        · have h4' : ((A.vw : Int) == (B.vw : Int)) = true := by rw [beq_iff_eq]; omega
          have H4 := hid h4
          clear h4
          cases h5 : decide (A.data = B.data)
          · have H5 := hid h5
            clear h5
            go_enter Tryz.func42, Tryz.ntmps42
            go_wp2_with (first
              | (go_at_call 22; refine (sameB_is H5 HNA HNB hAdl hBdl hdr hdrb).mono ?_; rintro e w3 ⟨rfl, hb3⟩))
            go_ret
            exact ⟨ret_bool (by unfold sameC; simp only [H1.out, H2.out, H3.out, H4.out, decide_true, Bool.true_and]; rw [H5.out]; rfl), hB2.trans (hb3.mono hB2.size)⟩
          · have H5 := hid h5
            clear h5
            obtain ⟨r, hr⟩ : ∃ r, sameB A.v B.v = r := ⟨_, rfl⟩
            have HR := hid hr
            clear hr
            go_enter Tryz.func42, Tryz.ntmps42
            go_wp2_with (first
              | (go_at_call 22; refine (sameB_is H5 HNA HNB hAdl hBdl hdr hdrb).mono ?_; rintro e w3 ⟨rfl, hb3⟩; obtain ⟨p0, p1, p2, p3, p4, p5, p6, p7, p8, p9⟩ := xA.ext hb3 xA.lt; obtain ⟨q0, q1, q2, q3, q4, q5, q6, q7, q8, q9⟩ := xB.ext hb3 xB.lt)
              | (go_at_call 16; refine (refSame_is HR (hvA.ext hb3) (hvB.ext hb3)).mono ?_; rintro e w4 ⟨rfl, hb4⟩))
            go_ret
            exact ⟨ret_bool (by unfold sameC; simp only [H1.out, H2.out, H3.out, H4.out, decide_true, Bool.true_and]; rw [H5.out, HR.out]; rfl), (hB2.trans (hb3.mono hB2.size)).trans (hb4.mono (by have := hB2.size; have := hb3.size; omega))⟩
        · have h4' : ((A.vw : Int) == (B.vw : Int)) = false := by rw [beq_eq_false_iff_ne]; omega
          have H4 : Hid (¬ (A.vw = B.vw)) := h4
          clear h4
          go_enter Tryz.func42, Tryz.ntmps42
          go_wp2
          go_ret
          exact ⟨ret_bool (by unfold sameC; (try simp only [decide_true, Bool.true_and, H1.out, H2.out, H3.out]); rw [decide_eq_false H4.out]; rfl), hB2⟩
      · have h3' : ((A.num : Int) == (B.num : Int)) = false := by rw [beq_eq_false_iff_ne]; omega
        have H3 : Hid (¬ (A.num = B.num)) := h3
        clear h3
        go_enter Tryz.func42, Tryz.ntmps42
        go_wp2
        go_ret
        exact ⟨ret_bool (by unfold sameC; (try simp only [decide_true, Bool.true_and, H1.out, H2.out]); rw [decide_eq_false H3.out]; rfl), hB2⟩
    · rw [show decide ((A.fr.1, A.fr.2) = (B.fr.1, B.fr.2)) = false from decide_eq_false (p := (A.fr.1, A.fr.2) = (B.fr.1, B.fr.2)) h2] at he
      have H2 : Hid (¬ (A.fr = B.fr)) := h2
      clear h2
      go_enter Tryz.func42, Tryz.ntmps42
      go_wp2
      go_ret
      exact ⟨ret_bool (by unfold sameC; (try simp only [decide_true, Bool.true_and, H1.out]); rw [decide_eq_false H2.out]; rfl), hB2⟩
  · have h1' : (A.kind == B.kind) = false := by simpa using h1
    have H1 : Hid (¬ (A.kind = B.kind)) := h1
    clear h1
    go_enter Tryz.func42, Tryz.ntmps42
    go_wp2
    go_ret
    exact ⟨ret_bool (by unfold sameC; (try simp only [decide_true, Bool.true_and]); rw [decide_eq_false H1.out]; rfl), hB2⟩
end Go.Proofs.YtppapeoainafbaaGreatDoor


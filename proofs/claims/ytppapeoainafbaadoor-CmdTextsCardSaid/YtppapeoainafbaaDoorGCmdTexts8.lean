/- Parts of the proof: Z12 X9 X10 X11 X12 X13 X14 X16 X25 X26 X27 XL X28 X29 X30. -/
import Derived.Defers
import Derived.Test.YtppapeoainafbaaDoorX24
namespace Go.Proofs.YtppapeoainafbaaDoor
open Go.RowKit
/-! ### cmd.Text -/
theorem words_len {V : View} : ∀ {l : List Pid}, WfPids l → (∀ p ∈ l, ∃ k : Nat, k < 100 ∧ leafIx V.ls p = (k : Int)) → (wordsP V l).length ≤ 100 * l.length
  | [], _, _ => by simp [wordsP]
  | p :: l, hl, hk => by
    obtain ⟨g1, g2, g3, g4⟩ := hl p (List.mem_cons_self ..)
    obtain ⟨k, h1, h2⟩ := hk p (List.mem_cons_self ..)
    obtain ⟨x, y⟩ := p
    simp only at g1 g2 g3 g4
    obtain ⟨x, rfl⟩ := Int.eq_ofNat_of_zero_le g1
    obtain ⟨y, rfl⟩ := Int.eq_ofNat_of_zero_le g3
    have := wordP_len (V := V) (x := x) (y := y) (by omega) (by omega) h1 h2
    have ih := words_len (V := V) (l := l) (fun q hq => hl q (List.mem_cons_of_mem _ hq)) (fun q hq => hk q (List.mem_cons_of_mem _ hq))
    unfold wordsP
    rw [List.length_append, List.length_cons]
    omega
theorem viewP_len {V : View} (h : checkB V = true) (hw : WfPids V.ms) : (viewP V).length ≤ 3000 := by
  obtain ⟨h1, h2, h3⟩ := check_leaf h
  have l1 := words_len hw h3
  have l2 := dec_len V.id.toNat 19 (by omega)
  unfold viewP
  rw [List.length_append]
  omega
set_option maxRecDepth 100000 in
set_option maxHeartbeats 6400000 in
theorem cmdText_any {A : CmdD} {da am al ad : Option Addr} {dc cm cl cd : Nat} {w : World} (hA : CmdR w da am al ad A) (hsum : lens A.v.ls ≤ 549755813888) (hwf : WfPids A.v.ms) (hfr : okP A.fr) (hdl : A.data.length ≤ 400) (ht : TabOk w) :
    Calls Tryd.prog 12 #[.agg (cmdL da am al ad dc cm cl cd A)] w fun e w' => e = .returned (.string ⟨(textP A).toArray⟩) ∧ Below w.heap.size w w' := by
  obtain ⟨W1, hW1⟩ : ∃ W1, w.alloc (.cells (cmdL da am al ad dc cm cl cd A) 41) = W1 := ⟨_, rfl⟩
  have hb1 : Below w.heap.size w W1 := by rw [← hW1]; exact (Below.refl _ _).alloc (Nat.le_refl _) _
  have xA : CmdBox W1 w.heap.size A da am al ad dc cm cl cd := by rw [← hW1]; exact CmdBox.made (c := A) w
  have hA1 := hA.ext hb1
  have C1 := hid (cmdCheck_any (dc := dc) (cm := cm) (cl := cl) (cd := cd) hA1 hsum hwf hfr)
  have hl : ∀ (x : CmdD) (da am al ad : Option Addr) (dc cm cl cd : Nat), cmdL da am al ad dc cm cl cd x = #[.int .i64 x.kind, .int .u16 x.fr.1, .int .u32 x.fr.2, .int .u64 x.num, .int .u64 x.vw, .slice da x.data.length dc, .int .u64 x.v.id, .slice am x.v.ms.length cm, .slice al x.v.ls.length cl, .slice ad x.v.ds.length cd] := fun _ _ _ _ _ _ _ _ _ => rfl
  simp only [hl] at C1 hW1 ⊢
  obtain ⟨a0, a1, a2, a3, a4, a5, a6, a7, a8, a9⟩ := id xA
  have HB1 := hid hb1
  have HA1 := hid hA1
  have HT1 := hid (ht.ext hb1)
  have HX := hid xA
  obtain ⟨ck, hck⟩ : ∃ ck, cmdChk A = ck := ⟨_, rfl⟩
  rw [hck] at C1
  clear hb1 hA hA1 ht xA hl
  by_cases h0 : ck = 0
  · subst h0
    have HCK := hid hck
    clear hck
    rcases chk_kind HCK.out with hk | hk | hk
    · have HR := hid (text_1 HCK.out hk)
      have k2 : (A.kind == 2) = false := by rw [hk]; rfl
      have k3 : (A.kind == 3) = false := by rw [hk]; rfl
      clear hk
      go_enter Tryd.func12, Tryd.ntmps12
      go_wp2_with fail
      (refine C1.out.mono ?_)
      rintro e w2 ⟨rfl, hb2⟩
      have HB2 := hid (HB1.out.trans (hb2.mono HB1.out.size))
      obtain ⟨a0, -, -, -, -, -, -, -, -, -⟩ := HX.out.ext hb2 HX.out.lt
      clear hb2 C1 hW1
      go_wp2_with fail
      go_ret
      exact ⟨by rw [HR.out]; rfl, HB2.out⟩
    · have HR := hid (text_2 HCK.out hk)
      have k2 : (A.kind == 2) = true := by rw [hk]; rfl
      have hcnt : A.num ≤ 4611686018427387904 ∧ A.vw ≤ 4611686018427387904 := by
        have h := HCK.out
        unfold cmdChk at h
        rw [if_neg (by omega), if_pos hk] at h
        split at h
        · next hc =>
          have h1 := hc.2.1
          have h2 := hc.2.2.1
          unfold cntB at h1 h2
          simp at h1 h2
          omega
        · cases h
      obtain ⟨fx1, fx2, fy1, fy2⟩ := hfr
      have ex : ((A.fr.1.toNat : Nat) : Int) = A.fr.1 := Int.toNat_of_nonneg fx1
      have ey : ((A.fr.2.toNat : Nat) : Int) = A.fr.2 := Int.toNat_of_nonneg fy1
      have hpl : (printP A.fr).length ≤ 50 := by
        obtain ⟨l0, l1⟩ := printP_len (x := A.fr.1.toNat) (y := A.fr.2.toNat) (by omega) (by omega)
        unfold printP; simp only [List.length_append, List.length_cons]; omega
      have hn1 := dec_len A.num 19 (by omega)
      have hn2 := dec_len A.vw 19 (by omega)
      have hhx : (hexP A.data).length ≤ 800 := by rw [hexP_len]; omega
      have hsd : sendP A = [115, 101, 110, 100, 32] ++ printP A.fr ++ [32] ++ Lib.decDigits A.num ++ [32] ++ Lib.decDigits A.vw ++ [32, 120] ++ hexP A.data := rfl
      obtain ⟨PP, hPP⟩ : ∃ PP, printP A.fr = PP := ⟨_, rfl⟩
      obtain ⟨N1, hN1⟩ : ∃ N1, Lib.decDigits A.num = N1 := ⟨_, rfl⟩
      obtain ⟨N2, hN2⟩ : ∃ N2, Lib.decDigits A.vw = N2 := ⟨_, rfl⟩
      obtain ⟨HH, hHH⟩ : ∃ HH, hexP A.data = HH := ⟨_, rfl⟩
      rw [hPP, hN1, hN2, hHH] at hsd
      rw [hPP] at hpl
      rw [hN1] at hn1
      rw [hN2] at hn2
      rw [hHH] at hhx
      have b1 := run_cat [115, 101, 110, 100, 32] PP (by simp) (by omega)
      have b2 := run_cat ([115, 101, 110, 100, 32] ++ PP) [32] (by simp; omega) (by simp)
      have b3 := run_cat ([115, 101, 110, 100, 32] ++ PP ++ [32]) N1 (by simp; omega) (by omega)
      have b4 := run_cat ([115, 101, 110, 100, 32] ++ PP ++ [32] ++ N1) [32] (by simp; omega) (by simp)
      have b5 := run_cat ([115, 101, 110, 100, 32] ++ PP ++ [32] ++ N1 ++ [32]) N2 (by simp; omega) (by omega)
      have b6 := run_cat ([115, 101, 110, 100, 32] ++ PP ++ [32] ++ N1 ++ [32] ++ N2) [32, 120] (by simp; omega) (by simp)
      have b7 := run_cat ([115, 101, 110, 100, 32] ++ PP ++ [32] ++ N1 ++ [32] ++ N2 ++ [32, 120]) HH (by simp; omega) (by omega)
      obtain ⟨T1, hT1⟩ : ∃ T1, [115, 101, 110, 100, 32] ++ PP = T1 := ⟨_, rfl⟩
      rw [hT1] at b1 b2 b3 b4 b5 b6 b7 hsd
      obtain ⟨T2, hT2⟩ : ∃ T2, T1 ++ [32] = T2 := ⟨_, rfl⟩
      rw [hT2] at b2 b3 b4 b5 b6 b7 hsd
      obtain ⟨T3, hT3⟩ : ∃ T3, T2 ++ N1 = T3 := ⟨_, rfl⟩
      rw [hT3] at b3 b4 b5 b6 b7 hsd
      obtain ⟨T4, hT4⟩ : ∃ T4, T3 ++ [32] = T4 := ⟨_, rfl⟩
      rw [hT4] at b4 b5 b6 b7 hsd
      obtain ⟨T5, hT5⟩ : ∃ T5, T4 ++ N2 = T5 := ⟨_, rfl⟩
      rw [hT5] at b5 b6 b7 hsd
      obtain ⟨T6, hT6⟩ : ∃ T6, T5 ++ [32, 120] = T6 := ⟨_, rfl⟩
      rw [hT6] at b6 b7 hsd
      obtain ⟨T7, hT7⟩ : ∃ T7, T6 ++ HH = T7 := ⟨_, rfl⟩
      rw [hT7] at b7 hsd
      rw [hsd] at HR
      have CP : ∀ W2, Below W1.heap.size W1 W2 → ∀ U : ExtW W2, Calls Tryd.prog 6 #[.agg #[.int .u16 A.fr.1, .int .u32 A.fr.2]] U.W fun e w' => e = .returned (.string ⟨PP.toArray⟩) ∧ ∃ U' : ExtW W2, w' = U'.W := fun W2 h U => by
        have := print_any (x := A.fr.1.toNat) (y := A.fr.2.toNat) (by omega) (by omega) U.W ((HT1.out.ext h).ext U.h)
        rw [ex, ey, show (A.fr.1, A.fr.2) = A.fr from rfl, hPP] at this
        exact quiet_of this rfl
      have CF : ∀ W2, Below W1.heap.size W1 W2 → ∀ U : ExtW W2, Calls Tryd.prog 17 #[.int .u64 A.num, .int .i64 10] U.W fun e w' => e = .returned (.string ⟨N1.toArray⟩) ∧ ∃ U' : ExtW W2, w' = U'.W := fun W2 h U => quiet_of (fmt_any A.num (by omega) U.W ((HT1.out.ext h).ext U.h)) (by rw [hN1])
      have CG : ∀ W2, Below W1.heap.size W1 W2 → ∀ U : ExtW W2, Calls Tryd.prog 17 #[.int .u64 A.vw, .int .i64 10] U.W fun e w' => e = .returned (.string ⟨N2.toArray⟩) ∧ ∃ U' : ExtW W2, w' = U'.W := fun W2 h U => quiet_of (fmt_any A.vw (by omega) U.W ((HT1.out.ext h).ext U.h)) (by rw [hN2])
      have CH : ∀ W2, Below W1.heap.size W1 W2 → ∀ U : ExtW W2, Calls Tryd.prog 27 #[.slice da A.data.length dc] U.W fun e w' => e = .returned (.string ⟨HH.toArray⟩) ∧ ∃ U' : ExtW W2, w' = U'.W := fun W2 h U => quiet_of (hex_any (hid rfl) (by omega) HA1.out.db ((HA1.out.dr.ext h).ext U.h)) (by rw [hHH])
      have HP := hid CP
      have HF := hid CF
      have HG := hid CG
      have HH' := hid CH
      clear hk hcnt hsd hpl hn1 hn2 hhx CP CF CG CH hT1 hT2 hT3 hT4 hT5 hT6 hT7 hPP hN1 hN2 hHH ex ey fx1 fx2 fy1 fy2
      go_enter Tryd.func12, Tryd.ntmps12
      go_wp2_with fail
      (refine C1.out.mono ?_)
      rintro e w2 ⟨rfl, hb2⟩
      have HB2 := hid (HB1.out.trans (hb2.mono HB1.out.size))
      have P2 := hid (HP.out w2 hb2)
      have F2 := hid (HF.out w2 hb2)
      have G2 := hid (HG.out w2 hb2)
      have H2 := hid (HH'.out w2 hb2)
      obtain ⟨a0, a1, a2, a3, a4, a5, -, -, -, -⟩ := HX.out.ext hb2 HX.out.lt
      have f1 := cell_extY a1
      have f2 := cell_extY a2
      have f3 := cell_extY a3
      have f4 := cell_extY a4
      have f5 := cell_extY a5
      clear hb2 C1 hW1 HP HF HG HH' a1 a2 a3 a4 a5
      go_wp2_with fail
      refine wp_region_ext (w := w2) (Below.refl _ _) (by kernel_rfl) (by kernel_rfl) ?_
      repeat (go_big_quiet_step (first | with_reducible exact P2.out _ | with_reducible exact F2.out _ | with_reducible exact G2.out _ | with_reducible exact H2.out _))
      refine wpQuiet_nil ?_
      rintro w9 ⟨⟨_, hb9⟩, rfl⟩
      have HB9 := hid (HB2.out.trans (hb9.mono HB2.out.size))
      clear hb9 f1 f2 f3 f4 f5 b1 b2 b3 b4 b5 b6 b7 P2 F2 G2 H2
      go_wp2_with fail
      go_ret
      exact ⟨by rw [HR.out]; rfl, HB9.out⟩
    · have HR := hid (text_3 HCK.out hk)
      have k2 : (A.kind == 2) = false := by rw [hk]; rfl
      have k3 : (A.kind == 3) = true := by rw [hk]; rfl
      have hcb : checkB A.v = true := by rw [check_eq _ hwf]; exact (chk_3 HCK.out hk).2.2.2.2
      obtain ⟨hid0, -⟩ := check_parts hcb
      have hii : A.v.id = ((A.v.id.toNat : Nat) : Int) := (Int.toNat_of_nonneg hid0).symm
      have hvl : (viewP A.v).length ≤ 8000000 := by have := viewP_len hcb hwf; omega
      have ad1 := run_cat [118, 105, 101, 119, 32] (viewP A.v) (by simp) hvl
      obtain ⟨T, hT⟩ : ∃ T, [118, 105, 101, 119, 32] ++ viewP A.v = T := ⟨_, rfl⟩
      rw [hT] at ad1 HR
      obtain ⟨VP, hVP⟩ : ∃ VP, viewP A.v = VP := ⟨_, rfl⟩
      rw [hVP] at ad1
      have CV : Hid (∀ W, Below W1.heap.size W1 W → Calls Tryd.prog 28 #[.agg #[.int .u64 A.v.id, .slice am A.v.ms.length cm, .slice al A.v.ls.length cl, .slice ad A.v.ds.length cd]] W fun e w' => e = .returned (.tuple #[.string ⟨VP.toArray⟩, .int .i64 0]) ∧ Below W.heap.size W w') := hid fun W h => by
        have := viewPrint_any (cm := cm) (cl := cl) (cd := cd) hii (HA1.out.ext h).v hwf hsum (hid hcb) (HT1.out.ext h)
        rw [← hii, hVP] at this
        exact this
      clear hk hcb hid0 hii hvl hT hVP
      go_enter Tryd.func12, Tryd.ntmps12
      go_wp2_with fail
      (refine C1.out.mono ?_)
      rintro e w2 ⟨rfl, hb2⟩
      have HB2 := hid (HB1.out.trans (hb2.mono HB1.out.size))
      have CV2 := hid (CV.out w2 hb2)
      obtain ⟨a0, -, -, -, -, -, a6, a7, a8, a9⟩ := HX.out.ext hb2 HX.out.lt
      clear hb2 C1 hW1 CV
      go_wp2_with fail
      (refine CV2.out.mono ?_)
      rintro e w3 ⟨rfl, hb3⟩
      have HB3 := hid (HB2.out.trans (hb3.mono HB2.out.size))
      clear hb3 CV2 a0 a6 a7 a8 a9
      go_wp2_with fail
      go_ret
      exact ⟨by rw [HR.out]; rfl, HB3.out⟩
  · have HR : Hid (textP A = [63]) := hid (text_no (by rw [hck]; exact h0))
    have i1 : ¬ (ck : Int) = 0 := by omega
    clear hck h0
    go_enter Tryd.func12, Tryd.ntmps12
    go_wp2_with fail
    (refine C1.out.mono ?_)
    rintro e w2 ⟨rfl, hb2⟩
    have HB2 := hid (HB1.out.trans (hb2.mono HB1.out.size))
    clear hb2 C1 hW1 a0 a1 a2 a3 a4 a5 a6 a7 a8 a9
    go_wp2_with fail
    go_ret
    exact ⟨by rw [HR.out]; rfl, HB2.out⟩
end Go.Proofs.YtppapeoainafbaaDoor

namespace Go.Proofs.YtppapeoainafbaaDoor
open Go.RowKit
theorem ByteRow.nilA {w : World} {bs : List Nat} (h : ByteRow w none bs) : bs = [] := by
  rcases h with h | ⟨b, off, h, _⟩
  · exact h
  · cases h
set_option maxRecDepth 100000 in
set_option maxHeartbeats 800000 in
theorem cloneB_any {a : Option Addr} {c n : Nat} {bs : List Nat} {w : World} (hn : Hid (bs.length = n)) (hl : n ≤ 549755813888) (hrow : ByteRow w a bs) :
   Calls Tryd.prog 41 #[.slice a n c] w fun e w' => ∃ v, e = .returned v ∧ OwnB w' w.heap.size v bs ∧ Below w.heap.size w w' := by
  cases a with
  | none =>
    have hx := hrow.nilA
    subst hx
    have hn0 : n = 0 := hn.out.symm
    subst hn0
    have hnil : ∀ W, (binOp .eql 35 (.slice none 0 c) (.slice none 0 0)).run Tryd.prog W = .ok (.bool true) W := fun W => Lib.run_eql_slice_nil W 35 5 none 0 c 0 0 Tryd.underlying35
    go_enter Tryd.func41, Tryd.ntmps41
    go_wp2
    go_ret
    exact ⟨_, rfl, OwnB.nil _ _, Below.refl _ _⟩
  | some a =>
    have hnil : ∀ W, (binOp .eql 35 (.slice (some a) n c) (.slice none 0 0)).run Tryd.prog W = .ok (.bool false) W := fun W => Lib.run_eql_slice_nil W 35 5 (some a) n c 0 0 Tryd.underlying35
    have hown : OwnB (w.alloc (.cells #[] 5)) w.heap.size (.slice (some ⟨w.heap.size, 0, none⟩) 0 0) [] := World.ownsRow_made (w := w) #[] 0 (Nat.le_refl _) (by unfold maxLen; omega) (by simp)
    have hB : Below w.heap.size w (w.alloc (.cells #[] 5)) := (Below.refl _ _).alloc (Nat.le_refl _) _
    have hr1 := hrow.ext hB
    go_enter Tryd.func41, Tryd.ntmps41
    go_wp2_with (at_builtin; refine wpList_appendB hown hr1 hn ?cb ?cz rfl rfl rfl rfl ?_; rotate_right; intro v4 w4 hown4 hg4 hat4)
    case cb => simp; omega
    case cz => simp
    go_ret
    exact ⟨v4, rfl, by simpa using hown4, below_of_grown hB hg4 hown hB.size (Nat.le_refl _)⟩
theorem OwnB.cap {w : World} {base : Nat} {v : Value} {bs : List Nat} (h : OwnB w base v bs) : ∀ a n c, v = .slice a n c → bs.length ≤ c := by
  intro a n c e
  rcases h.2 with ⟨rfl, hn⟩ | ⟨g, cap, cur, rfl, hb, hg, hnc, _⟩
  · cases e; omega
  · cases e; exact hnc
/-- the writer behind a pointer -/
structure WrIs (w : World) (s : Nat) (v : Value) (bs : List Nat) : Prop where
  c : w.cell? ⟨s, 0, none⟩ = some v
  f : w.frozen? ⟨s, 0, none⟩ = false
  own : OwnB w (s + 1) v bs
theorem WrIs.lt {w : World} {s : Nat} {v : Value} {bs : List Nat} (h : WrIs w s v bs) : s < w.heap.size := World.block_lt_of_cell? w _ h.c
theorem WrIs.ext {w w' : World} {s : Nat} {v : Value} {bs : List Nat} (h : WrIs w s v bs) (hb : Below w.heap.size w w') : WrIs w' s v bs :=
  ⟨cell_toB h.c hb, (hb.frozen (by exact h.lt)).trans h.f, h.own.ext hb⟩
theorem WrIs.alloc {w : World} {s : Nat} {v : Value} {bs : List Nat} (h : WrIs w s v bs) (o : Obj) : WrIs (w.alloc o) s v bs := h.ext ((Below.refl _ _).alloc (Nat.le_refl _) _)
theorem WrIs.made (w : World) (t : TypeId) : WrIs (w.alloc (.cells #[.slice none 0 0] t)) w.heap.size (.slice none 0 0) [] := ⟨by simp, by simp, OwnB.nil _ _⟩
/-- what a call of the writer leaves -/
structure Wrote (w w' : World) (s : Nat) (v' : Value) (bs : List Nat) : Prop where
  wr : WrIs w' s v' bs
  own : OwnB w' w.heap.size v' bs
  mt : Mut (fun k => k = s) w w'
theorem mut_put {w w1 : World} {s : Nat} {v : Value} (hb : Below w.heap.size w w1) : Mut (fun k => k = s) w (w1.setCell ⟨s, 0, none⟩ v) :=
  (Mut.of_below hb).trans ⟨rfl, rfl, rfl, by simp, fun k _ hf => Below.heap_setCell _ _ _ _ (by exact hf)⟩
theorem wrote_put {w w1 : World} {s : Nat} {v v1 : Value} {bs bs1 : List Nat} (h : WrIs w s v bs) (hb : Below w.heap.size w w1) (hown : OwnB w1 w.heap.size v1 bs1) : Wrote w (w1.setCell ⟨s, 0, none⟩ v1) s v1 bs1 := by
  have h1 := h.ext hb
  have hs := h.lt
  have ho : OwnB (w1.setCell ⟨s, 0, none⟩ v1) w.heap.size v1 bs1 := hown.butT (t := s) (fun k hk => Below.heap_setCell _ _ _ _ hk) (fun e => by have := (World.ownsRow.lt hown s e.symm).1; omega)
  exact ⟨⟨World.cell?_setCell_same _ _ _ h1.c, by simp [h1.f], ho.mono (by omega)⟩, ho, mut_put hb⟩
theorem ByteRow.mutT {G : Nat → Prop} {w w' : World} {a : Option Addr} {bs : List Nat} (h : ByteRow w a bs) (hm : Mut G w w') (hne : ∀ b off, a = some ⟨b, off, none⟩ → bs ≠ [] → ¬ G b) : ByteRow w' a bs := by
  rcases h with rfl | ⟨b, off, rfl, hlt, hc⟩
  · exact .inl rfl
  · by_cases hl : bs = []
    · exact .inl hl
    · have hb := hm.block b hlt (hne b off rfl hl)
      exact .inr ⟨b, off, rfl, by have := hm.size; omega, fun i hi => (World.cell?_of_block (w := w) hb).trans (hc i hi)⟩
theorem wrote_more {w w1 w2 : World} {s : Nat} {v1 v2 : Value} {bs1 bs2 : List Nat} (h : Wrote w w1 s v1 bs1) (hs : s < w.heap.size) (hg : w1.grownBy w2 v1.ownBlock) (hown : OwnB w2 w.heap.size v2 bs2) : Wrote w (w2.setCell ⟨s, 0, none⟩ v2) s v2 bs2 := by
  have hs1 := h.wr.lt
  have hsb : w2.heap[s]? = w1.heap[s]? := hg.block s hs1 (fun e => by have := (World.ownsRow.lt h.own s e.symm).1; omega)
  have c2 : w2.cell? ⟨s, 0, none⟩ = some v1 := (World.cell?_of_block (w := w1) (a := ⟨s, 0, none⟩) hsb).trans h.wr.c
  have f2 : w2.frozen? ⟨s, 0, none⟩ = false := (World.frozen?_of_block (w := w1) (a := ⟨s, 0, none⟩) hsb).trans h.wr.f
  have ho : OwnB (w2.setCell ⟨s, 0, none⟩ v2) w.heap.size v2 bs2 := hown.butT (t := s) (fun k hk => Below.heap_setCell _ _ _ _ hk) (fun e => by have := (World.ownsRow.lt hown s e.symm).1; omega)
  refine ⟨⟨World.cell?_setCell_same _ _ _ c2, by simp [f2], ho.mono (by omega)⟩, ho, ?_⟩
  refine ⟨hg.os.trans h.mt.os, hg.tape.trans h.mt.tape, hg.output.trans h.mt.output, by have := hg.size; have := h.mt.size; simp; omega, fun k hk hf => ?_⟩
  rw [Below.heap_setCell _ _ _ _ (by exact hf), hg.block k (by have := h.mt.size; omega) (fun e => by have := (World.ownsRow.lt h.own k e.symm).1; omega), h.mt.block k hk hf]
set_option maxRecDepth 100000 in
set_option maxHeartbeats 1600000 in
theorem wNum_any {s : Nat} {v : Value} {bs : List Nat} {w : World} (m : Nat) (hW : WrIs w s v bs) (hl : bs.length ≤ 137438953472) (hm : m < 18446744073709551616) :
    Calls Tryd.prog 37 #[.pointer (some ⟨s, 0, none⟩), .int .u64 m] w fun e w' => e = .returned (.tuple #[]) ∧ ∃ v', Wrote w w' s v' (bs ++ short m) := by
  obtain ⟨a, c, rfl, hrow, -⟩ := hW.own.row
  obtain ⟨n, hn⟩ : ∃ n, bs.length = n := ⟨_, rfl⟩
  rw [hn] at hW hl
  have HW := hid hW
  have c0 := hW.c
  have HN := hid hn
  obtain ⟨F, hF⟩ : ∃ F, bs ++ short m = F := ⟨_, rfl⟩
  rw [hF]
  have HF := hid hF
  clear hn hW hF
  go_enter Tryd.func37, Tryd.ntmps37
  go_wp2_with (go_at_call 69; refine (putShort_is HF HN (by omega) hm hrow).mono ?_; rintro e w1 ⟨a1, k1, rfl, hown1, -, hb1⟩; have c1 := cell_toB c0 hb1; have f1 := (HW.out.ext hb1).f)
  exact bodyPost_end (results_none rfl _ _ _) rfl ⟨rfl, _, wrote_put HW.out hb1 hown1⟩
theorem pidPut_is {a : Option Addr} {c n : Nat} {bs F : List Nat} {w : World} {x y : Nat} (hF : Hid (bs ++ (short x ++ short y) = F)) (hn : Hid (bs.length = n)) (hl : n ≤ 137438953472) (hx : x < 65536) (hy : y < 4294967296) (hrow : ByteRow w a bs) :
    Calls Tryd.prog 70 #[.slice a n c, .agg #[.int .u16 x, .int .u32 y]] w fun e w' => ∃ v, e = .returned v ∧ OwnB w' w.heap.size v F ∧ Below w.heap.size w w' := by
  have := pidPut_any (c := c) x y hn hl hx hy hrow
  rw [hF.out] at this; exact this
set_option maxRecDepth 100000 in
set_option maxHeartbeats 3200000 in
theorem wPid_any {s : Nat} {v : Value} {bs : List Nat} {w : World} (x y : Nat) (hW : WrIs w s v bs) (hl : bs.length ≤ 68719476736) (hx : x < 65536) (hy : y < 4294967296) :
    Calls Tryd.prog 38 #[.pointer (some ⟨s, 0, none⟩), .agg #[.int .u16 x, .int .u32 y]] w fun e w' => e = .returned (.tuple #[]) ∧ ∃ v', Wrote w w' s v' (bs ++ (short x ++ short y)) := by
  have hB : Below w.heap.size w (w.alloc (.cells #[.int .u16 x, .int .u32 y] 25)) := (Below.refl _ _).alloc (Nat.le_refl _) _
  have hW1 := hW.ext hB
  obtain ⟨F, hF⟩ : ∃ F, bs ++ (short x ++ short y) = F := ⟨_, rfl⟩
  rw [hF]
  have HF := hid hF
  obtain ⟨a, c, rfl, hrow, -⟩ := hW1.own.row
  obtain ⟨n, hn⟩ : ∃ n, bs.length = n := ⟨_, rfl⟩
  rw [hn] at hW hW1 hl
  have HW := hid hW
  have HN := hid hn
  have c0 := hW1.c
  have hc0 : (w.alloc (.cells #[.int .u16 x, .int .u32 y] 25)).cell? ⟨w.heap.size, 0, none⟩ = some (.int .u16 x) := by simp
  have hc1 : (w.alloc (.cells #[.int .u16 x, .int .u32 y] 25)).cell? ⟨w.heap.size, 1, none⟩ = some (.int .u32 y) := by simp
  obtain ⟨w1, hw1⟩ : ∃ w1, w.alloc (.cells #[.int .u16 x, .int .u32 y] 25) = w1 := ⟨_, rfl⟩
  rw [hw1] at hB hW1 hrow c0 hc0 hc1
  have H0 : Below w1.heap.size w1 w1.drew := (Below.refl _ _).drew
  have d0 := cell_toB c0 H0
  have d1 := cell_toB hc0 H0
  have d2 := cell_toB hc1 H0
  have HW1 := hid hW1
  have C1 : Hid (∀ W, Below w1.heap.size w1 W → Calls Tryd.prog 70 #[.slice a n c, .agg #[.int .u16 x, .int .u32 y]] W fun e w' => ∃ v, e = .returned v ∧ OwnB w' w1.heap.size v F ∧ Below w1.heap.size w1 w') := hid fun W h => ((pidPut_is HF HN (by omega) hx hy (hrow.ext h)).mono fun e w' ⟨v, h1, h3, h4⟩ => ⟨v, h1, h3.mono h.size, h.trans (h4.mono h.size)⟩)
  clear hn hF hW hW1 c0 hc0 hc1 hrow
  go_enter Tryd.func38, Tryd.ntmps38
  go_wp2
  go_region_with ((go_at_call 70; (with_reducible refine (C1.out _ (by exact H0)).mono ?_); rintro e w11 ⟨v11, rfl, hown11, hb11⟩; obtain ⟨a11, k11, he11, -, -⟩ := hown11.row; subst he11; have c1 := (HW1.out.ext hb11).c; have f1 := (HW1.out.ext hb11).f))
  all_goals (
    go_wp2
    exact bodyPost_end (results_none rfl _ _ _) rfl ⟨rfl, _, wrote_put HW.out (hB.trans (hb11.mono hB.size)) (hown11.mono hB.size)⟩)
set_option maxRecDepth 100000 in
set_option maxHeartbeats 1600000 in
theorem wBytes_any {s : Nat} {v : Value} {bs : List Nat} {a : Option Addr} {c n : Nat} {ds : List Nat} {w : World} (hW : WrIs w s v bs) (hl : bs.length ≤ 68719476736) (hn : Hid (ds.length = n)) (hdl : n ≤ 68719476736) (hrow : ByteRow w a ds) (hne : ∀ b off, a = some ⟨b, off, none⟩ → ds ≠ [] → b ≠ s) :
    Calls Tryd.prog 39 #[.pointer (some ⟨s, 0, none⟩), .slice a n c] w fun e w' => e = .returned (.tuple #[]) ∧ ∃ v', Wrote w w' s v' (bs ++ (short n ++ ds)) := by
  have hln := short_len10 (n := n) (by omega)
  obtain ⟨F, hF⟩ : ∃ F, bs ++ short n = F := ⟨_, rfl⟩
  have hFl : F.length ≤ 68719476736 + 10 := by rw [← hF, List.length_append]; omega
  obtain ⟨E, hE⟩ : ∃ E, F ++ ds = E := ⟨_, rfl⟩
  have HF2 : Hid (bs ++ (short n ++ ds) = E) := hid (by rw [← hE, ← hF, List.append_assoc])
  have HE := hid hE
  have C1 : Hid (Calls Tryd.prog 37 #[.pointer (some ⟨s, 0, none⟩), .int .u64 n] w fun e w' => e = .returned (.tuple #[]) ∧ ∃ v', Wrote w w' s v' F) := hid (by rw [← hF]; exact wNum_any n hW (by omega) (by omega))
  have hs := hW.lt
  clear hF hE
  go_enter Tryd.func39, Tryd.ntmps39
  go_wp2_with (first
    | (go_at_call 37; refine C1.out.mono ?_; rintro e w1 ⟨rfl, v1, hw1⟩; obtain ⟨a1, k1, he1, -, -⟩ := hw1.own.row; subst he1; have c1 := hw1.wr.c; have hr1 := hrow.mutT hw1.mt (fun b off h1 h2 => hne b off h1 h2); have HR1 := hid hr1; clear hr1)
    | (at_builtin; refine wpList_appendB hw1.own HR1.out hn (by omega) (by have := hw1.mt.size; omega) rfl rfl rfl rfl ?_; intro v2 w2 hown2 hg2 hat2; rw [HE.out] at hown2; obtain ⟨a2, k2, he2, -, -⟩ := hown2.row; subst he2; have hz := wrote_more hw1 hs hg2 hown2; have hsb : w2.heap[s]? = w1.heap[s]? := hg2.block s hw1.wr.lt (fun e => by have := (World.ownsRow.lt hw1.own s e.symm).1; omega); have c2 := (World.cell?_of_block (w := w1) (a := ⟨s, 0, none⟩) hsb).trans c1; have f2 : w2.frozen? ⟨s, 0, none⟩ = false := (World.frozen?_of_block (w := w1) (a := ⟨s, 0, none⟩) hsb).trans hw1.wr.f; have HZ := hid hz; clear hz hsb))
  exact bodyPost_end (results_none rfl _ _ _) rfl ⟨rfl, _, by rw [HF2.out]; exact HZ.out⟩
end Go.Proofs.YtppapeoainafbaaDoor

namespace Go.Proofs.YtppapeoainafbaaDoor
open Go.RowKit
theorem PidRow.mutT {G : Nat → Prop} {w w' : World} {a : Option Addr} {l : List Pid} (h : PidRow w a l) (hm : Mut G w w') (hne : ∀ b off, a = some ⟨b, off, none⟩ → l ≠ [] → ¬ G b) : PidRow w' a l := by
  rcases h with rfl | ⟨b, off, rfl, hlt, hc⟩
  · exact .inl rfl
  · by_cases hl : l = []
    · exact .inl hl
    · have hb := hm.block b hlt (hne b off rfl hl)
      exact .inr ⟨b, off, rfl, by have := hm.size; omega, fun i hi => ⟨(World.cell?_of_block (w := w) hb).trans (hc i hi).1, (World.cell?_of_block (w := w) hb).trans (hc i hi).2⟩⟩
theorem Wrote.trans {w w1 w1' w2 : World} {s : Nat} {v1 v2 : Value} {b1 b2 : List Nat} (h : Wrote w w1 s v1 b1) (hb : Below w1.heap.size w1 w1') (h2 : Wrote w1' w2 s v2 b2) : Wrote w w2 s v2 b2 :=
  ⟨h2.wr, h2.own.mono (Nat.le_trans h.mt.size hb.size), (h.mt.trans (Mut.of_below hb)).trans h2.mt⟩
theorem pidF_nat (x y : Nat) : pidF ((x : Int), (y : Int)) = short x ++ short y := by simp [pidF]
theorem pidF_len {p : Pid} (h : okP p) : (pidF p).length ≤ 20 := by
  have h1 := short_len10 (n := p.1.toNat) (by have := h.2.1; have := h.1; omega)
  have h2 := short_len10 (n := p.2.toNat) (by have := h.2.2.2; omega)
  unfold pidF; rw [List.length_append]; omega
theorem flat_pidF_len : ∀ {l : List Pid}, (∀ p ∈ l, okP p) → (l.flatMap pidF).length ≤ l.length * 20
  | [], _ => by simp
  | p :: l, h => by
    have h1 := pidF_len (h p (List.mem_cons_self ..))
    have h2 := flat_pidF_len (l := l) (fun q hq => h q (List.mem_cons_of_mem _ hq))
    rw [List.flatMap_cons, List.length_append, List.length_cons]; omega
theorem take_flat {l : List Pid} {k : Nat} (h : k < l.length) {p : Pid} (hp : p = l[k]) : (l.take (k + 1)).flatMap pidF = (l.take k).flatMap pidF ++ pidF p := by
  rw [List.take_succ_eq_append_getElem h, List.flatMap_append, hp]; simp
theorem nat_pid {x y : Int} (h : okP (x, y)) : ∃ x' y' : Nat, x = (x' : Int) ∧ y = (y' : Int) ∧ x' < 65536 ∧ y' < 4294967296 := by
  obtain ⟨h1, h2, h3, h4⟩ := h
  exact ⟨x.toNat, y.toNat, by simp at *; omega, by simp at *; omega, by simp at *; omega, by simp at *; omega⟩
set_option maxRecDepth 100000 in
set_option maxHeartbeats 1600000 in
theorem wPids_any {s : Nat} {v : Value} {bs : List Nat} {a : Option Addr} {c n : Nat} {l : List Pid} {w : World} (hW : WrIs w s v bs) (hl : bs.length ≤ 34359738368) (hn : Hid (l.length = n)) (hnl : n ≤ 1073741824) (hok : ∀ p ∈ l, okP p) (hrow : PidRow w a l) (hne : ∀ b off, a = some ⟨b, off, none⟩ → l ≠ [] → b ≠ s) :
    Calls Tryd.prog 73 #[.pointer (some ⟨s, 0, none⟩), .slice a n c] w fun e w' => e = .returned (.tuple #[]) ∧ ∃ v', Wrote w w' s v' (bs ++ pidsF l) := by
  have hln := short_len10 (n := n) (by omega)
  have C1 : Hid (Calls Tryd.prog 37 #[.pointer (some ⟨s, 0, none⟩), .int .u64 n] w fun e w' => e = .returned (.tuple #[]) ∧ ∃ v', Wrote w w' s v' (bs ++ short n)) := hid (wNum_any n hW (by omega) (by omega))
  have hs := hW.lt
  have HOK := hid hok
  have hfl := flat_pidF_len hok
  have HROW := hid hrow
  have HNE := hid hne
  obtain ⟨B, hB⟩ : ∃ B, bs ++ short n = B := ⟨_, rfl⟩
  have hBl : B.length ≤ 34359738378 := by rw [← hB, List.length_append]; omega
  have HE : Hid (bs ++ pidsF l = B ++ l.flatMap pidF) := hid (by unfold pidsF; rw [hn.out, ← hB, List.append_assoc])
  rw [hB] at C1
  clear hok hrow hne hB
  go_enter Tryd.func73, Tryd.ntmps73
  go_wp2_with (go_at_call 37; refine C1.out.mono ?_; rintro e w1 ⟨rfl, v1, hw1⟩)
  have HW1 := hid hw1
  clear hw1
  go_loopw [13] (fun i wr => ∃ (k : Nat) (vk : Value), k ≤ n ∧ i = .int .i64 k ∧ Hid (Wrote w wr s vk (B ++ (l.take k).flatMap pidF))) (fun i _ => n - (intOf i).toNat)
  case atStart => exact ⟨0, v1, Nat.zero_le _, rfl, hid (by simpa using HW1.out)⟩
  case round =>
    obtain ⟨k, vk, hk, rfl, hWk⟩ := hrel
    by_cases hlt : k < n
    · have hlt' : decide (k < n) = true := by simpa using hlt
      have hkl : k < l.length := by rw [hn.out]; exact hlt
      obtain ⟨pb, po, x, y, rfl, hx, d1, d2⟩ := (HROW.out.mutT hWk.out.mt (fun b off h1 h2 => HNE.out b off h1 h2)).at (Below.refl _ _) rfl hkl
      obtain ⟨x', y', rfl, rfl, hx', hy'⟩ := nat_pid (show okP (x, y) by rw [hx]; exact HOK.out _ (List.getElem_mem _))
      have HT : Hid (B ++ (l.take (k + 1)).flatMap pidF = (B ++ (l.take k).flatMap pidF) ++ (short x' ++ short y')) := hid (by rw [take_flat hkl hx, pidF_nat]; simp)
      have hlen : (B ++ (l.take k).flatMap pidF).length ≤ 68719476736 := by
        have h1 : ((l.take k).flatMap pidF).length ≤ (l.take k).length * 20 := flat_pidF_len (fun p hp => HOK.out p (List.mem_of_mem_take hp))
        rw [List.length_take] at h1
        rw [List.length_append]; omega
      have hq : Below wr.heap.size wr (wr.alloc (.cells #[.int .u16 x', .int .u32 y'] 25)) := (Below.refl _ _).alloc (Nat.le_refl _) _
      have C2 : Hid (Calls Tryd.prog 38 #[.pointer (some ⟨s, 0, none⟩), .agg #[.int .u16 x', .int .u32 y']] (wr.alloc (.cells #[.int .u16 x', .int .u32 y'] 25)) fun e w' => e = .returned (.tuple #[]) ∧ ∃ v', Wrote (wr.alloc (.cells #[.int .u16 x', .int .u32 y'] 25)) w' s v' (B ++ (l.take (k + 1)).flatMap pidF)) := hid (by rw [HT.out]; exact wPid_any x' y' (hWk.out.wr.ext hq) hlen hx' hy')
      clear hx hlen
      go_wp2_with (go_at_call 38; refine C2.out.mono ?_; rintro e w2 ⟨rfl, v2, hw2⟩; have hw3 := hid (hWk.out.trans hq hw2); clear hw2)
      go_roundw
      case rel => exact ⟨k + 1, v2, by omega, by go_num, hw3⟩
      case measure => simp [intOf]; omega
    · have hlt' : decide (k < n) = false := by simpa using hlt
      have hend := hWk.out
      rw [List.take_of_length_le (by rw [hn.out]; omega), ← HE.out] at hend
      have HEND := hid hend
      clear hend
      go_wp2
      exact bodyPost_end (results_none rfl _ _ _) rfl ⟨rfl, _, HEND.out⟩
set_option maxRecDepth 100000 in
set_option maxHeartbeats 800000 in
theorem wDone_any {s : Nat} {v : Value} {bs : List Nat} {w : World} (hW : WrIs w s v bs) (hl : bs.length ≤ 137438953472) :
    Calls Tryd.prog 25 #[.pointer (some ⟨s, 0, none⟩)] w fun e w' => ∃ v', e = .returned v' ∧ OwnB w' w.heap.size v' bs ∧ Below w.heap.size w w' := by
  obtain ⟨a, c, rfl, hrow, -⟩ := hW.own.row
  obtain ⟨n, hn⟩ : ∃ n, bs.length = n := ⟨_, rfl⟩
  rw [hn] at hW hl
  have c0 := hW.c
  have HN := hid hn
  clear hn
  go_enter Tryd.func25, Tryd.ntmps25
  go_wp2_with (go_at_call 41; refine (cloneB_any HN (by omega) hrow).mono ?_; rintro e w1 ⟨v1, rfl, hown1, hb1⟩)
  go_ret
  exact ⟨_, rfl, hown1, hb1⟩
/-! ### the reference's forms -/
end Go.Proofs.YtppapeoainafbaaDoor

namespace Go.Proofs.YtppapeoainafbaaDoor
open Go.RowKit
/-- the reader behind a pointer -/
structure RdIs (w : World) (s : Nat) (a : Option Addr) (c : Nat) (S : RS) : Prop where
  c0 : w.cell? ⟨s, 0, none⟩ = some (.slice a S.b.length c)
  c1 : w.cell? ⟨s, 1, none⟩ = some (.int .i64 S.e)
  f0 : w.frozen? ⟨s, 0, none⟩ = false
  f1 : w.frozen? ⟨s, 1, none⟩ = false
  row : ByteRow w a S.b
  far : ∀ b off, a = some ⟨b, off, none⟩ → S.b ≠ [] → b < s
  cap : S.b.length ≤ c
  byt : ∀ b ∈ S.b, b < 256
  len : S.b.length ≤ 70368744177664
theorem RdIs.lt {w : World} {s c : Nat} {a : Option Addr} {S : RS} (h : RdIs w s a c S) : s < w.heap.size := World.block_lt_of_cell? w _ h.c0
theorem RdIs.ext {w w' : World} {s c : Nat} {a : Option Addr} {S : RS} (h : RdIs w s a c S) (hb : Below w.heap.size w w') : RdIs w' s a c S :=
  ⟨cell_toB h.c0 hb, cell_toB h.c1 hb, (hb.frozen (by exact h.lt)).trans h.f0, (hb.frozen (by exact h.lt)).trans h.f1, h.row.ext hb, h.far, h.cap, h.byt, h.len⟩
theorem RdIs.alloc {w : World} {s c : Nat} {a : Option Addr} {S : RS} (h : RdIs w s a c S) (o : Obj) : RdIs (w.alloc o) s a c S := h.ext ((Below.refl _ _).alloc (Nat.le_refl _) _)
theorem ByteRow.setFar {w : World} {a : Option Addr} {bs : List Nat} {s i : Nat} {v : Value} (h : ByteRow w a bs) (hf : ∀ b off, a = some ⟨b, off, none⟩ → bs ≠ [] → b < s) : ByteRow (w.setCell ⟨s, i, none⟩ v) a bs := by
  rcases h with rfl | ⟨b, off, rfl, hlt, hc⟩
  · exact .inl rfl
  · by_cases hl : bs = []
    · exact .inl hl
    · have hb : b ≠ s := Nat.ne_of_lt (hf b off rfl hl)
      exact .inr ⟨b, off, rfl, by simpa using hlt, fun j hj => by rw [World.cell?_setCell_far _ _ _ _ (by exact fun e => hb e.symm)]; exact hc j hj⟩
/-- other bytes -/
theorem RdIs.put {w : World} {s c c' : Nat} {a a' : Option Addr} {S : RS} {b' : List Nat} (h : RdIs w s a c S) {n : Nat} (hn : n = b'.length) (hrow : ByteRow w a' b') (hfar : ∀ b off, a' = some ⟨b, off, none⟩ → b' ≠ [] → b < s) (hcap : b'.length ≤ c') (hby : ∀ b ∈ b', b < 256) (hlen : b'.length ≤ 70368744177664) : RdIs (w.setCell ⟨s, 0, none⟩ (.slice a' n c')) s a' c' ⟨b', S.e⟩ := by
  subst hn
  exact ⟨World.cell?_setCell_same _ _ _ h.c0, by rw [World.cell?_setCell_other _ _ _ _ (by simp)]; exact h.c1, by simp [h.f0], by simp [h.f1], hrow.setFar hfar, hfar, hcap, hby, hlen⟩
end Go.Proofs.YtppapeoainafbaaDoor

namespace Go.Proofs.YtppapeoainafbaaDoor
open Go.RowKit
theorem RdIs.mutT {G : Nat → Prop} {w w' : World} {s c : Nat} {a : Option Addr} {S : RS} (h : RdIs w s a c S) (hm : Mut G w w') (hG : ∀ k, G k → s < k) : RdIs w' s a c S := by
  have hb := hm.block s h.lt (fun hs => by have := hG s hs; omega)
  refine ⟨(World.cell?_of_block (w := w) (a := ⟨s, 0, none⟩) hb).trans h.c0, (World.cell?_of_block (w := w) (a := ⟨s, 1, none⟩) hb).trans h.c1, (World.frozen?_of_block (w := w) (a := ⟨s, 0, none⟩) hb).trans h.f0, (World.frozen?_of_block (w := w) (a := ⟨s, 1, none⟩) hb).trans h.f1, ?_, h.far, h.cap, h.byt, h.len⟩
  exact h.row.mutT hm (fun b off e hne hg => by have := h.far b off e hne; have := hG b hg; omega)
theorem cell_mut {G : Nat → Prop} {w w' : World} {p : Addr} {v : Value} (h : w.cell? p = some v) (hm : Mut G w w') (hG : ¬ G p.block) : w'.cell? p = some v :=
  (hm.cell (World.block_lt_of_cell? w _ h) hG).trans h
end Go.Proofs.YtppapeoainafbaaDoor

namespace Go.Proofs.YtppapeoainafbaaDoor
open Go.RowKit
/-- the place of a result: one cell -/
structure Cell1 (w : World) (g : Nat) (v : Value) : Prop where
  c : w.cell? ⟨g, 0, none⟩ = some v
  f : w.frozen? ⟨g, 0, none⟩ = false
theorem Cell1.made (w : World) (t : TypeId) (v : Value) : Cell1 (w.alloc (.cells #[v] t)) w.heap.size v := ⟨by simp, by simp⟩
theorem Cell1.lt {w : World} {g : Nat} {v : Value} (h : Cell1 w g v) : g < w.heap.size := World.block_lt_of_cell? w _ h.c
theorem Cell1.ext {w w' : World} {g : Nat} {v : Value} (h : Cell1 w g v) (hb : Below w.heap.size w w') : Cell1 w' g v := ⟨cell_toB h.c hb, (hb.frozen (by exact h.lt)).trans h.f⟩
theorem Cell1.mutT {G : Nat → Prop} {w w' : World} {g : Nat} {v : Value} (h : Cell1 w g v) (hm : Mut G w w') (hG : ¬ G g) : Cell1 w' g v :=
  ⟨cell_mut h.c hm hG, (World.frozen?_of_block (w := w) (a := ⟨g, 0, none⟩) (hm.block g h.lt hG)).trans h.f⟩
end Go.Proofs.YtppapeoainafbaaDoor

namespace Go.Proofs.YtppapeoainafbaaDoor
open Go.RowKit
/-- a box of two cells -/
structure BoxP (w : World) (b : Nat) (v0 v1 : Value) : Prop where
  c0 : w.cell? ⟨b, 0, none⟩ = some v0
  c1 : w.cell? ⟨b, 1, none⟩ = some v1
  f0 : w.frozen? ⟨b, 0, none⟩ = false
  f1 : w.frozen? ⟨b, 1, none⟩ = false
theorem BoxP.lt {w : World} {b : Nat} {v0 v1 : Value} (h : BoxP w b v0 v1) : b < w.heap.size := World.block_lt_of_cell? w _ h.c0
theorem BoxP.ext {w w' : World} {b : Nat} {v0 v1 : Value} (h : BoxP w b v0 v1) (hb : Below w.heap.size w w') : BoxP w' b v0 v1 :=
  ⟨cell_toB h.c0 hb, cell_toB h.c1 hb, (hb.frozen (by exact h.lt)).trans h.f0, (hb.frozen (by exact h.lt)).trans h.f1⟩
theorem BoxP.made (w : World) (t : TypeId) (v0 v1 : Value) : BoxP (w.alloc (.cells #[v0, v1] t)) w.heap.size v0 v1 := ⟨by simp, by simp, by simp, by simp⟩
theorem BoxP.mutT {G : Nat → Prop} {w w' : World} {b : Nat} {v0 v1 : Value} (h : BoxP w b v0 v1) (hm : Mut G w w') (hG : ¬ G b) : BoxP w' b v0 v1 :=
  ⟨cell_mut h.c0 hm hG, cell_mut h.c1 hm hG, (World.frozen?_of_block (w := w) (a := ⟨b, 0, none⟩) (hm.block b h.lt hG)).trans h.f0, (World.frozen?_of_block (w := w) (a := ⟨b, 1, none⟩) (hm.block b h.lt hG)).trans h.f1⟩
theorem BoxP.put {w : World} {b : Nat} {v0 v1 : Value} (h : BoxP w b v0 v1) (x y : Value) : BoxP ((w.setCell ⟨b, 0, none⟩ x).setCell ⟨b, 1, none⟩ y) b x y := by
  refine ⟨?_, ?_, by simp [h.f0], by simp [h.f1]⟩
  · rw [World.cell?_setCell_other _ _ _ _ (by simp)]
    exact World.cell?_setCell_same _ _ _ h.c0
  · refine World.cell?_setCell_same _ _ _ (u := v1) ?_
    rw [World.cell?_setCell_other _ _ _ _ (by simp)]
    exact h.c1
end Go.Proofs.YtppapeoainafbaaDoor

namespace Go.Proofs.YtppapeoainafbaaDoor
open Go.RowKit
theorem OwnP.mutT {G : Nat → Prop} {w w' : World} {base : Nat} {v : Value} {xs : List Pid} (h : OwnP w base v xs) (hm : Mut G w w') (hG : ∀ k, G k → k < base) : OwnP w' base v xs := by
  refine ⟨h.1, ?_⟩
  rcases h.2 with hn | ⟨g, cap, cur, rfl, hbb, hgg, rest⟩
  · exact .inl hn
  · exact .inr ⟨g, cap, cur, rfl, hbb, (hm.block g (Array.getElem?_eq_some_iff.1 hgg).1 (fun hg => by have := hG g hg; omega)).trans hgg, rest⟩
theorem Mut.drew {G : Nat → Prop} {w0 w : World} (hm : Mut G w0 w) : Mut G w0 w.drew := hm.trans (Mut.of_below (Below.refl _ _).drew)
end Go.Proofs.YtppapeoainafbaaDoor

namespace Go.Proofs.YtppapeoainafbaaDoor
open Go.RowKit

/-! ### view.Put's closure: a row as places -/
def rankS (S : List (Pid × Int)) (p : Pid) : List Nat := short ((look p S).getD 0).toNat
theorem take_flatS {S : List (Pid × Int)} {l : List Pid} {k : Nat} (h : k < l.length) {p : Pid} (hp : p = l[k]) : (l.take (k + 1)).flatMap (rankS S) = (l.take k).flatMap (rankS S) ++ rankS S p := by
  rw [List.take_succ_eq_append_getElem h, List.flatMap_append, hp]; simp
theorem flat_rankS_len {S : List (Pid × Int)} (hS : ∀ p, 0 ≤ (look p S).getD 0 ∧ (look p S).getD 0 < 4611686018427387904) : ∀ (l : List Pid), (l.flatMap (rankS S)).length ≤ l.length * 10
  | [] => by simp
  | p :: l => by
    have h1 := flat_rankS_len hS l
    have h2 : (rankS S p).length ≤ 10 := short_len10 (by have := (hS p).2; have := (hS p).1; omega)
    rw [List.flatMap_cons, List.length_append, List.length_cons]; omega
set_option maxRecDepth 100000 in
set_option maxHeartbeats 3200000 in
theorem putC_any {s g1 g2 r : Nat} {v : Value} {bs : List Nat} {S : List (Pid × Int)} {a : Option Addr} {c n : Nat} {l : List Pid} {w : World} (hW : WrIs w s v bs) (hl : bs.length ≤ 34359738368) (hn : Hid (l.length = n)) (hnl : n ≤ 1073741824)
    (hS : ∀ p, 0 ≤ (look p S).getD 0 ∧ (look p S).getD 0 < 4611686018427387904) (hrow : PidRow w a l) (hne : ∀ b off, a = some ⟨b, off, none⟩ → l ≠ [] → b ≠ s)
    (hp1 : w.cell? ⟨g1, 0, none⟩ = some (.pointer (some ⟨s, 0, none⟩))) (hp2 : w.cell? ⟨g2, 0, none⟩ = some (.map (some r))) (hM : MapIs w r pidV eI S) (h1 : g1 ≠ s) (h2 : g2 ≠ s) (hr : r ≠ s) :
    Calls Tryd.prog 72 #[.slice a n c, .pointer (some ⟨g1, 0, none⟩), .pointer (some ⟨g2, 0, none⟩)] w fun e w' => e = .returned (.tuple #[]) ∧ ∃ v', Wrote w w' s v' (bs ++ (short n ++ l.flatMap (rankS S))) := by
  have hln := short_len10 (n := n) (by omega)
  have C1 : Hid (Calls Tryd.prog 37 #[.pointer (some ⟨s, 0, none⟩), .int .u64 n] w fun e w' => e = .returned (.tuple #[]) ∧ ∃ v', Wrote w w' s v' (bs ++ short n)) := hid (wNum_any n hW (by omega) (by omega))
  have hs := hW.lt
  have hfl := flat_rankS_len hS
  have HFL := hid hfl
  have HSS := hid hS
  have HROW := hid hrow
  have HNE := hid hne
  have H1 := hid h1
  have H2 := hid h2
  have HRS := hid hr
  obtain ⟨B, hB⟩ : ∃ B, bs ++ short n = B := ⟨_, rfl⟩
  have hBl : B.length ≤ 34359738378 := by rw [← hB, List.length_append]; omega
  have HE : Hid (bs ++ (short n ++ l.flatMap (rankS S)) = B ++ l.flatMap (rankS S)) := hid (by rw [← hB, List.append_assoc])
  rw [hB] at C1
  have HM := hid hM
  have HP1 := hid hp1
  have HP2 := hid hp2
  have ewn : IntKind.u64.wrap ((n : Nat) : Int) = ((n : Nat) : Int) := by rw [IntKind.wrap_u64]; omega
  clear hrow hne hB hfl hS h1 h2 hr hM
  go_enter Tryd.func72, Tryd.ntmps72
  go_wp2_with (go_at_call 37; refine C1.out.mono ?_; rintro e w1 ⟨rfl, v1, hw1⟩)
  have HW1 := hid hw1
  clear hw1 ewn
  go_loopw [13] (fun i wr => ∃ (k : Nat) (vk : Value), k ≤ n ∧ i = .int .i64 k ∧ Hid (Wrote w wr s vk (B ++ (l.take k).flatMap (rankS S)))) (fun i _ => n - (intOf i).toNat)
  case atStart => exact ⟨0, v1, Nat.zero_le _, rfl, hid (by simpa using HW1.out)⟩
  case round =>
    obtain ⟨k, vk, hk, rfl, hWk⟩ := hrel
    by_cases hlt : k < n
    · have hlt' : decide (k < n) = true := by simpa using hlt
      have hkl : k < l.length := by rw [hn.out]; exact hlt
      obtain ⟨pb, po, x, y, rfl, hx, d1, d2⟩ := (HROW.out.mutT hWk.out.mt (fun b off h1 h2 => HNE.out b off h1 h2)).at (Below.refl _ _) rfl hkl
      obtain ⟨q, hq⟩ : ∃ q : Nat, (look (x, y) S).getD 0 = (q : Int) := ⟨((look (x, y) S).getD 0).toNat, by have := (HSS.out (x, y)).1; omega⟩
      have hq62 : q < 4611686018427387904 := by have := (HSS.out (x, y)).2; omega
      have HT : Hid (B ++ (l.take (k + 1)).flatMap (rankS S) = (B ++ (l.take k).flatMap (rankS S)) ++ short q) := hid (by rw [take_flatS hkl hx, rankS, hq]; simp)
      have hlen : (B ++ (l.take k).flatMap (rankS S)).length ≤ 68719476736 := by
        have h1 := HFL.out (l.take k)
        rw [List.length_take] at h1
        rw [List.length_append]; omega
      have hqq : Below wr.heap.size wr (wr.alloc (.cells #[.int .u16 x, .int .u32 y] 25)) := (Below.refl _ _).alloc (Nat.le_refl _) _
      have HQD := hid hqq.drew
      have C2 : Hid (Calls Tryd.prog 37 #[.pointer (some ⟨s, 0, none⟩), .int .u64 q] (wr.alloc (.cells #[.int .u16 x, .int .u32 y] 25)).drew fun e w' => e = .returned (.tuple #[]) ∧ ∃ v', Wrote (wr.alloc (.cells #[.int .u16 x, .int .u32 y] 25)).drew w' s v' (B ++ (l.take (k + 1)).flatMap (rankS S))) := hid (by rw [HT.out]; exact wNum_any q (hWk.out.wr.ext hqq.drew) (by omega) (by omega))
      have hsw : s < wr.heap.size := hWk.out.wr.lt
      have hMr : MapIs wr r pidV eI S := HM.out.same (hWk.out.mt.block r HM.out.lt HRS.out)
      have hc1 : wr.cell? ⟨g1, 0, none⟩ = some (.pointer (some ⟨s, 0, none⟩)) := cell_mut HP1.out hWk.out.mt H1.out
      have hc2 : wr.cell? ⟨g2, 0, none⟩ = some (.map (some r)) := cell_mut HP2.out hWk.out.mt H2.out
      have hne9 : wr.heap.size ≠ s := by omega
      have HS : Hid (∀ W, Mut (fun k => k = s) (wr.alloc (.cells #[.int .u16 x, .int .u32 y] 25)) W → W.cell? ⟨g1, 0, none⟩ = some (.pointer (some ⟨s, 0, none⟩)) ∧ W.cell? ⟨g2, 0, none⟩ = some (.map (some r)) ∧ W.cell? ⟨wr.heap.size, 0, none⟩ = some (.int .u16 x) ∧ W.cell? ⟨wr.heap.size, 1, none⟩ = some (.int .u32 y) ∧ MapIs W r pidV eI S) := hid fun W h =>
        ⟨cell_mut (cell_toB hc1 hqq) h H1.out, cell_mut (cell_toB hc2 hqq) h H2.out, cell_mut (by simp) h hne9, cell_mut (by simp) h hne9, (hMr.ext hqq).same (h.block r (hMr.ext hqq).lt HRS.out)⟩
      have hlk : ∀ W, MapIs W r pidV eI S → (Instr.lookup 107 (.map (some r)) (.agg #[.int .u16 x, .int .u32 y]) false).run Tryd.prog W = .ok (.int .i64 (q : Nat)) W := fun W h => by
        have := h.lookup_no keyPid Tryd.underlying107 (zero3 W) (x, y)
        rw [look_int, hq] at this
        exact this
      have ew : IntKind.u64.wrap ((q : Nat) : Int) = ((q : Nat) : Int) := by rw [IntKind.wrap_u64]; omega
      have HMD := hid ((Mut.refl (fun k => k = s) (wr.alloc (.cells #[.int .u16 x, .int .u32 y] 25))).drew)
      have HX := hid hx
      have HQ := hid hq
      clear hx hlen hMr hc1 hc2 hqq hq hq62
      go_wp2_with fail
      go_region_held3 (fun W => W.cell? ⟨g1, 0, none⟩ = some (.pointer (some ⟨s, 0, none⟩)) ∧ W.cell? ⟨g2, 0, none⟩ = some (.map (some r)) ∧ W.cell? ⟨wr.heap.size, 0, none⟩ = some (.int .u16 x) ∧ W.cell? ⟨wr.heap.size, 1, none⟩ = some (.int .u32 y) ∧ MapIs W r pidV eI S) (first | exact HS.out _ HMD.out | exact HS.out _ (by assumption)) (first
        | ((go_at_call 37; (with_reducible refine C2.out.mono ?_); rintro e w2 ⟨rfl, v2, hw2⟩; have hm2 := HMD.out.trans hw2.mt; have hw3 := hid (hWk.out.trans HQD.out hw2); clear hw2)))
      all_goals (
        clear ew hlk
        go_wp2
        go_roundw
        case rel => exact ⟨k + 1, v2, by omega, by go_num, hw3⟩
        case measure => simp [intOf]; omega)
    · have hlt' : decide (k < n) = false := by simpa using hlt
      have hend := hWk.out
      rw [List.take_of_length_le (by rw [hn.out]; omega), ← HE.out] at hend
      have HEND := hid hend
      clear hend
      go_wp2
      exact bodyPost_end (results_none rfl _ _ _) rfl ⟨rfl, _, HEND.out⟩
end Go.Proofs.YtppapeoainafbaaDoor

namespace Go.Proofs.YtppapeoainafbaaDoor
open Go.RowKit

/-! ### view.Put -/
theorem atIx_neg {ms : List Pid} {p : Pid} (h : p ∉ ms) : atIx ms p < 0 := atFrom_neg.2 h
theorem rankS_F (ms : List Pid) (p : Pid) : rankS (ranksL ms) p = rankF ms p := by
  unfold rankS rankF
  rw [look_ranksL]
  unfold rankO
  by_cases h : atIx ms p < 0
  · rw [if_pos h]
    have : (atIx ms p).toNat = 0 := by omega
    rw [this]; rfl
  · rw [if_neg h]; rfl
theorem flat_rankS_F (ms l : List Pid) : l.flatMap (rankS (ranksL ms)) = l.flatMap (rankF ms) := by
  rw [show rankS (ranksL ms) = rankF ms from funext (rankS_F ms)]
theorem rankS_bound {ms : List Pid} (h : ms.length ≤ 1000) (p : Pid) : 0 ≤ (look p (ranksL ms)).getD 0 ∧ (look p (ranksL ms)).getD 0 < 4611686018427387904 := by
  rw [look_ranksL]
  unfold rankO
  by_cases hp : p ∈ ms
  · obtain ⟨h1, h2, -⟩ := atIx_get hp
    rw [if_neg (by omega)]
    show 0 ≤ atIx ms p ∧ atIx ms p < 4611686018427387904
    omega
  · rw [if_pos (atIx_neg hp)]
    exact ⟨by decide, by decide⟩
/-- a row of an earlier world is no block of a later one -/
theorem PidRow.far {w : World} {a : Option Addr} {l : List Pid} (h : PidRow w a l) {s : Nat} (hs : w.heap.size ≤ s) : ∀ b off, a = some ⟨b, off, none⟩ → l ≠ [] → b ≠ s := by
  rintro b off rfl hl
  rcases h with rfl | ⟨b', off', e, hlt, -⟩
  · exact absurd rfl hl
  · cases e; omega
theorem placesF_len {ms l : List Pid} (hm : ms.length ≤ 1000) (hl : l.length ≤ 1000) : (placesF ms l).length ≤ 10010 := by
  unfold placesF
  have h1 := short_len10 (n := l.length) (by omega)
  have h2 := flat_rankS_len (S := ranksL ms) (rankS_bound hm) l
  rw [flat_rankS_F] at h2
  rw [List.length_append]; omega
theorem flat_places_len {ms : List Pid} (hm : ms.length ≤ 1000) : ∀ (ls : List (List Pid)), (∀ l ∈ ls, l.length ≤ 1000) → (ls.flatMap (placesF ms)).length ≤ ls.length * 10010
  | [], _ => by simp
  | l :: ls, h => by
    have h1 := flat_places_len hm ls (fun x hx => h x (by simp [hx]))
    have h2 := placesF_len hm (h l (by simp))
    rw [List.flatMap_cons, List.length_append, List.length_cons]; omega
theorem take_places {ms : List Pid} {ls : List (List Pid)} {k : Nat} (h : k < ls.length) {l : List Pid} (hl : l = ls[k]) : (ls.take (k + 1)).flatMap (placesF ms) = (ls.take k).flatMap (placesF ms) ++ placesF ms l := by
  rw [List.take_succ_eq_append_getElem h, List.flatMap_append, hl]; simp
theorem putC_F {s g1 g2 r : Nat} {v : Value} {bs : List Nat} {ms : List Pid} {a : Option Addr} {c : Nat} {l : List Pid} {w w0 : World} (hW : WrIs w s v bs) (hl : bs.length ≤ 34359738368) (hnl : l.length ≤ 1000) (hm : ms.length ≤ 1000) (hrow : PidRow w0 a l) (h0 : Below w0.heap.size w0 w) (hs0 : w0.heap.size ≤ s)
    (hp1 : w.cell? ⟨g1, 0, none⟩ = some (.pointer (some ⟨s, 0, none⟩))) (hp2 : w.cell? ⟨g2, 0, none⟩ = some (.map (some r))) (hM : MapIs w r pidV eI (ranksL ms)) (h1 : g1 ≠ s) (h2 : g2 ≠ s) (hr : r ≠ s) :
    Calls Tryd.prog 72 #[.slice a l.length c, .pointer (some ⟨g1, 0, none⟩), .pointer (some ⟨g2, 0, none⟩)] w fun e w' => e = .returned (.tuple #[]) ∧ ∃ v', Wrote w w' s v' (bs ++ placesF ms l) := by
  have := putC_any (c := c) hW hl (hid rfl) (by omega) (rankS_bound hm) (hrow.ext h0) (hrow.far hs0) hp1 hp2 hM h1 h2 hr
  rw [flat_rankS_F] at this
  exact this
end Go.Proofs.YtppapeoainafbaaDoor

namespace Go.Proofs.YtppapeoainafbaaDoor
open Go.RowKit

/-! ### view.Put, where the view may be -/
theorem Wrote.step {w w1 w2 : World} {s : Nat} {v1 v2 : Value} {b1 b2 : List Nat} (h : Wrote w w1 s v1 b1) (h2 : Wrote w1 w2 s v2 b2) : Wrote w w2 s v2 b2 := h.trans (Below.refl _ _) h2
theorem ranks_is {V : View} {am al ad : Option Addr} {cm cl cd : Nat} {w : World} (hV : ViewR w am al ad V) :
   Calls Tryd.prog 71 #[.agg #[.int .u64 V.id, .slice am V.ms.length cm, .slice al V.ls.length cl, .slice ad V.ds.length cd]] w fun e w' => ∃ r, e = .returned (.map (some r)) ∧ w.heap.size ≤ r ∧ Below w.heap.size w w' ∧ MapIs w' r pidV eI (ranksL V.ms) := ranks_any V am al ad cm cl cd w hV

theorem Wrote.pre {w w1 w2 : World} {s : Nat} {v : Value} {bs : List Nat} (hb : Below w.heap.size w w1) (h : Wrote w1 w2 s v bs) : Wrote w w2 s v bs :=
  ⟨h.wr, h.own.mono hb.size, (Mut.of_below hb).trans h.mt⟩
/-- what the rest of view.Put leans on -/
structure PutS (w0 W : World) (s g1 g2 r b i : Nat) (V : View) (am al ad : Option Addr) (cm cl cd : Nat) : Prop where
  c1 : W.cell? ⟨g1, 0, none⟩ = some (.pointer (some ⟨s, 0, none⟩))
  c2 : W.cell? ⟨g2, 0, none⟩ = some (.map (some r))
  y0 : W.cell? ⟨b, 0, none⟩ = some (.int .u64 i)
  y1 : W.cell? ⟨b, 1, none⟩ = some (.slice am V.ms.length cm)
  y2 : W.cell? ⟨b, 2, none⟩ = some (.slice al V.ls.length cl)
  y3 : W.cell? ⟨b, 3, none⟩ = some (.slice ad V.ds.length cd)
  M : MapIs W r pidV eI (ranksL V.ms)
  n1 : g1 ≠ s
  n2 : g2 ≠ s
  nr : r ≠ s
  nb : b ≠ s
  b0 : Below w0.heap.size w0 W
  hs : w0.heap.size ≤ s
theorem PutS.mut {w0 W W' : World} {s g1 g2 r b i : Nat} {V : View} {am al ad : Option Addr} {cm cl cd : Nat} (h : PutS w0 W s g1 g2 r b i V am al ad cm cl cd) (hm : Mut (fun k => k = s) W W') : PutS w0 W' s g1 g2 r b i V am al ad cm cl cd :=
  ⟨cell_mut h.c1 hm h.n1, cell_mut h.c2 hm h.n2, cell_mut h.y0 hm h.nb, cell_mut h.y1 hm h.nb, cell_mut h.y2 hm h.nb, cell_mut h.y3 hm h.nb, h.M.same (hm.block r h.M.lt h.nr), h.n1, h.n2, h.nr, h.nb, h.b0.trans (hm.below h.b0.size (fun _k e => e ▸ h.hs)), h.hs⟩

set_option maxRecDepth 100000 in
set_option maxHeartbeats 6400000 in
theorem viewPut_any {s : Nat} {v : Value} {bs : List Nat} {V : View} {i : Nat} {am al ad : Option Addr} {cm cl cd : Nat} {w0 w : World} (hi : V.id = (i : Int)) (hi64 : i < 18446744073709551616) (hW : WrIs w s v bs) (hl : bs.length ≤ 1000000)
    (hV : ViewR w0 am al ad V) (h0 : Below w0.heap.size w0 w) (hs0 : w0.heap.size ≤ s) (hok : ∀ p ∈ V.ms, okP p) (hlm : V.ms.length ≤ 1000) (hll : V.ls.length ≤ 1000) (hld : V.ds.length ≤ 1000) (hle : ∀ l ∈ V.ls, l.length ≤ 1000) (hsum : lens V.ls ≤ 549755813888) (hc : checkB V = true) :
   Calls Tryd.prog 40 #[.pointer (some ⟨s, 0, none⟩), .agg #[.int .u64 i, .slice am V.ms.length cm, .slice al V.ls.length cl, .slice ad V.ds.length cd]] w fun e w' => e = .returned (.tuple #[]) ∧ ∃ v', Wrote w w' s v' (bs ++ viewF V) := by
  have hs := hW.lt
  obtain ⟨W2, hW2⟩ : ∃ W2, ((w.alloc (.cells #[.pointer (some ⟨s, 0, none⟩)] 58)).alloc (.cells #[.int .u64 i, .slice am V.ms.length cm, .slice al V.ls.length cl, .slice ad V.ds.length cd] 39)) = W2 := ⟨_, rfl⟩
  have hB2 : Below w.heap.size w W2 := by rw [← hW2]; exact ((Below.refl _ _).alloc (Nat.le_refl _) _).alloc (by simp) _
  have xg : W2.cell? ⟨w.heap.size, 0, none⟩ = some (.pointer (some ⟨s, 0, none⟩)) := by rw [← hW2]; simp
  have xv : ViewBox W2 (w.heap.size + 1) V am al ad cm cl cd := by
    rw [← hW2]
    have := ViewBox.made (V := V) (am := am) (al := al) (ad := ad) (cm := cm) (cl := cl) (cd := cd) (w.alloc (.cells #[.pointer (some ⟨s, 0, none⟩)] 58))
    rw [hi] at this
    simpa using this
  have hz2 : W2.heap.size = w.heap.size + 1 + 1 := by rw [← hW2]; simp
  have hb2 : Below w0.heap.size w0 W2 := h0.trans (hB2.mono h0.size)
  have HB02 := hid hb2
  have hV2 : ViewR W2 am al ad V := hV.ext hb2
  have HC := hid hc
  have CK : Hid (Calls Tryd.prog 44 #[.agg #[.int .u64 i, .slice am V.ms.length cm, .slice al V.ls.length cl, .slice ad V.ds.length cd]] W2 fun e w' => e = .returned (.int .i64 0) ∧ Below W2.heap.size W2 w') := hid (by
    have := check_is (k := 0) (cm := cm) (cl := cl) (cd := cd) HC rfl hV2 hsum
    rw [hi] at this; exact this)
  have CR : Hid (∀ W, Below W2.heap.size W2 W → Calls Tryd.prog 71 #[.agg #[.int .u64 i, .slice am V.ms.length cm, .slice al V.ls.length cl, .slice ad V.ds.length cd]] W fun e w' => ∃ r, e = .returned (.map (some r)) ∧ W.heap.size ≤ r ∧ Below W.heap.size W w' ∧ MapIs w' r pidV eI (ranksL V.ms)) := hid (fun W h => by
    have := ranks_is (cm := cm) (cl := cl) (cd := cd) (hV2.ext h)
    rw [hi] at this; exact this)
  have HB2 := hid hB2
  have HXV := hid xv
  have HZ2 := hid hz2
  have HV := hid hV
  have H0 := hid h0
  have HWR := hid hW
  have HOK := hid hok
  have ewl : IntKind.u64.wrap ((V.ls.length : Nat) : Int) = ((V.ls.length : Nat) : Int) := by rw [IntKind.wrap_u64]; omega
  obtain ⟨y0, y1, y2, y3⟩ := id xv
  rw [hi] at y0
  have HXG := hid xg
  have HS := hid hs
  have HS0 := hid hs0
  have HLE := hid hle
  have HI := hid hi
  clear hc hV2 hB2 xv hz2 hV h0 hW hok xg hs0 hle hsum hs hb2 hi
  go_enter Tryd.func40, Tryd.ntmps40
  go_wp2_with fail
  (with_reducible refine CK.out.mono ?_)
  rintro e w3 ⟨rfl, hb3⟩
  have z0 := cell_toB y0 hb3
  have z1 := cell_toB y1 hb3
  have z2 := cell_toB y2 hb3
  have z3 := cell_toB y3 hb3
  clear y0 y1 y2 y3
  go_wp2_with fail
  (with_reducible refine (CR.out _ hb3).mono ?_)
  rintro e w4 ⟨r, rfl, hr4, hb4, hM4⟩
  clear z0 z1 z2 z3 hW2
  obtain ⟨w5, hw5⟩ : ∃ w5, w4.alloc (.cells #[.map (some r)] 107) = w5 := ⟨_, rfl⟩
  have hb45 : Below w4.heap.size w4 w5 := by rw [← hw5]; exact (Below.refl _ _).alloc (Nat.le_refl _) _
  have hb25 : Below W2.heap.size W2 w5 := hb3.trans ((hb4.trans (hb45.mono hb4.size)).mono hb3.size)
  have hz := HZ2.out
  have hsw := HS.out
  have h34 := hb4.size
  have h23 := hb3.size
  obtain ⟨y0, y1, y2, y3⟩ := HXV.out.ext hb25 (by omega)
  rw [HI.out] at y0
  have P5 : PutS w0 w5 s w.heap.size w4.heap.size r (w.heap.size + 1) i V am al ad cm cl cd :=
    ⟨cell_toB HXG.out hb25, by rw [← hw5]; simp, y0, y1, y2, y3, hM4.ext hb45, by omega, by omega, by omega, by omega, HB02.out.trans (hb25.mono HB02.out.size), HS0.out⟩
  have hbw5 : Below w.heap.size w w5 := HB2.out.trans (hb25.mono HB2.out.size)
  have HBW5 := hid hbw5
  have P5' := hid P5
  have N1 := hid (wNum_any i (HWR.out.ext hbw5) (by omega) hi64)
  clear hb3 hb4 hM4 hr4 CK CR hb45 hb25 hz hsw h34 h23 hbw5
  generalize w.heap.size + 1 = b at y0 y1 y2 y3 P5 P5' ⊢
  generalize hg1 : w.heap.size = g1 at P5 P5' ⊢
  have x1 := P5.c1
  clear P5
  have hp1 := flat_pidF_len HOK.out
  have ln1 := short_len10 (n := i) (by omega)
  have ln2 := short_len10 (n := V.ms.length) (by omega)
  have ln3 := short_len10 (n := V.ls.length) (by omega)
  have hpl : (pidsF V.ms).length ≤ 20010 := by unfold pidsF; rw [List.length_append]; omega
  go_wp2_with fail
  refine N1.out.mono ?_
  rintro e w6 ⟨rfl, v6, hw6⟩
  have P6 := hid (P5'.out.mut hw6.mt)
  have N2 := hid (wPids_any (n := V.ms.length) (c := cm) hw6.wr (by rw [List.length_append]; omega) (hid rfl) (by omega) HOK.out (HV.out.ms.ext P6.out.b0) (HV.out.ms.far HS0.out))
  have HW6 := hid hw6
  clear hw6 N1 y0 y1 y2 y3 x1 hw5
  have x1 := P6.out.c1
  have y1 := P6.out.y1
  go_wp2_with fail
  refine N2.out.mono ?_
  rintro e w7 ⟨rfl, v7, hw7⟩
  have P7 := hid (P6.out.mut hw7.mt)
  have N3 := hid (wNum_any V.ls.length hw7.wr (by simp only [List.length_append]; omega) (by omega))
  have HW7 := hid (HW6.out.step hw7)
  clear hw7 N2 x1 y1 P6 HW6
  have x1 := P7.out.c1
  have y2 := P7.out.y2
  go_wp2_with fail
  refine N3.out.mono ?_
  rintro e w8 ⟨rfl, v8, hw8⟩
  have P8 := hid (P7.out.mut hw8.mt)
  have HW8 := hid (HW7.out.step hw8)
  clear hw8 N3 x1 y2 P7 HW7
  have y2 := P8.out.y2
  have y3 := P8.out.y3
  obtain ⟨B, hB⟩ : ∃ B, ((bs ++ short i) ++ pidsF V.ms) ++ short V.ls.length = B := ⟨_, rfl⟩
  have hBl : B.length ≤ 1100000 := by rw [← hB]; simp only [List.length_append]; omega
  have hfl := flat_places_len (ms := V.ms) (by omega) V.ls HLE.out
  have HE : Hid (bs ++ viewF V = (B ++ V.ls.flatMap (placesF V.ms)) ++ placesF V.ms V.ds) := hid (by
    unfold viewF; rw [← hB, HI.out]; simp)
  rw [hB] at HW8
  have HTL : Hid (∀ k, (B ++ (V.ls.take k).flatMap (placesF V.ms)).length ≤ 34359738368) := hid (fun k => by
    have h1 := flat_places_len (ms := V.ms) (by omega) (V.ls.take k) (fun l hl => HLE.out l (List.mem_of_mem_take hl))
    rw [List.length_take] at h1
    rw [List.length_append]
    omega)
  clear hB hp1 hpl ln1 ln2 ln3 hfl ewl
  generalize hg2 : w4.heap.size = g2 at P8 P5' ⊢
  clear hg2
  go_wp2_with fail
  go_loopw [31] (fun i wr => ∃ (k : Nat) (vk : Value), k ≤ V.ls.length ∧ i = .int .i64 k ∧ Hid (Wrote w5 wr s vk (B ++ (V.ls.take k).flatMap (placesF V.ms)))) (fun i _ => V.ls.length - (intOf i).toNat)
  case atStart => exact ⟨0, v8, Nat.zero_le _, rfl, hid (by simpa using HW8.out)⟩
  case round =>
    obtain ⟨k, vk, hk, rfl, hWk⟩ := hrel
    have Pr := hid (P5'.out.mut hWk.out.mt)
    by_cases hlt : k < V.ls.length
    · have hlt' : decide (k < V.ls.length) = true := by simpa using hlt
      obtain ⟨bl, ofl, ai, ci, l, rfl, hx, f1, f2⟩ := HV.out.ls.at (Below.refl _ _) rfl hlt
      have d1 := cell_toB f1 Pr.out.b0
      have hll1 : l.length ≤ 1000 := HLE.out l (by rw [hx]; exact List.getElem_mem _)
      have HT : Hid (B ++ (V.ls.take (k + 1)).flatMap (placesF V.ms) = (B ++ (V.ls.take k).flatMap (placesF V.ms)) ++ placesF V.ms l) := hid (by rw [take_places hlt hx]; simp)
      have C2 : Hid (Calls Tryd.prog 72 #[.slice ai l.length ci, .pointer (some ⟨g1, 0, none⟩), .pointer (some ⟨g2, 0, none⟩)] wr fun e w' => e = .returned (.tuple #[]) ∧ ∃ v', Wrote wr w' s v' (B ++ (V.ls.take (k + 1)).flatMap (placesF V.ms))) := hid (by
        rw [HT.out]
        exact putC_F hWk.out.wr (HTL.out k) hll1 hlm f2 Pr.out.b0 HS0.out Pr.out.c1 Pr.out.c2 Pr.out.M Pr.out.n1 Pr.out.n2 Pr.out.nr)
      clear hx f1 f2 y2 y3
      go_wp2_with (go_at_call 72; (with_reducible refine C2.out.mono ?_); rintro e w9 ⟨rfl, v9, hw9⟩; have hw10 := hid (hWk.out.step hw9); clear hw9)
      go_roundw
      case rel => exact ⟨k + 1, v9, by omega, by go_num, hw10⟩
      case measure => simp [intOf]; omega
    · have hlt' : decide (k < V.ls.length) = false := by simpa using hlt
      have hend := hWk.out
      rw [List.take_of_length_le (by omega)] at hend
      have hH := HTL.out k
      rw [List.take_of_length_le (by omega)] at hH
      have C3 : Hid (Calls Tryd.prog 72 #[.slice ad V.ds.length cd, .pointer (some ⟨g1, 0, none⟩), .pointer (some ⟨g2, 0, none⟩)] wr fun e w' => e = .returned (.tuple #[]) ∧ ∃ v', Wrote wr w' s v' (bs ++ viewF V)) := hid (by
        rw [HE.out]
        exact putC_F hend.wr hH hld hlm HV.out.ds (Pr.out.b0) HS0.out Pr.out.c1 Pr.out.c2 Pr.out.M Pr.out.n1 Pr.out.n2 Pr.out.nr)
      have HEND := hid hend
      have d3 := Pr.out.y3
      clear hend y2 y3 hH
      go_wp2_with (go_at_call 72; (with_reducible refine C3.out.mono ?_); rintro e w9 ⟨rfl, v9, hw9⟩)
      exact bodyPost_end (results_none rfl _ _ _) rfl ⟨rfl, _, (HEND.out.step hw9).pre HBW5.out⟩
end Go.Proofs.YtppapeoainafbaaDoor

namespace Go.Proofs.YtppapeoainafbaaDoor
open Go.RowKit

/-! ### what a view that may be is bounded by; great of a command -/
theorem laid_of_check {V : View} (hw : WfPids V.ms) (h : checkB V = true) : Laid V := by
  unfold checkB at h
  simp only [Bool.and_eq_true, decide_eq_true_eq, chkFrom_iff, chkEnd, ris_same, List.nil_append, Nat.zero_add] at h
  obtain ⟨a, b, c, d, e, f, g, h, i⟩ := h
  have hl := lens_flatten V.ls
  unfold membersB at c
  rw [memFrom_iff] at c
  have hls := lens_ge (fun l hl => (d l hl).1)
  have hc := c.1.2
  refine ⟨by omega, b, hw, hc, by omega, fun l hl => ⟨risR_mem (d l hl).2, ?_⟩, ⟨risR_mem i, ?_⟩⟩
  · have := nodup_len (risR_nodup (d l hl).2) (risR_mem (d l hl).2); omega
  · have := nodup_len (risR_nodup i) (risR_mem i); omega
theorem lens_leC {n : Nat} : ∀ {ls : List (List Pid)}, (∀ l ∈ ls, l.length ≤ n) → lens ls ≤ ls.length * n
  | [], _ => by simp [lens]
  | l :: ls, h => by
    have h1 := h l (by simp)
    have h2 := lens_leC (ls := ls) (fun x hx => h x (by simp [hx]))
    simp only [lens, List.map_cons, List.sum_cons, List.length_cons] at *
    rw [Nat.add_mul]; omega
theorem great_noC {V : View} (h : greatB V = false) : V.ms.length ≤ 40 ∧ V.ls.length ≤ 40 ∧ V.ds.length ≤ 40 ∧ (∀ l ∈ V.ls, l.length ≤ 40) ∧ lens V.ls ≤ 1600 := by
  unfold greatB at h
  simp only [Bool.or_eq_false_iff, decide_eq_false_iff_not, List.any_eq_false] at h
  obtain ⟨a, b, c, d⟩ := h
  have d' : ∀ l ∈ V.ls, l.length ≤ 40 := fun l hl => by have := d l hl; simp at this; omega
  have := lens_leC d'
  exact ⟨by omega, by omega, by omega, d', by omega⟩
def greatC (A : CmdD) : Bool := decide (400 < A.data.length) || greatB A.v
set_option maxRecDepth 100000 in
set_option maxHeartbeats 1600000 in
theorem cmdGreat_any {A : CmdD} {da am al ad : Option Addr} {dc cm cl cd : Nat} {w : World} (hV : ViewR w am al ad A.v) :
   Calls Tryd.prog 10 #[.agg (cmdL da am al ad dc cm cl cd A)] w fun e w' => e = .returned (.bool (greatC A)) ∧ Below w.heap.size w w' := by
  have xA : CmdBox (w.alloc (.cells (cmdL da am al ad dc cm cl cd A) 41)) w.heap.size A da am al ad dc cm cl cd := CmdBox.made (c := A) w
  have hB1 : Below w.heap.size w (w.alloc (.cells (cmdL da am al ad dc cm cl cd A) 41)) := (Below.refl _ _).alloc (Nat.le_refl _) _
  have hl : ∀ (x : CmdD) (da am al ad : Option Addr) (dc cm cl cd : Nat), cmdL da am al ad dc cm cl cd x = #[.int .i64 x.kind, .int .u16 x.fr.1, .int .u32 x.fr.2, .int .u64 x.num, .int .u64 x.vw, .slice da x.data.length dc, .int .u64 x.v.id, .slice am x.v.ms.length cm, .slice al x.v.ls.length cl, .slice ad x.v.ds.length cd] := fun _ _ _ _ _ _ _ _ _ => rfl
  simp only [hl] at *
  have hV1 := hV.ext hB1
  obtain ⟨a0, a1, a2, a3, a4, a5, a6, a7, a8, a9⟩ := id xA
  obtain ⟨r, hr⟩ : ∃ r, greatB A.v = r := ⟨_, rfl⟩
  have HR := hid hr
  by_cases h : 400 < A.data.length
  · have hd : decide ((A.data.length : Int) > 400) = true := by simp; omega
    have hd' : decide ((400 : Int) < (A.data.length : Int)) = true := by simp; omega
    have HC : Hid (greatC A = true) := hid (by unfold greatC; rw [decide_eq_true h]; rfl)
    clear h
    go_enter Tryd.func10, Tryd.ntmps10
    go_wp2
    go_ret
    exact ⟨by rw [HC.out]; rfl, hB1⟩
  · have hd : decide ((A.data.length : Int) > 400) = false := by simp; omega
    have hd' : decide ((400 : Int) < (A.data.length : Int)) = false := by simp; omega
    have HC : Hid (greatC A = r) := hid (by unfold greatC; rw [decide_eq_false h, hr]; rfl)
    clear h hr
    go_enter Tryd.func10, Tryd.ntmps10
    go_wp2_with (go_at_call 22; (with_reducible refine (great_is HR hV1).mono ?_); rintro e w3 ⟨rfl, hb3⟩)
    go_ret
    exact ⟨by rw [HC.out]; rfl, hB1.trans (hb3.mono hB1.size)⟩
theorem cmdGreat_is {A : CmdD} {da am al ad : Option Addr} {dc cm cl cd : Nat} {w : World} {r : Bool} (h : Hid (greatC A = r)) (hV : ViewR w am al ad A.v) :
   Calls Tryd.prog 10 #[.agg (cmdL da am al ad dc cm cl cd A)] w fun e w' => e = .returned (.bool r) ∧ Below w.heap.size w w' := by
  have := cmdGreat_any (da := da) (dc := dc) (cm := cm) (cl := cl) (cd := cd) hV
  rw [h.out] at this; exact this
theorem greatC_no {A : CmdD} (h : greatC A = false) : A.data.length ≤ 400 ∧ lens A.v.ls ≤ 1600 := by
  unfold greatC at h
  simp only [Bool.or_eq_false_iff, decide_eq_false_iff_not] at h
  exact ⟨by omega, (great_noC h.2).2.2.2.2⟩
end Go.Proofs.YtppapeoainafbaaDoor

namespace Go.Proofs.YtppapeoainafbaaDoor
open Go.RowKit

/-! ### cmd.Put, where the command may be -/
theorem CmdBox.mutT {w w' : World} {b s : Nat} {c : CmdD} {da am al ad : Option Addr} {dc cm cl cd : Nat} (h : CmdBox w b c da am al ad dc cm cl cd) (hm : Mut (fun k => k = s) w w') (hb : b ≠ s) : CmdBox w' b c da am al ad dc cm cl cd :=
  ⟨cell_mut h.c0 hm hb, cell_mut h.c1 hm hb, cell_mut h.c2 hm hb, cell_mut h.c3 hm hb, cell_mut h.c4 hm hb, cell_mut h.c5 hm hb, cell_mut h.c6 hm hb, cell_mut h.c7 hm hb, cell_mut h.c8 hm hb, cell_mut h.c9 hm hb⟩
theorem cmdCheck_is {A : CmdD} {da am al ad : Option Addr} {dc cm cl cd : Nat} {w : World} {r : Int} (h : Hid ((cmdChk A : Int) = r)) (hA : CmdR w da am al ad A) (hsum : lens A.v.ls ≤ 549755813888) (hwf : WfPids A.v.ms) (hfr : okP A.fr) :
   Calls Tryd.prog 26 #[.agg (cmdL da am al ad dc cm cl cd A)] w fun e w' => e = .returned (.int .i64 r) ∧ Below w.heap.size w w' := by
  have := cmdCheck_any (dc := dc) (cm := cm) (cl := cl) (cd := cd) hA hsum hwf hfr
  rw [h.out] at this; exact this
theorem cmdF_1 {A : CmdD} (h : A.kind = 1) : cmdF A = short 1 := by
  unfold cmdF; rw [if_neg (by omega), if_neg (by omega), h]; simp
theorem cmdF_2 {A : CmdD} {x y : Nat} (h : A.kind = 2) (hf : A.fr = ((x : Int), (y : Int))) : cmdF A = short 2 ++ ((short x ++ short y) ++ (short A.num ++ (short A.vw ++ (short A.data.length ++ A.data)))) := by
  unfold cmdF; rw [if_pos h, h, hf, pidF_nat]; rfl
theorem cmdF_3 {A : CmdD} (h : A.kind = 3) : cmdF A = short 3 ++ viewF A.v := by
  unfold cmdF; rw [if_neg (by omega), if_pos h, h]; rfl
theorem cmdChk_kinds {A : CmdD} (h : cmdChk A = 0) : A.kind = 1 ∨ (A.kind = 2 ∧ A.num < 18446744073709551616 ∧ A.vw < 18446744073709551616 ∧ A.data.length ≤ 200) ∨ (A.kind = 3 ∧ refCheckB A.v = true) := by
  unfold cmdChk at h
  split at h
  · next h1 => exact .inl h1
  · split at h
    · next h2 =>
      split at h
      · next g =>
        obtain ⟨-, g2, g3, -⟩ := g
        unfold cntB at g2 g3
        simp only [Bool.and_eq_true, decide_eq_true_eq] at g2 g3
        split at h
        · cases h
        · exact .inr (.inl ⟨h2, by omega, by omega, by omega⟩)
      · cases h
    · split at h
      · next h3 =>
        split at h
        · next g => exact .inr (.inr ⟨h3, g.2.2.2.2⟩)
        · cases h
      · cases h
theorem ByteRow.far {w : World} {a : Option Addr} {l : List Nat} (h : ByteRow w a l) {s : Nat} (hs : w.heap.size ≤ s) : ∀ b off, a = some ⟨b, off, none⟩ → l ≠ [] → b ≠ s := by
  rintro b off rfl hl
  rcases h with rfl | ⟨b', off', e, hlt, -⟩
  · exact absurd rfl hl
  · cases e; omega
theorem wNum_z {s : Nat} {v : Value} {bs : List Nat} {w : World} (m : Nat) {z : Int} (hz : z = (m : Int)) (hW : WrIs w s v bs) (hl : bs.length ≤ 137438953472) (hm : m < 18446744073709551616) :
    Calls Tryd.prog 37 #[.pointer (some ⟨s, 0, none⟩), .int .u64 z] w fun e w' => e = .returned (.tuple #[]) ∧ ∃ v', Wrote w w' s v' (bs ++ short m) := by
  subst hz; exact wNum_any m hW hl hm
theorem below_mut {w0 W W' : World} {s : Nat} (h : Below w0.heap.size w0 W) (hm : Mut (fun k => k = s) W W') (hs : w0.heap.size ≤ s) : Below w0.heap.size w0 W' :=
  h.trans (hm.below h.size (fun _k e => e ▸ hs))

set_option maxRecDepth 100000 in
set_option maxHeartbeats 6400000 in
theorem cmdPut_any {s : Nat} {v : Value} {bs : List Nat} {A : CmdD} {da am al ad : Option Addr} {dc cm cl cd : Nat} {w0 w : World} (hW : WrIs w s v bs) (hbl : bs.length ≤ 900000)
    (hdr : ByteRow w da A.data) (hdb : ∀ b ∈ A.data, b < 256) (hdl : A.data.length ≤ 400) (hdne : ∀ b off, da = some ⟨b, off, none⟩ → A.data ≠ [] → b ≠ s)
    (hV : ViewR w0 am al ad A.v) (h0 : Below w0.heap.size w0 w) (hs0 : w0.heap.size ≤ s) (hfr : okP A.fr) (hwf : WfPids A.v.ms) (hid64 : 0 ≤ A.v.id ∧ A.v.id < 18446744073709551616) (hsum : lens A.v.ls ≤ 549755813888) (hc : cmdChk A = 0) :
   Calls Tryd.prog 23 #[.pointer (some ⟨s, 0, none⟩), .agg (cmdL da am al ad dc cm cl cd A)] w fun e w' => e = .returned (.tuple #[]) ∧ ∃ v', Wrote w w' s v' (bs ++ cmdF A) := by
  have hB1 : Below w.heap.size w (w.alloc (.cells (cmdL da am al ad dc cm cl cd A) 41)) := (Below.refl _ _).alloc (Nat.le_refl _) _
  have hb01 : Below w0.heap.size w0 (w.alloc (.cells (cmdL da am al ad dc cm cl cd A) 41)) := h0.trans (hB1.mono h0.size)
  have hdr1 := hdr.ext hB1
  have CK : Hid (Calls Tryd.prog 26 #[.agg (cmdL da am al ad dc cm cl cd A)] (w.alloc (.cells (cmdL da am al ad dc cm cl cd A) 41)) fun e w' => e = .returned (.int .i64 0) ∧ Below (w.alloc (.cells (cmdL da am al ad dc cm cl cd A) 41)).heap.size (w.alloc (.cells (cmdL da am al ad dc cm cl cd A) 41)) w') :=
    hid (cmdCheck_is (hid (by rw [hc]; rfl)) ⟨hdr1, by omega, hdb, hV.ext hb01⟩ hsum hwf hfr)
  have hs := hW.lt
  have hns : w.heap.size ≠ s := by omega
  have HX := hid hW
  have XA : Hid (CmdBox (w.alloc (.cells (cmdL da am al ad dc cm cl cd A) 41)) w.heap.size A da am al ad dc cm cl cd) := hid (CmdBox.made (c := A) w)
  have hl : ∀ (x : CmdD) (da am al ad : Option Addr) (dc cm cl cd : Nat), cmdL da am al ad dc cm cl cd x = #[.int .i64 x.kind, .int .u16 x.fr.1, .int .u32 x.fr.2, .int .u64 x.num, .int .u64 x.vw, .slice da x.data.length dc, .int .u64 x.v.id, .slice am x.v.ms.length cm, .slice al x.v.ls.length cl, .slice ad x.v.ds.length cd] := fun _ _ _ _ _ _ _ _ _ => rfl
  obtain ⟨CL, hCL⟩ : ∃ CL, cmdL da am al ad dc cm cl cd A = CL := ⟨_, rfl⟩
  rw [hCL] at CK XA hB1 hb01 ⊢
  rw [hl] at hCL
  have hHW := hW.ext hB1
  obtain ⟨a0, a1, a2, a3, a4, a5, a6, a7, a8, a9⟩ := id XA.out
  have HDR := hid hdr
  have HNE := hid hdne
  have HV := hid hV
  have H0 := hid h0
  have HS0 := hid hs0
  have HWF := hid hwf
  rcases cmdChk_kinds hc with hk | ⟨hk, hnum, hvw, hdl2⟩ | ⟨hk, hrc⟩
  · have HF := hid (cmdF_1 hk)
    have HK := hid hk
    rw [hk] at a0 hCL
    subst hCL
    have e1 : IntKind.u64.wrap (1 : Int) = 1 := by decide
    clear hc hk hW h0 hs0 hdr hdr1 hdb hdne hV hfr hwf hsum hl
    go_enter Tryd.func23, Tryd.ntmps23
    go_wp2_with fail
    (with_reducible refine CK.out.mono ?_)
    rintro e w3 ⟨rfl, hb3⟩
    have X3 := hid (XA.out.ext hb3 XA.out.lt)
    have c0 := X3.out.c0
    rw [HK.out] at c0
    have N1 := hid (wNum_z 1 (z := 1) rfl (hHW.ext hb3) (by omega) (by decide))
    have HB3 := hid (hB1.trans (hb3.mono hB1.size))
    clear a0 a1 a2 a3 a4 a5 a6 a7 a8 a9 CK hB1 hb01 XA hHW hb3
    go_wp2_with fail
    refine N1.out.mono ?_
    rintro e w4 ⟨rfl, v4, hw4⟩
    have X4 := hid (X3.out.mutT hw4.mt hns)
    have HW4 := hid hw4
    clear c0 hw4 N1 X3
    have c0 := X4.out.c0
    rw [HK.out] at c0
    go_wp2
    exact bodyPost_end (results_none rfl _ _ _) rfl ⟨rfl, v4, by rw [HF.out]; exact HW4.out.pre HB3.out⟩
  · obtain ⟨x, y, hx, hy, hx2, hy2⟩ := nat_pid (x := A.fr.1) (y := A.fr.2) hfr
    have HF := hid (cmdF_2 (x := x) (y := y) hk (by rw [← hx, ← hy]))
    have HK := hid hk
    have HX1 := hid hx
    have HY1 := hid hy
    rw [hk] at a0 hCL
    subst hCL
    have e1 : IntKind.u64.wrap (2 : Int) = 2 := by decide
    have ln0 := short_len10 (n := 2) (by decide)
    have ln1 := short_len10 (n := x) (by omega)
    have ln2 := short_len10 (n := y) (by omega)
    have ln3 := short_len10 (n := A.num) (by omega)
    have ln4 := short_len10 (n := A.vw) (by omega)
    clear hc hk hW h0 hs0 hdr hdr1 hdb hdne hV hfr hwf hsum hl hx hy
    go_enter Tryd.func23, Tryd.ntmps23
    go_wp2_with fail
    (with_reducible refine CK.out.mono ?_)
    rintro e w3 ⟨rfl, hb3⟩
    have X3 := hid (XA.out.ext hb3 XA.out.lt)
    have c0 := X3.out.c0
    rw [HK.out] at c0
    have N1 := hid (wNum_z 2 (z := 2) rfl (hHW.ext hb3) (by omega) (by decide))
    have HB3 := hid (hB1.trans (hb3.mono hB1.size))
    clear a0 a1 a2 a3 a4 a5 a6 a7 a8 a9 CK hB1 hb01 XA hHW hb3
    go_wp2_with fail
    refine N1.out.mono ?_
    rintro e w4 ⟨rfl, v4, hw4⟩
    have X4 := hid (X3.out.mutT hw4.mt hns)
    have HW4 := hid hw4
    clear c0 hw4 N1 X3
    have c0 := X4.out.c0
    rw [HK.out] at c0
    have c1 := X4.out.c1
    have c2 := X4.out.c2
    rw [HX1.out] at c1
    rw [HY1.out] at c2
    have N2 := hid (wPid_any x y HW4.out.wr (by simp only [List.length_append]; omega) hx2 hy2)
    go_wp2_with fail
    (with_reducible refine N2.out.mono ?_)
    rintro e w5 ⟨rfl, v5, hw5⟩
    have X5 := hid (X4.out.mutT hw5.mt hns)
    have HW5 := hid (HW4.out.step hw5)
    have N3 := hid (wNum_any A.num hw5.wr (by simp only [List.length_append]; omega) hnum)
    clear c0 c1 c2 N2 X4 hw5 HW4
    have c3 := X5.out.c3
    go_wp2_with fail
    (with_reducible refine N3.out.mono ?_)
    rintro e w6 ⟨rfl, v6, hw6⟩
    have X6 := hid (X5.out.mutT hw6.mt hns)
    have HW6 := hid (HW5.out.step hw6)
    have N4 := hid (wNum_any A.vw hw6.wr (by simp only [List.length_append]; omega) hvw)
    clear c3 N3 X5 hw6 HW5
    have c4 := X6.out.c4
    go_wp2_with fail
    (with_reducible refine N4.out.mono ?_)
    rintro e w7 ⟨rfl, v7, hw7⟩
    have X7 := hid (X6.out.mutT hw7.mt hns)
    have HW7 := hid (HW6.out.step hw7)
    have hr7 := (HDR.out.ext HB3.out).mutT (HW6.out.step hw7).mt (fun b off h1 h2 => HNE.out b off h1 h2)
    have N5 := hid (wBytes_any (c := dc) (n := A.data.length) hw7.wr (by simp only [List.length_append]; omega) (hid rfl) (by omega) hr7 HNE.out)
    clear c4 N4 X6 hw7 HW6 hr7
    have c5 := X7.out.c5
    go_wp2_with fail
    (with_reducible refine N5.out.mono ?_)
    rintro e w8 ⟨rfl, v8, hw8⟩
    have HW8 := hid ((HW7.out.step hw8).pre HB3.out)
    have HE : Hid (bs ++ cmdF A = (((bs ++ short 2) ++ (short x ++ short y)) ++ short A.num ++ short A.vw) ++ (short A.data.length ++ A.data)) := hid (by rw [HF.out]; simp)
    clear hw8 HW7 N5
    go_wp2
    exact bodyPost_end (results_none rfl _ _ _) rfl ⟨rfl, v8, by rw [HE.out]; exact HW8.out⟩
  · have HF := hid (cmdF_3 hk)
    have HK := hid hk
    rw [hk] at a0 hCL
    subst hCL
    have hcb : checkB A.v = true := (check_eq A.v hwf).trans hrc
    have HL := hid (laid_of_check hwf hcb)
    have HC := hid hcb
    obtain ⟨i, hi⟩ : ∃ i : Nat, A.v.id = (i : Int) := ⟨A.v.id.toNat, by omega⟩
    have hi64 : i < 18446744073709551616 := by omega
    have HI := hid hi
    have e1 : IntKind.u64.wrap (3 : Int) = 3 := by decide
    have ln0 := short_len10 (n := 3) (by decide)
    have HSUM := hid hsum
    clear hc hk hW h0 hs0 hdr hdr1 hdb hdne hV hfr hwf hsum hl hcb hrc hid64 hi
    go_enter Tryd.func23, Tryd.ntmps23
    go_wp2_with fail
    (with_reducible refine CK.out.mono ?_)
    rintro e w3 ⟨rfl, hb3⟩
    have X3 := hid (XA.out.ext hb3 XA.out.lt)
    have c0 := X3.out.c0
    rw [HK.out] at c0
    have N1 := hid (wNum_z 3 (z := 3) rfl (hHW.ext hb3) (by omega) (by decide))
    have HB3 := hid (hB1.trans (hb3.mono hB1.size))
    clear a0 a1 a2 a3 a4 a5 a6 a7 a8 a9 CK hB1 hb01 XA hHW hb3
    go_wp2_with fail
    refine N1.out.mono ?_
    rintro e w4 ⟨rfl, v4, hw4⟩
    have X4 := hid (X3.out.mutT hw4.mt hns)
    have HW4 := hid hw4
    clear c0 hw4 N1 X3
    have c0 := X4.out.c0
    rw [HK.out] at c0
    have c6 := X4.out.c6
    have c7 := X4.out.c7
    have c8 := X4.out.c8
    have c9 := X4.out.c9
    rw [HI.out] at c6
    have N2 := hid (viewPut_any (cm := cm) (cl := cl) (cd := cd) HI.out hi64 HW4.out.wr (by simp only [List.length_append]; omega) HV.out (below_mut (H0.out.trans (HB3.out.mono H0.out.size)) HW4.out.mt HS0.out) HS0.out HWF.out (by have := HL.out.lm; omega) (by have := HL.out.ll; omega) (by have := HL.out.ld.2; omega) (fun l hl => by have := (HL.out.le l hl).2; omega) HSUM.out HC.out)
    go_wp2_with fail
    (with_reducible refine N2.out.mono ?_)
    rintro e w5 ⟨rfl, v5, hw5⟩
    have HW5 := hid ((HW4.out.step hw5).pre HB3.out)
    have HE : Hid (bs ++ cmdF A = (bs ++ short 3) ++ viewF A.v) := hid (by rw [HF.out]; simp)
    clear hw5 HW4 N2
    go_wp2
    exact bodyPost_end (results_none rfl _ _ _) rfl ⟨rfl, v5, by rw [HE.out]; exact HW5.out⟩
theorem viewR_zero (w : World) : ViewR w none none none zeroV := ⟨.inl rfl, .inl rfl, .inl rfl, by simp [zeroV], by simp [zeroV], by simp [zeroV], by simp [zeroV]⟩
theorem cmdPut_0 {s : Nat} {v : Value} {bs : List Nat} {A : CmdD} {da : Option Addr} {dc cm cl cd : Nat} {w : World} (hW : WrIs w s v bs) (hbl : bs.length ≤ 900000)
    (hdr : ByteRow w da A.data) (hdb : ∀ b ∈ A.data, b < 256) (hdl : A.data.length ≤ 400) (hdne : ∀ b off, da = some ⟨b, off, none⟩ → A.data ≠ [] → b ≠ s) (hv : A.v = zeroV) (hfr : okP A.fr) (hc : cmdChk A = 0) :
   Calls Tryd.prog 23 #[.pointer (some ⟨s, 0, none⟩), .agg (cmdL da none none none dc cm cl cd A)] w fun e w' => e = .returned (.tuple #[]) ∧ ∃ v', Wrote w w' s v' (bs ++ cmdF A) :=
  cmdPut_any (w0 := { w with heap := #[] }) hW hbl hdr hdb hdl hdne (by rw [hv]; exact viewR_zero _) ⟨rfl, rfl, rfl, Nat.zero_le _, fun k hk => absurd hk (Nat.not_lt_zero _)⟩ (Nat.zero_le _) hfr (by rw [hv]; intro p hp; cases hp) (by rw [hv]; decide) (by rw [hv]; decide) hc
end Go.Proofs.YtppapeoainafbaaDoor

namespace Go.Proofs.YtppapeoainafbaaDoor
open Go.RowKit

/-! ### commands: awake -/
theorem OwnB.mutT {G : Nat → Prop} {w w' : World} {base : Nat} {v : Value} {xs : List Nat} (h : OwnB w base v xs) (hm : Mut G w w') (hG : ∀ k, G k → k < base) : OwnB w' base v xs := by
  refine ⟨h.1, ?_⟩
  rcases h.2 with hn | ⟨g, cap, cur, rfl, hbb, hgg, rest⟩
  · exact .inl hn
  · exact .inr ⟨g, cap, cur, rfl, hbb, (hm.block g (Array.getElem?_eq_some_iff.1 hgg).1 (fun hg => by have := hG g hg; omega)).trans hgg, rest⟩
/-- a writer stays where another one writes -/
theorem WrIs.mutT {w w' : World} {s t base : Nat} {v : Value} {bs : List Nat} (h : WrIs w s v bs) (hm : Mut (fun k => k = t) w w') (hst : s ≠ t) (hown : OwnB w base v bs) (hb : s + 1 ≤ base) (ht : t < base) : WrIs w' s v bs :=
  ⟨cell_mut h.c hm hst, (World.frozen?_of_block (w := w) (a := ⟨s, 0, none⟩) (hm.block s h.lt hst)).trans h.f, (hown.mutT hm (fun _k e => e ▸ ht)).mono hb⟩
theorem ByteRow.oneM (w : World) (x : Nat) (fr : Nat × Nat) : ByteRow (w.alloc (.cells #[.int .u8 x] 5 fr)) (some ⟨w.heap.size, 0, none⟩) [x] :=
  .inr ⟨w.heap.size, 0, rfl, by simp, fun i hi => by
    have : i = 0 := by simpa using hi
    subst this
    rw [World.cell?_alloc_mark]; rfl⟩
def exA1 : CmdD := ⟨1, (0, 0), 0, 0, [], zeroV⟩
def exA2 : CmdD := ⟨2, (1, 1), 2, 3, [97], zeroV⟩
theorem exF1 : cmdF exA1 = [1] := by
  rw [cmdF_1 rfl, short_lt (by decide)]
theorem exF2 : cmdF exA2 = [2, 1, 1, 2, 3, 1, 97] := by
  rw [cmdF_2 (x := 1) (y := 1) rfl rfl]
  show short 2 ++ ((short 1 ++ short 1) ++ (short 2 ++ (short 3 ++ (short 1 ++ [97])))) = _
  rw [short_lt (n := 2) (by decide), short_lt (n := 1) (by decide), short_lt (n := 3) (by decide)]; rfl
theorem exPut1 {w : World} : Calls Tryd.prog 23 #[.pointer (some ⟨w.heap.size, 0, none⟩), .agg #[.int .i64 1, .int .u16 0, .int .u32 0, .int .u64 0, .int .u64 0, .slice none 0 0, .int .u64 0, .slice none 0 0, .slice none 0 0, .slice none 0 0]] (w.alloc (.cells #[.slice none 0 0] 60)) fun e w' => e = .returned (.tuple #[]) ∧ ∃ v', Wrote (w.alloc (.cells #[.slice none 0 0] 60)) w' w.heap.size v' [1] := by
  have := cmdPut_any (A := exA1) (da := none) (dc := 0) (cm := 0) (cl := 0) (cd := 0) (WrIs.made w 60) (by simp) (.inl rfl) (by simp [exA1]) (by simp [exA1]) (by simp) (viewR_zero w) ((Below.refl _ _).alloc (Nat.le_refl _) _) (Nat.le_refl _) (by unfold okP exA1; decide) (by intro p hp; cases hp) (by decide) (by decide) (by decide)
  rw [exF1] at this
  exact this
theorem exPut2 {s g : Nat} {v : Value} {w : World} (hW : WrIs w s v [1]) (hr : ByteRow w (some ⟨g, 0, none⟩) [97]) (hg : g ≠ s) : Calls Tryd.prog 23 #[.pointer (some ⟨s, 0, none⟩), .agg #[.int .i64 2, .int .u16 1, .int .u32 1, .int .u64 2, .int .u64 3, .slice (some ⟨g, 0, none⟩) 1 1, .int .u64 0, .slice none 0 0, .slice none 0 0, .slice none 0 0]] w fun e w' => e = .returned (.tuple #[]) ∧ ∃ v', Wrote w w' s v' [1, 2, 1, 1, 2, 3, 1, 97] := by
  have := cmdPut_0 (A := exA2) (da := some ⟨g, 0, none⟩) (dc := 1) (cm := 0) (cl := 0) (cd := 0) hW (by simp) hr (by simp [exA2]) (by simp [exA2]) (by rintro b off e -; cases e; exact hg) rfl (by unfold okP exA2; decide) (by decide)
  rw [exF2] at this
  exact this
set_option maxRecDepth 100000 in
set_option maxHeartbeats 3200000 in
theorem awakeC_any (w : World) : Calls Tryd.prog 11 #[] w fun e w' => e = .returned (.bool true) ∧ Below w.heap.size w w' := by
  have hB1 : Below w.heap.size w (w.alloc (.cells #[.slice none 0 0] 60)) := (Below.refl _ _).alloc (Nat.le_refl _) _
  have P1 := hid (exPut1 (w := w))
  go_enter Tryd.func11, Tryd.ntmps11
  go_wp2_with fail
  refine P1.out.mono ?_
  rintro e w1 ⟨rfl, v1, hw1⟩
  have hs1 := hw1.mt.size
  have hg : w1.heap.size ≠ w.heap.size := by simp at hs1; omega
  have hq : Below w1.heap.size w1 (w1.alloc (.cells #[.int .u8 97] 5 (1, 2))) := (Below.refl _ _).alloc (Nat.le_refl _) _
  have P2 := hid (exPut2 (hw1.wr.ext hq) (ByteRow.oneM w1 97 _) hg)
  have hcv : (convert 35 35 (.slice (some ⟨w1.heap.size, 0, none⟩) 1 1)).run Tryd.prog (w1.alloc (.cells #[.int .u8 97] 5)) = .ok (.slice (some ⟨w1.heap.size, 0, none⟩) 1 1) (w1.alloc (.cells #[.int .u8 97] 5 (1, 2))) :=
    Go.Joins.run_convert_bytes_const_at w1 35 5 #[.int .u8 97] 1 1 w1.heap.size rfl Tryd.underlying35 Tryd.underlying5
  have HW1 := hid hw1
  clear hw1 hg
  go_wp2_with fail
  refine P2.out.mono ?_
  rintro e w2 ⟨rfl, v2, hw2⟩
  have hB2 : Below w.heap.size w w2 := by
    have h1 := HW1.out.mt
    have h2 := hw2.mt
    exact (hB1.trans (h1.below hB1.size (fun k e => by omega))).trans ((hq.mono (by simp at hs1; omega)).trans (h2.below (by have := hq.size; simp at hs1 ⊢; omega) (fun k e => by omega)))
  have D := hid (wDone_any hw2.wr (by simp))
  clear hw2 hq HW1
  go_wp2_with fail
  refine D.out.mono ?_
  rintro e w3 ⟨v3, rfl, hown3, hb3⟩
  obtain ⟨a3, c3, rfl, hr3, -⟩ := hown3.row
  have hq4 : Below w3.heap.size w3 (w3.alloc (.cells #[.int .u8 1, .int .u8 2, .int .u8 1, .int .u8 1, .int .u8 2, .int .u8 3, .int .u8 1, .int .u8 97] 5)) := (Below.refl _ _).alloc (Nat.le_refl _) _
  have hr4 : ByteRow (w3.alloc (.cells #[.int .u8 1, .int .u8 2, .int .u8 1, .int .u8 1, .int .u8 2, .int .u8 3, .int .u8 1, .int .u8 97] 5)) (some ⟨w3.heap.size, 0, none⟩) [1, 2, 1, 1, 2, 3, 1, 97] :=
    .inr ⟨w3.heap.size, 0, rfl, by simp, fun i hi => by
      simp only [List.length_cons, List.length_nil] at hi
      match i, hi with
      | 0, _ => simp
      | 1, _ => simp
      | 2, _ => simp
      | 3, _ => simp
      | 4, _ => simp
      | 5, _ => simp
      | 6, _ => simp
      | 7, _ => simp⟩
  have S := hid (sameB_is (ca := c3) (cb := 8) (n := 8) (m := 8) (bm := true) (hid (by simp)) (hid (by rfl)) (hid (by rfl)) (by omega) (by omega) (hr3.ext hq4) hr4)
  simp only [List.length_cons, List.length_nil, Nat.zero_add, Nat.reduceAdd]
  clear hown3
  go_wp2_with fail
  refine S.out.mono ?_
  rintro e w5 ⟨rfl, hb5⟩
  go_wp2
  go_ret
  exact ⟨rfl, hB2.trans ((hb3.trans ((hq4.trans (hb5.mono hq4.size)).mono hb3.size)).mono hB2.size)⟩
end Go.Proofs.YtppapeoainafbaaDoor

namespace Go.Proofs.YtppapeoainafbaaDoor
open Go.RowKit

/-! ### CmdApart -/
theorem cmdSameR_is {A B : CmdD} {da am al ad db bm bl bd : Option Addr} {dc cm cl cd ec em el ed : Nat} {w : World} {r : Bool} (h : Hid (sameC A B = r)) (hA : CmdR w da am al ad A) (hB : CmdR w db bm bl bd B) :
   Calls Tryd.prog 14 #[.agg (cmdL da am al ad dc cm cl cd A), .agg (cmdL db bm bl bd ec em el ed B)] w fun e w' => e = .returned (.bool r) ∧ Below w.heap.size w w' := by
  have := cmdSameR_any (dc := dc) (cm := cm) (cl := cl) (cd := cd) (ec := ec) (em := em) (el := el) (ed := ed) hA hB
  rw [h.out] at this; exact this
/-- a command as the row brings it -/
structure CmdIn (w : World) (da am al ad : Option Addr) (A : CmdD) : Prop where
  dr : ByteRow w da A.data
  db : ∀ b ∈ A.data, b < 256
  v : ViewR w am al ad A.v
  wf : WfView A.v
  fr : okP A.fr
  num : A.num < 18446744073709551616
  vw : A.vw < 18446744073709551616
theorem CmdIn.ext {w w' : World} {da am al ad : Option Addr} {A : CmdD} (h : CmdIn w da am al ad A) (hb : Below w.heap.size w w') : CmdIn w' da am al ad A := ⟨h.dr.ext hb, h.db, h.v.ext hb, h.wf, h.fr, h.num, h.vw⟩
theorem CmdIn.r {w : World} {da am al ad : Option Addr} {A : CmdD} (h : CmdIn w da am al ad A) (hg : greatC A = false) : CmdR w da am al ad A := ⟨h.dr, by have := (greatC_no hg).1; omega, h.db, h.v⟩
theorem CmdIn.laid {w : World} {da am al ad : Option Addr} {A : CmdD} (h : CmdIn w da am al ad A) : refCheckB A.v = true → Laid A.v := fun hc => laid_of_check h.wf.ms ((check_eq A.v h.wf.ms).trans hc)
end Go.Proofs.YtppapeoainafbaaDoor


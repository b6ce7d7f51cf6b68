import Derived.Test.YtbpfhclcjedkcaaX52
import Derived.Test.YtbpfhclcjedkcaaX36
namespace Go.Proofs.Ytbpfhclcjedkcaa
open Go.RowKit

/-! ### view.Row -/
/-- a view as the row brings it, and small -/
structure EIn (e : VE) : Prop where
  wf : WfView e.V
  cap : e.V.ls.length ≤ e.cl
  gr : greatB e.V = false
theorem EIn.sum {e : VE} (h : EIn e) : lens e.V.ls ≤ 1600 := (great_noC h.gr).2.2.2.2
theorem EIn.le {e : VE} (h : EIn e) : ∀ l ∈ e.V.ls, l.length ≤ 40 := (great_noC h.gr).2.2.2.1
theorem OwnV_mono {w : World} {b b' : Nat} {v : Value} {es : List VE} (h : OwnV w b v es) (hb : b' ≤ b) : OwnV w b' v es := by
  refine ⟨⟨h.1.1, ?_⟩, h.2⟩
  rcases h.1.2 with hn | ⟨g, cap, cur, rfl, hbb, rest⟩
  · exact .inl hn
  · exact .inr ⟨g, cap, cur, rfl, by omega, rest⟩
set_option maxRecDepth 100000 in
set_option maxHeartbeats 12800000 in
theorem row_any {es : List VE} {n c : Nat} {a : Option Addr} {x y : Int} {w : World} (hn : Hid (es.length = n)) (hnl : n ≤ 1000) (hrow : VRow w a es) (hin : ∀ e ∈ es, EIn e) :
    Calls Try.prog 23 #[.slice a n c, .agg #[.int .u16 x, .int .u32 y]] w fun e w' => ∃ v es', e = .returned v ∧ OwnV w' w.heap.size v es' ∧ es'.map (·.V) = rowE es (x, y) ∧ es'.length ≤ n ∧ Below w.heap.size w w' := by
  obtain ⟨W1, hW1⟩ : ∃ W1, w.alloc (.cells #[.int .u16 x, .int .u32 y] 26) = W1 := ⟨_, rfl⟩
  have hB1 : Below w.heap.size w W1 := by rw [← hW1]; exact (Below.refl _ _).alloc (Nat.le_refl _) _
  have p0 : W1.cell? ⟨w.heap.size, 0, none⟩ = some (.int .u16 x) := by rw [← hW1]; simp
  have p1 : W1.cell? ⟨w.heap.size, 1, none⟩ = some (.int .u32 y) := by rw [← hW1]; simp
  have HPX : Hid (∀ W, Below W1.heap.size W1 W → W.cell? ⟨w.heap.size, 0, none⟩ = some (.int .u16 x) ∧ W.cell? ⟨w.heap.size, 1, none⟩ = some (.int .u32 y)) := hid fun W h => ⟨cell_toB p0 h, cell_toB p1 h⟩
  have HROW := hid (hrow.ext hB1)
  have HIN := hid hin
  have HB1 := hid hB1
  clear p0 p1 hB1 hrow hin
  go_enter Try.func23, Try.ntmps23
  go_wp2_with fail
  go_loopw [5, 12] (fun v i wr => ∃ (k : Nat) (es' : List VE), k ≤ n ∧ i = .int .i64 k ∧ OwnV wr W1.heap.size v es' ∧ es'.map (·.V) = rowE (es.take k) (x, y) ∧ es'.length ≤ k ∧ Below W1.heap.size W1 wr) (fun _ i _ => n - (intOf i).toNat)
  case atStart => exact ⟨0, [], Nat.zero_le _, rfl, OwnV.nil _ _, rfl, Nat.le_refl _, Below.refl _ _⟩
  case round =>
    obtain ⟨k, es', hk, rfl, hown, hmap, hlen', hb⟩ := hrel
    by_cases hlt : k < n
    · have t1 : decide ((k : Int) < (n : Int)) = true := by simpa using hlt
      have t1' : decide (k < n) = true := by simpa using hlt
      have hke : k < es.length := by rw [hn.out]; exact hlt
      obtain ⟨b, off, e, rfl, he, f0, f1, f2, f3, hv⟩ := HROW.out.at hb hke
      have hei := HIN.out e (by rw [he]; exact List.getElem_mem _)
      have hR := rowE_succ hke he (x, y)
      obtain ⟨V, am, al, ad, cm, cl, cd⟩ := e
      simp only at f0 f1 f2 f3 hv hR hei
      obtain ⟨i, hi⟩ : ∃ i : Nat, V.id = (i : Int) := ⟨V.id.toNat, by have : 0 ≤ V.id := hei.wf.id.1; omega⟩
      obtain ⟨j, hj, -⟩ := localV_id (p := (x, y)) hi
      obtain ⟨lm, -, -, -, -⟩ := localV_len (p := (x, y)) (fun l hl => hei.le l hl) (by omega : 1 ≤ 40)
      obtain ⟨L, hL⟩ : ∃ L, localV V (x, y) = L := ⟨_, rfl⟩
      obtain ⟨nm, hnm⟩ : ∃ k, V.ms.length = k := ⟨_, rfl⟩
      obtain ⟨nl, hnl2⟩ : ∃ k, V.ls.length = k := ⟨_, rfl⟩
      obtain ⟨nd, hnd⟩ : ∃ k, V.ds.length = k := ⟨_, rfl⟩
      rw [hL] at hj lm hR
      rw [hi] at f0
      rw [hnm] at f1
      rw [hnl2] at f2
      rw [hnd] at f3
      have hbA : Below wr.heap.size wr (wr.alloc (.cells #[.int .u64 i, .slice am nm cm, .slice al nl cl, .slice ad nd cd] 33)) := (Below.refl _ _).alloc (Nat.le_refl _) _
      have CL := local_any (x := x) (y := y) (cm := cm) (cl := cl) (cd := cd) (hid hL) hi (hid hnm) (hid hnl2) (hid hnd) ((hv.ext hb).ext hbA) (by have : lens V.ls ≤ 1600 := hei.sum; omega) (fun l hl => by have := hei.le l hl; omega)
      rw [hj] at CL
      have HCL := hid CL
      have HBA := hid hbA
      have HOWN := hid hown
      have HMAP := hid hmap
      have HR := hid hR
      have HB := hid hb
      have HJ := hid hj
      have HL := hid hL
      have hbL := hb.trans (hbA.mono hb.size)
      obtain ⟨p0, p1⟩ := HPX.out _ hbL
      clear hbA hown hmap hR hb hj hL CL hv hei hi hnm hnl2 hnd he
      go_wp2_with fail
      (with_reducible refine HCL.out.mono ?_)
      rintro e5 w5 ⟨qm, ql, qd, km, kl, kd, rfl, hst, hb5⟩
      obtain ⟨m, hm⟩ : ∃ m, es'.length = m := ⟨_, rfl⟩
      obtain ⟨lL, hlL⟩ : ∃ m, L.ms.length = m := ⟨_, rfl⟩
      obtain ⟨l2, hl2⟩ : ∃ m, L.ls.length = m := ⟨_, rfl⟩
      obtain ⟨l3, hl3⟩ : ∃ m, L.ds.length = m := ⟨_, rfl⟩
      rw [hlL] at lm
      rw [hlL, hl2, hl3]
      have hb05 := HBA.out.trans (hb5.mono HBA.out.size)
      obtain ⟨WB, hWB⟩ : ∃ WB, w5.alloc (.cells #[.int .u64 j, .slice qm lL km, .slice ql l2 kl, .slice qd l3 kd] 33) = WB := ⟨_, rfl⟩
      have hb5B : Below w5.heap.size w5 WB := by rw [← hWB]; exact (Below.refl _ _).alloc (Nat.le_refl _) _
      have xx : BoxV WB w5.heap.size (.int .u64 j) (.slice qm lL km) (.slice ql l2 kl) (.slice qd l3 kd) := by rw [← hWB]; exact BoxV.made _ _ _ _ _ _
      have hb0B := hb05.trans (hb5B.mono hb05.size)
      have hownB := HOWN.out.ext hb0B
      have hstB := hst.ext hb5B
      have hbB := HB.out.trans (hb0B.mono HB.out.size)
      have HOB := hid hownB
      have HSTB : Hid (∀ W, Below WB.heap.size WB W → ∀ v' : Value, (∀ g, v'.ownBlock = some g → g < wr.heap.size) → ∀ W', Mut (fun k => v'.ownBlock = some k) W W' → ViewR W' qm ql qd L) := hid fun W hW v' hv' W' hm' => (hstB.ext hW) _ (fun g hg => by have := hv' g hg; have := hbL.size; simp at *; omega) W' hm'
      have HBB := hid hbB
      have HM := hid hm
      have HLL := hid hlL
      have HL2 := hid hl2
      have HL3 := hid hl3
      obtain ⟨av, cv, ev, hvr, hbase⟩ := hownB.row
      rw [hm] at ev
      subst ev
      have HVR := hid hvr
      have HSL : Hid (∀ g, (Value.slice av m cv).ownBlock = some g → g < wr.heap.size) := hid fun g hg => (HOWN.out.blk hg).2
      have hm2 : m ≤ k := by rw [← hm]; exact hlen'
      have x0 := xx.c0
      have x1 := xx.c1
      have HXX := hid xx
      clear hst hb5 hm hlL hl2 hl3 hb05 hb5B xx hb0B hownB hstB hbB hvr HCL hbL hlen' p0 p1 HBA f0 f1 f2 f3
      have H0 : Below WB.heap.size WB WB.drew := (Below.refl _ _).drew
      have HOBD := hid (HOB.out.ext H0)
      have HBD := hid (HBB.out.trans (H0.mono HBB.out.size))
      have KEEP : Hid (L.id = 0 → es'.map (·.V) = rowE (es.take (k + 1)) (x, y)) := hid fun h => by rw [HR.out, stepV_0 h]; exact HMAP.out

      by_cases hj0 : j = 0
      · have b1 : decide (j > 0) = false := by simp; omega
        have b2 : decide ((j : Int) > 0) = false := by simp; omega
        have b3 : decide (0 < j) = false := by simp; omega
        have b4 : decide ((0 : Int) < (j : Int)) = false := by simp; omega
        have HS : Hid (∀ W, Below WB.heap.size WB W → W.cell? ⟨w5.heap.size, 0, none⟩ = some (.int .u64 j) ∧ W.cell? ⟨w5.heap.size, 1, none⟩ = some (.slice qm lL km)) := hid fun W h => ⟨cell_toB x0 h, cell_toB x1 h⟩
        have HJ0 := hid hj0
        clear hj0 x0 x1
        go_wp2_with fail
        refine wp_region_held_drew (S := fun W => W.cell? ⟨w5.heap.size, 0, none⟩ = some (.int .u64 j) ∧ W.cell? ⟨w5.heap.size, 1, none⟩ = some (.slice qm lL km)) (by kernel_rfl) (HS.out _ H0) (fun hHeld => ?_)
        refine wpAnyH_take (i := 0) (oi := _) (v := .pointer (some ⟨w5.heap.size, 0, none⟩)) rfl (by kernel_rfl) (by kernel_rfl) (by kernel_rfl) (fun _ _ _ h => h) (Or.inl ⟨by rfl, ?_⟩) (by assumption) ?_
        · intro W hSw
          try dsimp only at hSw
          go_simp
        try simp only [Act.put, List.getElem_toArray, List.getElem_cons_succ, List.getElem_cons_zero, List.setIfInBounds_toArray, List.set_cons_zero, List.set_cons_succ]
        refine wpAnyH_take (i := 1) (oi := _) (v := .int .u64 j) rfl (by kernel_rfl) (by kernel_rfl) (by kernel_rfl) (fun _ _ _ h => h) (Or.inl ⟨by rfl, ?_⟩) (by assumption) ?_
        · intro W hSw
          try dsimp only at hSw
          go_simp
        try simp only [Act.put, List.getElem_toArray, List.getElem_cons_succ, List.getElem_cons_zero, List.setIfInBounds_toArray, List.set_cons_zero, List.set_cons_succ]
        refine wpAnyH_take (i := 2) (oi := _) (v := .bool false) rfl (by kernel_rfl) (by kernel_rfl) (by kernel_rfl) (fun _ _ _ h => h) (Or.inl ⟨by rfl, ?_⟩) (by assumption) ?_
        · intro W hSw
          try dsimp only at hSw
          go_simp
        try simp only [Act.put, List.getElem_toArray, List.getElem_cons_succ, List.getElem_cons_zero, List.setIfInBounds_toArray, List.set_cons_zero, List.set_cons_succ]
        refine wpAnyH_take (i := 3) (oi := _) (v := .bool false) rfl (by kernel_rfl) (by kernel_rfl) (by kernel_rfl) (fun _ _ _ h => h) (Or.inl ⟨by rfl, ?_⟩) (by assumption) ?_
        · intro W hSw
          try dsimp only at hSw
          go_simp
        try simp only [Act.put, List.getElem_toArray, List.getElem_cons_succ, List.getElem_cons_zero, List.setIfInBounds_toArray, List.set_cons_zero, List.set_cons_succ]
        refine wpAnyH_take (i := 4) (oi := _) (v := undef) rfl (by kernel_rfl) (by kernel_rfl) (by kernel_rfl) (fun _ _ _ h => h) (Or.inr ⟨by rfl, rfl⟩) (by assumption) ?_
        try simp only [Act.put, List.getElem_toArray, List.getElem_cons_succ, List.getElem_cons_zero, List.setIfInBounds_toArray, List.set_cons_zero, List.set_cons_succ]
        refine wpAnyH_take (i := 5) (oi := _) (v := undef) rfl (by kernel_rfl) (by kernel_rfl) (by kernel_rfl) (fun _ _ _ h => h) (Or.inr ⟨by rfl, rfl⟩) (by assumption) ?_
        try simp only [Act.put, List.getElem_toArray, List.getElem_cons_succ, List.getElem_cons_zero, List.setIfInBounds_toArray, List.set_cons_zero, List.set_cons_succ]
        refine wpAnyH_take (i := 6) (oi := _) (v := undef) rfl (by kernel_rfl) (by kernel_rfl) (by kernel_rfl) (fun _ _ _ h => h) (Or.inr ⟨by rfl, rfl⟩) (by assumption) ?_
        try simp only [Act.put, List.getElem_toArray, List.getElem_cons_succ, List.getElem_cons_zero, List.setIfInBounds_toArray, List.set_cons_zero, List.set_cons_succ]
        refine wpAnyH_take (i := 7) (oi := _) (v := undef) rfl (by kernel_rfl) (by kernel_rfl) (by kernel_rfl) (fun _ _ _ h => h) (Or.inr ⟨by rfl, rfl⟩) (by assumption) ?_
        try simp only [Act.put, List.getElem_toArray, List.getElem_cons_succ, List.getElem_cons_zero, List.setIfInBounds_toArray, List.set_cons_zero, List.set_cons_succ]
        refine wpAnyH_take (i := 8) (oi := _) (v := undef) rfl (by kernel_rfl) (by kernel_rfl) (by kernel_rfl) (fun _ _ _ h => h) (Or.inr ⟨by rfl, rfl⟩) (by assumption) ?_
        try simp only [Act.put, List.getElem_toArray, List.getElem_cons_succ, List.getElem_cons_zero, List.setIfInBounds_toArray, List.set_cons_zero, List.set_cons_succ]
        refine wpAnyH_take (i := 9) (oi := _) (v := undef) rfl (by kernel_rfl) (by kernel_rfl) (by kernel_rfl) (fun _ _ _ h => h) (Or.inr ⟨by rfl, rfl⟩) (by assumption) ?_
        try simp only [Act.put, List.getElem_toArray, List.getElem_cons_succ, List.getElem_cons_zero, List.setIfInBounds_toArray, List.set_cons_zero, List.set_cons_succ]
        refine wpAnyH_take (i := 10) (oi := _) (v := undef) rfl (by kernel_rfl) (by kernel_rfl) (by kernel_rfl) (fun _ _ _ h => h) (Or.inr ⟨by rfl, rfl⟩) (by assumption) ?_
        try simp only [Act.put, List.getElem_toArray, List.getElem_cons_succ, List.getElem_cons_zero, List.setIfInBounds_toArray, List.set_cons_zero, List.set_cons_succ]
        refine wpAnyH_take (i := 11) (oi := _) (v := undef) rfl (by kernel_rfl) (by kernel_rfl) (by kernel_rfl) (fun _ _ _ h => h) (Or.inr ⟨by rfl, rfl⟩) (by assumption) ?_
        try simp only [Act.put, List.getElem_toArray, List.getElem_cons_succ, List.getElem_cons_zero, List.setIfInBounds_toArray, List.set_cons_zero, List.set_cons_succ]
        refine wpAnyH_take (i := 12) (oi := _) (v := undef) rfl (by kernel_rfl) (by kernel_rfl) (by kernel_rfl) (fun _ _ _ h => h) (Or.inr ⟨by rfl, rfl⟩) (by assumption) ?_
        try simp only [Act.put, List.getElem_toArray, List.getElem_cons_succ, List.getElem_cons_zero, List.setIfInBounds_toArray, List.set_cons_zero, List.set_cons_succ]
        refine wpAnyH_take (i := 13) (oi := _) (v := undef) rfl (by kernel_rfl) (by kernel_rfl) (by kernel_rfl) (fun _ _ _ h => h) (Or.inr ⟨by rfl, rfl⟩) (by assumption) ?_
        try simp only [Act.put, List.getElem_toArray, List.getElem_cons_succ, List.getElem_cons_zero, List.setIfInBounds_toArray, List.set_cons_zero, List.set_cons_succ]
        refine wpAnyH_take (i := 14) (oi := _) (v := undef) rfl (by kernel_rfl) (by kernel_rfl) (by kernel_rfl) (fun _ _ _ h => h) (Or.inr ⟨by rfl, rfl⟩) (by assumption) ?_
        try simp only [Act.put, List.getElem_toArray, List.getElem_cons_succ, List.getElem_cons_zero, List.setIfInBounds_toArray, List.set_cons_zero, List.set_cons_succ]
        refine wpAnyH_take (i := 15) (oi := _) (v := undef) rfl (by kernel_rfl) (by kernel_rfl) (by kernel_rfl) (fun _ _ _ h => h) (Or.inr ⟨by rfl, rfl⟩) (by assumption) ?_
        try simp only [Act.put, List.getElem_toArray, List.getElem_cons_succ, List.getElem_cons_zero, List.setIfInBounds_toArray, List.set_cons_zero, List.set_cons_succ]
        refine wpAnyH_take (i := 16) (oi := _) (v := undef) rfl (by kernel_rfl) (by kernel_rfl) (by kernel_rfl) (fun _ _ _ h => h) (Or.inr ⟨by rfl, rfl⟩) (by assumption) ?_
        try simp only [Act.put, List.getElem_toArray, List.getElem_cons_succ, List.getElem_cons_zero, List.setIfInBounds_toArray, List.set_cons_zero, List.set_cons_succ]
        refine wpAnyH_take (i := 17) (oi := _) (v := undef) rfl (by kernel_rfl) (by kernel_rfl) (by kernel_rfl) (fun _ _ _ h => h) (Or.inr ⟨by rfl, rfl⟩) (by assumption) ?_
        try simp only [Act.put, List.getElem_toArray, List.getElem_cons_succ, List.getElem_cons_zero, List.setIfInBounds_toArray, List.set_cons_zero, List.set_cons_succ]
        refine wpAnyH_take (i := 18) (oi := _) (v := .bool false) rfl (by kernel_rfl) (by kernel_rfl) (by kernel_rfl) (fun _ _ _ h => h) (Or.inl ⟨by rfl, ?_⟩) (by assumption) ?_
        · intro W hSw
          try dsimp only at hSw
          go_simp
        try simp only [Act.put, List.getElem_toArray, List.getElem_cons_succ, List.getElem_cons_zero, List.setIfInBounds_toArray, List.set_cons_zero, List.set_cons_succ]
        refine wpAnyH_done (by kernel_rfl) ?_ _
        go_wp2_with fail
        go_roundw
        case rel => exact ⟨k + 1, es', by omega, by go_num, HOBD.out, KEEP.out (by rw [HJ.out, HJ0.out]; rfl), by rw [HM.out]; omega, HBD.out⟩
        case measure => simp [intOf]; omega
      · have b1 : decide (j > 0) = true := by simp; omega
        have b2 : decide ((j : Int) > 0) = true := by simp; omega
        have b3 : decide (0 < j) = true := by simp; omega
        have b4 : decide ((0 : Int) < (j : Int)) = true := by simp; omega
        have HJ0 : Hid (0 < L.id) := hid (by rw [HJ.out]; omega)
        rcases Nat.eq_zero_or_pos m with rfl | hmp
        · have HEMP : Hid (es' = []) := hid (List.length_eq_zero_iff.1 HM.out)
          have HS : Hid (∀ W, Below WB.heap.size WB W → W.cell? ⟨w5.heap.size, 0, none⟩ = some (.int .u64 j) ∧ W.cell? ⟨w5.heap.size, 1, none⟩ = some (.slice qm lL km)) := hid fun W h => ⟨cell_toB x0 h, cell_toB x1 h⟩
          clear hj0 x0 x1
          go_wp2_with fail
          refine wp_region_held_drew (S := fun W => W.cell? ⟨w5.heap.size, 0, none⟩ = some (.int .u64 j) ∧ W.cell? ⟨w5.heap.size, 1, none⟩ = some (.slice qm lL km)) (by kernel_rfl) (HS.out _ H0) (fun hHeld => ?_)
          refine wpAnyH_take (i := 0) (oi := _) (v := .pointer (some ⟨w5.heap.size, 0, none⟩)) rfl (by kernel_rfl) (by kernel_rfl) (by kernel_rfl) (fun _ _ _ h => h) (Or.inl ⟨by rfl, ?_⟩) (by assumption) ?_
          · intro W hSw
            try dsimp only at hSw
            go_simp
          try simp only [Act.put, List.getElem_toArray, List.getElem_cons_succ, List.getElem_cons_zero, List.setIfInBounds_toArray, List.set_cons_zero, List.set_cons_succ]
          refine wpAnyH_take (i := 1) (oi := _) (v := .int .u64 j) rfl (by kernel_rfl) (by kernel_rfl) (by kernel_rfl) (fun _ _ _ h => h) (Or.inl ⟨by rfl, ?_⟩) (by assumption) ?_
          · intro W hSw
            try dsimp only at hSw
            go_simp
          try simp only [Act.put, List.getElem_toArray, List.getElem_cons_succ, List.getElem_cons_zero, List.setIfInBounds_toArray, List.set_cons_zero, List.set_cons_succ]
          refine wpAnyH_take (i := 2) (oi := _) (v := .bool true) rfl (by kernel_rfl) (by kernel_rfl) (by kernel_rfl) (fun _ _ _ h => h) (Or.inl ⟨by rfl, ?_⟩) (by assumption) ?_
          · intro W hSw
            try dsimp only at hSw
            go_simp
          try simp only [Act.put, List.getElem_toArray, List.getElem_cons_succ, List.getElem_cons_zero, List.setIfInBounds_toArray, List.set_cons_zero, List.set_cons_succ]
          refine wpAnyH_take (i := 3) (oi := _) (v := .bool true) rfl (by kernel_rfl) (by kernel_rfl) (by kernel_rfl) (fun _ _ _ h => h) (Or.inl ⟨by rfl, ?_⟩) (by assumption) ?_
          · intro W hSw
            try dsimp only at hSw
            go_simp
          try simp only [Act.put, List.getElem_toArray, List.getElem_cons_succ, List.getElem_cons_zero, List.setIfInBounds_toArray, List.set_cons_zero, List.set_cons_succ]
          refine wpAnyH_take (i := 4) (oi := _) (v := .int .i64 0) rfl (by kernel_rfl) (by kernel_rfl) (by kernel_rfl) (fun _ _ _ h => h) (Or.inl ⟨by rfl, ?_⟩) (by assumption) ?_
          · intro W hSw
            try dsimp only at hSw
            go_simp
          try simp only [Act.put, List.getElem_toArray, List.getElem_cons_succ, List.getElem_cons_zero, List.setIfInBounds_toArray, List.set_cons_zero, List.set_cons_succ]
          refine wpAnyH_take (i := 5) (oi := _) (v := .bool true) rfl (by kernel_rfl) (by kernel_rfl) (by kernel_rfl) (fun _ _ _ h => h) (Or.inl ⟨by rfl, ?_⟩) (by assumption) ?_
          · intro W hSw
            try dsimp only at hSw
            go_simp
          try simp only [Act.put, List.getElem_toArray, List.getElem_cons_succ, List.getElem_cons_zero, List.setIfInBounds_toArray, List.set_cons_zero, List.set_cons_succ]
          refine wpAnyH_take (i := 6) (oi := _) (v := .bool true) rfl (by kernel_rfl) (by kernel_rfl) (by kernel_rfl) (fun _ _ _ h => h) (Or.inl ⟨by rfl, ?_⟩) (by assumption) ?_
          · intro W hSw
            try dsimp only at hSw
            go_simp
          try simp only [Act.put, List.getElem_toArray, List.getElem_cons_succ, List.getElem_cons_zero, List.setIfInBounds_toArray, List.set_cons_zero, List.set_cons_succ]
          refine wpAnyH_take (i := 7) (oi := _) (v := undef) rfl (by kernel_rfl) (by kernel_rfl) (by kernel_rfl) (fun _ _ _ h => h) (Or.inr ⟨by rfl, rfl⟩) (by assumption) ?_
          try simp only [Act.put, List.getElem_toArray, List.getElem_cons_succ, List.getElem_cons_zero, List.setIfInBounds_toArray, List.set_cons_zero, List.set_cons_succ]
          refine wpAnyH_take (i := 8) (oi := _) (v := undef) rfl (by kernel_rfl) (by kernel_rfl) (by kernel_rfl) (fun _ _ _ h => h) (Or.inr ⟨by rfl, rfl⟩) (by assumption) ?_
          try simp only [Act.put, List.getElem_toArray, List.getElem_cons_succ, List.getElem_cons_zero, List.setIfInBounds_toArray, List.set_cons_zero, List.set_cons_succ]
          refine wpAnyH_take (i := 9) (oi := _) (v := undef) rfl (by kernel_rfl) (by kernel_rfl) (by kernel_rfl) (fun _ _ _ h => h) (Or.inr ⟨by rfl, rfl⟩) (by assumption) ?_
          try simp only [Act.put, List.getElem_toArray, List.getElem_cons_succ, List.getElem_cons_zero, List.setIfInBounds_toArray, List.set_cons_zero, List.set_cons_succ]
          refine wpAnyH_take (i := 10) (oi := _) (v := undef) rfl (by kernel_rfl) (by kernel_rfl) (by kernel_rfl) (fun _ _ _ h => h) (Or.inr ⟨by rfl, rfl⟩) (by assumption) ?_
          try simp only [Act.put, List.getElem_toArray, List.getElem_cons_succ, List.getElem_cons_zero, List.setIfInBounds_toArray, List.set_cons_zero, List.set_cons_succ]
          refine wpAnyH_take (i := 11) (oi := _) (v := undef) rfl (by kernel_rfl) (by kernel_rfl) (by kernel_rfl) (fun _ _ _ h => h) (Or.inr ⟨by rfl, rfl⟩) (by assumption) ?_
          try simp only [Act.put, List.getElem_toArray, List.getElem_cons_succ, List.getElem_cons_zero, List.setIfInBounds_toArray, List.set_cons_zero, List.set_cons_succ]
          refine wpAnyH_take (i := 12) (oi := _) (v := undef) rfl (by kernel_rfl) (by kernel_rfl) (by kernel_rfl) (fun _ _ _ h => h) (Or.inr ⟨by rfl, rfl⟩) (by assumption) ?_
          try simp only [Act.put, List.getElem_toArray, List.getElem_cons_succ, List.getElem_cons_zero, List.setIfInBounds_toArray, List.set_cons_zero, List.set_cons_succ]
          refine wpAnyH_take (i := 13) (oi := _) (v := undef) rfl (by kernel_rfl) (by kernel_rfl) (by kernel_rfl) (fun _ _ _ h => h) (Or.inr ⟨by rfl, rfl⟩) (by assumption) ?_
          try simp only [Act.put, List.getElem_toArray, List.getElem_cons_succ, List.getElem_cons_zero, List.setIfInBounds_toArray, List.set_cons_zero, List.set_cons_succ]
          refine wpAnyH_take (i := 14) (oi := _) (v := undef) rfl (by kernel_rfl) (by kernel_rfl) (by kernel_rfl) (fun _ _ _ h => h) (Or.inr ⟨by rfl, rfl⟩) (by assumption) ?_
          try simp only [Act.put, List.getElem_toArray, List.getElem_cons_succ, List.getElem_cons_zero, List.setIfInBounds_toArray, List.set_cons_zero, List.set_cons_succ]
          refine wpAnyH_take (i := 15) (oi := _) (v := undef) rfl (by kernel_rfl) (by kernel_rfl) (by kernel_rfl) (fun _ _ _ h => h) (Or.inr ⟨by rfl, rfl⟩) (by assumption) ?_
          try simp only [Act.put, List.getElem_toArray, List.getElem_cons_succ, List.getElem_cons_zero, List.setIfInBounds_toArray, List.set_cons_zero, List.set_cons_succ]
          refine wpAnyH_take (i := 16) (oi := _) (v := undef) rfl (by kernel_rfl) (by kernel_rfl) (by kernel_rfl) (fun _ _ _ h => h) (Or.inr ⟨by rfl, rfl⟩) (by assumption) ?_
          try simp only [Act.put, List.getElem_toArray, List.getElem_cons_succ, List.getElem_cons_zero, List.setIfInBounds_toArray, List.set_cons_zero, List.set_cons_succ]
          refine wpAnyH_take (i := 17) (oi := _) (v := .bool true) rfl (by kernel_rfl) (by kernel_rfl) (by kernel_rfl) (fun _ _ _ h => h) (Or.inl ⟨by rfl, ?_⟩) (by assumption) ?_
          · intro W hSw
            try dsimp only at hSw
            go_simp
          try simp only [Act.put, List.getElem_toArray, List.getElem_cons_succ, List.getElem_cons_zero, List.setIfInBounds_toArray, List.set_cons_zero, List.set_cons_succ]
          refine wpAnyH_take (i := 18) (oi := _) (v := .bool true) rfl (by kernel_rfl) (by kernel_rfl) (by kernel_rfl) (fun _ _ _ h => h) (Or.inl ⟨by rfl, ?_⟩) (by assumption) ?_
          · intro W hSw
            try dsimp only at hSw
            go_simp
          try simp only [Act.put, List.getElem_toArray, List.getElem_cons_succ, List.getElem_cons_zero, List.setIfInBounds_toArray, List.set_cons_zero, List.set_cons_succ]
          refine wpAnyH_done (by kernel_rfl) ?_ _
          have HE : Hid ((⟨L, qm, ql, qd, km, kl, kd⟩ : VE).cells = [.int .u64 j, .slice qm lL km, .slice ql l2 kl, .slice qd l3 kd]) := hid (by show [Value.int .u64 L.id, .slice qm L.ms.length km, .slice ql L.ls.length kl, .slice qd L.ds.length kd] = _; rw [HJ.out, HLL.out, HL2.out, HL3.out])
          obtain ⟨x0, x1, x2, x3, -, -, -, -⟩ := HXX.out.ext H0
          go_wp2_with (at_builtin; refine wpList_appendV (e := ⟨L, qm, ql, qd, km, kl, kd⟩) (HOBD.out.ext ((Below.refl _ _).alloc (Nat.le_refl _) _)) (fun j' u hu => by
              rw [HE.out] at hu
              match j', hu with
              | 0, hu => simp at hu; subst hu; simp
              | 1, hu => simp at hu; subst hu; simp
              | 2, hu => simp at hu; subst hu; simp
              | 3, hu => simp at hu; subst hu; simp
              | n + 4, hu => simp at hu) (HSTB.out _ ((H0).alloc (Below.size (H0)) _) _ HSL.out) (by rw [HM.out]; omega) (Nat.le_trans (Below.size (HBD.out)) (by simp)) rfl rfl rfl rfl ?_; intro v9 w9 hown9 hg9)
          go_roundw
          case rel => exact ⟨k + 1, es' ++ [⟨L, qm, ql, qd, km, kl, kd⟩], by omega, by go_num, hown9, by rw [HR.out, ← HMAP.out, HEMP.out]; exact (stepV_nil HJ0.out).symm, by rw [List.length_append, HM.out]; simp <;> omega, below_grownV (Below.alloc (HBD.out) (Below.size (HBD.out)) _) hg9 (HOBD.out.ext ((Below.refl _ _).alloc (Nat.le_refl _) _)) (Nat.le_trans (Below.size (HBD.out)) (by simp)) (Nat.le_refl _)⟩
          case measure => simp [intOf]; omega
        · obtain ⟨m', rfl⟩ : ∃ m', m = m' + 1 := ⟨m - 1, by omega⟩
          obtain ⟨g, offg, u, eav, hu, -, u1, -, -, hvu⟩ := HVR.out.at (Below.refl _ _) (k := m') (by rw [HM.out]; omega)
          obtain ⟨rfl, -⟩ := hbase _ _ eav
          subst eav
          simp only [Nat.zero_add] at u1
          obtain ⟨r, hr⟩ : ∃ r, decide (u.V.ms = L.ms) = r := ⟨_, rfl⟩
          have hSAME : Hid (r = true → es'.map (·.V) = rowE (es.take (k + 1)) (x, y)) := hid fun h => by
            rw [HR.out, ← HMAP.out, stepV_same HJ0.out HM.out hu (of_decide_eq_true (hr.trans h))]
          have hNEW : Hid (r = false → es'.map (·.V) ++ [L] = rowE (es.take (k + 1)) (x, y)) := hid fun h => by
            rw [HR.out, ← HMAP.out, stepV_new HJ0.out HM.out hu (of_decide_eq_false (hr.trans h))]
          obtain ⟨uV, um, ul, ud, ucm, ucl, ucd⟩ := u
          simp only at u1 hvu hr
          obtain ⟨nu, hnu⟩ : ∃ n, uV.ms.length = n := ⟨_, rfl⟩
          have hnu2 : nu ≤ 70368744177664 := by rw [← hnu]; exact hvu.lm
          have hms := hvu.ms
          rw [hnu] at u1
          have hLms : PidRow WB qm L.ms := (HSTB.out _ (Below.refl _ _) (.slice none 0 0) (fun g h => by cases h) WB (Mut.refl _ _)).ms
          have EQ : Hid (∀ W, Below WB.heap.size WB W → Calls Try.prog 88 #[.slice um nu ucm, .slice qm lL km] W fun e w' => e = .returned (.bool r) ∧ Below WB.heap.size WB w') := hid fun W h => relB h (equal_n (hid hr) (hid hnu) HLL.out hnu2 (by omega) (hms.ext h) (hLms.ext h))
          have HS : Hid (∀ W, Below WB.heap.size WB W → W.cell? ⟨w5.heap.size, 0, none⟩ = some (.int .u64 j) ∧ W.cell? ⟨w5.heap.size, 1, none⟩ = some (.slice qm lL km) ∧ W.cell? ⟨g, m' * 4 + 1, none⟩ = some (.slice um nu ucm)) := hid fun W h => ⟨cell_toB x0 h, cell_toB x1 h, cell_toB u1 h⟩
          have ewm : IntKind.i64.wrap ((m' : Nat) : Int) = ((m' : Nat) : Int) := by rw [IntKind.wrap_i64] <;> omega
          have hm0 : (((m' : Int) + 1) == 0) = false := by simp only [beq_eq_false_iff_ne, ne_eq]; omega
          have hmi : ((m' : Int) + 1 ≤ (m' : Int)) = False := eq_false (by omega)
          have hmi2 : (m' + 1 ≤ m') = False := eq_false (by omega)
          clear hj0 x0 x1 u1 hu hr hvu hms hLms hnu hmp hbase
          go_wp2_with fail
          refine wp_region_held_drew (S := fun W => W.cell? ⟨w5.heap.size, 0, none⟩ = some (.int .u64 j) ∧ W.cell? ⟨w5.heap.size, 1, none⟩ = some (.slice qm lL km) ∧ W.cell? ⟨g, m' * 4 + 1, none⟩ = some (.slice um nu ucm)) (by kernel_rfl) (HS.out _ H0) (fun hHeld => ?_)
          refine wpAnyH_take (i := 0) (oi := _) (v := .pointer (some ⟨w5.heap.size, 0, none⟩)) rfl (by kernel_rfl) (by kernel_rfl) (by kernel_rfl) (fun _ _ _ h => h) (Or.inl ⟨by rfl, ?_⟩) (by assumption) ?_
          · intro W hSw
            try dsimp only at hSw
            go_simp
          try simp only [Act.put, List.getElem_toArray, List.getElem_cons_succ, List.getElem_cons_zero, List.setIfInBounds_toArray, List.set_cons_zero, List.set_cons_succ]
          refine wpAnyH_take (i := 1) (oi := _) (v := .int .u64 j) rfl (by kernel_rfl) (by kernel_rfl) (by kernel_rfl) (fun _ _ _ h => h) (Or.inl ⟨by rfl, ?_⟩) (by assumption) ?_
          · intro W hSw
            try dsimp only at hSw
            go_simp
          try simp only [Act.put, List.getElem_toArray, List.getElem_cons_succ, List.getElem_cons_zero, List.setIfInBounds_toArray, List.set_cons_zero, List.set_cons_succ]
          refine wpAnyH_take (i := 2) (oi := _) (v := .bool true) rfl (by kernel_rfl) (by kernel_rfl) (by kernel_rfl) (fun _ _ _ h => h) (Or.inl ⟨by rfl, ?_⟩) (by assumption) ?_
          · intro W hSw
            try dsimp only at hSw
            go_simp
          try simp only [Act.put, List.getElem_toArray, List.getElem_cons_succ, List.getElem_cons_zero, List.setIfInBounds_toArray, List.set_cons_zero, List.set_cons_succ]
          refine wpAnyH_take (i := 3) (oi := _) (v := .bool true) rfl (by kernel_rfl) (by kernel_rfl) (by kernel_rfl) (fun _ _ _ h => h) (Or.inl ⟨by rfl, ?_⟩) (by assumption) ?_
          · intro W hSw
            try dsimp only at hSw
            go_simp
          try simp only [Act.put, List.getElem_toArray, List.getElem_cons_succ, List.getElem_cons_zero, List.setIfInBounds_toArray, List.set_cons_zero, List.set_cons_succ]
          refine wpAnyH_take (i := 4) (oi := _) (v := .int .i64 ((m' : Int) + 1)) rfl (by kernel_rfl) (by kernel_rfl) (by kernel_rfl) (fun _ _ _ h => h) (Or.inl ⟨by rfl, ?_⟩) (by assumption) ?_
          · intro W hSw
            try dsimp only at hSw
            go_simp
          try simp only [Act.put, List.getElem_toArray, List.getElem_cons_succ, List.getElem_cons_zero, List.setIfInBounds_toArray, List.set_cons_zero, List.set_cons_succ]
          refine wpAnyH_take (i := 5) (oi := _) (v := .bool false) rfl (by kernel_rfl) (by kernel_rfl) (by kernel_rfl) (fun _ _ _ h => h) (Or.inl ⟨by rfl, ?_⟩) (by assumption) ?_
          · intro W hSw
            try dsimp only at hSw
            go_simp
          try simp only [Act.put, List.getElem_toArray, List.getElem_cons_succ, List.getElem_cons_zero, List.setIfInBounds_toArray, List.set_cons_zero, List.set_cons_succ]
          refine wpAnyH_take (i := 6) (oi := _) (v := .bool false) rfl (by kernel_rfl) (by kernel_rfl) (by kernel_rfl) (fun _ _ _ h => h) (Or.inl ⟨by rfl, ?_⟩) (by assumption) ?_
          · intro W hSw
            try dsimp only at hSw
            go_simp
          try simp only [Act.put, List.getElem_toArray, List.getElem_cons_succ, List.getElem_cons_zero, List.setIfInBounds_toArray, List.set_cons_zero, List.set_cons_succ]
          refine wpAnyH_take (i := 7) (oi := _) (v := .slice (some ⟨g, 0, none⟩) (m' + 1) cv) rfl (by kernel_rfl) (by kernel_rfl) (by kernel_rfl) (fun _ _ _ h => h) (Or.inl ⟨by rfl, ?_⟩) (by assumption) ?_
          · intro W hSw
            try dsimp only at hSw
            go_simp
          try simp only [Act.put, List.getElem_toArray, List.getElem_cons_succ, List.getElem_cons_zero, List.setIfInBounds_toArray, List.set_cons_zero, List.set_cons_succ]
          refine wpAnyH_take (i := 8) (oi := _) (v := .int .i64 ((m' : Int) + 1)) rfl (by kernel_rfl) (by kernel_rfl) (by kernel_rfl) (fun _ _ _ h => h) (Or.inl ⟨by rfl, ?_⟩) (by assumption) ?_
          · intro W hSw
            try dsimp only at hSw
            go_simp
          try simp only [Act.put, List.getElem_toArray, List.getElem_cons_succ, List.getElem_cons_zero, List.setIfInBounds_toArray, List.set_cons_zero, List.set_cons_succ]
          refine wpAnyH_take (i := 9) (oi := _) (v := .int .i64 m') rfl (by kernel_rfl) (by kernel_rfl) (by kernel_rfl) (fun _ _ _ h => h) (Or.inl ⟨by rfl, ?_⟩) (by assumption) ?_
          · intro W hSw
            try dsimp only at hSw
            go_simp
          try simp only [Act.put, List.getElem_toArray, List.getElem_cons_succ, List.getElem_cons_zero, List.setIfInBounds_toArray, List.set_cons_zero, List.set_cons_succ]
          refine wpAnyH_take (i := 10) (oi := _) (v := .pointer (some ⟨g, m' * 4, none⟩)) rfl (by kernel_rfl) (by kernel_rfl) (by kernel_rfl) (fun _ _ _ h => h) (Or.inl ⟨by rfl, ?_⟩) (by assumption) ?_
          · intro W hSw
            try dsimp only at hSw
            go_simp
          try simp only [Act.put, List.getElem_toArray, List.getElem_cons_succ, List.getElem_cons_zero, List.setIfInBounds_toArray, List.set_cons_zero, List.set_cons_succ]
          refine wpAnyH_take (i := 11) (oi := _) (v := .pointer (some ⟨g, m' * 4 + 1, none⟩)) rfl (by kernel_rfl) (by kernel_rfl) (by kernel_rfl) (fun _ _ _ h => h) (Or.inl ⟨by rfl, ?_⟩) (by assumption) ?_
          · intro W hSw
            try dsimp only at hSw
            go_simp
          try simp only [Act.put, List.getElem_toArray, List.getElem_cons_succ, List.getElem_cons_zero, List.setIfInBounds_toArray, List.set_cons_zero, List.set_cons_succ]
          refine wpAnyH_take (i := 12) (oi := _) (v := .slice um nu ucm) rfl (by kernel_rfl) (by kernel_rfl) (by kernel_rfl) (fun _ _ _ h => h) (Or.inl ⟨by rfl, ?_⟩) (by assumption) ?_
          · intro W hSw
            try dsimp only at hSw
            go_simp
          try simp only [Act.put, List.getElem_toArray, List.getElem_cons_succ, List.getElem_cons_zero, List.setIfInBounds_toArray, List.set_cons_zero, List.set_cons_succ]
          refine wpAnyH_take (i := 13) (oi := _) (v := .pointer (some ⟨w5.heap.size, 1, none⟩)) rfl (by kernel_rfl) (by kernel_rfl) (by kernel_rfl) (fun _ _ _ h => h) (Or.inl ⟨by rfl, ?_⟩) (by assumption) ?_
          · intro W hSw
            try dsimp only at hSw
            go_simp
          try simp only [Act.put, List.getElem_toArray, List.getElem_cons_succ, List.getElem_cons_zero, List.setIfInBounds_toArray, List.set_cons_zero, List.set_cons_succ]
          refine wpAnyH_take (i := 14) (oi := _) (v := .slice qm lL km) rfl (by kernel_rfl) (by kernel_rfl) (by kernel_rfl) (fun _ _ _ h => h) (Or.inl ⟨by rfl, ?_⟩) (by assumption) ?_
          · intro W hSw
            try dsimp only at hSw
            go_simp
          try simp only [Act.put, List.getElem_toArray, List.getElem_cons_succ, List.getElem_cons_zero, List.setIfInBounds_toArray, List.set_cons_zero, List.set_cons_succ]
          refine wpAnyH_ready (rs := [15]) (by kernel_rfl) (by simp) ?_
          refine AllReadyH.cons (o := _) rfl (fun K hK => ?_) AllReadyH.nil
          go_simp
          (with_reducible refine (EQ.out _ H0).mono ?_)
          rintro e we ⟨rfl, hbe⟩
          refine hK.out _ _ (HS.out _ (hbe)) (fun hHeld => ?_)
          clear hK K
          try simp only [Act.put, List.getElem_toArray, List.getElem_cons_succ, List.getElem_cons_zero, List.setIfInBounds_toArray, List.set_cons_zero, List.set_cons_succ]
          refine wpAnyH_take (i := 16) (oi := _) (v := .bool (!r)) rfl (by kernel_rfl) (by kernel_rfl) (by kernel_rfl) (fun _ _ _ h => h) (Or.inl ⟨by rfl, ?_⟩) (by assumption) ?_
          · intro W hSw
            try dsimp only at hSw
            go_simp
          try simp only [Act.put, List.getElem_toArray, List.getElem_cons_succ, List.getElem_cons_zero, List.setIfInBounds_toArray, List.set_cons_zero, List.set_cons_succ]
          refine wpAnyH_take (i := 17) (oi := _) (v := .bool (!r)) rfl (by kernel_rfl) (by kernel_rfl) (by kernel_rfl) (fun _ _ _ h => h) (Or.inl ⟨by rfl, ?_⟩) (by assumption) ?_
          · intro W hSw
            try dsimp only at hSw
            go_simp
          try simp only [Act.put, List.getElem_toArray, List.getElem_cons_succ, List.getElem_cons_zero, List.setIfInBounds_toArray, List.set_cons_zero, List.set_cons_succ]
          refine wpAnyH_take (i := 18) (oi := _) (v := .bool (!r)) rfl (by kernel_rfl) (by kernel_rfl) (by kernel_rfl) (fun _ _ _ h => h) (Or.inl ⟨by rfl, ?_⟩) (by assumption) ?_
          · intro W hSw
            try dsimp only at hSw
            go_simp
          try simp only [Act.put, List.getElem_toArray, List.getElem_cons_succ, List.getElem_cons_zero, List.setIfInBounds_toArray, List.set_cons_zero, List.set_cons_succ]
          refine wpAnyH_done (by kernel_rfl) ?_ _
          have HOE := hid (HOB.out.ext hbe)
          have HBE := hid (HBB.out.trans (hbe.mono HBB.out.size))
          cases r
          case true =>
            go_wp2_with fail
            go_roundw
            case rel => exact ⟨k + 1, es', by omega, by go_num, HOE.out, hSAME.out rfl, by rw [HM.out]; omega, HBE.out⟩
            case measure => simp [intOf]; omega
          case false =>
            have HE : Hid ((⟨L, qm, ql, qd, km, kl, kd⟩ : VE).cells = [.int .u64 j, .slice qm lL km, .slice ql l2 kl, .slice qd l3 kd]) := hid (by show [Value.int .u64 L.id, .slice qm L.ms.length km, .slice ql L.ls.length kl, .slice qd L.ds.length kd] = _; rw [HJ.out, HLL.out, HL2.out, HL3.out])
            obtain ⟨x0, x1, x2, x3, -, -, -, -⟩ := HXX.out.ext hbe
            go_wp2_with (at_builtin; refine wpList_appendV (e := ⟨L, qm, ql, qd, km, kl, kd⟩) (HOE.out.ext ((Below.refl _ _).alloc (Nat.le_refl _) _)) (fun j' u hu => by
                rw [HE.out] at hu
                match j', hu with
                | 0, hu => simp at hu; subst hu; simp
                | 1, hu => simp at hu; subst hu; simp
                | 2, hu => simp at hu; subst hu; simp
                | 3, hu => simp at hu; subst hu; simp
                | n + 4, hu => simp at hu) (HSTB.out _ ((hbe).alloc (Below.size (hbe)) _) _ HSL.out) (by rw [HM.out]; omega) (Nat.le_trans (Below.size (HBE.out)) (by simp)) rfl rfl rfl rfl ?_; intro v9 w9 hown9 hg9)
            go_roundw
            case rel => exact ⟨k + 1, es' ++ [⟨L, qm, ql, qd, km, kl, kd⟩], by omega, by go_num, hown9, by rw [List.map_append]; exact hNEW.out rfl, by rw [List.length_append, HM.out]; simp <;> omega, below_grownV (Below.alloc (HBE.out) (Below.size (HBE.out)) _) hg9 (HOE.out.ext ((Below.refl _ _).alloc (Nat.le_refl _) _)) (Nat.le_trans (Below.size (HBE.out)) (by simp)) (Nat.le_refl _)⟩
            case measure => simp [intOf]; omega
    · have t1 : decide ((k : Int) < (n : Int)) = false := by simpa using hlt
      have t1' : decide (k < n) = false := by simpa using hlt
      have hall : es.take k = es := List.take_of_length_le (by rw [hn.out]; omega)
      rw [hall] at hmap
      have HM2 := hid hmap
      clear hmap
      go_wp2
      go_ret
      exact ⟨_, es', rfl, OwnV_mono hown HB1.out.size, HM2.out, by omega, HB1.out.trans (hb.mono HB1.out.size)⟩
end Go.Proofs.Ytbpfhclcjedkcaa

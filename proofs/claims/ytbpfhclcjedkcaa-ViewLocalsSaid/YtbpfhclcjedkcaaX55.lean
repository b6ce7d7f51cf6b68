import Derived.Test.YtbpfhclcjedkcaaX54
import Derived.Test.YtbpfhclcjedkcaaRA
namespace Go.Proofs.Ytbpfhclcjedkcaa
open Go.RowKit

/-! ### ViewLocals' law -/
theorem great_z {V : View} {i nm nl nd : Nat} {am al ad : Option Addr} {cm cl cd : Nat} {w : World} {r : Bool} (hi : V.id = (i : Int)) (hnm : Hid (V.ms.length = nm)) (hnl : Hid (V.ls.length = nl)) (hnd : Hid (V.ds.length = nd)) (h : Hid (greatB V = r)) (hV : ViewR w am al ad V) :
    Calls Try.prog 18 #[.agg #[.int .u64 i, .slice am nm cm, .slice al nl cl, .slice ad nd cd]] w fun e w' => e = .returned (.bool r) ∧ Below w.heap.size w w' := by
  have := great_i (cm := cm) (cl := cl) (cd := cd) hi h hV
  rw [hnm.out, hnl.out, hnd.out] at this; exact this
theorem rsame_z {V : View} {j n1 n2 n3 : Nat} {am al ad bm bl bd : Option Addr} {cm cl cd em el ed : Nat} {w : World} (hi : V.id = (j : Int)) (h1 : Hid (V.ms.length = n1)) (h2 : Hid (V.ls.length = n2)) (h3 : Hid (V.ds.length = n3)) (hA : ViewR w am al ad V) (hB : ViewR w bm bl bd V) :
    Calls Try.prog 20 #[.agg #[.int .u64 j, .slice am n1 cm, .slice al n2 cl, .slice ad n3 cd], .agg #[.int .u64 j, .slice bm n1 em, .slice bl n2 el, .slice bd n3 ed]] w fun e w' => e = .returned (.bool true) ∧ Below w.heap.size w w' := by
  have := rsame_i (cm := cm) (cl := cl) (cd := cd) (em := em) (el := el) (ed := ed) hi hA hB
  rw [h1.out, h2.out, h3.out] at this; exact this
/-- a view as the row brings it -/
structure EWf (e : VE) : Prop where
  wf : WfView e.V
  cap : e.V.ls.length ≤ e.cl
theorem EWf.in {e : VE} (h : EWf e) (g : greatB e.V = false) : EIn e := ⟨h.wf, h.cap, g⟩
theorem okV_mem {es : List VE} {k : Nat} (h : ∀ e ∈ es.take k, greatB e.V = false) (hk : k < es.length) (g : greatB (es[k]).V = false) : ∀ e ∈ es.take (k + 1), greatB e.V = false := by
  intro e he
  rw [List.take_succ_eq_append_getElem hk] at he
  rcases List.mem_append.1 he with h1 | h1
  · exact h e h1
  · have : e = es[k] := by simpa using h1
    rw [this]; exact g
set_option maxRecDepth 100000 in
set_option maxHeartbeats 12800000 in
theorem viewLocals_law {es : List VE} {c : Nat} {a : Option Addr} {x y : Int} {w : World} (hrow : VRow w a es) (hin : ∀ e ∈ es, EWf e) :
    Calls Try.prog 3 #[.slice a es.length c, .agg #[.int .u16 x, .int .u32 y]] w fun e w' => e = .returned (.bool true) ∧ Below w.heap.size w w' := by
  obtain ⟨n, hn⟩ : ∃ n, es.length = n := ⟨_, rfl⟩
  obtain ⟨W1, hW1⟩ : ∃ W1, w.alloc (.cells #[.int .u16 x, .int .u32 y] 26) = W1 := ⟨_, rfl⟩
  have hB1 : Below w.heap.size w W1 := by rw [← hW1]; exact (Below.refl _ _).alloc (Nat.le_refl _) _
  have p0 : W1.cell? ⟨w.heap.size, 0, none⟩ = some (.int .u16 x) := by rw [← hW1]; simp
  have p1 : W1.cell? ⟨w.heap.size, 1, none⟩ = some (.int .u32 y) := by rw [← hW1]; simp
  have HPX : Hid (∀ W, Below W1.heap.size W1 W → W.cell? ⟨w.heap.size, 0, none⟩ = some (.int .u16 x) ∧ W.cell? ⟨w.heap.size, 1, none⟩ = some (.int .u32 y)) := hid fun W h => ⟨cell_toB p0 h, cell_toB p1 h⟩
  have AW : Hid (∀ W, Below W1.heap.size W1 W → Calls Try.prog 17 #[] W fun e w' => e = .returned (.bool true) ∧ Below W1.heap.size W1 w') := hid fun W h => relB h (awake_any W)
  have HROW := hid (hrow.ext hB1)
  have HIN := hid hin
  have HB1 := hid hB1
  have H1 := Below.refl W1.heap.size W1
  rw [hn]
  have HN := hid hn
  clear p0 p1 hB1 hrow hin hn
  by_cases hbig : 12 < n
  · have t0 : decide (12 < n) = true := by simpa using hbig
    have t1 : decide ((n : Int) > 12) = true := by simp; omega
    have t2 : decide ((12 : Int) < (n : Int)) = true := by simp; omega
    clear hbig
    go_enter Try.func3, Try.ntmps3
    go_wp2_with (go_at_call 17; (with_reducible refine (AW.out _ H1).mono ?_); rintro e w9 ⟨rfl, hb9⟩)
    go_ret
    exact ⟨rfl, HB1.out.trans (hb9.mono HB1.out.size)⟩
  have t0 : decide (12 < n) = false := by simpa using hbig
  have t1 : decide ((n : Int) > 12) = false := by simp; omega
  have t2 : decide ((12 : Int) < (n : Int)) = false := by simp; omega
  have hn12 : n ≤ 12 := by omega
  clear hbig
  go_enter Try.func3, Try.ntmps3
  go_wp2_with fail
  clear t0 t1 t2
  go_loopw [5] (fun i wr => ∃ (k : Nat), k ≤ n ∧ i = .int .i64 k ∧ (∀ e ∈ es.take k, greatB e.V = false) ∧ Below W1.heap.size W1 wr) (fun i _ => n - (intOf i).toNat)
  case atStart => exact ⟨0, Nat.zero_le _, rfl, by simp, Below.refl _ _⟩
  case round =>
    obtain ⟨k, hk, rfl, hgr, hb⟩ := hrel
    by_cases hlt : k < n
    · have t1 : decide ((k : Int) < (n : Int)) = true := by simpa using hlt
      have t1' : decide (k < n) = true := by simpa using hlt
      have hke : k < es.length := by rw [HN.out]; exact hlt
      obtain ⟨b, off, e, rfl, he, f0, f1, f2, f3, hv⟩ := HROW.out.at hb hke
      have hei := HIN.out e (by rw [he]; exact List.getElem_mem _)
      have HGR := hid hgr
      have HKE := hid hke
      have HE := hid he
      obtain ⟨g, hg⟩ : ∃ g, greatB e.V = g := ⟨_, rfl⟩
      obtain ⟨V, am, al, ad, cm, cl, cd⟩ := e
      simp only at f0 f1 f2 f3 hv hg
      obtain ⟨i, hi⟩ : ∃ i : Nat, V.id = (i : Int) := ⟨V.id.toNat, by have : 0 ≤ V.id := hei.wf.id.1; omega⟩
      obtain ⟨nm, hnm⟩ : ∃ k, V.ms.length = k := ⟨_, rfl⟩
      obtain ⟨nl, hnl2⟩ : ∃ k, V.ls.length = k := ⟨_, rfl⟩
      obtain ⟨nd, hnd⟩ : ∃ k, V.ds.length = k := ⟨_, rfl⟩
      rw [hi] at f0
      rw [hnm] at f1
      rw [hnl2] at f2
      rw [hnd] at f3
      have GT := hid (great_z (cm := cm) (cl := cl) (cd := cd) hi (hid hnm) (hid hnl2) (hid hnd) (hid hg) (hv.ext hb))
      have HB := hid hb
      cases g
      case true =>
        have AWr : Hid (∀ W, Below wr.heap.size wr W → Calls Try.prog 17 #[] W fun e w' => e = .returned (.bool true) ∧ Below W1.heap.size W1 w') := hid fun W h => AW.out W (hb.trans (h.mono hb.size))
        clear HE HKE HGR hgr hke he hv hei hg hi hnm hnl2 hnd hb AW
        go_wp2_with (first
          | (go_at_call 18; (with_reducible refine GT.out.mono ?_); rintro e w3 ⟨rfl, hb3⟩)
          | (go_at_call 17; (with_reducible refine (AWr.out _ hb3).mono ?_); rintro e w9 ⟨rfl, hb9⟩))
        go_ret
        exact ⟨rfl, HB1.out.trans (hb9.mono HB1.out.size)⟩
      have HEI := hid (hei.in hg)
      have hei2 := HEI.out
      obtain ⟨j, hj, -⟩ := localV_id (p := (x, y)) hi
      obtain ⟨lm, -, -, lme, lms⟩ := localV_len (p := (x, y)) (fun l hl => hei2.le l hl) (by omega : 1 ≤ 40)
      have hself := localV_self (V := V) (p := (x, y))
      obtain ⟨L, hL⟩ : ∃ L, localV V (x, y) = L := ⟨_, rfl⟩
      rw [hL] at hj lm lme lms hself
      obtain ⟨lL, hlL⟩ : ∃ m, L.ms.length = m := ⟨_, rfl⟩
      obtain ⟨l2, hl2⟩ : ∃ m, L.ls.length = m := ⟨_, rfl⟩
      obtain ⟨l3, hl3⟩ : ∃ m, L.ds.length = m := ⟨_, rfl⟩
      rw [hlL] at lm
      have HGR2 : Hid (∀ e ∈ es.take (k + 1), greatB e.V = false) := hid (okV_mem hgr hke (by rw [← he]; exact hg))
      clear hgr
      go_upto_region 8 with ((go_at_call 18; (with_reducible refine GT.out.mono ?_); rintro e w3 ⟨rfl, hb3⟩; clear f0 f1 f2 f3))
      have hb13 := hb.trans (hb3.mono hb.size)
      obtain ⟨b', off', e', eav, he', f0, f1, f2, f3, -⟩ := HROW.out.at hb13 hke
      have hee := he'.trans he.symm
      subst hee
      cases eav
      simp only at f0 f1 f2 f3
      rw [hi] at f0
      rw [hnm] at f1
      rw [hnl2] at f2
      rw [hnd] at f3
      obtain ⟨p0, p1⟩ := HPX.out _ hb13
      have LC : Hid (∀ W, Below w3.heap.size w3 W → Calls Try.prog 19 #[.agg #[.int .u64 i, .slice am nm cm, .slice al nl cl, .slice ad nd cd], .agg #[.int .u16 x, .int .u32 y]] W fun e w' => ∃ (qm ql qd : Option Addr) (km kl kd : Nat), e = .returned (.agg #[.int .u64 j, .slice qm lL km, .slice ql l2 kl, .slice qd l3 kd]) ∧ Hid (Stab (W.heap.size + 3) w' qm ql qd L) ∧ Below w3.heap.size w3 w' ∧ Hid (Below W.heap.size W w')) := hid fun W h => (local_any (x := x) (y := y) (cm := cm) (cl := cl) (cd := cd) (hid hL) hi (hid hnm) (hid hnl2) (hid hnd) (hv.ext (hb13.trans (h.mono hb13.size))) (by have : lens V.ls ≤ 1600 := hei2.sum; omega) (fun l hl => by have := hei2.le l hl; omega)).mono fun e w' ⟨qm, ql, qd, km, kl, kd, h1, h2, h3⟩ => ⟨qm, ql, qd, km, kl, kd, by rw [h1, hj, hlL, hl2, hl3], hid h2, h.trans (h3.mono h.size), hid h3⟩
      have LR : Hid (∀ W, Below w3.heap.size w3 W → Calls Try.prog 21 #[.agg #[.int .u64 i, .slice am nm cm, .slice al nl cl, .slice ad nd cd], .agg #[.int .u16 x, .int .u32 y]] W fun e w' => ∃ (qm ql qd : Option Addr) (km kl kd : Nat), e = .returned (.agg #[.int .u64 j, .slice qm lL km, .slice ql l2 kl, .slice qd l3 kd]) ∧ Hid (∀ W', Below W1.heap.size W1 W' → ViewR W' qm ql qd L) ∧ Below w3.heap.size w3 w' ∧ Hid (Below W.heap.size W w')) := hid fun W h => (localR_any (x := x) (y := y) (cm := cm) (cl := cl) (cd := cd) (hid hL) hei2.wf.ms hi (hid hnm) (hid hnl2) (hid hnd) (by have := hei2.cap; simp only at this; omega) hv (hb13.trans (h.mono hb13.size)) (by have : lens V.ls ≤ 1600 := hei2.sum; omega)).mono fun e w' ⟨qm, ql, qd, km, kl, kd, h1, h2, h3⟩ => ⟨qm, ql, qd, km, kl, kd, by rw [h1, hj, hlL, hl2, hl3], hid h2, h.trans (h3.mono h.size), hid h3⟩
      have HS : Hid (∀ W, Below w3.heap.size w3 W → W.cell? ⟨b, off + k * 4, none⟩ = some (.int .u64 i) ∧ W.cell? ⟨b, off + k * 4 + 1, none⟩ = some (.slice am nm cm) ∧ W.cell? ⟨b, off + k * 4 + 2, none⟩ = some (.slice al nl cl) ∧ W.cell? ⟨b, off + k * 4 + 3, none⟩ = some (.slice ad nd cd) ∧ W.cell? ⟨w.heap.size, 0, none⟩ = some (.int .u16 x) ∧ W.cell? ⟨w.heap.size, 1, none⟩ = some (.int .u32 y)) := hid fun W h => ⟨cell_toB f0 h, cell_toB f1 h, cell_toB f2 h, cell_toB f3 h, cell_toB p0 h, cell_toB p1 h⟩
      have HJ := hid hj
      have HLL := hid hlL
      have HL2 := hid hl2
      have HL3 := hid hl3
      have HSELF := hid hself
      have HLMS := hid lms
      have HLME := hid lme
      have HB13 := hid hb13
      have H0 : Below w3.heap.size w3 w3.drew := (Below.refl _ _).drew
      clear HE HKE HGR he' he hke hb hb13 hb3 hj hlL hl2 hl3 hself lms lme hL hv hei hei2 hg hi hnm hnl2 hnd f0 f1 f2 f3 p0 p1 GT AW HB
      refine wp_region_held_drew (S := fun W => W.cell? ⟨b, off + k * 4, none⟩ = some (.int .u64 i) ∧ W.cell? ⟨b, off + k * 4 + 1, none⟩ = some (.slice am nm cm) ∧ W.cell? ⟨b, off + k * 4 + 2, none⟩ = some (.slice al nl cl) ∧ W.cell? ⟨b, off + k * 4 + 3, none⟩ = some (.slice ad nd cd) ∧ W.cell? ⟨w.heap.size, 0, none⟩ = some (.int .u16 x) ∧ W.cell? ⟨w.heap.size, 1, none⟩ = some (.int .u32 y)) (by kernel_rfl) (HS.out _ H0) (fun hHeld => ?_)
      refine wpAnyH_take (i := 0) (oi := _) (v := .slice (some ⟨b, off, none⟩) n c) rfl (by kernel_rfl) (by kernel_rfl) (by kernel_rfl) (fun _ _ _ h => h) (Or.inl ⟨by rfl, ?_⟩) (by assumption) ?_
      · intro W hSw
        try dsimp only at hSw
        go_simp
      try simp only [Act.put, List.getElem_toArray, List.getElem_cons_succ, List.getElem_cons_zero, List.setIfInBounds_toArray, List.set_cons_zero, List.set_cons_succ]
      refine wpAnyH_take (i := 1) (oi := _) (v := .int .i64 k) rfl (by kernel_rfl) (by kernel_rfl) (by kernel_rfl) (fun _ _ _ h => h) (Or.inl ⟨by rfl, ?_⟩) (by assumption) ?_
      · intro W hSw
        try dsimp only at hSw
        go_simp
      try simp only [Act.put, List.getElem_toArray, List.getElem_cons_succ, List.getElem_cons_zero, List.setIfInBounds_toArray, List.set_cons_zero, List.set_cons_succ]
      refine wpAnyH_take (i := 2) (oi := _) (v := .pointer (some ⟨b, off + k * 4, none⟩)) rfl (by kernel_rfl) (by kernel_rfl) (by kernel_rfl) (fun _ _ _ h => h) (Or.inl ⟨by rfl, ?_⟩) (by assumption) ?_
      · intro W hSw
        try dsimp only at hSw
        go_simp
      try simp only [Act.put, List.getElem_toArray, List.getElem_cons_succ, List.getElem_cons_zero, List.setIfInBounds_toArray, List.set_cons_zero, List.set_cons_succ]
      refine wpAnyH_take (i := 3) (oi := _) (v := .agg #[.int .u64 i, .slice am nm cm, .slice al nl cl, .slice ad nd cd]) rfl (by kernel_rfl) (by kernel_rfl) (by kernel_rfl) (fun _ _ _ h => h) (Or.inl ⟨by rfl, ?_⟩) (by assumption) ?_
      · intro W hSw
        try dsimp only at hSw
        go_simp
      try simp only [Act.put, List.getElem_toArray, List.getElem_cons_succ, List.getElem_cons_zero, List.setIfInBounds_toArray, List.set_cons_zero, List.set_cons_succ]
      refine wpAnyH_take (i := 4) (oi := _) (v := .agg #[.int .u16 x, .int .u32 y]) rfl (by kernel_rfl) (by kernel_rfl) (by kernel_rfl) (fun _ _ _ h => h) (Or.inl ⟨by rfl, ?_⟩) (by assumption) ?_
      · intro W hSw
        try dsimp only at hSw
        go_simp
      try simp only [Act.put, List.getElem_toArray, List.getElem_cons_succ, List.getElem_cons_zero, List.setIfInBounds_toArray, List.set_cons_zero, List.set_cons_succ]
      refine wpAnyH_ready (rs := [5, 6]) (by kernel_rfl) (by simp) ?_
      refine AllReadyH.cons (o := _) rfl (fun K hK => ?_) (AllReadyH.cons (o := _) rfl (fun K hK => ?_) AllReadyH.nil)
      · go_simp
        (with_reducible refine (LC.out _ H0).mono ?_)
        rintro e5 w5 ⟨qm, ql, qd, km, kl, kd, rfl, hst, hb5, hb51⟩
        refine hK.out _ _ (HS.out _ (hb5)) (fun hHeld => ?_)
        clear hK K
        try simp only [Act.put, List.getElem_toArray, List.getElem_cons_succ, List.getElem_cons_zero, List.setIfInBounds_toArray, List.set_cons_zero, List.set_cons_succ]
        refine wpAnyH_ready (rs := [6]) (by kernel_rfl) (by simp) ?_
        refine AllReadyH.cons (o := _) rfl (fun K hK => ?_) AllReadyH.nil
        go_simp
        refine hK.out _ _ (HS.out _ (hb5.alloc hb5.size _)) (fun hHeld => ?_)
        clear hK K
        try simp only [Act.put, List.getElem_toArray, List.getElem_cons_succ, List.getElem_cons_zero, List.setIfInBounds_toArray, List.set_cons_zero, List.set_cons_succ]
        refine wpAnyH_ready (rs := [7]) (by kernel_rfl) (by simp) ?_
        refine AllReadyH.cons (o := _) rfl (fun K hK => ?_) AllReadyH.nil
        go_simp
        refine hK.out _ _ (HS.out _ (hb5.alloc hb5.size _)) (fun hHeld => ?_)
        clear hK K
        try simp only [Act.put, List.getElem_toArray, List.getElem_cons_succ, List.getElem_cons_zero, List.setIfInBounds_toArray, List.set_cons_zero, List.set_cons_succ]
        obtain ⟨WB, hWB⟩ : ∃ WB, w5.alloc (.cells #[.int .u64 j, .slice qm lL km, .slice ql l2 kl, .slice qd l3 kd] 33) = WB := ⟨_, rfl⟩
        have xx : BoxV WB w5.heap.size (.int .u64 j) (.slice qm lL km) (.slice ql l2 kl) (.slice qd l3 kd) := by rw [← hWB]; exact BoxV.made _ _ _ _ _ _
        have hrB : Below w3.heap.size w3 WB := by rw [← hWB]; exact hb5.alloc hb5.size _
        have HSTB : Hid (∀ W, Below WB.heap.size WB W → ViewR W qm ql qd L) := hid fun W h => by rw [← hWB] at h; exact ((hst.out.ext ((Below.refl _ _).alloc (Nat.le_refl _) _)).r).ext h
        refine wpAnyH_done (by kernel_rfl) ?_ _
        have hB1B := HB13.out.trans (hrB.mono HB13.out.size)
        have HXX : Hid (∀ W, Below WB.heap.size WB W → W.cell? ⟨w5.heap.size, 0, none⟩ = some (.int .u64 j) ∧ W.cell? ⟨w5.heap.size, 1, none⟩ = some (.slice qm lL km) ∧ W.cell? ⟨w5.heap.size, 2, none⟩ = some (.slice ql l2 kl) ∧ W.cell? ⟨w5.heap.size, 3, none⟩ = some (.slice qd l3 kd)) := hid fun W h => ⟨cell_toB xx.c0 h, cell_toB xx.c1 h, cell_toB xx.c2 h, cell_toB xx.c3 h⟩
        have HSX : Hid (∀ W, Below WB.heap.size WB W → W.cell? ⟨b, off + k * 4, none⟩ = some (.int .u64 i) ∧ W.cell? ⟨b, off + k * 4 + 1, none⟩ = some (.slice am nm cm) ∧ W.cell? ⟨b, off + k * 4 + 2, none⟩ = some (.slice al nl cl) ∧ W.cell? ⟨b, off + k * 4 + 3, none⟩ = some (.slice ad nd cd) ∧ W.cell? ⟨w.heap.size, 0, none⟩ = some (.int .u16 x) ∧ W.cell? ⟨w.heap.size, 1, none⟩ = some (.int .u32 y) ∧ W.cell? ⟨w5.heap.size, 0, none⟩ = some (.int .u64 j) ∧ W.cell? ⟨w5.heap.size, 1, none⟩ = some (.slice qm lL km) ∧ W.cell? ⟨w5.heap.size, 2, none⟩ = some (.slice ql l2 kl) ∧ W.cell? ⟨w5.heap.size, 3, none⟩ = some (.slice qd l3 kd)) := hid fun W h => by
          obtain ⟨a0, a1, a2, a3, a4, a5⟩ := HS.out W (hrB.trans (h.mono hrB.size))
          obtain ⟨b0, b1, b2, b3⟩ := HXX.out W h
          exact ⟨a0, a1, a2, a3, a4, a5, b0, b1, b2, b3⟩
        have LRB : Hid (∀ W, Below WB.heap.size WB W → Calls Try.prog 21 #[.agg #[.int .u64 i, .slice am nm cm, .slice al nl cl, .slice ad nd cd], .agg #[.int .u16 x, .int .u32 y]] W fun e w' => ∃ (rm rl rd : Option Addr) (im il jd : Nat), e = .returned (.agg #[.int .u64 j, .slice rm lL im, .slice rl l2 il, .slice rd l3 jd]) ∧ Hid (∀ W', Below W1.heap.size W1 W' → ViewR W' rm rl rd L) ∧ Below WB.heap.size WB w') := hid fun W h => (LR.out W (hrB.trans (h.mono hrB.size))).mono fun e w' ⟨rm, rl, rd, im, il, jd, h1, h2, h3, h4⟩ => ⟨rm, rl, rd, im, il, jd, h1, h2, h.trans (h4.out.mono h.size)⟩
        have LS : Hid (0 < L.id → ∀ W, Below WB.heap.size WB W → Calls Try.prog 19 #[.agg #[.int .u64 j, .slice qm lL km, .slice ql l2 kl, .slice qd l3 kd], .agg #[.int .u16 x, .int .u32 y]] W fun e w' => ∃ (rm rl rd : Option Addr) (im il jd : Nat), e = .returned (.agg #[.int .u64 j, .slice rm lL im, .slice rl l2 il, .slice rd l3 jd]) ∧ Hid (ViewR w' rm rl rd L) ∧ Below WB.heap.size WB w') := hid fun hp W h => (local_any (x := x) (y := y) (cm := km) (cl := kl) (cd := kd) (hid (HSELF.out hp).2) HJ.out (hid HLL.out) (hid HL2.out) (hid HL3.out) (HSTB.out W h) (by have := HLMS.out; omega) (fun l hl => by have := HLME.out l hl; omega)).mono fun e w' ⟨rm, rl, rd, im, il, jd, h1, h2, h3⟩ => ⟨rm, rl, rd, im, il, jd, by rw [h1, HJ.out, HLL.out, HL2.out, HL3.out], hid h2.r, h.trans (h3.mono h.size)⟩
        have CK : Hid (0 < L.id → ∀ W, Below WB.heap.size WB W → Calls Try.prog 22 #[.agg #[.int .u64 j, .slice qm lL km, .slice ql l2 kl, .slice qd l3 kd]] W fun e w' => e = .returned (.int .i64 0) ∧ Below WB.heap.size WB w') := hid fun hp W h => relB h (check_z (cm := km) (cl := kl) (cd := kd) (k := 0) (hid (HSELF.out hp).1) rfl HJ.out (hid HLL.out) (hid HL2.out) (hid HL3.out) (HSTB.out W h) (by have := HLMS.out; omega))
        have HB1B := hid hB1B
        have H0B : Below WB.heap.size WB WB.drew := (Below.refl _ _).drew
        clear hb5 hb51 hst xx hrB hB1B LC LR HS H0
        go_wp2_with fail
        rw [hWB]
        refine wp_region_held_drew (S := fun W => W.cell? ⟨b, off + k * 4, none⟩ = some (.int .u64 i) ∧ W.cell? ⟨b, off + k * 4 + 1, none⟩ = some (.slice am nm cm) ∧ W.cell? ⟨b, off + k * 4 + 2, none⟩ = some (.slice al nl cl) ∧ W.cell? ⟨b, off + k * 4 + 3, none⟩ = some (.slice ad nd cd) ∧ W.cell? ⟨w.heap.size, 0, none⟩ = some (.int .u16 x) ∧ W.cell? ⟨w.heap.size, 1, none⟩ = some (.int .u32 y) ∧ W.cell? ⟨w5.heap.size, 0, none⟩ = some (.int .u64 j) ∧ W.cell? ⟨w5.heap.size, 1, none⟩ = some (.slice qm lL km) ∧ W.cell? ⟨w5.heap.size, 2, none⟩ = some (.slice ql l2 kl) ∧ W.cell? ⟨w5.heap.size, 3, none⟩ = some (.slice qd l3 kd)) (by kernel_rfl) (HSX.out _ H0B) (fun hHeld => ?_)
        refine wpAnyH_take (i := 0) (oi := _) (v := .agg #[.int .u64 j, .slice qm lL km, .slice ql l2 kl, .slice qd l3 kd]) rfl (by kernel_rfl) (by kernel_rfl) (by kernel_rfl) (fun _ _ _ h => h) (Or.inl ⟨by rfl, ?_⟩) (by assumption) ?_
        · intro W hSw
          try dsimp only at hSw
          go_simp
        try simp only [Act.put, List.getElem_toArray, List.getElem_cons_succ, List.getElem_cons_zero, List.setIfInBounds_toArray, List.set_cons_zero, List.set_cons_succ]
        refine wpAnyH_take (i := 1) (oi := _) (v := .slice (some ⟨b, off, none⟩) n c) rfl (by kernel_rfl) (by kernel_rfl) (by kernel_rfl) (fun _ _ _ h => h) (Or.inl ⟨by rfl, ?_⟩) (by assumption) ?_
        · intro W hSw
          try dsimp only at hSw
          go_simp
        try simp only [Act.put, List.getElem_toArray, List.getElem_cons_succ, List.getElem_cons_zero, List.setIfInBounds_toArray, List.set_cons_zero, List.set_cons_succ]
        refine wpAnyH_take (i := 2) (oi := _) (v := .int .i64 k) rfl (by kernel_rfl) (by kernel_rfl) (by kernel_rfl) (fun _ _ _ h => h) (Or.inl ⟨by rfl, ?_⟩) (by assumption) ?_
        · intro W hSw
          try dsimp only at hSw
          go_simp
        try simp only [Act.put, List.getElem_toArray, List.getElem_cons_succ, List.getElem_cons_zero, List.setIfInBounds_toArray, List.set_cons_zero, List.set_cons_succ]
        refine wpAnyH_take (i := 3) (oi := _) (v := .pointer (some ⟨b, off + k * 4, none⟩)) rfl (by kernel_rfl) (by kernel_rfl) (by kernel_rfl) (fun _ _ _ h => h) (Or.inl ⟨by rfl, ?_⟩) (by assumption) ?_
        · intro W hSw
          try dsimp only at hSw
          go_simp
        try simp only [Act.put, List.getElem_toArray, List.getElem_cons_succ, List.getElem_cons_zero, List.setIfInBounds_toArray, List.set_cons_zero, List.set_cons_succ]
        refine wpAnyH_take (i := 4) (oi := _) (v := .agg #[.int .u64 i, .slice am nm cm, .slice al nl cl, .slice ad nd cd]) rfl (by kernel_rfl) (by kernel_rfl) (by kernel_rfl) (fun _ _ _ h => h) (Or.inl ⟨by rfl, ?_⟩) (by assumption) ?_
        · intro W hSw
          try dsimp only at hSw
          go_simp
        try simp only [Act.put, List.getElem_toArray, List.getElem_cons_succ, List.getElem_cons_zero, List.setIfInBounds_toArray, List.set_cons_zero, List.set_cons_succ]
        refine wpAnyH_take (i := 5) (oi := _) (v := .agg #[.int .u16 x, .int .u32 y]) rfl (by kernel_rfl) (by kernel_rfl) (by kernel_rfl) (fun _ _ _ h => h) (Or.inl ⟨by rfl, ?_⟩) (by assumption) ?_
        · intro W hSw
          try dsimp only at hSw
          go_simp
        try simp only [Act.put, List.getElem_toArray, List.getElem_cons_succ, List.getElem_cons_zero, List.setIfInBounds_toArray, List.set_cons_zero, List.set_cons_succ]
        refine wpAnyH_ready (rs := [6]) (by kernel_rfl) (by simp) ?_
        refine AllReadyH.cons (o := _) rfl (fun K hK => ?_) AllReadyH.nil
        go_simp
        (with_reducible refine (LRB.out _ H0B).mono ?_)
        rintro e wc ⟨rm, rl, rd, im, il, jd, rfl, hrv, hbc⟩
        have SM := hid (rsame_z (cm := km) (cl := kl) (cd := kd) (em := im) (el := il) (ed := jd) HJ.out (hid HLL.out) (hid HL2.out) (hid HL3.out) (HSTB.out _ hbc) (hrv.out _ (HB1B.out.trans (hbc.mono HB1B.out.size))))
        refine hK.out _ _ (HSX.out _ (hbc)) (fun hHeld => ?_)
        clear hK K
        try simp only [Act.put, List.getElem_toArray, List.getElem_cons_succ, List.getElem_cons_zero, List.setIfInBounds_toArray, List.set_cons_zero, List.set_cons_succ]
        refine wpAnyH_ready (rs := [7]) (by kernel_rfl) (by simp) ?_
        refine AllReadyH.cons (o := _) rfl (fun K hK => ?_) AllReadyH.nil
        go_simp
        (with_reducible refine SM.out.mono ?_)
        rintro e wd ⟨rfl, hbd0⟩
        have hbd := hbc.trans (hbd0.mono hbc.size)
        clear hbd0 SM hrv
        refine hK.out _ _ (HSX.out _ (hbd)) (fun hHeld => ?_)
        clear hK K
        try simp only [Act.put, List.getElem_toArray, List.getElem_cons_succ, List.getElem_cons_zero, List.setIfInBounds_toArray, List.set_cons_zero, List.set_cons_succ]
        refine wpAnyH_take (i := 8) (oi := _) (v := .bool false) rfl (by kernel_rfl) (by kernel_rfl) (by kernel_rfl) (fun _ _ _ h => h) (Or.inl ⟨by rfl, ?_⟩) (by assumption) ?_
        · intro W hSw
          try dsimp only at hSw
          go_simp
        try simp only [Act.put, List.getElem_toArray, List.getElem_cons_succ, List.getElem_cons_zero, List.setIfInBounds_toArray, List.set_cons_zero, List.set_cons_succ]
        refine wpAnyH_take (i := 9) (oi := _) (v := .bool false) rfl (by kernel_rfl) (by kernel_rfl) (by kernel_rfl) (fun _ _ _ h => h) (Or.inl ⟨by rfl, ?_⟩) (by assumption) ?_
        · intro W hSw
          try dsimp only at hSw
          go_simp
        try simp only [Act.put, List.getElem_toArray, List.getElem_cons_succ, List.getElem_cons_zero, List.setIfInBounds_toArray, List.set_cons_zero, List.set_cons_succ]
        refine wpAnyH_take (i := 10) (oi := _) (v := .pointer (some ⟨w5.heap.size, 0, none⟩)) rfl (by kernel_rfl) (by kernel_rfl) (by kernel_rfl) (fun _ _ _ h => h) (Or.inl ⟨by rfl, ?_⟩) (by assumption) ?_
        · intro W hSw
          try dsimp only at hSw
          go_simp
        try simp only [Act.put, List.getElem_toArray, List.getElem_cons_succ, List.getElem_cons_zero, List.setIfInBounds_toArray, List.set_cons_zero, List.set_cons_succ]
        refine wpAnyH_take (i := 11) (oi := _) (v := .int .u64 j) rfl (by kernel_rfl) (by kernel_rfl) (by kernel_rfl) (fun _ _ _ h => h) (Or.inl ⟨by rfl, ?_⟩) (by assumption) ?_
        · intro W hSw
          try dsimp only at hSw
          go_simp
        try simp only [Act.put, List.getElem_toArray, List.getElem_cons_succ, List.getElem_cons_zero, List.setIfInBounds_toArray, List.set_cons_zero, List.set_cons_succ]
        by_cases hj0 : j = 0
        · have b1 : decide (j > 0) = false := by simp; omega
          have b2 : decide ((j : Int) > 0) = false := by simp; omega
          have b3 : decide (0 < j) = false := by simp; omega
          have b4 : decide ((0 : Int) < (j : Int)) = false := by simp; omega
          clear hj0
          refine wpAnyH_take (i := 12) (oi := _) (v := .bool false) rfl (by kernel_rfl) (by kernel_rfl) (by kernel_rfl) (fun _ _ _ h => h) (Or.inl ⟨by rfl, ?_⟩) (by assumption) ?_
          · intro W hSw
            try dsimp only at hSw
            go_simp
          try simp only [Act.put, List.getElem_toArray, List.getElem_cons_succ, List.getElem_cons_zero, List.setIfInBounds_toArray, List.set_cons_zero, List.set_cons_succ]
          refine wpAnyH_take (i := 13) (oi := _) (v := .bool false) rfl (by kernel_rfl) (by kernel_rfl) (by kernel_rfl) (fun _ _ _ h => h) (Or.inl ⟨by rfl, ?_⟩) (by assumption) ?_
          · intro W hSw
            try dsimp only at hSw
            go_simp
          try simp only [Act.put, List.getElem_toArray, List.getElem_cons_succ, List.getElem_cons_zero, List.setIfInBounds_toArray, List.set_cons_zero, List.set_cons_succ]
          refine wpAnyH_take (i := 14) (oi := _) (v := undef) rfl (by kernel_rfl) (by kernel_rfl) (by kernel_rfl) (fun _ _ _ h => h) (Or.inr ⟨by rfl, rfl⟩) (by assumption) ?_
          try simp only [Act.put, List.getElem_toArray, List.getElem_cons_succ, List.getElem_cons_zero, List.setIfInBounds_toArray, List.set_cons_zero, List.set_cons_succ]
          refine wpAnyH_take (i := 15) (oi := _) (v := undef) rfl (by kernel_rfl) (by kernel_rfl) (by kernel_rfl) (fun _ _ _ h => h) (Or.inr ⟨by rfl, rfl⟩) (by assumption) ?_
          try simp only [Act.put, List.getElem_toArray, List.getElem_cons_succ, List.getElem_cons_zero, List.setIfInBounds_toArray, List.set_cons_zero, List.set_cons_succ]
          refine wpAnyH_take (i := 16) (oi := _) (v := undef) rfl (by kernel_rfl) (by kernel_rfl) (by kernel_rfl) (fun _ _ _ h => h) (Or.inr ⟨by rfl, rfl⟩) (by assumption) ?_
          try simp only [Act.put, List.getElem_toArray, List.getElem_cons_succ, List.getElem_cons_zero, List.setIfInBounds_toArray, List.set_cons_zero, List.set_cons_succ]
          refine wpAnyH_take (i := 17) (oi := _) (v := undef) rfl (by kernel_rfl) (by kernel_rfl) (by kernel_rfl) (fun _ _ _ h => h) (Or.inr ⟨by rfl, rfl⟩) (by assumption) ?_
          try simp only [Act.put, List.getElem_toArray, List.getElem_cons_succ, List.getElem_cons_zero, List.setIfInBounds_toArray, List.set_cons_zero, List.set_cons_succ]
          refine wpAnyH_take (i := 18) (oi := _) (v := undef) rfl (by kernel_rfl) (by kernel_rfl) (by kernel_rfl) (fun _ _ _ h => h) (Or.inr ⟨by rfl, rfl⟩) (by assumption) ?_
          try simp only [Act.put, List.getElem_toArray, List.getElem_cons_succ, List.getElem_cons_zero, List.setIfInBounds_toArray, List.set_cons_zero, List.set_cons_succ]
          refine wpAnyH_take (i := 19) (oi := _) (v := undef) rfl (by kernel_rfl) (by kernel_rfl) (by kernel_rfl) (fun _ _ _ h => h) (Or.inr ⟨by rfl, rfl⟩) (by assumption) ?_
          try simp only [Act.put, List.getElem_toArray, List.getElem_cons_succ, List.getElem_cons_zero, List.setIfInBounds_toArray, List.set_cons_zero, List.set_cons_succ]
          refine wpAnyH_take (i := 20) (oi := _) (v := undef) rfl (by kernel_rfl) (by kernel_rfl) (by kernel_rfl) (fun _ _ _ h => h) (Or.inr ⟨by rfl, rfl⟩) (by assumption) ?_
          try simp only [Act.put, List.getElem_toArray, List.getElem_cons_succ, List.getElem_cons_zero, List.setIfInBounds_toArray, List.set_cons_zero, List.set_cons_succ]
          refine wpAnyH_take (i := 21) (oi := _) (v := undef) rfl (by kernel_rfl) (by kernel_rfl) (by kernel_rfl) (fun _ _ _ h => h) (Or.inr ⟨by rfl, rfl⟩) (by assumption) ?_
          try simp only [Act.put, List.getElem_toArray, List.getElem_cons_succ, List.getElem_cons_zero, List.setIfInBounds_toArray, List.set_cons_zero, List.set_cons_succ]
          refine wpAnyH_take (i := 22) (oi := _) (v := undef) rfl (by kernel_rfl) (by kernel_rfl) (by kernel_rfl) (fun _ _ _ h => h) (Or.inr ⟨by rfl, rfl⟩) (by assumption) ?_
          try simp only [Act.put, List.getElem_toArray, List.getElem_cons_succ, List.getElem_cons_zero, List.setIfInBounds_toArray, List.set_cons_zero, List.set_cons_succ]
          refine wpAnyH_take (i := 23) (oi := _) (v := undef) rfl (by kernel_rfl) (by kernel_rfl) (by kernel_rfl) (fun _ _ _ h => h) (Or.inr ⟨by rfl, rfl⟩) (by assumption) ?_
          try simp only [Act.put, List.getElem_toArray, List.getElem_cons_succ, List.getElem_cons_zero, List.setIfInBounds_toArray, List.set_cons_zero, List.set_cons_succ]
          refine wpAnyH_take (i := 24) (oi := _) (v := undef) rfl (by kernel_rfl) (by kernel_rfl) (by kernel_rfl) (fun _ _ _ h => h) (Or.inr ⟨by rfl, rfl⟩) (by assumption) ?_
          try simp only [Act.put, List.getElem_toArray, List.getElem_cons_succ, List.getElem_cons_zero, List.setIfInBounds_toArray, List.set_cons_zero, List.set_cons_succ]
          refine wpAnyH_take (i := 25) (oi := _) (v := .bool false) rfl (by kernel_rfl) (by kernel_rfl) (by kernel_rfl) (fun _ _ _ h => h) (Or.inl ⟨by rfl, ?_⟩) (by assumption) ?_
          · intro W hSw
            try dsimp only at hSw
            go_simp
          try simp only [Act.put, List.getElem_toArray, List.getElem_cons_succ, List.getElem_cons_zero, List.setIfInBounds_toArray, List.set_cons_zero, List.set_cons_succ]
          refine wpAnyH_take (i := 26) (oi := _) (v := .bool false) rfl (by kernel_rfl) (by kernel_rfl) (by kernel_rfl) (fun _ _ _ h => h) (Or.inl ⟨by rfl, ?_⟩) (by assumption) ?_
          · intro W hSw
            try dsimp only at hSw
            go_simp
          try simp only [Act.put, List.getElem_toArray, List.getElem_cons_succ, List.getElem_cons_zero, List.setIfInBounds_toArray, List.set_cons_zero, List.set_cons_succ]
          refine wpAnyH_done (by kernel_rfl) ?_ _
          go_wp2_with fail
          go_roundw
          case rel => exact ⟨k + 1, by omega, by go_num, HGR2.out, HB1B.out.trans (hbd.mono HB1B.out.size)⟩
          case measure => simp [intOf]; omega
        · have b1 : decide (j > 0) = true := by simp; omega
          have b2 : decide ((j : Int) > 0) = true := by simp; omega
          have b3 : decide (0 < j) = true := by simp; omega
          have b4 : decide ((0 : Int) < (j : Int)) = true := by simp; omega
          have HJP : Hid (0 < L.id) := hid (by rw [HJ.out]; omega)
          clear hj0
          refine wpAnyH_take (i := 12) (oi := _) (v := .bool true) rfl (by kernel_rfl) (by kernel_rfl) (by kernel_rfl) (fun _ _ _ h => h) (Or.inl ⟨by rfl, ?_⟩) (by assumption) ?_
          · intro W hSw
            try dsimp only at hSw
            go_simp
          try simp only [Act.put, List.getElem_toArray, List.getElem_cons_succ, List.getElem_cons_zero, List.setIfInBounds_toArray, List.set_cons_zero, List.set_cons_succ]
          refine wpAnyH_take (i := 13) (oi := _) (v := .bool true) rfl (by kernel_rfl) (by kernel_rfl) (by kernel_rfl) (fun _ _ _ h => h) (Or.inl ⟨by rfl, ?_⟩) (by assumption) ?_
          · intro W hSw
            try dsimp only at hSw
            go_simp
          try simp only [Act.put, List.getElem_toArray, List.getElem_cons_succ, List.getElem_cons_zero, List.setIfInBounds_toArray, List.set_cons_zero, List.set_cons_succ]
          refine wpAnyH_take (i := 14) (oi := _) (v := .agg #[.int .u64 j, .slice qm lL km, .slice ql l2 kl, .slice qd l3 kd]) rfl (by kernel_rfl) (by kernel_rfl) (by kernel_rfl) (fun _ _ _ h => h) (Or.inl ⟨by rfl, ?_⟩) (by assumption) ?_
          · intro W hSw
            try dsimp only at hSw
            go_simp
          try simp only [Act.put, List.getElem_toArray, List.getElem_cons_succ, List.getElem_cons_zero, List.setIfInBounds_toArray, List.set_cons_zero, List.set_cons_succ]
          refine wpAnyH_ready (rs := [15]) (by kernel_rfl) (by simp) ?_
          refine AllReadyH.cons (o := _) rfl (fun K hK => ?_) AllReadyH.nil
          go_simp
          (with_reducible refine (CK.out HJP.out _ hbd).mono ?_)
          rintro e we ⟨rfl, hbe⟩
          refine hK.out _ _ (HSX.out _ (hbe)) (fun hHeld => ?_)
          clear hK K
          try simp only [Act.put, List.getElem_toArray, List.getElem_cons_succ, List.getElem_cons_zero, List.setIfInBounds_toArray, List.set_cons_zero, List.set_cons_succ]
          refine wpAnyH_take (i := 16) (oi := _) (v := .bool false) rfl (by kernel_rfl) (by kernel_rfl) (by kernel_rfl) (fun _ _ _ h => h) (Or.inl ⟨by rfl, ?_⟩) (by assumption) ?_
          · intro W hSw
            try dsimp only at hSw
            go_simp
          try simp only [Act.put, List.getElem_toArray, List.getElem_cons_succ, List.getElem_cons_zero, List.setIfInBounds_toArray, List.set_cons_zero, List.set_cons_succ]
          refine wpAnyH_take (i := 17) (oi := _) (v := .bool false) rfl (by kernel_rfl) (by kernel_rfl) (by kernel_rfl) (fun _ _ _ h => h) (Or.inl ⟨by rfl, ?_⟩) (by assumption) ?_
          · intro W hSw
            try dsimp only at hSw
            go_simp
          try simp only [Act.put, List.getElem_toArray, List.getElem_cons_succ, List.getElem_cons_zero, List.setIfInBounds_toArray, List.set_cons_zero, List.set_cons_succ]
          refine wpAnyH_take (i := 18) (oi := _) (v := .agg #[.int .u64 j, .slice qm lL km, .slice ql l2 kl, .slice qd l3 kd]) rfl (by kernel_rfl) (by kernel_rfl) (by kernel_rfl) (fun _ _ _ h => h) (Or.inl ⟨by rfl, ?_⟩) (by assumption) ?_
          · intro W hSw
            try dsimp only at hSw
            go_simp
          try simp only [Act.put, List.getElem_toArray, List.getElem_cons_succ, List.getElem_cons_zero, List.setIfInBounds_toArray, List.set_cons_zero, List.set_cons_succ]
          refine wpAnyH_take (i := 19) (oi := _) (v := .agg #[.int .u16 x, .int .u32 y]) rfl (by kernel_rfl) (by kernel_rfl) (by kernel_rfl) (fun _ _ _ h => h) (Or.inl ⟨by rfl, ?_⟩) (by assumption) ?_
          · intro W hSw
            try dsimp only at hSw
            go_simp
          try simp only [Act.put, List.getElem_toArray, List.getElem_cons_succ, List.getElem_cons_zero, List.setIfInBounds_toArray, List.set_cons_zero, List.set_cons_succ]
          refine wpAnyH_take (i := 21) (oi := _) (v := .agg #[.int .u64 j, .slice qm lL km, .slice ql l2 kl, .slice qd l3 kd]) rfl (by kernel_rfl) (by kernel_rfl) (by kernel_rfl) (fun _ _ _ h => h) (Or.inl ⟨by rfl, ?_⟩) (by assumption) ?_
          · intro W hSw
            try dsimp only at hSw
            go_simp
          try simp only [Act.put, List.getElem_toArray, List.getElem_cons_succ, List.getElem_cons_zero, List.setIfInBounds_toArray, List.set_cons_zero, List.set_cons_succ]
          refine wpAnyH_ready (rs := [20]) (by kernel_rfl) (by simp) ?_
          refine AllReadyH.cons (o := _) rfl (fun K hK => ?_) AllReadyH.nil
          go_simp
          (with_reducible refine (LS.out HJP.out _ hbe).mono ?_)
          rintro e wf ⟨sm, sl, sd, om, ol, od, rfl, hsv, hbf⟩
          have SM := hid (rsame_z (cm := om) (cl := ol) (cd := od) (em := km) (el := kl) (ed := kd) HJ.out (hid HLL.out) (hid HL2.out) (hid HL3.out) hsv.out (HSTB.out _ hbf))
          refine hK.out _ _ (HSX.out _ (hbf)) (fun hHeld => ?_)
          clear hK K
          try simp only [Act.put, List.getElem_toArray, List.getElem_cons_succ, List.getElem_cons_zero, List.setIfInBounds_toArray, List.set_cons_zero, List.set_cons_succ]
          refine wpAnyH_ready (rs := [22]) (by kernel_rfl) (by simp) ?_
          refine AllReadyH.cons (o := _) rfl (fun K hK => ?_) AllReadyH.nil
          go_simp
          (with_reducible refine SM.out.mono ?_)
          rintro e wg ⟨rfl, hbg0⟩
          have hbg := hbf.trans (hbg0.mono hbf.size)
          clear hbg0 SM hsv
          refine hK.out _ _ (HSX.out _ (hbg)) (fun hHeld => ?_)
          clear hK K
          try simp only [Act.put, List.getElem_toArray, List.getElem_cons_succ, List.getElem_cons_zero, List.setIfInBounds_toArray, List.set_cons_zero, List.set_cons_succ]
          refine wpAnyH_take (i := 23) (oi := _) (v := .bool false) rfl (by kernel_rfl) (by kernel_rfl) (by kernel_rfl) (fun _ _ _ h => h) (Or.inl ⟨by rfl, ?_⟩) (by assumption) ?_
          · intro W hSw
            try dsimp only at hSw
            go_simp
          try simp only [Act.put, List.getElem_toArray, List.getElem_cons_succ, List.getElem_cons_zero, List.setIfInBounds_toArray, List.set_cons_zero, List.set_cons_succ]
          refine wpAnyH_take (i := 24) (oi := _) (v := .bool false) rfl (by kernel_rfl) (by kernel_rfl) (by kernel_rfl) (fun _ _ _ h => h) (Or.inl ⟨by rfl, ?_⟩) (by assumption) ?_
          · intro W hSw
            try dsimp only at hSw
            go_simp
          try simp only [Act.put, List.getElem_toArray, List.getElem_cons_succ, List.getElem_cons_zero, List.setIfInBounds_toArray, List.set_cons_zero, List.set_cons_succ]
          refine wpAnyH_take (i := 25) (oi := _) (v := .bool false) rfl (by kernel_rfl) (by kernel_rfl) (by kernel_rfl) (fun _ _ _ h => h) (Or.inl ⟨by rfl, ?_⟩) (by assumption) ?_
          · intro W hSw
            try dsimp only at hSw
            go_simp
          try simp only [Act.put, List.getElem_toArray, List.getElem_cons_succ, List.getElem_cons_zero, List.setIfInBounds_toArray, List.set_cons_zero, List.set_cons_succ]
          refine wpAnyH_take (i := 26) (oi := _) (v := .bool false) rfl (by kernel_rfl) (by kernel_rfl) (by kernel_rfl) (fun _ _ _ h => h) (Or.inl ⟨by rfl, ?_⟩) (by assumption) ?_
          · intro W hSw
            try dsimp only at hSw
            go_simp
          try simp only [Act.put, List.getElem_toArray, List.getElem_cons_succ, List.getElem_cons_zero, List.setIfInBounds_toArray, List.set_cons_zero, List.set_cons_succ]
          refine wpAnyH_done (by kernel_rfl) ?_ _
          go_wp2_with fail
          go_roundw
          case rel => exact ⟨k + 1, by omega, by go_num, HGR2.out, HB1B.out.trans (hbg.mono HB1B.out.size)⟩
          case measure => simp [intOf]; omega
      · have H1 : Below w3.heap.size w3 (w3.alloc (.cells #[.int .u64 0, .slice none 0 0, .slice none 0 0, .slice none 0 0] 33)).drew := ((Below.refl _ _).alloc (Nat.le_refl _) _).drew
        have bz : BoxV (w3.alloc (.cells #[.int .u64 0, .slice none 0 0, .slice none 0 0, .slice none 0 0] 33)).drew w3.heap.size (.int .u64 0) (.slice none 0 0) (.slice none 0 0) (.slice none 0 0) := (BoxV.made w3 33 (.int .u64 0) (.slice none 0 0) (.slice none 0 0) (.slice none 0 0)).ext (Below.refl _ _).drew
        go_simp
        refine hK.out _ _ (HS.out _ (H1)) (fun hHeld => ?_)
        clear hK K
        try simp only [Act.put, List.getElem_toArray, List.getElem_cons_succ, List.getElem_cons_zero, List.setIfInBounds_toArray, List.set_cons_zero, List.set_cons_succ]
        refine wpAnyH_ready (rs := [5]) (by kernel_rfl) (by simp) ?_
        refine AllReadyH.cons (o := _) rfl (fun K hK => ?_) AllReadyH.nil
        go_simp
        (with_reducible refine (LC.out _ H1).mono ?_)
        rintro e5 w5 ⟨qm, ql, qd, km, kl, kd, rfl, hst, hb5, hb51⟩
        have hbz5 : BoxV w5 w3.heap.size (.int .u64 0) (.slice none 0 0) (.slice none 0 0) (.slice none 0 0) := by
          have := bz.ext hb51.out
          simpa using this
        obtain ⟨z0, z1, z2, z3, zf0, zf1, zf2, zf3⟩ := id hbz5
        refine hK.out _ _ (HS.out _ (hb5)) (fun hHeld => ?_)
        clear hK K
        try simp only [Act.put, List.getElem_toArray, List.getElem_cons_succ, List.getElem_cons_zero, List.setIfInBounds_toArray, List.set_cons_zero, List.set_cons_succ]
        refine wpAnyH_ready (rs := [7]) (by kernel_rfl) (by simp) ?_
        refine AllReadyH.cons (o := _) rfl (fun K hK => ?_) AllReadyH.nil
        go_simp
        refine hK.out _ _ (HS.out _ (below_put4 hb5 (Nat.le_refl _))) (fun hHeld => ?_)
        clear hK K
        try simp only [Act.put, List.getElem_toArray, List.getElem_cons_succ, List.getElem_cons_zero, List.setIfInBounds_toArray, List.set_cons_zero, List.set_cons_succ]
        clear z0 z1 z2 z3 zf0 zf1 zf2 zf3 bz
        obtain ⟨WB, hWB⟩ : ∃ WB, (((((w5).setCell ⟨w3.heap.size, 0, none⟩ (.int .u64 j)).setCell ⟨w3.heap.size, 1, none⟩ (.slice qm lL km)).setCell ⟨w3.heap.size, 2, none⟩ (.slice ql l2 kl)).setCell ⟨w3.heap.size, 3, none⟩ (.slice qd l3 kd)) = WB := ⟨_, rfl⟩
        have xx : BoxV WB w3.heap.size (.int .u64 j) (.slice qm lL km) (.slice ql l2 kl) (.slice qd l3 kd) := by rw [← hWB]; exact hbz5.put _ _ _ _
        have hrB : Below w3.heap.size w3 WB := by rw [← hWB]; exact below_put4 hb5 (Nat.le_refl _)
        have HSTB : Hid (∀ W, Below WB.heap.size WB W → ViewR W qm ql qd L) := hid fun W h => by rw [← hWB] at h; exact (hst.out (fun k => k = w3.heap.size) (fun k e => by rw [e]; simp; omega) _ (mutV _ _ _ _ _ _)).ext h
        refine wpAnyH_done (by kernel_rfl) ?_ _
        have hB1B := HB13.out.trans (hrB.mono HB13.out.size)
        have HXX : Hid (∀ W, Below WB.heap.size WB W → W.cell? ⟨w3.heap.size, 0, none⟩ = some (.int .u64 j) ∧ W.cell? ⟨w3.heap.size, 1, none⟩ = some (.slice qm lL km) ∧ W.cell? ⟨w3.heap.size, 2, none⟩ = some (.slice ql l2 kl) ∧ W.cell? ⟨w3.heap.size, 3, none⟩ = some (.slice qd l3 kd)) := hid fun W h => ⟨cell_toB xx.c0 h, cell_toB xx.c1 h, cell_toB xx.c2 h, cell_toB xx.c3 h⟩
        have HSX : Hid (∀ W, Below WB.heap.size WB W → W.cell? ⟨b, off + k * 4, none⟩ = some (.int .u64 i) ∧ W.cell? ⟨b, off + k * 4 + 1, none⟩ = some (.slice am nm cm) ∧ W.cell? ⟨b, off + k * 4 + 2, none⟩ = some (.slice al nl cl) ∧ W.cell? ⟨b, off + k * 4 + 3, none⟩ = some (.slice ad nd cd) ∧ W.cell? ⟨w.heap.size, 0, none⟩ = some (.int .u16 x) ∧ W.cell? ⟨w.heap.size, 1, none⟩ = some (.int .u32 y) ∧ W.cell? ⟨w3.heap.size, 0, none⟩ = some (.int .u64 j) ∧ W.cell? ⟨w3.heap.size, 1, none⟩ = some (.slice qm lL km) ∧ W.cell? ⟨w3.heap.size, 2, none⟩ = some (.slice ql l2 kl) ∧ W.cell? ⟨w3.heap.size, 3, none⟩ = some (.slice qd l3 kd)) := hid fun W h => by
          obtain ⟨a0, a1, a2, a3, a4, a5⟩ := HS.out W (hrB.trans (h.mono hrB.size))
          obtain ⟨b0, b1, b2, b3⟩ := HXX.out W h
          exact ⟨a0, a1, a2, a3, a4, a5, b0, b1, b2, b3⟩
        have LRB : Hid (∀ W, Below WB.heap.size WB W → Calls Try.prog 21 #[.agg #[.int .u64 i, .slice am nm cm, .slice al nl cl, .slice ad nd cd], .agg #[.int .u16 x, .int .u32 y]] W fun e w' => ∃ (rm rl rd : Option Addr) (im il jd : Nat), e = .returned (.agg #[.int .u64 j, .slice rm lL im, .slice rl l2 il, .slice rd l3 jd]) ∧ Hid (∀ W', Below W1.heap.size W1 W' → ViewR W' rm rl rd L) ∧ Below WB.heap.size WB w') := hid fun W h => (LR.out W (hrB.trans (h.mono hrB.size))).mono fun e w' ⟨rm, rl, rd, im, il, jd, h1, h2, h3, h4⟩ => ⟨rm, rl, rd, im, il, jd, h1, h2, h.trans (h4.out.mono h.size)⟩
        have LS : Hid (0 < L.id → ∀ W, Below WB.heap.size WB W → Calls Try.prog 19 #[.agg #[.int .u64 j, .slice qm lL km, .slice ql l2 kl, .slice qd l3 kd], .agg #[.int .u16 x, .int .u32 y]] W fun e w' => ∃ (rm rl rd : Option Addr) (im il jd : Nat), e = .returned (.agg #[.int .u64 j, .slice rm lL im, .slice rl l2 il, .slice rd l3 jd]) ∧ Hid (ViewR w' rm rl rd L) ∧ Below WB.heap.size WB w') := hid fun hp W h => (local_any (x := x) (y := y) (cm := km) (cl := kl) (cd := kd) (hid (HSELF.out hp).2) HJ.out (hid HLL.out) (hid HL2.out) (hid HL3.out) (HSTB.out W h) (by have := HLMS.out; omega) (fun l hl => by have := HLME.out l hl; omega)).mono fun e w' ⟨rm, rl, rd, im, il, jd, h1, h2, h3⟩ => ⟨rm, rl, rd, im, il, jd, by rw [h1, HJ.out, HLL.out, HL2.out, HL3.out], hid h2.r, h.trans (h3.mono h.size)⟩
        have CK : Hid (0 < L.id → ∀ W, Below WB.heap.size WB W → Calls Try.prog 22 #[.agg #[.int .u64 j, .slice qm lL km, .slice ql l2 kl, .slice qd l3 kd]] W fun e w' => e = .returned (.int .i64 0) ∧ Below WB.heap.size WB w') := hid fun hp W h => relB h (check_z (cm := km) (cl := kl) (cd := kd) (k := 0) (hid (HSELF.out hp).1) rfl HJ.out (hid HLL.out) (hid HL2.out) (hid HL3.out) (HSTB.out W h) (by have := HLMS.out; omega))
        have HB1B := hid hB1B
        have H0B : Below WB.heap.size WB WB.drew := (Below.refl _ _).drew
        clear hb5 hb51 hbz5 H1 hst xx hrB hB1B LC LR HS H0
        go_wp2_with fail
        rw [hWB]
        refine wp_region_held_drew (S := fun W => W.cell? ⟨b, off + k * 4, none⟩ = some (.int .u64 i) ∧ W.cell? ⟨b, off + k * 4 + 1, none⟩ = some (.slice am nm cm) ∧ W.cell? ⟨b, off + k * 4 + 2, none⟩ = some (.slice al nl cl) ∧ W.cell? ⟨b, off + k * 4 + 3, none⟩ = some (.slice ad nd cd) ∧ W.cell? ⟨w.heap.size, 0, none⟩ = some (.int .u16 x) ∧ W.cell? ⟨w.heap.size, 1, none⟩ = some (.int .u32 y) ∧ W.cell? ⟨w3.heap.size, 0, none⟩ = some (.int .u64 j) ∧ W.cell? ⟨w3.heap.size, 1, none⟩ = some (.slice qm lL km) ∧ W.cell? ⟨w3.heap.size, 2, none⟩ = some (.slice ql l2 kl) ∧ W.cell? ⟨w3.heap.size, 3, none⟩ = some (.slice qd l3 kd)) (by kernel_rfl) (HSX.out _ H0B) (fun hHeld => ?_)
        refine wpAnyH_take (i := 0) (oi := _) (v := .agg #[.int .u64 j, .slice qm lL km, .slice ql l2 kl, .slice qd l3 kd]) rfl (by kernel_rfl) (by kernel_rfl) (by kernel_rfl) (fun _ _ _ h => h) (Or.inl ⟨by rfl, ?_⟩) (by assumption) ?_
        · intro W hSw
          try dsimp only at hSw
          go_simp
        try simp only [Act.put, List.getElem_toArray, List.getElem_cons_succ, List.getElem_cons_zero, List.setIfInBounds_toArray, List.set_cons_zero, List.set_cons_succ]
        refine wpAnyH_take (i := 1) (oi := _) (v := .slice (some ⟨b, off, none⟩) n c) rfl (by kernel_rfl) (by kernel_rfl) (by kernel_rfl) (fun _ _ _ h => h) (Or.inl ⟨by rfl, ?_⟩) (by assumption) ?_
        · intro W hSw
          try dsimp only at hSw
          go_simp
        try simp only [Act.put, List.getElem_toArray, List.getElem_cons_succ, List.getElem_cons_zero, List.setIfInBounds_toArray, List.set_cons_zero, List.set_cons_succ]
        refine wpAnyH_take (i := 2) (oi := _) (v := .int .i64 k) rfl (by kernel_rfl) (by kernel_rfl) (by kernel_rfl) (fun _ _ _ h => h) (Or.inl ⟨by rfl, ?_⟩) (by assumption) ?_
        · intro W hSw
          try dsimp only at hSw
          go_simp
        try simp only [Act.put, List.getElem_toArray, List.getElem_cons_succ, List.getElem_cons_zero, List.setIfInBounds_toArray, List.set_cons_zero, List.set_cons_succ]
        refine wpAnyH_take (i := 3) (oi := _) (v := .pointer (some ⟨b, off + k * 4, none⟩)) rfl (by kernel_rfl) (by kernel_rfl) (by kernel_rfl) (fun _ _ _ h => h) (Or.inl ⟨by rfl, ?_⟩) (by assumption) ?_
        · intro W hSw
          try dsimp only at hSw
          go_simp
        try simp only [Act.put, List.getElem_toArray, List.getElem_cons_succ, List.getElem_cons_zero, List.setIfInBounds_toArray, List.set_cons_zero, List.set_cons_succ]
        refine wpAnyH_take (i := 4) (oi := _) (v := .agg #[.int .u64 i, .slice am nm cm, .slice al nl cl, .slice ad nd cd]) rfl (by kernel_rfl) (by kernel_rfl) (by kernel_rfl) (fun _ _ _ h => h) (Or.inl ⟨by rfl, ?_⟩) (by assumption) ?_
        · intro W hSw
          try dsimp only at hSw
          go_simp
        try simp only [Act.put, List.getElem_toArray, List.getElem_cons_succ, List.getElem_cons_zero, List.setIfInBounds_toArray, List.set_cons_zero, List.set_cons_succ]
        refine wpAnyH_take (i := 5) (oi := _) (v := .agg #[.int .u16 x, .int .u32 y]) rfl (by kernel_rfl) (by kernel_rfl) (by kernel_rfl) (fun _ _ _ h => h) (Or.inl ⟨by rfl, ?_⟩) (by assumption) ?_
        · intro W hSw
          try dsimp only at hSw
          go_simp
        try simp only [Act.put, List.getElem_toArray, List.getElem_cons_succ, List.getElem_cons_zero, List.setIfInBounds_toArray, List.set_cons_zero, List.set_cons_succ]
        refine wpAnyH_ready (rs := [6]) (by kernel_rfl) (by simp) ?_
        refine AllReadyH.cons (o := _) rfl (fun K hK => ?_) AllReadyH.nil
        go_simp
        (with_reducible refine (LRB.out _ H0B).mono ?_)
        rintro e wc ⟨rm, rl, rd, im, il, jd, rfl, hrv, hbc⟩
        have SM := hid (rsame_z (cm := km) (cl := kl) (cd := kd) (em := im) (el := il) (ed := jd) HJ.out (hid HLL.out) (hid HL2.out) (hid HL3.out) (HSTB.out _ hbc) (hrv.out _ (HB1B.out.trans (hbc.mono HB1B.out.size))))
        refine hK.out _ _ (HSX.out _ (hbc)) (fun hHeld => ?_)
        clear hK K
        try simp only [Act.put, List.getElem_toArray, List.getElem_cons_succ, List.getElem_cons_zero, List.setIfInBounds_toArray, List.set_cons_zero, List.set_cons_succ]
        refine wpAnyH_ready (rs := [7]) (by kernel_rfl) (by simp) ?_
        refine AllReadyH.cons (o := _) rfl (fun K hK => ?_) AllReadyH.nil
        go_simp
        (with_reducible refine SM.out.mono ?_)
        rintro e wd ⟨rfl, hbd0⟩
        have hbd := hbc.trans (hbd0.mono hbc.size)
        clear hbd0 SM hrv
        refine hK.out _ _ (HSX.out _ (hbd)) (fun hHeld => ?_)
        clear hK K
        try simp only [Act.put, List.getElem_toArray, List.getElem_cons_succ, List.getElem_cons_zero, List.setIfInBounds_toArray, List.set_cons_zero, List.set_cons_succ]
        refine wpAnyH_take (i := 8) (oi := _) (v := .bool false) rfl (by kernel_rfl) (by kernel_rfl) (by kernel_rfl) (fun _ _ _ h => h) (Or.inl ⟨by rfl, ?_⟩) (by assumption) ?_
        · intro W hSw
          try dsimp only at hSw
          go_simp
        try simp only [Act.put, List.getElem_toArray, List.getElem_cons_succ, List.getElem_cons_zero, List.setIfInBounds_toArray, List.set_cons_zero, List.set_cons_succ]
        refine wpAnyH_take (i := 9) (oi := _) (v := .bool false) rfl (by kernel_rfl) (by kernel_rfl) (by kernel_rfl) (fun _ _ _ h => h) (Or.inl ⟨by rfl, ?_⟩) (by assumption) ?_
        · intro W hSw
          try dsimp only at hSw
          go_simp
        try simp only [Act.put, List.getElem_toArray, List.getElem_cons_succ, List.getElem_cons_zero, List.setIfInBounds_toArray, List.set_cons_zero, List.set_cons_succ]
        refine wpAnyH_take (i := 10) (oi := _) (v := .pointer (some ⟨w3.heap.size, 0, none⟩)) rfl (by kernel_rfl) (by kernel_rfl) (by kernel_rfl) (fun _ _ _ h => h) (Or.inl ⟨by rfl, ?_⟩) (by assumption) ?_
        · intro W hSw
          try dsimp only at hSw
          go_simp
        try simp only [Act.put, List.getElem_toArray, List.getElem_cons_succ, List.getElem_cons_zero, List.setIfInBounds_toArray, List.set_cons_zero, List.set_cons_succ]
        refine wpAnyH_take (i := 11) (oi := _) (v := .int .u64 j) rfl (by kernel_rfl) (by kernel_rfl) (by kernel_rfl) (fun _ _ _ h => h) (Or.inl ⟨by rfl, ?_⟩) (by assumption) ?_
        · intro W hSw
          try dsimp only at hSw
          go_simp
        try simp only [Act.put, List.getElem_toArray, List.getElem_cons_succ, List.getElem_cons_zero, List.setIfInBounds_toArray, List.set_cons_zero, List.set_cons_succ]
        by_cases hj0 : j = 0
        · have b1 : decide (j > 0) = false := by simp; omega
          have b2 : decide ((j : Int) > 0) = false := by simp; omega
          have b3 : decide (0 < j) = false := by simp; omega
          have b4 : decide ((0 : Int) < (j : Int)) = false := by simp; omega
          clear hj0
          refine wpAnyH_take (i := 12) (oi := _) (v := .bool false) rfl (by kernel_rfl) (by kernel_rfl) (by kernel_rfl) (fun _ _ _ h => h) (Or.inl ⟨by rfl, ?_⟩) (by assumption) ?_
          · intro W hSw
            try dsimp only at hSw
            go_simp
          try simp only [Act.put, List.getElem_toArray, List.getElem_cons_succ, List.getElem_cons_zero, List.setIfInBounds_toArray, List.set_cons_zero, List.set_cons_succ]
          refine wpAnyH_take (i := 13) (oi := _) (v := .bool false) rfl (by kernel_rfl) (by kernel_rfl) (by kernel_rfl) (fun _ _ _ h => h) (Or.inl ⟨by rfl, ?_⟩) (by assumption) ?_
          · intro W hSw
            try dsimp only at hSw
            go_simp
          try simp only [Act.put, List.getElem_toArray, List.getElem_cons_succ, List.getElem_cons_zero, List.setIfInBounds_toArray, List.set_cons_zero, List.set_cons_succ]
          refine wpAnyH_take (i := 14) (oi := _) (v := undef) rfl (by kernel_rfl) (by kernel_rfl) (by kernel_rfl) (fun _ _ _ h => h) (Or.inr ⟨by rfl, rfl⟩) (by assumption) ?_
          try simp only [Act.put, List.getElem_toArray, List.getElem_cons_succ, List.getElem_cons_zero, List.setIfInBounds_toArray, List.set_cons_zero, List.set_cons_succ]
          refine wpAnyH_take (i := 15) (oi := _) (v := undef) rfl (by kernel_rfl) (by kernel_rfl) (by kernel_rfl) (fun _ _ _ h => h) (Or.inr ⟨by rfl, rfl⟩) (by assumption) ?_
          try simp only [Act.put, List.getElem_toArray, List.getElem_cons_succ, List.getElem_cons_zero, List.setIfInBounds_toArray, List.set_cons_zero, List.set_cons_succ]
          refine wpAnyH_take (i := 16) (oi := _) (v := undef) rfl (by kernel_rfl) (by kernel_rfl) (by kernel_rfl) (fun _ _ _ h => h) (Or.inr ⟨by rfl, rfl⟩) (by assumption) ?_
          try simp only [Act.put, List.getElem_toArray, List.getElem_cons_succ, List.getElem_cons_zero, List.setIfInBounds_toArray, List.set_cons_zero, List.set_cons_succ]
          refine wpAnyH_take (i := 17) (oi := _) (v := undef) rfl (by kernel_rfl) (by kernel_rfl) (by kernel_rfl) (fun _ _ _ h => h) (Or.inr ⟨by rfl, rfl⟩) (by assumption) ?_
          try simp only [Act.put, List.getElem_toArray, List.getElem_cons_succ, List.getElem_cons_zero, List.setIfInBounds_toArray, List.set_cons_zero, List.set_cons_succ]
          refine wpAnyH_take (i := 18) (oi := _) (v := undef) rfl (by kernel_rfl) (by kernel_rfl) (by kernel_rfl) (fun _ _ _ h => h) (Or.inr ⟨by rfl, rfl⟩) (by assumption) ?_
          try simp only [Act.put, List.getElem_toArray, List.getElem_cons_succ, List.getElem_cons_zero, List.setIfInBounds_toArray, List.set_cons_zero, List.set_cons_succ]
          refine wpAnyH_take (i := 19) (oi := _) (v := undef) rfl (by kernel_rfl) (by kernel_rfl) (by kernel_rfl) (fun _ _ _ h => h) (Or.inr ⟨by rfl, rfl⟩) (by assumption) ?_
          try simp only [Act.put, List.getElem_toArray, List.getElem_cons_succ, List.getElem_cons_zero, List.setIfInBounds_toArray, List.set_cons_zero, List.set_cons_succ]
          refine wpAnyH_take (i := 20) (oi := _) (v := undef) rfl (by kernel_rfl) (by kernel_rfl) (by kernel_rfl) (fun _ _ _ h => h) (Or.inr ⟨by rfl, rfl⟩) (by assumption) ?_
          try simp only [Act.put, List.getElem_toArray, List.getElem_cons_succ, List.getElem_cons_zero, List.setIfInBounds_toArray, List.set_cons_zero, List.set_cons_succ]
          refine wpAnyH_take (i := 21) (oi := _) (v := undef) rfl (by kernel_rfl) (by kernel_rfl) (by kernel_rfl) (fun _ _ _ h => h) (Or.inr ⟨by rfl, rfl⟩) (by assumption) ?_
          try simp only [Act.put, List.getElem_toArray, List.getElem_cons_succ, List.getElem_cons_zero, List.setIfInBounds_toArray, List.set_cons_zero, List.set_cons_succ]
          refine wpAnyH_take (i := 22) (oi := _) (v := undef) rfl (by kernel_rfl) (by kernel_rfl) (by kernel_rfl) (fun _ _ _ h => h) (Or.inr ⟨by rfl, rfl⟩) (by assumption) ?_
          try simp only [Act.put, List.getElem_toArray, List.getElem_cons_succ, List.getElem_cons_zero, List.setIfInBounds_toArray, List.set_cons_zero, List.set_cons_succ]
          refine wpAnyH_take (i := 23) (oi := _) (v := undef) rfl (by kernel_rfl) (by kernel_rfl) (by kernel_rfl) (fun _ _ _ h => h) (Or.inr ⟨by rfl, rfl⟩) (by assumption) ?_
          try simp only [Act.put, List.getElem_toArray, List.getElem_cons_succ, List.getElem_cons_zero, List.setIfInBounds_toArray, List.set_cons_zero, List.set_cons_succ]
          refine wpAnyH_take (i := 24) (oi := _) (v := undef) rfl (by kernel_rfl) (by kernel_rfl) (by kernel_rfl) (fun _ _ _ h => h) (Or.inr ⟨by rfl, rfl⟩) (by assumption) ?_
          try simp only [Act.put, List.getElem_toArray, List.getElem_cons_succ, List.getElem_cons_zero, List.setIfInBounds_toArray, List.set_cons_zero, List.set_cons_succ]
          refine wpAnyH_take (i := 25) (oi := _) (v := .bool false) rfl (by kernel_rfl) (by kernel_rfl) (by kernel_rfl) (fun _ _ _ h => h) (Or.inl ⟨by rfl, ?_⟩) (by assumption) ?_
          · intro W hSw
            try dsimp only at hSw
            go_simp
          try simp only [Act.put, List.getElem_toArray, List.getElem_cons_succ, List.getElem_cons_zero, List.setIfInBounds_toArray, List.set_cons_zero, List.set_cons_succ]
          refine wpAnyH_take (i := 26) (oi := _) (v := .bool false) rfl (by kernel_rfl) (by kernel_rfl) (by kernel_rfl) (fun _ _ _ h => h) (Or.inl ⟨by rfl, ?_⟩) (by assumption) ?_
          · intro W hSw
            try dsimp only at hSw
            go_simp
          try simp only [Act.put, List.getElem_toArray, List.getElem_cons_succ, List.getElem_cons_zero, List.setIfInBounds_toArray, List.set_cons_zero, List.set_cons_succ]
          refine wpAnyH_done (by kernel_rfl) ?_ _
          go_wp2_with fail
          go_roundw
          case rel => exact ⟨k + 1, by omega, by go_num, HGR2.out, HB1B.out.trans (hbd.mono HB1B.out.size)⟩
          case measure => simp [intOf]; omega
        · have b1 : decide (j > 0) = true := by simp; omega
          have b2 : decide ((j : Int) > 0) = true := by simp; omega
          have b3 : decide (0 < j) = true := by simp; omega
          have b4 : decide ((0 : Int) < (j : Int)) = true := by simp; omega
          have HJP : Hid (0 < L.id) := hid (by rw [HJ.out]; omega)
          clear hj0
          refine wpAnyH_take (i := 12) (oi := _) (v := .bool true) rfl (by kernel_rfl) (by kernel_rfl) (by kernel_rfl) (fun _ _ _ h => h) (Or.inl ⟨by rfl, ?_⟩) (by assumption) ?_
          · intro W hSw
            try dsimp only at hSw
            go_simp
          try simp only [Act.put, List.getElem_toArray, List.getElem_cons_succ, List.getElem_cons_zero, List.setIfInBounds_toArray, List.set_cons_zero, List.set_cons_succ]
          refine wpAnyH_take (i := 13) (oi := _) (v := .bool true) rfl (by kernel_rfl) (by kernel_rfl) (by kernel_rfl) (fun _ _ _ h => h) (Or.inl ⟨by rfl, ?_⟩) (by assumption) ?_
          · intro W hSw
            try dsimp only at hSw
            go_simp
          try simp only [Act.put, List.getElem_toArray, List.getElem_cons_succ, List.getElem_cons_zero, List.setIfInBounds_toArray, List.set_cons_zero, List.set_cons_succ]
          refine wpAnyH_take (i := 14) (oi := _) (v := .agg #[.int .u64 j, .slice qm lL km, .slice ql l2 kl, .slice qd l3 kd]) rfl (by kernel_rfl) (by kernel_rfl) (by kernel_rfl) (fun _ _ _ h => h) (Or.inl ⟨by rfl, ?_⟩) (by assumption) ?_
          · intro W hSw
            try dsimp only at hSw
            go_simp
          try simp only [Act.put, List.getElem_toArray, List.getElem_cons_succ, List.getElem_cons_zero, List.setIfInBounds_toArray, List.set_cons_zero, List.set_cons_succ]
          refine wpAnyH_ready (rs := [15]) (by kernel_rfl) (by simp) ?_
          refine AllReadyH.cons (o := _) rfl (fun K hK => ?_) AllReadyH.nil
          go_simp
          (with_reducible refine (CK.out HJP.out _ hbd).mono ?_)
          rintro e we ⟨rfl, hbe⟩
          refine hK.out _ _ (HSX.out _ (hbe)) (fun hHeld => ?_)
          clear hK K
          try simp only [Act.put, List.getElem_toArray, List.getElem_cons_succ, List.getElem_cons_zero, List.setIfInBounds_toArray, List.set_cons_zero, List.set_cons_succ]
          refine wpAnyH_take (i := 16) (oi := _) (v := .bool false) rfl (by kernel_rfl) (by kernel_rfl) (by kernel_rfl) (fun _ _ _ h => h) (Or.inl ⟨by rfl, ?_⟩) (by assumption) ?_
          · intro W hSw
            try dsimp only at hSw
            go_simp
          try simp only [Act.put, List.getElem_toArray, List.getElem_cons_succ, List.getElem_cons_zero, List.setIfInBounds_toArray, List.set_cons_zero, List.set_cons_succ]
          refine wpAnyH_take (i := 17) (oi := _) (v := .bool false) rfl (by kernel_rfl) (by kernel_rfl) (by kernel_rfl) (fun _ _ _ h => h) (Or.inl ⟨by rfl, ?_⟩) (by assumption) ?_
          · intro W hSw
            try dsimp only at hSw
            go_simp
          try simp only [Act.put, List.getElem_toArray, List.getElem_cons_succ, List.getElem_cons_zero, List.setIfInBounds_toArray, List.set_cons_zero, List.set_cons_succ]
          refine wpAnyH_take (i := 18) (oi := _) (v := .agg #[.int .u64 j, .slice qm lL km, .slice ql l2 kl, .slice qd l3 kd]) rfl (by kernel_rfl) (by kernel_rfl) (by kernel_rfl) (fun _ _ _ h => h) (Or.inl ⟨by rfl, ?_⟩) (by assumption) ?_
          · intro W hSw
            try dsimp only at hSw
            go_simp
          try simp only [Act.put, List.getElem_toArray, List.getElem_cons_succ, List.getElem_cons_zero, List.setIfInBounds_toArray, List.set_cons_zero, List.set_cons_succ]
          refine wpAnyH_take (i := 19) (oi := _) (v := .agg #[.int .u16 x, .int .u32 y]) rfl (by kernel_rfl) (by kernel_rfl) (by kernel_rfl) (fun _ _ _ h => h) (Or.inl ⟨by rfl, ?_⟩) (by assumption) ?_
          · intro W hSw
            try dsimp only at hSw
            go_simp
          try simp only [Act.put, List.getElem_toArray, List.getElem_cons_succ, List.getElem_cons_zero, List.setIfInBounds_toArray, List.set_cons_zero, List.set_cons_succ]
          refine wpAnyH_take (i := 21) (oi := _) (v := .agg #[.int .u64 j, .slice qm lL km, .slice ql l2 kl, .slice qd l3 kd]) rfl (by kernel_rfl) (by kernel_rfl) (by kernel_rfl) (fun _ _ _ h => h) (Or.inl ⟨by rfl, ?_⟩) (by assumption) ?_
          · intro W hSw
            try dsimp only at hSw
            go_simp
          try simp only [Act.put, List.getElem_toArray, List.getElem_cons_succ, List.getElem_cons_zero, List.setIfInBounds_toArray, List.set_cons_zero, List.set_cons_succ]
          refine wpAnyH_ready (rs := [20]) (by kernel_rfl) (by simp) ?_
          refine AllReadyH.cons (o := _) rfl (fun K hK => ?_) AllReadyH.nil
          go_simp
          (with_reducible refine (LS.out HJP.out _ hbe).mono ?_)
          rintro e wf ⟨sm, sl, sd, om, ol, od, rfl, hsv, hbf⟩
          have SM := hid (rsame_z (cm := om) (cl := ol) (cd := od) (em := km) (el := kl) (ed := kd) HJ.out (hid HLL.out) (hid HL2.out) (hid HL3.out) hsv.out (HSTB.out _ hbf))
          refine hK.out _ _ (HSX.out _ (hbf)) (fun hHeld => ?_)
          clear hK K
          try simp only [Act.put, List.getElem_toArray, List.getElem_cons_succ, List.getElem_cons_zero, List.setIfInBounds_toArray, List.set_cons_zero, List.set_cons_succ]
          refine wpAnyH_ready (rs := [22]) (by kernel_rfl) (by simp) ?_
          refine AllReadyH.cons (o := _) rfl (fun K hK => ?_) AllReadyH.nil
          go_simp
          (with_reducible refine SM.out.mono ?_)
          rintro e wg ⟨rfl, hbg0⟩
          have hbg := hbf.trans (hbg0.mono hbf.size)
          clear hbg0 SM hsv
          refine hK.out _ _ (HSX.out _ (hbg)) (fun hHeld => ?_)
          clear hK K
          try simp only [Act.put, List.getElem_toArray, List.getElem_cons_succ, List.getElem_cons_zero, List.setIfInBounds_toArray, List.set_cons_zero, List.set_cons_succ]
          refine wpAnyH_take (i := 23) (oi := _) (v := .bool false) rfl (by kernel_rfl) (by kernel_rfl) (by kernel_rfl) (fun _ _ _ h => h) (Or.inl ⟨by rfl, ?_⟩) (by assumption) ?_
          · intro W hSw
            try dsimp only at hSw
            go_simp
          try simp only [Act.put, List.getElem_toArray, List.getElem_cons_succ, List.getElem_cons_zero, List.setIfInBounds_toArray, List.set_cons_zero, List.set_cons_succ]
          refine wpAnyH_take (i := 24) (oi := _) (v := .bool false) rfl (by kernel_rfl) (by kernel_rfl) (by kernel_rfl) (fun _ _ _ h => h) (Or.inl ⟨by rfl, ?_⟩) (by assumption) ?_
          · intro W hSw
            try dsimp only at hSw
            go_simp
          try simp only [Act.put, List.getElem_toArray, List.getElem_cons_succ, List.getElem_cons_zero, List.setIfInBounds_toArray, List.set_cons_zero, List.set_cons_succ]
          refine wpAnyH_take (i := 25) (oi := _) (v := .bool false) rfl (by kernel_rfl) (by kernel_rfl) (by kernel_rfl) (fun _ _ _ h => h) (Or.inl ⟨by rfl, ?_⟩) (by assumption) ?_
          · intro W hSw
            try dsimp only at hSw
            go_simp
          try simp only [Act.put, List.getElem_toArray, List.getElem_cons_succ, List.getElem_cons_zero, List.setIfInBounds_toArray, List.set_cons_zero, List.set_cons_succ]
          refine wpAnyH_take (i := 26) (oi := _) (v := .bool false) rfl (by kernel_rfl) (by kernel_rfl) (by kernel_rfl) (fun _ _ _ h => h) (Or.inl ⟨by rfl, ?_⟩) (by assumption) ?_
          · intro W hSw
            try dsimp only at hSw
            go_simp
          try simp only [Act.put, List.getElem_toArray, List.getElem_cons_succ, List.getElem_cons_zero, List.setIfInBounds_toArray, List.set_cons_zero, List.set_cons_succ]
          refine wpAnyH_done (by kernel_rfl) ?_ _
          go_wp2_with fail
          go_roundw
          case rel => exact ⟨k + 1, by omega, by go_num, HGR2.out, HB1B.out.trans (hbg.mono HB1B.out.size)⟩
          case measure => simp [intOf]; omega
    · have t1 : decide ((k : Int) < (n : Int)) = false := by simpa using hlt
      have t1' : decide (k < n) = false := by simpa using hlt
      have hkn : k = n := by omega
      have hall : ∀ e ∈ es, EIn e := by
        have h1 : es.take k = es := List.take_of_length_le (by rw [HN.out]; omega)
        rw [h1] at hgr
        exact fun e he => (HIN.out e he).in (hgr e he)
      have RW : Hid (∀ W, Below wr.heap.size wr W → Calls Try.prog 23 #[.slice a n c, .agg #[.int .u16 x, .int .u32 y]] W fun e w' => ∃ v es', e = .returned v ∧ Hid (OwnV w' W.heap.size v es') ∧ Hid (es'.map (·.V) = rowE es (x, y) ∧ es'.length ≤ n) ∧ Below wr.heap.size wr w') := hid fun W h => (row_any (x := x) (y := y) (c := c) HN (by omega) (HROW.out.ext (hb.trans (h.mono hb.size))) hall).mono fun e w' ⟨v, es', h1, h2, h3, h4, h5⟩ => ⟨v, es', h1, hid h2, hid ⟨h3, h4⟩, h.trans (h5.mono h.size)⟩
      have RR : Hid (∀ W, Below wr.heap.size wr W → Calls Try.prog 24 #[.slice a n c, .agg #[.int .u16 x, .int .u32 y]] W fun e w' => ∃ v es', e = .returned v ∧ Hid (OwnV w' W.heap.size v es') ∧ Hid (es'.map (·.V) = rowE es (x, y) ∧ es'.length ≤ n) ∧ Below W.heap.size W w') := hid fun W h => (rowR_any (x := x) (y := y) (c := c) HN (by omega) (HROW.out.ext (hb.trans (h.mono hb.size))) hall).mono fun e w' ⟨v, es', h1, h2, h3, h4, h5⟩ => ⟨v, es', h1, hid h2, hid ⟨h3, h4⟩, h5⟩
      obtain ⟨p0, p1⟩ := HPX.out _ hb
      have HS : Hid (∀ W, Below wr.heap.size wr W → W.cell? ⟨w.heap.size, 0, none⟩ = some (.int .u16 x) ∧ W.cell? ⟨w.heap.size, 1, none⟩ = some (.int .u32 y)) := hid fun W h => ⟨cell_toB p0 h, cell_toB p1 h⟩
      have HB := hid hb
      have H0 : Below wr.heap.size wr wr.drew := (Below.refl _ _).drew
      clear hgr hkn hall p0 p1 hb
      go_wp2_with fail
      refine wp_region_held_drew (S := fun W => W.cell? ⟨w.heap.size, 0, none⟩ = some (.int .u16 x) ∧ W.cell? ⟨w.heap.size, 1, none⟩ = some (.int .u32 y)) (by kernel_rfl) (HS.out _ H0) (fun hHeld => ?_)
      refine wpAnyH_take (i := 0) (oi := _) (v := .slice a n c) rfl (by kernel_rfl) (by kernel_rfl) (by kernel_rfl) (fun _ _ _ h => h) (Or.inl ⟨by rfl, ?_⟩) (by assumption) ?_
      · intro W hSw
        try dsimp only at hSw
        go_simp
      try simp only [Act.put, List.getElem_toArray, List.getElem_cons_succ, List.getElem_cons_zero, List.setIfInBounds_toArray, List.set_cons_zero, List.set_cons_succ]
      refine wpAnyH_take (i := 1) (oi := _) (v := .agg #[.int .u16 x, .int .u32 y]) rfl (by kernel_rfl) (by kernel_rfl) (by kernel_rfl) (fun _ _ _ h => h) (Or.inl ⟨by rfl, ?_⟩) (by assumption) ?_
      · intro W hSw
        try dsimp only at hSw
        go_simp
      try simp only [Act.put, List.getElem_toArray, List.getElem_cons_succ, List.getElem_cons_zero, List.setIfInBounds_toArray, List.set_cons_zero, List.set_cons_succ]
      refine wpAnyH_take (i := 3) (oi := _) (v := .slice a n c) rfl (by kernel_rfl) (by kernel_rfl) (by kernel_rfl) (fun _ _ _ h => h) (Or.inl ⟨by rfl, ?_⟩) (by assumption) ?_
      · intro W hSw
        try dsimp only at hSw
        go_simp
      try simp only [Act.put, List.getElem_toArray, List.getElem_cons_succ, List.getElem_cons_zero, List.setIfInBounds_toArray, List.set_cons_zero, List.set_cons_succ]
      refine wpAnyH_take (i := 4) (oi := _) (v := .agg #[.int .u16 x, .int .u32 y]) rfl (by kernel_rfl) (by kernel_rfl) (by kernel_rfl) (fun _ _ _ h => h) (Or.inl ⟨by rfl, ?_⟩) (by assumption) ?_
      · intro W hSw
        try dsimp only at hSw
        go_simp
      try simp only [Act.put, List.getElem_toArray, List.getElem_cons_succ, List.getElem_cons_zero, List.setIfInBounds_toArray, List.set_cons_zero, List.set_cons_succ]
      refine wpAnyH_ready (rs := [2]) (by kernel_rfl) (by simp) ?_
      refine AllReadyH.cons (o := _) rfl (fun K hK => ?_) AllReadyH.nil
      go_simp
      (with_reducible refine (RW.out _ H0).mono ?_)
      rintro e wa ⟨va, ea, rfl, hoa, hma, hba⟩
      refine hK.out _ _ (HS.out _ (hba)) (fun hHeld => ?_)
      clear hK K
      try simp only [Act.put, List.getElem_toArray, List.getElem_cons_succ, List.getElem_cons_zero, List.setIfInBounds_toArray, List.set_cons_zero, List.set_cons_succ]
      refine wpAnyH_ready (rs := [5]) (by kernel_rfl) (by simp) ?_
      refine AllReadyH.cons (o := _) rfl (fun K hK => ?_) AllReadyH.nil
      go_simp
      (with_reducible refine (RR.out _ hba).mono ?_)
      rintro e wb ⟨vb, eb, rfl, hob, hmb, hbb⟩
      refine hK.out _ _ (HS.out _ (hba.trans (hbb.mono hba.size))) (fun hHeld => ?_)
      clear hK K
      try simp only [Act.put, List.getElem_toArray, List.getElem_cons_succ, List.getElem_cons_zero, List.setIfInBounds_toArray, List.set_cons_zero, List.set_cons_succ]
      refine wpAnyH_take (i := 6) (oi := _) (v := va) rfl (by kernel_rfl) (by kernel_rfl) (by kernel_rfl) (fun _ _ _ h => h) (Or.inl ⟨by rfl, ?_⟩) (by assumption) ?_
      · intro W hSw
        try dsimp only at hSw
        go_simp
      try simp only [Act.put, List.getElem_toArray, List.getElem_cons_succ, List.getElem_cons_zero, List.setIfInBounds_toArray, List.set_cons_zero, List.set_cons_succ]
      refine wpAnyH_take (i := 7) (oi := _) (v := vb) rfl (by kernel_rfl) (by kernel_rfl) (by kernel_rfl) (fun _ _ _ h => h) (Or.inl ⟨by rfl, ?_⟩) (by assumption) ?_
      · intro W hSw
        try dsimp only at hSw
        go_simp
      try simp only [Act.put, List.getElem_toArray, List.getElem_cons_succ, List.getElem_cons_zero, List.setIfInBounds_toArray, List.set_cons_zero, List.set_cons_succ]
      refine wpAnyH_done (by kernel_rfl) ?_ _
      have hab : Hid (ea.map (·.V) = eb.map (·.V)) := hid (hma.out.1.trans hmb.out.1.symm)
      have hlab : ea.length = eb.length := by have := congrArg List.length hab.out; simpa using this
      have hoa2 := hoa.out.ext hbb
      obtain ⟨qa, ca, eqa, hra, -⟩ := hoa2.row
      obtain ⟨qb, cb, eqb, hrb, -⟩ := hob.out.row
      obtain ⟨m, hm⟩ : ∃ m, ea.length = m := ⟨_, rfl⟩
      have hmb2 : eb.length = m := by omega
      have hmn : m ≤ n := by have := hma.out.2; omega
      rw [hm] at eqa
      rw [hmb2] at eqb
      subst eqa eqb
      have HRA := hid hra
      have HRB := hid hrb
      have HMA := hid hm
      have HMB := hid hmb2
      have HBB := hid (HB.out.trans ((hba.trans (hbb.mono hba.size)).mono HB.out.size))
      clear hoa hoa2 hob hma hmb hra hrb hm hmb2 hlab hba hbb RW RR HS HB H0
      have tm : ((m : Int) != (m : Int)) = false := by simp
      go_wp2_with fail
      go_loopw [9] (fun i wr => ∃ (k2 : Nat), k2 ≤ m ∧ i = .int .i64 k2 ∧ Below wb.heap.size wb wr) (fun i _ => m - (intOf i).toNat)
      case atStart => exact ⟨0, Nat.zero_le _, rfl, Below.refl _ _⟩
      case round =>
        obtain ⟨k2, hk2, rfl, hbq⟩ := hrel
        by_cases hlt2 : k2 < m
        · have t3 : decide ((k2 : Int) < (m : Int)) = true := by simpa using hlt2
          have t3' : decide (k2 < m) = true := by simpa using hlt2
          obtain ⟨ba, oa, ua, eqa, hua, a0, a1, a2, a3, hva⟩ := HRA.out.at hbq (k := k2) (by rw [HMA.out]; exact hlt2)
          obtain ⟨bb, ob, ub, eqb, hub, b0, b1, b2, b3, hvb⟩ := HRB.out.at hbq (k := k2) (by rw [HMB.out]; exact hlt2)
          subst eqa eqb
          have huv : ua.V = ub.V := by
            have h1 : (ea.map (·.V))[k2]? = some ua.V := by rw [List.getElem?_map, List.getElem?_eq_getElem (by rw [HMA.out]; exact hlt2), ← hua]; rfl
            have h2 : (eb.map (·.V))[k2]? = some ub.V := by rw [List.getElem?_map, List.getElem?_eq_getElem (by rw [HMB.out]; exact hlt2), ← hub]; rfl
            rw [hab.out, h2] at h1; exact (Option.some.inj h1).symm
          obtain ⟨UV, um, ul, ud, im, il, id'⟩ := ua
          obtain ⟨UV2, vm, vl, vd, jm, jl, jd⟩ := ub
          simp only at a0 a1 a2 a3 b0 b1 b2 b3 hva hvb huv
          subst huv
          have SM : Hid (∀ W, Below wr.heap.size wr W → Calls Try.prog 20 #[.agg #[.int .u64 UV.id, .slice um UV.ms.length im, .slice ul UV.ls.length il, .slice ud UV.ds.length id'], .agg #[.int .u64 UV.id, .slice vm UV.ms.length jm, .slice vl UV.ls.length jl, .slice vd UV.ds.length jd]] W fun e w' => e = .returned (.bool true) ∧ Below wr.heap.size wr w') := hid fun W h => relB h (refSame_is (r := true) (hid (sameB_refl UV)) (hva.ext (hbq.trans (h.mono hbq.size))) (hvb.ext (hbq.trans (h.mono hbq.size))))
          have HS : Hid (∀ W, Below wr.heap.size wr W → W.cell? ⟨ba, oa + k2 * 4, none⟩ = some (.int .u64 UV.id) ∧ W.cell? ⟨ba, oa + k2 * 4 + 1, none⟩ = some (.slice um UV.ms.length im) ∧ W.cell? ⟨ba, oa + k2 * 4 + 2, none⟩ = some (.slice ul UV.ls.length il) ∧ W.cell? ⟨ba, oa + k2 * 4 + 3, none⟩ = some (.slice ud UV.ds.length id') ∧ W.cell? ⟨bb, ob + k2 * 4, none⟩ = some (.int .u64 UV.id) ∧ W.cell? ⟨bb, ob + k2 * 4 + 1, none⟩ = some (.slice vm UV.ms.length jm) ∧ W.cell? ⟨bb, ob + k2 * 4 + 2, none⟩ = some (.slice vl UV.ls.length jl) ∧ W.cell? ⟨bb, ob + k2 * 4 + 3, none⟩ = some (.slice vd UV.ds.length jd)) := hid fun W h => ⟨cell_toB a0 h, cell_toB a1 h, cell_toB a2 h, cell_toB a3 h, cell_toB b0 h, cell_toB b1 h, cell_toB b2 h, cell_toB b3 h⟩
          have H0 : Below wr.heap.size wr wr.drew := (Below.refl _ _).drew
          have HBQ := hid hbq
          clear a0 a1 a2 a3 b0 b1 b2 b3 hva hvb hua hub hbq
          go_wp2_with fail
          refine wp_region_held_drew (S := fun W => W.cell? ⟨ba, oa + k2 * 4, none⟩ = some (.int .u64 UV.id) ∧ W.cell? ⟨ba, oa + k2 * 4 + 1, none⟩ = some (.slice um UV.ms.length im) ∧ W.cell? ⟨ba, oa + k2 * 4 + 2, none⟩ = some (.slice ul UV.ls.length il) ∧ W.cell? ⟨ba, oa + k2 * 4 + 3, none⟩ = some (.slice ud UV.ds.length id') ∧ W.cell? ⟨bb, ob + k2 * 4, none⟩ = some (.int .u64 UV.id) ∧ W.cell? ⟨bb, ob + k2 * 4 + 1, none⟩ = some (.slice vm UV.ms.length jm) ∧ W.cell? ⟨bb, ob + k2 * 4 + 2, none⟩ = some (.slice vl UV.ls.length jl) ∧ W.cell? ⟨bb, ob + k2 * 4 + 3, none⟩ = some (.slice vd UV.ds.length jd)) (by kernel_rfl) (HS.out _ H0) (fun hHeld => ?_)
          refine wpAnyH_take (i := 0) (oi := _) (v := .slice (some ⟨ba, oa, none⟩) m ca) rfl (by kernel_rfl) (by kernel_rfl) (by kernel_rfl) (fun _ _ _ h => h) (Or.inl ⟨by rfl, ?_⟩) (by assumption) ?_
          · intro W hSw
            try dsimp only at hSw
            go_simp
          try simp only [Act.put, List.getElem_toArray, List.getElem_cons_succ, List.getElem_cons_zero, List.setIfInBounds_toArray, List.set_cons_zero, List.set_cons_succ]
          refine wpAnyH_take (i := 1) (oi := _) (v := .int .i64 k2) rfl (by kernel_rfl) (by kernel_rfl) (by kernel_rfl) (fun _ _ _ h => h) (Or.inl ⟨by rfl, ?_⟩) (by assumption) ?_
          · intro W hSw
            try dsimp only at hSw
            go_simp
          try simp only [Act.put, List.getElem_toArray, List.getElem_cons_succ, List.getElem_cons_zero, List.setIfInBounds_toArray, List.set_cons_zero, List.set_cons_succ]
          refine wpAnyH_take (i := 2) (oi := _) (v := .pointer (some ⟨ba, oa + k2 * 4, none⟩)) rfl (by kernel_rfl) (by kernel_rfl) (by kernel_rfl) (fun _ _ _ h => h) (Or.inl ⟨by rfl, ?_⟩) (by assumption) ?_
          · intro W hSw
            try dsimp only at hSw
            go_simp
          try simp only [Act.put, List.getElem_toArray, List.getElem_cons_succ, List.getElem_cons_zero, List.setIfInBounds_toArray, List.set_cons_zero, List.set_cons_succ]
          refine wpAnyH_take (i := 3) (oi := _) (v := .agg #[.int .u64 UV.id, .slice um UV.ms.length im, .slice ul UV.ls.length il, .slice ud UV.ds.length id']) rfl (by kernel_rfl) (by kernel_rfl) (by kernel_rfl) (fun _ _ _ h => h) (Or.inl ⟨by rfl, ?_⟩) (by assumption) ?_
          · intro W hSw
            try dsimp only at hSw
            go_simp
          try simp only [Act.put, List.getElem_toArray, List.getElem_cons_succ, List.getElem_cons_zero, List.setIfInBounds_toArray, List.set_cons_zero, List.set_cons_succ]
          refine wpAnyH_take (i := 4) (oi := _) (v := .slice (some ⟨bb, ob, none⟩) m cb) rfl (by kernel_rfl) (by kernel_rfl) (by kernel_rfl) (fun _ _ _ h => h) (Or.inl ⟨by rfl, ?_⟩) (by assumption) ?_
          · intro W hSw
            try dsimp only at hSw
            go_simp
          try simp only [Act.put, List.getElem_toArray, List.getElem_cons_succ, List.getElem_cons_zero, List.setIfInBounds_toArray, List.set_cons_zero, List.set_cons_succ]
          refine wpAnyH_take (i := 5) (oi := _) (v := .int .i64 k2) rfl (by kernel_rfl) (by kernel_rfl) (by kernel_rfl) (fun _ _ _ h => h) (Or.inl ⟨by rfl, ?_⟩) (by assumption) ?_
          · intro W hSw
            try dsimp only at hSw
            go_simp
          try simp only [Act.put, List.getElem_toArray, List.getElem_cons_succ, List.getElem_cons_zero, List.setIfInBounds_toArray, List.set_cons_zero, List.set_cons_succ]
          refine wpAnyH_take (i := 6) (oi := _) (v := .pointer (some ⟨bb, ob + k2 * 4, none⟩)) rfl (by kernel_rfl) (by kernel_rfl) (by kernel_rfl) (fun _ _ _ h => h) (Or.inl ⟨by rfl, ?_⟩) (by assumption) ?_
          · intro W hSw
            try dsimp only at hSw
            go_simp
          try simp only [Act.put, List.getElem_toArray, List.getElem_cons_succ, List.getElem_cons_zero, List.setIfInBounds_toArray, List.set_cons_zero, List.set_cons_succ]
          refine wpAnyH_take (i := 7) (oi := _) (v := .agg #[.int .u64 UV.id, .slice vm UV.ms.length jm, .slice vl UV.ls.length jl, .slice vd UV.ds.length jd]) rfl (by kernel_rfl) (by kernel_rfl) (by kernel_rfl) (fun _ _ _ h => h) (Or.inl ⟨by rfl, ?_⟩) (by assumption) ?_
          · intro W hSw
            try dsimp only at hSw
            go_simp
          try simp only [Act.put, List.getElem_toArray, List.getElem_cons_succ, List.getElem_cons_zero, List.setIfInBounds_toArray, List.set_cons_zero, List.set_cons_succ]
          refine wpAnyH_ready (rs := [8]) (by kernel_rfl) (by simp) ?_
          refine AllReadyH.cons (o := _) rfl (fun K hK => ?_) AllReadyH.nil
          go_simp
          (with_reducible refine (SM.out _ H0).mono ?_)
          rintro e we ⟨rfl, hbe⟩
          refine hK.out _ _ (HS.out _ (hbe)) (fun hHeld => ?_)
          clear hK K
          try simp only [Act.put, List.getElem_toArray, List.getElem_cons_succ, List.getElem_cons_zero, List.setIfInBounds_toArray, List.set_cons_zero, List.set_cons_succ]
          refine wpAnyH_take (i := 9) (oi := _) (v := .bool false) rfl (by kernel_rfl) (by kernel_rfl) (by kernel_rfl) (fun _ _ _ h => h) (Or.inl ⟨by rfl, ?_⟩) (by assumption) ?_
          · intro W hSw
            try dsimp only at hSw
            go_simp
          try simp only [Act.put, List.getElem_toArray, List.getElem_cons_succ, List.getElem_cons_zero, List.setIfInBounds_toArray, List.set_cons_zero, List.set_cons_succ]
          refine wpAnyH_done (by kernel_rfl) ?_ _
          go_wp2_with fail
          go_roundw
          case rel => exact ⟨k2 + 1, by omega, by go_num, HBQ.out.trans (hbe.mono HBQ.out.size)⟩
          case measure => simp [intOf]; omega
        · have t3 : decide ((k2 : Int) < (m : Int)) = false := by simpa using hlt2
          have t3' : decide (k2 < m) = false := by simpa using hlt2
          have AWq := hid (AW.out wr (HBB.out.trans (hbq.mono HBB.out.size)))
          clear hbq
          go_wp2_with (go_at_call 17; (with_reducible refine AWq.out.mono ?_); rintro e w9 ⟨rfl, hb9⟩)
          go_ret
          exact ⟨rfl, HB1.out.trans (hb9.mono HB1.out.size)⟩
end Go.Proofs.Ytbpfhclcjedkcaa

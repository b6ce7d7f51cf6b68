/- Parts of the proof: E14. -/
import Derived.Test.YtehagnbphamjhaaGreatDoorGPlayBack27
namespace Go.Proofs.YtehagnbphamjhaaGreatDoor
open Go.RowKit
theorem few_nil : FewL [] := ⟨by simp, fun l h => by cases h⟩
theorem few_cons {l : List Pid} {Ls : List (List Pid)} (hw : WfPids l) (hl : l.length ≤ 64) (h : FewL Ls) (h3 : Ls.length ≤ 2) : FewL (Ls ++ [l]) :=
  ⟨by simp; omega, fun m hm => by rcases List.mem_append.1 hm with hm | hm; exact h.2 m hm; simp at hm; subst hm; exact ⟨hw, hl⟩⟩

theorem leadsV_is {V : View} {am al ad : Option Addr} {cm cl cd : Nat} {x y : Int} {w : World} {b : Bool} (h : Hid (decide ((x, y) ∈ V.ds) = b)) (hV : ViewR w am al ad V) :
   Calls Tryz.prog 211 #[viewV V am al ad cm cl cd, .agg #[.int .u16 x, .int .u32 y]] w fun e w' => e = .returned (.bool b) ∧ Below w.heap.size w w' := by
  have := leads_any V am al ad cm cl cd x y w hV
  rw [h.out] at this
  exact this
/-- a view and a process, boxed -/
structure Frv (w : World) (n : Nat) (V : View) (am al ad : Option Addr) (cm cl cd : Nat) (x y : Int) : Prop where
  vb : ViewBox w n V am al ad cm cl cd
  c0 : w.cell? ⟨n + 1, 0, none⟩ = some (.int .u16 x)
  c1 : w.cell? ⟨n + 1, 1, none⟩ = some (.int .u32 y)
theorem Frv.ext {w w' : World} {n : Nat} {V : View} {am al ad : Option Addr} {cm cl cd : Nat} {x y : Int} (h : Frv w n V am al ad cm cl cd x y) (hb : Below w.heap.size w w') : Frv w' n V am al ad cm cl cd x y :=
  ⟨h.vb.ext hb h.vb.lt, cell_to h.c0 hb, cell_to h.c1 hb⟩
theorem Frv.made (w : World) (V : View) (am al ad : Option Addr) (cm cl cd : Nat) (x y : Int) : Frv ((w.alloc (.cells (vcells V am al ad cm cl cd) 54)).alloc (.cells #[.int .u16 x, .int .u32 y] 46)) w.heap.size V am al ad cm cl cd x y := by
  have hp := Box2.made (w.alloc (.cells (vcells V am al ad cm cl cd) 54)) (v0 := .int .u16 x) (v1 := .int .u32 y) 46
  simp only [World.size_alloc] at hp
  exact ⟨(ViewBox.made (V := V) (am := am) (al := al) (ad := ad) (cm := cm) (cl := cl) (cd := cd) w).ext (B := w.heap.size + 1) ((Below.refl _ _).alloc (by simp) (.cells #[.int .u16 x, .int .u32 y] 46)) (by omega), hp.c0, hp.c1⟩
set_option maxRecDepth 100000 in
set_option maxHeartbeats 6400000 in
theorem peers_any (V : View) (am al ad : Option Addr) (cm cl cd : Nat) (x y : Int) (w : World) (hV : ViewR w am al ad V) (hs : Small V) :
    Calls Tryz.prog 206 #[viewV V am al ad cm cl cd, .agg #[.int .u16 x, .int .u32 y]] w fun e w' => ∃ v, e = .returned v ∧ OwnP w' w.heap.size v (peersP V (x, y)) ∧ Below w.heap.size w w' := by
  have hf := hs.fine
  have hB3 : Below w.heap.size w ((w.alloc (.cells (vcells V am al ad cm cl cd) 54)).alloc (.cells #[.int .u16 x, .int .u32 y] 46)) := ((Below.refl _ _).alloc (Nat.le_refl _) _).alloc (by simp) _
  have F3 := Frv.made w V am al ad cm cl cd x y
  have hV3 := hV.ext hB3
  obtain ⟨w3, hw3⟩ : ∃ w3, ((w.alloc (.cells (vcells V am al ad cm cl cd) 54)).alloc (.cells #[.int .u16 x, .int .u32 y] 46)) = w3 := ⟨_, rfl⟩
  rw [hw3] at hB3 F3 hV3
  have hb33 : Below w3.heap.size w3 w3 := Below.refl _ _
  obtain ⟨a30, a31, a32, a33⟩ := F3.vb; have c30 := F3.c0; have c31 := F3.c1
  by_cases hmem : (x, y) ∈ V.ms
  · by_cases hld : (x, y) ∈ V.ds
    · have HD : Hid (peersP V (x, y) = othersP V (x, y) (([] ++ [leafP V (x, y)]) ++ [V.ds])) := hid (by unfold peersP peersL; rw [if_pos hmem, if_pos hld]; rfl)
      have HM : Hid (decide ((x, y) ∈ V.ms) = true) := hid (by simpa using hmem)
      have HL : Hid (decide ((x, y) ∈ V.ds) = true) := hid (by simpa using hld)
      clear hmem hld
      go_enter Tryz.func206, Tryz.ntmps206
      go_wp2_with (first
        | ((go_at_call 104; refine (hasV_is HM hV3).mono ?_; rintro e w4 ⟨rfl, hb4⟩; have hb34 := hb33.trans (hb4.mono hb33.size); have F4 := F3.ext hb34; obtain ⟨a40, a41, a42, a43⟩ := F4.vb; have c40 := F4.c0; have c41 := F4.c1; have hV4 := hV3.ext hb34))
        | ((go_at_call 264; refine (leafL_any _ _ _ _ _ _ _ _ _ w _ hV (hB3.trans (hb34.mono hB3.size)) hf).mono ?_; rintro e w5 ⟨ap, cp, rfl, hrowl, hb5⟩; have hrowp := hrowl.ext ((hB3.trans (hb34.mono hB3.size)).trans (hb5.mono (by have := hb34.size; have := hB3.size; omega))); have hb35 := hb34.trans (hb5.mono hb34.size); have own6 := OwnL.made w5 (c := cp) rfl hrowp hb35.size; have hb36 := hb35.alloc hb35.size (.cells #[.slice ap (leafP V (x, y)).length cp] 51); obtain ⟨w6, hw6⟩ : ∃ w6, w5.alloc (.cells #[.slice ap (leafP V (x, y)).length cp] 51) = w6 := ⟨_, rfl⟩; rw [hw6] at own6 hb36; have F6 := F3.ext hb36; obtain ⟨a60, a61, a62, a63⟩ := F6.vb; have c60 := F6.c0; have c61 := F6.c1; have hV6 := hV3.ext hb36))
        | ((go_at_call 211; refine (leadsV_is HL hV6).mono ?_; rintro e w7 ⟨rfl, hb7⟩; have hb37 := hb36.trans (hb7.mono hb36.size); have F7 := F3.ext hb37; obtain ⟨a70, a71, a72, a73⟩ := F7.vb; have c70 := F7.c0; have c71 := F7.c1; have hV7 := hV3.ext hb37; have own7 := own6.ext hb7))
        | ((at_builtin; refine wpList_appendL (own7.alloc _) (by simp; try rfl) rfl (hV7.ds.alloc _) (own7.far hV.ds hB3.size) (by simp) (by have := hb37.size; simp; omega) rfl rfl rfl rfl ?_; intro v8 w8 own8 hg8; have hb38 := (hb37.alloc hb37.size _).grown hg8 (by have := hb37.size; simp; omega) (fun g hg => (own7.lt hg).1); have F8 := F3.ext hb38; obtain ⟨a80, a81, a82, a83⟩ := F8.vb; have c80 := F8.c0; have c81 := F8.c1; have hV8 := hV3.ext hb38; obtain ⟨aL, cL, hvL, hLr⟩ := own8.rowN (n := 2) rfl; subst hvL))
        | ((go_at_call 265; refine (others_is (Ls := (([] ++ [leafP V (x, y)]) ++ [V.ds])) (n := 2) (hid rfl) hV8 hf hLr (few_cons hs.wf.ds hs.ds (few_cons (leafP_wf hs) (leafP_len hs) few_nil (by simp)) (by simp))).mono ?_; rintro e w9 ⟨vo, rfl, hown, hb9⟩)))
      go_ret
      exact ⟨_, rfl, by rw [HD.out]; exact hown.mono (by have := hb38.size; have := hB3.size; omega), (hB3.trans (hb38.mono hB3.size)).trans (hb9.mono (by have := hb38.size; have := hB3.size; omega))⟩
    · have HD : Hid (peersP V (x, y) = othersP V (x, y) ([] ++ [leafP V (x, y)])) := hid (by unfold peersP peersL; rw [if_pos hmem, if_neg hld]; rfl)
      have HM : Hid (decide ((x, y) ∈ V.ms) = true) := hid (by simpa using hmem)
      have HL : Hid (decide ((x, y) ∈ V.ds) = false) := hid (by simpa using hld)
      clear hmem hld
      go_enter Tryz.func206, Tryz.ntmps206
      go_wp2_with (first
        | ((go_at_call 104; refine (hasV_is HM hV3).mono ?_; rintro e w4 ⟨rfl, hb4⟩; have hb34 := hb33.trans (hb4.mono hb33.size); have F4 := F3.ext hb34; obtain ⟨a40, a41, a42, a43⟩ := F4.vb; have c40 := F4.c0; have c41 := F4.c1; have hV4 := hV3.ext hb34))
        | ((go_at_call 264; refine (leafL_any _ _ _ _ _ _ _ _ _ w _ hV (hB3.trans (hb34.mono hB3.size)) hf).mono ?_; rintro e w5 ⟨ap, cp, rfl, hrowl, hb5⟩; have hrowp := hrowl.ext ((hB3.trans (hb34.mono hB3.size)).trans (hb5.mono (by have := hb34.size; have := hB3.size; omega))); have hb35 := hb34.trans (hb5.mono hb34.size); have own6 := OwnL.made w5 (c := cp) rfl hrowp hb35.size; have hb36 := hb35.alloc hb35.size (.cells #[.slice ap (leafP V (x, y)).length cp] 51); obtain ⟨w6, hw6⟩ : ∃ w6, w5.alloc (.cells #[.slice ap (leafP V (x, y)).length cp] 51) = w6 := ⟨_, rfl⟩; rw [hw6] at own6 hb36; have F6 := F3.ext hb36; obtain ⟨a60, a61, a62, a63⟩ := F6.vb; have c60 := F6.c0; have c61 := F6.c1; have hV6 := hV3.ext hb36))
        | ((go_at_call 211; refine (leadsV_is HL hV6).mono ?_; rintro e w7 ⟨rfl, hb7⟩; have hb37 := hb36.trans (hb7.mono hb36.size); have F7 := F3.ext hb37; obtain ⟨a70, a71, a72, a73⟩ := F7.vb; have c70 := F7.c0; have c71 := F7.c1; have hV7 := hV3.ext hb37; have own7 := own6.ext hb7; obtain ⟨aL, cL, hvL, hLr⟩ := own7.rowN (n := 1) rfl; cases hvL))
        | ((go_at_call 265; refine (others_is (Ls := ([] ++ [leafP V (x, y)])) (n := 1) (hid rfl) hV7 hf hLr (few_cons (leafP_wf hs) (leafP_len hs) few_nil (by simp))).mono ?_; rintro e w8 ⟨vo, rfl, hown, hb8⟩)))
      go_ret
      exact ⟨_, rfl, by rw [HD.out]; exact hown.mono (by have := hb37.size; have := hB3.size; omega), (hB3.trans (hb37.mono hB3.size)).trans (hb8.mono (by have := hb37.size; have := hB3.size; omega))⟩
  · have HD : Hid (peersP V (x, y) = []) := hid (by unfold peersP; rw [if_neg hmem])
    have HM : Hid (decide ((x, y) ∈ V.ms) = false) := hid (by simpa using hmem)
    clear hmem
    go_enter Tryz.func206, Tryz.ntmps206
    go_wp2_with (go_at_call 104; refine (hasV_is HM hV3).mono ?_; rintro e w4 ⟨rfl, hb4⟩)
    go_ret
    exact ⟨_, rfl, by rw [HD.out]; exact OwnP.nil _ _, hB3.trans (hb4.mono hB3.size)⟩

end Go.Proofs.YtehagnbphamjhaaGreatDoor


import Derived.Test.YtjjahefedpfnaaaE13
namespace Go.Proofs.Ytjjahefedpfnaaa
open Go.RowKit
theorem speaks_is {r : Nat → Int} {V : View} {am al ad : Option Addr} {cm cl cd : Nat} {x y : Int} {w : World} {b : Bool} (h : Hid (speaksB V (hasRu r) (x, y) = b)) (hV : ViewR w am al ad V) (hf : Fine V) :
    Calls Try.prog 55 #[viewV V am al ad cm cl cd, .agg (RL r).toArray, .agg #[.int .u16 x, .int .u32 y]] w fun e w' => e = .returned (.bool b) ∧ Below w.heap.size w w' := by
  have := speaks_any r V am al ad cm cl cd x y w hV hf
  rw [h.out] at this; exact this
theorem few_nil : FewL [] := ⟨by simp, fun l h => by cases h⟩
theorem few_cons {l : List Pid} {Ls : List (List Pid)} (hw : WfPids l) (hl : l.length ≤ 64) (h : FewL Ls) (h3 : Ls.length ≤ 2) : FewL (Ls ++ [l]) :=
  ⟨by simp; omega, fun m hm => by rcases List.mem_append.1 hm with hm | hm; exact h.2 m hm; simp at hm; subst hm; exact ⟨hw, hl⟩⟩

set_option maxRecDepth 100000 in
set_option maxHeartbeats 6400000 in
theorem down_any (r : Nat → Int) (V : View) (am al ad : Option Addr) (cm cl cd : Nat) (x y : Int) (w : World) (hV : ViewR w am al ad V) (hs : Small V) :
    Calls Try.prog 49 #[viewV V am al ad cm cl cd, .agg (RL r).toArray, .agg #[.int .u16 x, .int .u32 y]] w fun e w' => ∃ v, e = .returned v ∧ OwnP w' w.heap.size v (downP V (hasRu r) (x, y)) ∧ Below w.heap.size w w' := by
  have hf := hs.fine
  have hB3 : Below w.heap.size w (((w.alloc (.cells (vcells V am al ad cm cl cd) 68)).alloc (.cells (RL r).toArray 70)).alloc (.cells #[.int .u16 x, .int .u32 y] 32)) := (((Below.refl _ _).alloc (Nat.le_refl _) _).alloc (by simp) _).alloc (by simp; omega) _
  have F3 := Frm.made w V am al ad cm cl cd r x y
  have hV3 := hV.ext hB3
  obtain ⟨w3, hw3⟩ : ∃ w3, (((w.alloc (.cells (vcells V am al ad cm cl cd) 68)).alloc (.cells (RL r).toArray 70)).alloc (.cells #[.int .u16 x, .int .u32 y] 32)) = w3 := ⟨_, rfl⟩
  rw [hw3] at hB3 F3 hV3
  have hb33 : Below w3.heap.size w3 w3 := Below.refl _ _
  have hR3 := F3.rb; obtain ⟨a30, a31, a32, a33⟩ := F3.vb; have c30 := F3.c0; have c31 := F3.c1
  cases hic : isChiefB V (hasRu r) (x, y)
  · cases hsp : speaksB V (hasRu r) (x, y)
    · have HD : Hid (downP V (hasRu r) (x, y) = othersP V (x, y) []) := hid (by unfold downP downL; rw [hic, hsp]; rfl)
      have HIC := hid hic
      have HSPK := hid hsp
      clear hic hsp
      go_enter Try.func49, Try.ntmps49
      go_wp2_with (first
        | (refine wpList_loadRw (by assumption) (by rfl) rfl rfl ?_)
        | ((go_at_call 76; refine (isChief_is HIC hV3 hf).mono ?_; rintro e w4 ⟨rfl, hb4⟩; have hb34 := hb33.trans (hb4.mono hb33.size); have F4 := F3.ext hb34; have hR4 := F4.rb; obtain ⟨a40, a41, a42, a43⟩ := F4.vb; have c40 := F4.c0; have c41 := F4.c1; have hV4 := hV3.ext hb34))
        | ((go_at_call 55; refine (speaks_is HSPK hV4 hf).mono ?_; rintro e w5 ⟨rfl, hb5⟩; have hb35 := hb34.trans (hb5.mono hb34.size); have F5 := F3.ext hb35; have hR5 := F5.rb; obtain ⟨a50, a51, a52, a53⟩ := F5.vb; have c50 := F5.c0; have c51 := F5.c1; have hV5 := hV3.ext hb35))
        | ((go_at_call 80; refine (others_is (Ls := []) (n := 0) (hid rfl) hV5 hf (.inl rfl) few_nil).mono ?_; rintro e w6 ⟨vo, rfl, hown, hb6⟩)))
      go_ret
      exact ⟨_, rfl, by rw [HD.out]; exact hown.mono (by have := hb35.size; have := hB3.size; omega), (hB3.trans (hb35.mono hB3.size)).trans (hb6.mono (by have := hb35.size; have := hB3.size; omega))⟩
    · have HD : Hid (downP V (hasRu r) (x, y) = othersP V (x, y) ([] ++ [leafP V (x, y)])) := hid (by unfold downP downL; rw [hic, hsp]; rfl)
      have HIC := hid hic
      have HSPK := hid hsp
      clear hic hsp
      go_enter Try.func49, Try.ntmps49
      go_wp2_with (first
        | (refine wpList_loadRw (by assumption) (by rfl) rfl rfl ?_)
        | ((go_at_call 76; refine (isChief_is HIC hV3 hf).mono ?_; rintro e w4 ⟨rfl, hb4⟩; have hb34 := hb33.trans (hb4.mono hb33.size); have F4 := F3.ext hb34; have hR4 := F4.rb; obtain ⟨a40, a41, a42, a43⟩ := F4.vb; have c40 := F4.c0; have c41 := F4.c1; have hV4 := hV3.ext hb34))
        | ((go_at_call 55; refine (speaks_is HSPK hV4 hf).mono ?_; rintro e w5 ⟨rfl, hb5⟩; have hb35 := hb34.trans (hb5.mono hb34.size); have F5 := F3.ext hb35; have hR5 := F5.rb; obtain ⟨a50, a51, a52, a53⟩ := F5.vb; have c50 := F5.c0; have c51 := F5.c1; have hV5 := hV3.ext hb35))
        | ((go_at_call 79; refine (leafL_any _ _ _ _ _ _ _ _ _ w _ hV (hB3.trans (hb35.mono hB3.size)) hf).mono ?_; rintro e w6 ⟨al2, cl2, rfl, hrowl, hb6⟩; have hb36 := hb35.trans (hb6.mono hb35.size); have F6 := F3.ext hb36; have hR6 := F6.rb; obtain ⟨a60, a61, a62, a63⟩ := F6.vb; have c60 := F6.c0; have c61 := F6.c1; have hV6 := hV3.ext hb36; have hrowl2 := hrowl.ext (hB3.trans (hb36.mono hB3.size))))
        | ((at_builtin; refine wpList_appendL (OwnL.nil _ w3.heap.size) (by simp; try rfl) rfl (hrowl2.alloc _) (fun _ _ _ _ h => by simp [Value.ownBlock] at h) (by simp) (by have := hb36.size; simp; omega) rfl rfl rfl rfl ?_; intro v7 w7 own7 hg7; have hb37 := (hb36.alloc hb36.size _).grown hg7 (by have := hb36.size; simp; omega) (fun g hg => by simp [Value.ownBlock] at hg); have F7 := F3.ext hb37; have hR7 := F7.rb; obtain ⟨a70, a71, a72, a73⟩ := F7.vb; have c70 := F7.c0; have c71 := F7.c1; have hV7 := hV3.ext hb37; obtain ⟨aL, cL, rfl, hLr⟩ := own7.rowN (n := 1) rfl))
        | ((go_at_call 80; refine (others_is (Ls := ([] ++ [leafP V (x, y)])) (n := 1) (hid rfl) hV7 hf hLr (few_cons (leafP_wf hs) (leafP_len hs) few_nil (by simp))).mono ?_; rintro e w8 ⟨vo, rfl, hown, hb8⟩)))
      go_ret
      exact ⟨_, rfl, by rw [HD.out]; exact hown.mono (by have := hb37.size; have := hB3.size; omega), (hB3.trans (hb37.mono hB3.size)).trans (hb8.mono (by have := hb37.size; have := hB3.size; omega))⟩
  · cases hsp : speaksB V (hasRu r) (x, y)
    · have HD : Hid (downP V (hasRu r) (x, y) = othersP V (x, y) ([] ++ [speakersP V (hasRu r)])) := hid (by unfold downP downL; rw [hic, hsp]; rfl)
      have HIC := hid hic
      have HSPK := hid hsp
      clear hic hsp
      go_enter Try.func49, Try.ntmps49
      go_wp2_with (first
        | (refine wpList_loadRw (by assumption) (by rfl) rfl rfl ?_)
        | ((go_at_call 76; refine (isChief_is HIC hV3 hf).mono ?_; rintro e w4 ⟨rfl, hb4⟩; have hb34 := hb33.trans (hb4.mono hb33.size); have F4 := F3.ext hb34; have hR4 := F4.rb; obtain ⟨a40, a41, a42, a43⟩ := F4.vb; have c40 := F4.c0; have c41 := F4.c1; have hV4 := hV3.ext hb34))
        | ((go_at_call 78; refine (speakers_any _ _ _ _ _ _ _ _ _ hV4 hf).mono ?_; rintro e w5 ⟨vs, rfl, howns, hb5⟩; obtain ⟨a9, c9, rfl, hrows, hps⟩ := howns.row; have hb35 := hb34.trans (hb5.mono hb34.size); have F5 := F3.ext hb35; have hR5 := F5.rb; obtain ⟨a50, a51, a52, a53⟩ := F5.vb; have c50 := F5.c0; have c51 := F5.c1; have hV5 := hV3.ext hb35))
        | ((at_builtin; refine wpList_appendL (OwnL.nil _ w3.heap.size) (by simp; try rfl) rfl (hrows.alloc _) (fun _ _ _ _ h => by simp [Value.ownBlock] at h) (by simp) (by have := hb35.size; simp; omega) rfl rfl rfl rfl ?_; intro v6 w6 own6 hg6; have hb36 := (hb35.alloc hb35.size _).grown hg6 (by have := hb35.size; simp; omega) (fun g hg => by simp [Value.ownBlock] at hg); have F6 := F3.ext hb36; have hR6 := F6.rb; obtain ⟨a60, a61, a62, a63⟩ := F6.vb; have c60 := F6.c0; have c61 := F6.c1; have hV6 := hV3.ext hb36))
        | ((go_at_call 55; refine (speaks_is HSPK hV6 hf).mono ?_; rintro e w7 ⟨rfl, hb7⟩; have hb37 := hb36.trans (hb7.mono hb36.size); have F7 := F3.ext hb37; have hR7 := F7.rb; obtain ⟨a70, a71, a72, a73⟩ := F7.vb; have c70 := F7.c0; have c71 := F7.c1; have hV7 := hV3.ext hb37; have own7 := own6.ext hb7; obtain ⟨aL, cL, rfl, hLr⟩ := own7.rowN (n := 1) rfl))
        | ((go_at_call 80; refine (others_is (Ls := ([] ++ [speakersP V (hasRu r)])) (n := 1) (hid rfl) hV7 hf hLr (few_cons (speakers_wf hs) (by have := speakers_len (V := V) (S := hasRu r); have := hs.nl; omega) few_nil (by simp))).mono ?_; rintro e w8 ⟨vo, rfl, hown, hb8⟩)))
      go_ret
      exact ⟨_, rfl, by rw [HD.out]; exact hown.mono (by have := hb37.size; have := hB3.size; omega), (hB3.trans (hb37.mono hB3.size)).trans (hb8.mono (by have := hb37.size; have := hB3.size; omega))⟩
    · have HD : Hid (downP V (hasRu r) (x, y) = othersP V (x, y) (([] ++ [speakersP V (hasRu r)]) ++ [leafP V (x, y)])) := hid (by unfold downP downL; rw [hic, hsp]; rfl)
      have HIC := hid hic
      have HSPK := hid hsp
      clear hic hsp
      go_enter Try.func49, Try.ntmps49
      go_wp2_with (first
        | (refine wpList_loadRw (by assumption) (by rfl) rfl rfl ?_)
        | ((go_at_call 76; refine (isChief_is HIC hV3 hf).mono ?_; rintro e w4 ⟨rfl, hb4⟩; have hb34 := hb33.trans (hb4.mono hb33.size); have F4 := F3.ext hb34; have hR4 := F4.rb; obtain ⟨a40, a41, a42, a43⟩ := F4.vb; have c40 := F4.c0; have c41 := F4.c1; have hV4 := hV3.ext hb34))
        | ((go_at_call 78; refine (speakers_any _ _ _ _ _ _ _ _ _ hV4 hf).mono ?_; rintro e w5 ⟨vs, rfl, howns, hb5⟩; obtain ⟨a9, c9, rfl, hrows, hps⟩ := howns.row; have hb35 := hb34.trans (hb5.mono hb34.size); have F5 := F3.ext hb35; have hR5 := F5.rb; obtain ⟨a50, a51, a52, a53⟩ := F5.vb; have c50 := F5.c0; have c51 := F5.c1; have hV5 := hV3.ext hb35))
        | ((at_builtin; refine wpList_appendL (OwnL.nil _ w3.heap.size) (by simp; try rfl) rfl (hrows.alloc _) (fun _ _ _ _ h => by simp [Value.ownBlock] at h) (by simp) (by have := hb35.size; simp; omega) rfl rfl rfl rfl ?_; intro v6 w6 own6 hg6; have hb36 := (hb35.alloc hb35.size _).grown hg6 (by have := hb35.size; simp; omega) (fun g hg => by simp [Value.ownBlock] at hg); have F6 := F3.ext hb36; have hR6 := F6.rb; obtain ⟨a60, a61, a62, a63⟩ := F6.vb; have c60 := F6.c0; have c61 := F6.c1; have hV6 := hV3.ext hb36))
        | ((go_at_call 55; refine (speaks_is HSPK hV6 hf).mono ?_; rintro e w7 ⟨rfl, hb7⟩; have hb37 := hb36.trans (hb7.mono hb36.size); have F7 := F3.ext hb37; have hR7 := F7.rb; obtain ⟨a70, a71, a72, a73⟩ := F7.vb; have c70 := F7.c0; have c71 := F7.c1; have hV7 := hV3.ext hb37; have own7 := own6.ext hb7))
        | ((go_at_call 79; refine (leafL_any _ _ _ _ _ _ _ _ _ w _ hV (hB3.trans (hb37.mono hB3.size)) hf).mono ?_; rintro e w8 ⟨al2, cl2, rfl, hrowl, hb8⟩; have hb38 := hb37.trans (hb8.mono hb37.size); have F8 := F3.ext hb38; have hR8 := F8.rb; obtain ⟨a80, a81, a82, a83⟩ := F8.vb; have c80 := F8.c0; have c81 := F8.c1; have hV8 := hV3.ext hb38; have own8 := own7.ext hb8; have hrowl2 := hrowl.ext (hB3.trans (hb38.mono hB3.size))))
        | ((at_builtin; refine wpList_appendL (own8.alloc _) (by simp; try rfl) rfl (hrowl2.alloc _) (own7.far hrowl hB3.size) (by simp) (by have := hb38.size; simp; omega) rfl rfl rfl rfl ?_; intro v9 w9 own9 hg9; have hb39 := (hb38.alloc hb38.size _).grown hg9 (by have := hb38.size; simp; omega) (fun g hg => (own8.lt hg).1); have F9 := F3.ext hb39; have hR9 := F9.rb; obtain ⟨a90, a91, a92, a93⟩ := F9.vb; have c90 := F9.c0; have c91 := F9.c1; have hV9 := hV3.ext hb39; obtain ⟨aL, cL, rfl, hLr⟩ := own9.rowN (n := 2) rfl))
        | ((go_at_call 80; refine (others_is (Ls := (([] ++ [speakersP V (hasRu r)]) ++ [leafP V (x, y)])) (n := 2) (hid rfl) hV9 hf hLr (few_cons (leafP_wf hs) (leafP_len hs) (few_cons (speakers_wf hs) (by have := speakers_len (V := V) (S := hasRu r); have := hs.nl; omega) few_nil (by simp)) (by simp))).mono ?_; rintro e w10 ⟨vo, rfl, hown, hb10⟩)))
      go_ret
      exact ⟨_, rfl, by rw [HD.out]; exact hown.mono (by have := hb39.size; have := hB3.size; omega), (hB3.trans (hb39.mono hB3.size)).trans (hb10.mono (by have := hb39.size; have := hB3.size; omega))⟩

theorem leadsV_is {V : View} {am al ad : Option Addr} {cm cl cd : Nat} {x y : Int} {w : World} {b : Bool} (h : Hid (decide ((x, y) ∈ V.ds) = b)) (hV : ViewR w am al ad V) :
   Calls Try.prog 89 #[viewV V am al ad cm cl cd, .agg #[.int .u16 x, .int .u32 y]] w fun e w' => e = .returned (.bool b) ∧ Below w.heap.size w w' := by
  have := leads_any V am al ad cm cl cd x y w hV
  rw [h.out] at this
  exact this
/-- a view and a process, boxed -/
structure Frv (w : World) (n : Nat) (V : View) (am al ad : Option Addr) (cm cl cd : Nat) (x y : Int) : Prop where
  vb : ViewBox w n V am al ad cm cl cd
  c0 : w.cell? ⟨n + 1, 0, none⟩ = some (.int .u16 x)
  c1 : w.cell? ⟨n + 1, 1, none⟩ = some (.int .u32 y)
theorem Frv.ext {w w' : World} {n : Nat} {V : View} {am al ad : Option Addr} {cm cl cd : Nat} {x y : Int} (h : Frv w n V am al ad cm cl cd x y) (hb : Below w.heap.size w w') : Frv w' n V am al ad cm cl cd x y :=
  ⟨h.vb.ext hb h.vb.lt, cell_to h.c0 hb, cell_to h.c1 hb⟩
theorem Frv.made (w : World) (V : View) (am al ad : Option Addr) (cm cl cd : Nat) (x y : Int) : Frv ((w.alloc (.cells (vcells V am al ad cm cl cd) 68)).alloc (.cells #[.int .u16 x, .int .u32 y] 32)) w.heap.size V am al ad cm cl cd x y := by
  have hp := Box2.made (w.alloc (.cells (vcells V am al ad cm cl cd) 68)) (v0 := .int .u16 x) (v1 := .int .u32 y) 32
  simp only [World.size_alloc] at hp
  exact ⟨(ViewBox.made (V := V) (am := am) (al := al) (ad := ad) (cm := cm) (cl := cl) (cd := cd) w).ext (B := w.heap.size + 1) ((Below.refl _ _).alloc (by simp) (.cells #[.int .u16 x, .int .u32 y] 32)) (by omega), hp.c0, hp.c1⟩
set_option maxRecDepth 100000 in
set_option maxHeartbeats 6400000 in
theorem peers_any (V : View) (am al ad : Option Addr) (cm cl cd : Nat) (x y : Int) (w : World) (hV : ViewR w am al ad V) (hs : Small V) :
    Calls Try.prog 60 #[viewV V am al ad cm cl cd, .agg #[.int .u16 x, .int .u32 y]] w fun e w' => ∃ v, e = .returned v ∧ OwnP w' w.heap.size v (peersP V (x, y)) ∧ Below w.heap.size w w' := by
  have hf := hs.fine
  have hB3 : Below w.heap.size w ((w.alloc (.cells (vcells V am al ad cm cl cd) 68)).alloc (.cells #[.int .u16 x, .int .u32 y] 32)) := ((Below.refl _ _).alloc (Nat.le_refl _) _).alloc (by simp) _
  have F3 := Frv.made w V am al ad cm cl cd x y
  have hV3 := hV.ext hB3
  obtain ⟨w3, hw3⟩ : ∃ w3, ((w.alloc (.cells (vcells V am al ad cm cl cd) 68)).alloc (.cells #[.int .u16 x, .int .u32 y] 32)) = w3 := ⟨_, rfl⟩
  rw [hw3] at hB3 F3 hV3
  have hb33 : Below w3.heap.size w3 w3 := Below.refl _ _
  obtain ⟨a30, a31, a32, a33⟩ := F3.vb; have c30 := F3.c0; have c31 := F3.c1
  by_cases hmem : (x, y) ∈ V.ms
  · by_cases hld : (x, y) ∈ V.ds
    · have HD : Hid (peersP V (x, y) = othersP V (x, y) (([] ++ [leafP V (x, y)]) ++ [V.ds])) := hid (by unfold peersP peersL; rw [if_pos hmem, if_pos hld]; rfl)
      have HM : Hid (decide ((x, y) ∈ V.ms) = true) := hid (by simpa using hmem)
      have HL : Hid (decide ((x, y) ∈ V.ds) = true) := hid (by simpa using hld)
      clear hmem hld
      go_enter Try.func60, Try.ntmps60
      go_wp2_with (first
        | ((go_at_call 75; refine (hasV_is HM hV3).mono ?_; rintro e w4 ⟨rfl, hb4⟩; have hb34 := hb33.trans (hb4.mono hb33.size); have F4 := F3.ext hb34; obtain ⟨a40, a41, a42, a43⟩ := F4.vb; have c40 := F4.c0; have c41 := F4.c1; have hV4 := hV3.ext hb34))
        | ((go_at_call 79; refine (leafL_any _ _ _ _ _ _ _ _ _ w _ hV (hB3.trans (hb34.mono hB3.size)) hf).mono ?_; rintro e w5 ⟨ap, cp, rfl, hrowl, hb5⟩; have hrowp := hrowl.ext ((hB3.trans (hb34.mono hB3.size)).trans (hb5.mono (by have := hb34.size; have := hB3.size; omega))); have hb35 := hb34.trans (hb5.mono hb34.size); have own6 := OwnL.made w5 (c := cp) rfl hrowp hb35.size; have hb36 := hb35.alloc hb35.size (.cells #[.slice ap (leafP V (x, y)).length cp] 33); obtain ⟨w6, hw6⟩ : ∃ w6, w5.alloc (.cells #[.slice ap (leafP V (x, y)).length cp] 33) = w6 := ⟨_, rfl⟩; rw [hw6] at own6 hb36; have F6 := F3.ext hb36; obtain ⟨a60, a61, a62, a63⟩ := F6.vb; have c60 := F6.c0; have c61 := F6.c1; have hV6 := hV3.ext hb36))
        | ((go_at_call 89; refine (leadsV_is HL hV6).mono ?_; rintro e w7 ⟨rfl, hb7⟩; have hb37 := hb36.trans (hb7.mono hb36.size); have F7 := F3.ext hb37; obtain ⟨a70, a71, a72, a73⟩ := F7.vb; have c70 := F7.c0; have c71 := F7.c1; have hV7 := hV3.ext hb37; have own7 := own6.ext hb7))
        | ((at_builtin; refine wpList_appendL (own7.alloc _) (by simp; try rfl) rfl (hV7.ds.alloc _) (own7.far hV.ds hB3.size) (by simp) (by have := hb37.size; simp; omega) rfl rfl rfl rfl ?_; intro v8 w8 own8 hg8; have hb38 := (hb37.alloc hb37.size _).grown hg8 (by have := hb37.size; simp; omega) (fun g hg => (own7.lt hg).1); have F8 := F3.ext hb38; obtain ⟨a80, a81, a82, a83⟩ := F8.vb; have c80 := F8.c0; have c81 := F8.c1; have hV8 := hV3.ext hb38; obtain ⟨aL, cL, hvL, hLr⟩ := own8.rowN (n := 2) rfl; subst hvL))
        | ((go_at_call 80; refine (others_is (Ls := (([] ++ [leafP V (x, y)]) ++ [V.ds])) (n := 2) (hid rfl) hV8 hf hLr (few_cons hs.wf.ds hs.ds (few_cons (leafP_wf hs) (leafP_len hs) few_nil (by simp)) (by simp))).mono ?_; rintro e w9 ⟨vo, rfl, hown, hb9⟩)))
      go_ret
      exact ⟨_, rfl, by rw [HD.out]; exact hown.mono (by have := hb38.size; have := hB3.size; omega), (hB3.trans (hb38.mono hB3.size)).trans (hb9.mono (by have := hb38.size; have := hB3.size; omega))⟩
    · have HD : Hid (peersP V (x, y) = othersP V (x, y) ([] ++ [leafP V (x, y)])) := hid (by unfold peersP peersL; rw [if_pos hmem, if_neg hld]; rfl)
      have HM : Hid (decide ((x, y) ∈ V.ms) = true) := hid (by simpa using hmem)
      have HL : Hid (decide ((x, y) ∈ V.ds) = false) := hid (by simpa using hld)
      clear hmem hld
      go_enter Try.func60, Try.ntmps60
      go_wp2_with (first
        | ((go_at_call 75; refine (hasV_is HM hV3).mono ?_; rintro e w4 ⟨rfl, hb4⟩; have hb34 := hb33.trans (hb4.mono hb33.size); have F4 := F3.ext hb34; obtain ⟨a40, a41, a42, a43⟩ := F4.vb; have c40 := F4.c0; have c41 := F4.c1; have hV4 := hV3.ext hb34))
        | ((go_at_call 79; refine (leafL_any _ _ _ _ _ _ _ _ _ w _ hV (hB3.trans (hb34.mono hB3.size)) hf).mono ?_; rintro e w5 ⟨ap, cp, rfl, hrowl, hb5⟩; have hrowp := hrowl.ext ((hB3.trans (hb34.mono hB3.size)).trans (hb5.mono (by have := hb34.size; have := hB3.size; omega))); have hb35 := hb34.trans (hb5.mono hb34.size); have own6 := OwnL.made w5 (c := cp) rfl hrowp hb35.size; have hb36 := hb35.alloc hb35.size (.cells #[.slice ap (leafP V (x, y)).length cp] 33); obtain ⟨w6, hw6⟩ : ∃ w6, w5.alloc (.cells #[.slice ap (leafP V (x, y)).length cp] 33) = w6 := ⟨_, rfl⟩; rw [hw6] at own6 hb36; have F6 := F3.ext hb36; obtain ⟨a60, a61, a62, a63⟩ := F6.vb; have c60 := F6.c0; have c61 := F6.c1; have hV6 := hV3.ext hb36))
        | ((go_at_call 89; refine (leadsV_is HL hV6).mono ?_; rintro e w7 ⟨rfl, hb7⟩; have hb37 := hb36.trans (hb7.mono hb36.size); have F7 := F3.ext hb37; obtain ⟨a70, a71, a72, a73⟩ := F7.vb; have c70 := F7.c0; have c71 := F7.c1; have hV7 := hV3.ext hb37; have own7 := own6.ext hb7; obtain ⟨aL, cL, hvL, hLr⟩ := own7.rowN (n := 1) rfl; cases hvL))
        | ((go_at_call 80; refine (others_is (Ls := ([] ++ [leafP V (x, y)])) (n := 1) (hid rfl) hV7 hf hLr (few_cons (leafP_wf hs) (leafP_len hs) few_nil (by simp))).mono ?_; rintro e w8 ⟨vo, rfl, hown, hb8⟩)))
      go_ret
      exact ⟨_, rfl, by rw [HD.out]; exact hown.mono (by have := hb37.size; have := hB3.size; omega), (hB3.trans (hb37.mono hB3.size)).trans (hb8.mono (by have := hb37.size; have := hB3.size; omega))⟩
  · have HD : Hid (peersP V (x, y) = []) := hid (by unfold peersP; rw [if_neg hmem])
    have HM : Hid (decide ((x, y) ∈ V.ms) = false) := hid (by simpa using hmem)
    clear hmem
    go_enter Try.func60, Try.ntmps60
    go_wp2_with (go_at_call 75; refine (hasV_is HM hV3).mono ?_; rintro e w4 ⟨rfl, hb4⟩)
    go_ret
    exact ⟨_, rfl, by rw [HD.out]; exact OwnP.nil _ _, hB3.trans (hb4.mono hB3.size)⟩

set_option maxRecDepth 100000 in
set_option maxHeartbeats 6400000 in
theorem beats_any (r : Nat → Int) (V : View) (am al ad : Option Addr) (cm cl cd : Nat) (x y : Int) (w : World) (hV : ViewR w am al ad V) (hs : Small V) :
    Calls Try.prog 58 #[viewV V am al ad cm cl cd, .agg (RL r).toArray, .agg #[.int .u16 x, .int .u32 y]] w fun e w' => ∃ v, e = .returned v ∧ OwnP w' w.heap.size v (beatsP V (hasRu r) (x, y)) ∧ Below w.heap.size w w' := by
  have hf := hs.fine
  have hB3 : Below w.heap.size w (((w.alloc (.cells (vcells V am al ad cm cl cd) 68)).alloc (.cells (RL r).toArray 70)).alloc (.cells #[.int .u16 x, .int .u32 y] 32)) := (((Below.refl _ _).alloc (Nat.le_refl _) _).alloc (by simp) _).alloc (by simp; omega) _
  have F3 := Frm.made w V am al ad cm cl cd r x y
  have hV3 := hV.ext hB3
  obtain ⟨w3, hw3⟩ : ∃ w3, (((w.alloc (.cells (vcells V am al ad cm cl cd) 68)).alloc (.cells (RL r).toArray 70)).alloc (.cells #[.int .u16 x, .int .u32 y] 32)) = w3 := ⟨_, rfl⟩
  rw [hw3] at hB3 F3 hV3
  have hb33 : Below w3.heap.size w3 w3 := Below.refl _ _
  have hR3 := F3.rb; obtain ⟨a30, a31, a32, a33⟩ := F3.vb; have c30 := F3.c0; have c31 := F3.c1
  cases hic : isChiefB V (hasRu r) (x, y)
  · cases hsp : speaksB V (hasRu r) (x, y)
    · have HD : Hid (beatsP V (hasRu r) (x, y) = othersP V (x, y) ([] ++ [peersP V (x, y)])) := hid (by unfold beatsP beatsL; rw [hic, hsp]; rfl)
      have HIC := hid hic
      have HSPK := hid hsp
      clear hic hsp
      go_enter Try.func58, Try.ntmps58
      go_wp2_with (first
        | (refine wpList_loadRw (by assumption) (by rfl) rfl rfl ?_)
        | ((go_at_call 60; refine (peers_any V _ _ _ _ _ _ _ _ _ hV3 hs).mono ?_; rintro e w4 ⟨vp, rfl, hownp, hb4⟩; obtain ⟨ap, cp, rfl, hrowp, hpp⟩ := hownp.row; have hb34 := hb33.trans (hb4.mono hb33.size); have own5 := OwnL.made w4 (c := cp) rfl hrowp hb34.size; have hb35 := hb34.alloc hb34.size (.cells #[.slice ap (peersP V (x, y)).length cp] 33); obtain ⟨w5, hw5⟩ : ∃ w5, w4.alloc (.cells #[.slice ap (peersP V (x, y)).length cp] 33) = w5 := ⟨_, rfl⟩; rw [hw5] at own5 hb35; have F5 := F3.ext hb35; have hR5 := F5.rb; obtain ⟨a50, a51, a52, a53⟩ := F5.vb; have c50 := F5.c0; have c51 := F5.c1; have hV5 := hV3.ext hb35))
        | ((go_at_call 76; refine (isChief_is HIC hV5 hf).mono ?_; rintro e w6 ⟨rfl, hb6⟩; have hb36 := hb35.trans (hb6.mono hb35.size); have F6 := F3.ext hb36; have hR6 := F6.rb; obtain ⟨a60, a61, a62, a63⟩ := F6.vb; have c60 := F6.c0; have c61 := F6.c1; have hV6 := hV3.ext hb36; have own6 := own5.ext hb6))
        | ((go_at_call 55; refine (speaks_is HSPK hV6 hf).mono ?_; rintro e w7 ⟨rfl, hb7⟩; have hb37 := hb36.trans (hb7.mono hb36.size); have F7 := F3.ext hb37; have hR7 := F7.rb; obtain ⟨a70, a71, a72, a73⟩ := F7.vb; have c70 := F7.c0; have c71 := F7.c1; have hV7 := hV3.ext hb37; have own7 := own6.ext hb7; obtain ⟨aL, cL, hvL, hLr⟩ := own7.rowN (n := 1) rfl; cases hvL))
        | ((go_at_call 80; refine (others_is (Ls := ([] ++ [peersP V (x, y)])) (n := 1) (hid rfl) hV7 hf hLr (few_cons (peers_wf hs) (by have := peers_len (V := V) (p := (x, y)); have := hs.ms; omega) few_nil (by simp))).mono ?_; rintro e w8 ⟨vo, rfl, hown, hb8⟩)))
      go_ret
      exact ⟨_, rfl, by rw [HD.out]; exact hown.mono (by have := hb37.size; have := hB3.size; omega), (hB3.trans (hb37.mono hB3.size)).trans (hb8.mono (by have := hb37.size; have := hB3.size; omega))⟩
    · have HD : Hid (beatsP V (hasRu r) (x, y) = othersP V (x, y) (([] ++ [peersP V (x, y)]) ++ [V.ds])) := hid (by unfold beatsP beatsL; rw [hic, hsp]; rfl)
      have HIC := hid hic
      have HSPK := hid hsp
      clear hic hsp
      go_enter Try.func58, Try.ntmps58
      go_wp2_with (first
        | (refine wpList_loadRw (by assumption) (by rfl) rfl rfl ?_)
        | ((go_at_call 60; refine (peers_any V _ _ _ _ _ _ _ _ _ hV3 hs).mono ?_; rintro e w4 ⟨vp, rfl, hownp, hb4⟩; obtain ⟨ap, cp, rfl, hrowp, hpp⟩ := hownp.row; have hb34 := hb33.trans (hb4.mono hb33.size); have own5 := OwnL.made w4 (c := cp) rfl hrowp hb34.size; have hb35 := hb34.alloc hb34.size (.cells #[.slice ap (peersP V (x, y)).length cp] 33); obtain ⟨w5, hw5⟩ : ∃ w5, w4.alloc (.cells #[.slice ap (peersP V (x, y)).length cp] 33) = w5 := ⟨_, rfl⟩; rw [hw5] at own5 hb35; have F5 := F3.ext hb35; have hR5 := F5.rb; obtain ⟨a50, a51, a52, a53⟩ := F5.vb; have c50 := F5.c0; have c51 := F5.c1; have hV5 := hV3.ext hb35))
        | ((go_at_call 76; refine (isChief_is HIC hV5 hf).mono ?_; rintro e w6 ⟨rfl, hb6⟩; have hb36 := hb35.trans (hb6.mono hb35.size); have F6 := F3.ext hb36; have hR6 := F6.rb; obtain ⟨a60, a61, a62, a63⟩ := F6.vb; have c60 := F6.c0; have c61 := F6.c1; have hV6 := hV3.ext hb36; have own6 := own5.ext hb6))
        | ((go_at_call 55; refine (speaks_is HSPK hV6 hf).mono ?_; rintro e w7 ⟨rfl, hb7⟩; have hb37 := hb36.trans (hb7.mono hb36.size); have F7 := F3.ext hb37; have hR7 := F7.rb; obtain ⟨a70, a71, a72, a73⟩ := F7.vb; have c70 := F7.c0; have c71 := F7.c1; have hV7 := hV3.ext hb37; have own7 := own6.ext hb7))
        | ((at_builtin; refine wpList_appendL (own7.alloc _) (by simp; try rfl) rfl (hV7.ds.alloc _) (own7.far hV.ds hB3.size) (by simp) (by have := hb37.size; simp; omega) rfl rfl rfl rfl ?_; intro v8 w8 own8 hg8; have hb38 := (hb37.alloc hb37.size _).grown hg8 (by have := hb37.size; simp; omega) (fun g hg => (own7.lt hg).1); have F8 := F3.ext hb38; have hR8 := F8.rb; obtain ⟨a80, a81, a82, a83⟩ := F8.vb; have c80 := F8.c0; have c81 := F8.c1; have hV8 := hV3.ext hb38; obtain ⟨aL, cL, rfl, hLr⟩ := own8.rowN (n := 2) rfl))
        | ((go_at_call 80; refine (others_is (Ls := (([] ++ [peersP V (x, y)]) ++ [V.ds])) (n := 2) (hid rfl) hV8 hf hLr (few_cons hs.wf.ds hs.ds (few_cons (peers_wf hs) (by have := peers_len (V := V) (p := (x, y)); have := hs.ms; omega) few_nil (by simp)) (by simp))).mono ?_; rintro e w9 ⟨vo, rfl, hown, hb9⟩)))
      go_ret
      exact ⟨_, rfl, by rw [HD.out]; exact hown.mono (by have := hb38.size; have := hB3.size; omega), (hB3.trans (hb38.mono hB3.size)).trans (hb9.mono (by have := hb38.size; have := hB3.size; omega))⟩
  · cases hsp : speaksB V (hasRu r) (x, y)
    · have HD : Hid (beatsP V (hasRu r) (x, y) = othersP V (x, y) (([] ++ [peersP V (x, y)]) ++ [speakersP V (hasRu r)])) := hid (by unfold beatsP beatsL; rw [hic, hsp]; rfl)
      have HIC := hid hic
      have HSPK := hid hsp
      clear hic hsp
      go_enter Try.func58, Try.ntmps58
      go_wp2_with (first
        | (refine wpList_loadRw (by assumption) (by rfl) rfl rfl ?_)
        | ((go_at_call 60; refine (peers_any V _ _ _ _ _ _ _ _ _ hV3 hs).mono ?_; rintro e w4 ⟨vp, rfl, hownp, hb4⟩; obtain ⟨ap, cp, rfl, hrowp, hpp⟩ := hownp.row; have hb34 := hb33.trans (hb4.mono hb33.size); have own5 := OwnL.made w4 (c := cp) rfl hrowp hb34.size; have hb35 := hb34.alloc hb34.size (.cells #[.slice ap (peersP V (x, y)).length cp] 33); obtain ⟨w5, hw5⟩ : ∃ w5, w4.alloc (.cells #[.slice ap (peersP V (x, y)).length cp] 33) = w5 := ⟨_, rfl⟩; rw [hw5] at own5 hb35; have F5 := F3.ext hb35; have hR5 := F5.rb; obtain ⟨a50, a51, a52, a53⟩ := F5.vb; have c50 := F5.c0; have c51 := F5.c1; have hV5 := hV3.ext hb35))
        | ((go_at_call 76; refine (isChief_is HIC hV5 hf).mono ?_; rintro e w6 ⟨rfl, hb6⟩; have hb36 := hb35.trans (hb6.mono hb35.size); have F6 := F3.ext hb36; have hR6 := F6.rb; obtain ⟨a60, a61, a62, a63⟩ := F6.vb; have c60 := F6.c0; have c61 := F6.c1; have hV6 := hV3.ext hb36; have own6 := own5.ext hb6))
        | ((go_at_call 78; refine (speakers_any _ _ _ _ _ _ _ _ _ hV6 hf).mono ?_; rintro e w7 ⟨vs, rfl, howns, hb7⟩; obtain ⟨a9, c9, rfl, hrows, hps⟩ := howns.row; have hb37 := hb36.trans (hb7.mono hb36.size); have F7 := F3.ext hb37; have hR7 := F7.rb; obtain ⟨a70, a71, a72, a73⟩ := F7.vb; have c70 := F7.c0; have c71 := F7.c1; have hV7 := hV3.ext hb37; have own7 := own6.ext hb7))
        | ((at_builtin; refine wpList_appendL (own7.alloc _) (by simp; try rfl) rfl (hrows.alloc _) (own6.far2 hps (Nat.le_refl _)) (by simp) (by have := hb37.size; simp; omega) rfl rfl rfl rfl ?_; intro v8 w8 own8 hg8; have hb38 := (hb37.alloc hb37.size _).grown hg8 (by have := hb37.size; simp; omega) (fun g hg => (own7.lt hg).1); have F8 := F3.ext hb38; have hR8 := F8.rb; obtain ⟨a80, a81, a82, a83⟩ := F8.vb; have c80 := F8.c0; have c81 := F8.c1; have hV8 := hV3.ext hb38))
        | ((go_at_call 55; refine (speaks_is HSPK hV8 hf).mono ?_; rintro e w9 ⟨rfl, hb9⟩; have hb39 := hb38.trans (hb9.mono hb38.size); have F9 := F3.ext hb39; have hR9 := F9.rb; obtain ⟨a90, a91, a92, a93⟩ := F9.vb; have c90 := F9.c0; have c91 := F9.c1; have hV9 := hV3.ext hb39; have own9 := own8.ext hb9; obtain ⟨aL, cL, rfl, hLr⟩ := own9.rowN (n := 2) rfl))
        | ((go_at_call 80; refine (others_is (Ls := (([] ++ [peersP V (x, y)]) ++ [speakersP V (hasRu r)])) (n := 2) (hid rfl) hV9 hf hLr (few_cons (speakers_wf hs) (by have := speakers_len (V := V) (S := hasRu r); have := hs.nl; omega) (few_cons (peers_wf hs) (by have := peers_len (V := V) (p := (x, y)); have := hs.ms; omega) few_nil (by simp)) (by simp))).mono ?_; rintro e w10 ⟨vo, rfl, hown, hb10⟩)))
      go_ret
      exact ⟨_, rfl, by rw [HD.out]; exact hown.mono (by have := hb39.size; have := hB3.size; omega), (hB3.trans (hb39.mono hB3.size)).trans (hb10.mono (by have := hb39.size; have := hB3.size; omega))⟩
    · have HD : Hid (beatsP V (hasRu r) (x, y) = othersP V (x, y) ((([] ++ [peersP V (x, y)]) ++ [speakersP V (hasRu r)]) ++ [V.ds])) := hid (by unfold beatsP beatsL; rw [hic, hsp]; rfl)
      have HIC := hid hic
      have HSPK := hid hsp
      clear hic hsp
      go_enter Try.func58, Try.ntmps58
      go_wp2_with (first
        | (refine wpList_loadRw (by assumption) (by rfl) rfl rfl ?_)
        | ((go_at_call 60; refine (peers_any V _ _ _ _ _ _ _ _ _ hV3 hs).mono ?_; rintro e w4 ⟨vp, rfl, hownp, hb4⟩; obtain ⟨ap, cp, rfl, hrowp, hpp⟩ := hownp.row; have hb34 := hb33.trans (hb4.mono hb33.size); have own5 := OwnL.made w4 (c := cp) rfl hrowp hb34.size; have hb35 := hb34.alloc hb34.size (.cells #[.slice ap (peersP V (x, y)).length cp] 33); obtain ⟨w5, hw5⟩ : ∃ w5, w4.alloc (.cells #[.slice ap (peersP V (x, y)).length cp] 33) = w5 := ⟨_, rfl⟩; rw [hw5] at own5 hb35; have F5 := F3.ext hb35; have hR5 := F5.rb; obtain ⟨a50, a51, a52, a53⟩ := F5.vb; have c50 := F5.c0; have c51 := F5.c1; have hV5 := hV3.ext hb35))
        | ((go_at_call 76; refine (isChief_is HIC hV5 hf).mono ?_; rintro e w6 ⟨rfl, hb6⟩; have hb36 := hb35.trans (hb6.mono hb35.size); have F6 := F3.ext hb36; have hR6 := F6.rb; obtain ⟨a60, a61, a62, a63⟩ := F6.vb; have c60 := F6.c0; have c61 := F6.c1; have hV6 := hV3.ext hb36; have own6 := own5.ext hb6))
        | ((go_at_call 78; refine (speakers_any _ _ _ _ _ _ _ _ _ hV6 hf).mono ?_; rintro e w7 ⟨vs, rfl, howns, hb7⟩; obtain ⟨a9, c9, rfl, hrows, hps⟩ := howns.row; have hb37 := hb36.trans (hb7.mono hb36.size); have F7 := F3.ext hb37; have hR7 := F7.rb; obtain ⟨a70, a71, a72, a73⟩ := F7.vb; have c70 := F7.c0; have c71 := F7.c1; have hV7 := hV3.ext hb37; have own7 := own6.ext hb7))
        | ((at_builtin; refine wpList_appendL (own7.alloc _) (by simp; try rfl) rfl (hrows.alloc _) (own6.far2 hps (Nat.le_refl _)) (by simp) (by have := hb37.size; simp; omega) rfl rfl rfl rfl ?_; intro v8 w8 own8 hg8; have hb38 := (hb37.alloc hb37.size _).grown hg8 (by have := hb37.size; simp; omega) (fun g hg => (own7.lt hg).1); have F8 := F3.ext hb38; have hR8 := F8.rb; obtain ⟨a80, a81, a82, a83⟩ := F8.vb; have c80 := F8.c0; have c81 := F8.c1; have hV8 := hV3.ext hb38))
        | ((go_at_call 55; refine (speaks_is HSPK hV8 hf).mono ?_; rintro e w9 ⟨rfl, hb9⟩; have hb39 := hb38.trans (hb9.mono hb38.size); have F9 := F3.ext hb39; have hR9 := F9.rb; obtain ⟨a90, a91, a92, a93⟩ := F9.vb; have c90 := F9.c0; have c91 := F9.c1; have hV9 := hV3.ext hb39; have own9 := own8.ext hb9))
        | ((at_builtin; refine wpList_appendL (own9.alloc _) (by simp; try rfl) rfl (hV9.ds.alloc _) (own9.far hV.ds hB3.size) (by simp) (by have := hb39.size; simp; omega) rfl rfl rfl rfl ?_; intro v10 w10 own10 hg10; have hb310 := (hb39.alloc hb39.size _).grown hg10 (by have := hb39.size; simp; omega) (fun g hg => (own9.lt hg).1); have F10 := F3.ext hb310; have hR10 := F10.rb; obtain ⟨a100, a101, a102, a103⟩ := F10.vb; have c100 := F10.c0; have c101 := F10.c1; have hV10 := hV3.ext hb310; obtain ⟨aL, cL, rfl, hLr⟩ := own10.rowN (n := 3) rfl))
        | ((go_at_call 80; refine (others_is (Ls := ((([] ++ [peersP V (x, y)]) ++ [speakersP V (hasRu r)]) ++ [V.ds])) (n := 3) (hid rfl) hV10 hf hLr (few_cons hs.wf.ds hs.ds (few_cons (speakers_wf hs) (by have := speakers_len (V := V) (S := hasRu r); have := hs.nl; omega) (few_cons (peers_wf hs) (by have := peers_len (V := V) (p := (x, y)); have := hs.ms; omega) few_nil (by simp)) (by simp)) (by simp))).mono ?_; rintro e w11 ⟨vo, rfl, hown, hb11⟩)))
      go_ret
      exact ⟨_, rfl, by rw [HD.out]; exact hown.mono (by have := hb310.size; have := hB3.size; omega), (hB3.trans (hb310.mono hB3.size)).trans (hb11.mono (by have := hb310.size; have := hB3.size; omega))⟩
end Go.Proofs.Ytjjahefedpfnaaa

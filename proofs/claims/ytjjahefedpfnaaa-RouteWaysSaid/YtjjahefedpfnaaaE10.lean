import Derived.Test.YtjjahefedpfnaaaE9
namespace Go.Proofs.Ytjjahefedpfnaaa
open Go.RowKit
theorem wpList_loadRw {ops : Array Oper} {rest : List Oper} {op : Oper} {a : Go.Act} {w : World} {Q : Exit → Go.Act → World → Prop} {x : Operand} {b : Nat} {r : Nat → Int} (h : RumBox w b r) (hw : Region.wanted op (yielded ops a.tmps) = true) (ho : op.op = .load 70 x)
    (hx : a.eval x = .pointer (some ⟨b, 0, none⟩)) (hk : wpList Try.prog ops Q rest (a.put op.dst (.agg (RL r).toArray)) w) : wpList Try.prog ops Q (op :: rest) a w :=
  wpList_step fun K hK => by rw [if_pos hw]; exact wp_load_mid 70 x ho b 0 hx (RL r) _ h.range Try.underlying70 rfl (info70L r) (hK _ _ hk)
theorem hasV_is {V : View} {am al ad : Option Addr} {cm cl cd : Nat} {x y : Int} {w : World} {b : Bool} (h : Hid (decide ((x, y) ∈ V.ms) = b)) (hV : ViewR w am al ad V) :
   Calls Try.prog 75 #[viewV V am al ad cm cl cd, .agg #[.int .u16 x, .int .u32 y]] w fun e w' => e = .returned (.bool b) ∧ Below w.heap.size w w' := by
  have := hasView_any V am al ad cm cl cd x y w hV
  rw [h.out] at this
  exact this
theorem at83_is {a : Option Addr} {c : Nat} {xs : List Pid} {x y : Int} {w : World} {A : Int} (h : Hid (atIx xs (x, y) = A)) (hn : xs.length ≤ 549755813888) (hrow : PidRow w a xs) :
   Calls Try.prog 83 #[.slice a xs.length c, .agg #[.int .u16 x, .int .u32 y]] w fun e w' => e = .returned (.int .i64 A) ∧ Below w.heap.size w w' := by
  have := at_any a c xs x y w (by omega) hrow
  rw [h.out] at this
  exact this
theorem isChief_is {r : Nat → Int} {V : View} {am al ad : Option Addr} {cm cl cd : Nat} {x y : Int} {w : World} {b : Bool} (h : Hid (isChiefB V (hasRu r) (x, y) = b)) (hV : ViewR w am al ad V) (hf : Fine V) :
    Calls Try.prog 76 #[viewV V am al ad cm cl cd, .agg (RL r).toArray, .agg #[.int .u16 x, .int .u32 y]] w fun e w' => e = .returned (.bool b) ∧ Below w.heap.size w w' := by
  have := isChief_any r V am al ad cm cl cd x y w hV hf
  rw [h.out] at this; exact this
theorem isChiefRef_is {r : Nat → Int} {V : View} {am al ad : Option Addr} {cm cl cd : Nat} {x y : Int} {w : World} {b : Bool} (h : Hid (isChiefB V (hasRu r) (x, y) = b)) (hV : ViewR w am al ad V) (hf : Fine V) :
    Calls Try.prog 84 #[viewV V am al ad cm cl cd, .agg (RL r).toArray, .agg #[.int .u16 x, .int .u32 y]] w fun e w' => e = .returned (.bool b) ∧ Below w.heap.size w w' := by
  have := isChiefRef_any r V am al ad cm cl cd x y w hV hf
  rw [h.out] at this; exact this
theorem upP_no {V : View} {S : Pid → Bool} {p : Pid} (h : p ∉ V.ms ∨ isChiefB V S p = true) : upP V S p = none := by
  unfold upP; rw [if_pos]; rcases h with h | h <;> simp [h]
theorem upP_spk {V : View} {S : Pid → Bool} {p q : Pid} (h : p ∈ V.ms) (hc : isChiefB V S p = false) (hs : speakP V S (leafIx V.ls p) = some q) (hq : q ≠ p) : upP V S p = some q := by
  unfold upP; rw [if_neg (by simp [h, hc]), hs]; simp [hq]
theorem upP_chief {V : View} {S : Pid → Bool} {p : Pid} (h : p ∈ V.ms) (hc : isChiefB V S p = false) (hs : speakP V S (leafIx V.ls p) = none ∨ speakP V S (leafIx V.ls p) = some p) : upP V S p = chiefP V S := by
  unfold upP; rw [if_neg (by simp [h, hc])]
  rcases hs with hs | hs <;> simp [hs]
theorem optV_pair (u v : Int) : optV (some (u, v)) = .tuple #[.agg #[.int .u16 u, .int .u32 v], .bool true] := rfl

set_option maxRecDepth 100000 in
set_option maxHeartbeats 6400000 in
theorem up_any (r : Nat → Int) (V : View) (am al ad : Option Addr) (cm cl cd : Nat) (x y : Int) (w : World) (hV : ViewR w am al ad V) (hf : Fine V) :
    Calls Try.prog 48 #[viewV V am al ad cm cl cd, .agg (RL r).toArray, .agg #[.int .u16 x, .int .u32 y]] w fun e w' => e = .returned (optV (upP V (hasRu r) (x, y))) ∧ Below w.heap.size w w' := by
  have hB3 : Below w.heap.size w (((w.alloc (.cells (vcells V am al ad cm cl cd) 68)).alloc (.cells (RL r).toArray 70)).alloc (.cells #[.int .u16 x, .int .u32 y] 32)) := (((Below.refl _ _).alloc (Nat.le_refl _) _).alloc (by simp) _).alloc (by simp; omega) _
  have hR3 := (RumBox.madeV (w.alloc (.cells (vcells V am al ad cm cl cd) 68)) r).ext (B := w.heap.size + 1 + 1) ((Below.refl _ _).alloc (by simp) (.cells #[.int .u16 x, .int .u32 y] 32)) (by simp)
  have hp2 := Box2.made ((w.alloc (.cells (vcells V am al ad cm cl cd) 68)).alloc (.cells (RL r).toArray 70)) (v0 := .int .u16 x) (v1 := .int .u32 y) 32
  have hvb := ((ViewBox.made (V := V) (am := am) (al := al) (ad := ad) (cm := cm) (cl := cl) (cd := cd) w).ext (B := w.heap.size + 1) ((Below.refl _ _).alloc (by simp) (.cells (RL r).toArray 70)) (by omega)).ext (B := w.heap.size + 1) ((Below.refl _ _).alloc (by simp) (.cells #[.int .u16 x, .int .u32 y] 32)) (by omega)
  have hz3 : (((w.alloc (.cells (vcells V am al ad cm cl cd) 68)).alloc (.cells (RL r).toArray 70)).alloc (.cells #[.int .u16 x, .int .u32 y] 32)).heap.size = w.heap.size + 1 + 1 + 1 := by simp
  simp only [World.size_alloc] at hR3 hp2
  have k0 := hp2.c0
  have k1 := hp2.c1
  clear hp2
  have hB34 : Below (((w.alloc (.cells (vcells V am al ad cm cl cd) 68)).alloc (.cells (RL r).toArray 70)).alloc (.cells #[.int .u16 x, .int .u32 y] 32)).heap.size (((w.alloc (.cells (vcells V am al ad cm cl cd) 68)).alloc (.cells (RL r).toArray 70)).alloc (.cells #[.int .u16 x, .int .u32 y] 32)) ((((w.alloc (.cells (vcells V am al ad cm cl cd) 68)).alloc (.cells (RL r).toArray 70)).alloc (.cells #[.int .u16 x, .int .u32 y] 32)).alloc (.cells #[.int .u16 0, .int .u32 0] 32)) := (Below.refl _ _).alloc (Nat.le_refl _) _
  have hbx := Box2.made (((w.alloc (.cells (vcells V am al ad cm cl cd) 68)).alloc (.cells (RL r).toArray 70)).alloc (.cells #[.int .u16 x, .int .u32 y] 32)) (v0 := .int .u16 0) (v1 := .int .u32 0) 32
  have hB4 : Below w.heap.size w ((((w.alloc (.cells (vcells V am al ad cm cl cd) 68)).alloc (.cells (RL r).toArray 70)).alloc (.cells #[.int .u16 x, .int .u32 y] 32)).alloc (.cells #[.int .u16 0, .int .u32 0] 32)) := hB3.alloc hB3.size _
  have hR4 := hR3.ext hB34 (by omega)
  have k04 := cell_to k0 hB34
  have k14 := cell_to k1 hB34
  have hvb4 := hvb.ext hB34 (by omega)
  have hV4 := hV.ext hB4
  have hz4 : ((((w.alloc (.cells (vcells V am al ad cm cl cd) 68)).alloc (.cells (RL r).toArray 70)).alloc (.cells #[.int .u16 x, .int .u32 y] 32)).alloc (.cells #[.int .u16 0, .int .u32 0] 32)).heap.size = w.heap.size + 1 + 1 + 1 + 1 := by simp
  simp only [World.size_alloc] at hbx
  clear hR3 k0 k1 hvb hz3 hB34
  obtain ⟨v40, v41, v42, v43⟩ := id hvb4
  obtain ⟨U, hU⟩ : ∃ U, upP V (hasRu r) (x, y) = U := ⟨_, rfl⟩
  rw [hU]
  have HUU := hid hU
  clear hU
  by_cases hmem : (x, y) ∈ V.ms
  · have HM : Hid (decide ((x, y) ∈ V.ms) = true) := hid (by simp [hmem])
    cases hic : isChiefB V (hasRu r) (x, y)
    · have HIC := hid hic
      obtain ⟨A, hA⟩ : ∃ A, leafIx V.ls (x, y) = A := ⟨_, rfl⟩
      obtain ⟨o, ho⟩ : ∃ o, speakP V (hasRu r) A = o := ⟨_, rfl⟩
      have HA := hid hA
      have HZ4 := hid hz4
      have HMEM := hid hmem
      have hlm := hf.ms
      clear hz4 hic hA hmem
      go_enter Try.func48, Try.ntmps48
      go_wp2_with (first | ((go_at_call 75; refine (hasV_is HM hV4).mono ?_; rintro e w5 ⟨rfl, hb5⟩; have hR5 := hR4.ext hb5 (by have := HZ4.out; omega); obtain ⟨x50, x51, x52, x53⟩ := hvb4.ext hb5 (by have := HZ4.out; omega); have k50 := cell_to k04 hb5; have k51 := cell_to k14 hb5)) | (refine wpList_loadRw (by assumption) (by rfl) rfl rfl ?_) | ((go_at_call 76; refine (isChief_is HIC (hV4.ext hb5) hf).mono ?_; rintro e w6 ⟨rfl, hb6⟩)))
      have hb46 := hb5.trans (hb6.mono hb5.size)
      have hR6 := hR4.ext hb46 (by have := HZ4.out; omega)
      have hV6 := hV4.ext hb46
      have hvb6 := hvb4.ext hb46 (by have := HZ4.out; omega)
      have e0 := cell_to k04 hb46
      have e1 := cell_to k14 hb46
      have hbx6 := hbx.ext hb46
      have hB6 : Below w.heap.size w w6 := hB4.trans (hb46.mono hB4.size)
      have hz6 : w.heap.size + 1 + 1 + 1 < w6.heap.size := by have := hb46.size; have := HZ4.out; omega
      clear x50 x51 x52 x53 k50 k51 v40 v41 v42 v43 hb5 hb6 hb46 hR4 hV4 hvb4 k04 k14 hbx hB4 hB3 hR5
      revert hz6 hB6 hbx6 e1 e0 hvb6 hV6 hR6
      generalize w6 = w3
      intro hR6 hV6 hvb6 e0 e1 hbx6 hB6 hz6
      have hu70 := Try.underlying70
      have hi70 := info70L r
      have HS : Hid (∀ W, Below w3.heap.size w3 W → Below w3.heap.size w3 W ∧ W.rangeAt (w.heap.size + 1) 0 (RL r) ∧ W.cell? ⟨w.heap.size, 0, none⟩ = some (.int .u64 V.id) ∧ W.cell? ⟨w.heap.size, 1, none⟩ = some (.slice am V.ms.length cm) ∧ W.cell? ⟨w.heap.size, 2, none⟩ = some (.slice al V.ls.length cl) ∧ W.cell? ⟨w.heap.size, 3, none⟩ = some (.slice ad V.ds.length cd) ∧ W.cell? ⟨w.heap.size + 1 + 1, 0, none⟩ = some (.int .u16 x) ∧ W.cell? ⟨w.heap.size + 1 + 1, 1, none⟩ = some (.int .u32 y)) := hid fun W h => ⟨h, (hR6.ext h (by omega)).range, (hvb6.ext h (by omega)).c0, (hvb6.ext h (by omega)).c1, (hvb6.ext h (by omega)).c2, (hvb6.ext h (by omega)).c3, cell_to e0 h, cell_to e1 h⟩
      have H0 : Below w3.heap.size w3 w3.drew := (Below.refl _ _).drew
      have C1 : Hid (∀ W, Below w3.heap.size w3 W → Calls Try.prog 77 #[viewV V am al ad cm cl cd, .agg #[.int .u16 x, .int .u32 y]] W fun e w' => e = .returned (.int .i64 A) ∧ Below W.heap.size W w' ∧ Below w3.heap.size w3 w') := hid fun W h => ((leafA_is HA (hV6.ext h)).mono fun e w' ⟨h1, h2⟩ => ⟨h1, h2, h.trans (h2.mono h.size)⟩)
      have BX : Hid (∀ W, Below w3.heap.size w3 W → Box2 W (w.heap.size + 1 + 1 + 1) (.int .u16 0) (.int .u32 0)) := hid fun W h => hbx6.ext h
      have VB : Hid (∀ W, Below w3.heap.size w3 W → ViewBox W w.heap.size V am al ad cm cl cd) := hid fun W h => hvb6.ext h (by omega)
      obtain ⟨oc, hoc⟩ : ∃ o, chiefP V (hasRu r) = o := ⟨_, rfl⟩
      have HCH := hid hoc
      clear hoc hvb6 e0 e1 hbx6
      cases o with
      | none =>
        have HU := hid ((upP_chief HMEM.out HIC.out (.inl (by rw [HA.out]; exact ho))).trans HCH.out)
        have HO := hid ho
        clear ho
        have C2 : Hid (∀ W, Below w3.heap.size w3 W → Calls Try.prog 52 #[viewV V am al ad cm cl cd, .agg (RL r).toArray, .int .i64 A] W fun e w' => e = .returned (.tuple #[.agg #[.int .u16 0, .int .u32 0], .bool false]) ∧ Below W.heap.size W w' ∧ Below w3.heap.size w3 w') := hid fun W h => ((speaker_none HO (hV6.ext h) hf).mono fun e w' ⟨h1, h2⟩ => ⟨h1, h2, h.trans (h2.mono h.size)⟩)
        go_region_held3 (fun W => Below w3.heap.size w3 W ∧ W.rangeAt (w.heap.size + 1) 0 (RL r) ∧ W.cell? ⟨w.heap.size, 0, none⟩ = some (.int .u64 V.id) ∧ W.cell? ⟨w.heap.size, 1, none⟩ = some (.slice am V.ms.length cm) ∧ W.cell? ⟨w.heap.size, 2, none⟩ = some (.slice al V.ls.length cl) ∧ W.cell? ⟨w.heap.size, 3, none⟩ = some (.slice ad V.ds.length cd) ∧ W.cell? ⟨w.heap.size + 1 + 1, 0, none⟩ = some (.int .u16 x) ∧ W.cell? ⟨w.heap.size + 1 + 1, 1, none⟩ = some (.int .u32 y)) (first | exact HS.out _ H0 | exact HS.out _ (by assumption) | exact HS.out _ (Below.alloc (by assumption) (Below.size (by assumption)) _) | exact HS.out _ (below_put (by assumption) (by first | exact Nat.le_refl _ | exact Below.size (by assumption)) _ _)) (first | ((go_at_call 77; refine (C1.out _ (by first | assumption | exact Below.alloc (by assumption) (Below.size (by assumption)) _)).mono ?_; rintro e w15 ⟨rfl, hbb15, hb15⟩; obtain ⟨hc15, hf15⟩ := bcell hbb15; try (have hs15 : w3.heap.size < w15.heap.size := by have := hbb15.size; simp at this; omega))) | ((go_at_call 52; refine (C2.out _ (by first | assumption | exact Below.alloc (by assumption) (Below.size (by assumption)) _)).mono ?_; rintro e w16 ⟨rfl, hbb16, hb16⟩; obtain ⟨hc16, hf16⟩ := bcell hbb16; (first | (have hs16 : w15.heap.size < w16.heap.size := by have := hbb16.size; simp at this; omega) | skip); (first | (have hs17 : w3.heap.size < w16.heap.size := by have := hbb16.size; have := hbb15.size; simp at *; omega) | skip))))
        all_goals (
          obtain ⟨hBx, -, -, -, -, -, z0, z1⟩ := ‹Below w3.heap.size w3 _ ∧ _›
          obtain ⟨y0, y1, y2, y3⟩ := BX.out _ hBx
          obtain ⟨x0, x1, x2, x3⟩ := VB.out _ hBx
          have hRx := hR6.ext hBx (by omega)
          have hVx := hV6.ext hBx
          go_wp2_with (first
            | (refine wpList_loadRw (by assumption) (by rfl) rfl rfl ?_)
            | (go_at_call 47; refine (chiefA_is HCH hVx hf).mono ?_; rintro e w20 ⟨rfl, hb20⟩; obtain ⟨g0, g1, g2, g3⟩ := (Box2.mk y0 y1 y2 y3).ext hb20))
          obtain ⟨t0, t1⟩ := two_cell (x := .int .u16 (optP oc).1.1) (y := .int .u32 (optP oc).1.2) g0 g1
          exact bodyPost_ret (v := optV oc) (by simp [results, Try.results48, go_sem, t0, t1]) rfl ⟨by rw [← HUU.out, HU.out], below_put ((hB6.trans (hBx.mono hB6.size)).trans (hb20.mono (by have := hBx.size; have := hB6.size; omega))) (by omega) _ _⟩)
      | some q =>
        obtain ⟨u, v⟩ := q
        have he := fun w => neq_pid u v x y w
        cases hq : decide ((u, v) = (x, y))
        · have HU := hid (upP_spk HMEM.out HIC.out (by rw [HA.out]; exact ho) (by simpa using hq))
          rw [hq] at he
          have HO := hid ho
          clear ho hq
          have C2 : Hid (∀ W, Below w3.heap.size w3 W → Calls Try.prog 52 #[viewV V am al ad cm cl cd, .agg (RL r).toArray, .int .i64 A] W fun e w' => e = .returned (.tuple #[.agg #[.int .u16 u, .int .u32 v], .bool true]) ∧ Below W.heap.size W w' ∧ Below w3.heap.size w3 w') := hid fun W h => ((speaker_some HO (hV6.ext h) hf).mono fun e w' ⟨h1, h2⟩ => ⟨h1, h2, h.trans (h2.mono h.size)⟩)
          go_region_held3 (fun W => Below w3.heap.size w3 W ∧ W.rangeAt (w.heap.size + 1) 0 (RL r) ∧ W.cell? ⟨w.heap.size, 0, none⟩ = some (.int .u64 V.id) ∧ W.cell? ⟨w.heap.size, 1, none⟩ = some (.slice am V.ms.length cm) ∧ W.cell? ⟨w.heap.size, 2, none⟩ = some (.slice al V.ls.length cl) ∧ W.cell? ⟨w.heap.size, 3, none⟩ = some (.slice ad V.ds.length cd) ∧ W.cell? ⟨w.heap.size + 1 + 1, 0, none⟩ = some (.int .u16 x) ∧ W.cell? ⟨w.heap.size + 1 + 1, 1, none⟩ = some (.int .u32 y)) (first | exact HS.out _ H0 | exact HS.out _ (by assumption) | exact HS.out _ (Below.alloc (by assumption) (Below.size (by assumption)) _) | exact HS.out _ (below_put (by assumption) (by first | exact Nat.le_refl _ | exact Below.size (by assumption)) _ _)) (first | ((go_at_call 77; refine (C1.out _ (by first | assumption | exact Below.alloc (by assumption) (Below.size (by assumption)) _)).mono ?_; rintro e w15 ⟨rfl, hbb15, hb15⟩; obtain ⟨hc15, hf15⟩ := bcell hbb15; try (have hs15 : w3.heap.size < w15.heap.size := by have := hbb15.size; simp at this; omega))) | ((go_at_call 52; refine (C2.out _ (by first | assumption | exact Below.alloc (by assumption) (Below.size (by assumption)) _)).mono ?_; rintro e w16 ⟨rfl, hbb16, hb16⟩; obtain ⟨hc16, hf16⟩ := bcell hbb16; (first | (have hs16 : w15.heap.size < w16.heap.size := by have := hbb16.size; simp at this; omega) | skip); (first | (have hs17 : w3.heap.size < w16.heap.size := by have := hbb16.size; have := hbb15.size; simp at *; omega) | skip))))
          all_goals (
            obtain ⟨hBx, -, -, -, -, -, z0, z1⟩ := ‹Below w3.heap.size w3 _ ∧ _›
            obtain ⟨y0, y1, y2, y3⟩ := BX.out _ hBx
            go_wp2
            obtain ⟨t0, t1⟩ := two_cell (x := .int .u16 u) (y := .int .u32 v) y0 y1
            exact bodyPost_ret (v := optV (some (u, v))) (by simp [results, Try.results48, go_sem, t0, t1, optP]) rfl ⟨by rw [← HUU.out, HU.out], below_put (hB6.trans (hBx.mono hB6.size)) (by omega) _ _⟩)
        · have HU := hid ((upP_chief HMEM.out HIC.out (.inr (by rw [HA.out, ho]; simpa using hq))).trans HCH.out)
          rw [hq] at he
          have HO := hid ho
          clear ho hq
          have C2 : Hid (∀ W, Below w3.heap.size w3 W → Calls Try.prog 52 #[viewV V am al ad cm cl cd, .agg (RL r).toArray, .int .i64 A] W fun e w' => e = .returned (.tuple #[.agg #[.int .u16 u, .int .u32 v], .bool true]) ∧ Below W.heap.size W w' ∧ Below w3.heap.size w3 w') := hid fun W h => ((speaker_some HO (hV6.ext h) hf).mono fun e w' ⟨h1, h2⟩ => ⟨h1, h2, h.trans (h2.mono h.size)⟩)
          go_region_held3 (fun W => Below w3.heap.size w3 W ∧ W.rangeAt (w.heap.size + 1) 0 (RL r) ∧ W.cell? ⟨w.heap.size, 0, none⟩ = some (.int .u64 V.id) ∧ W.cell? ⟨w.heap.size, 1, none⟩ = some (.slice am V.ms.length cm) ∧ W.cell? ⟨w.heap.size, 2, none⟩ = some (.slice al V.ls.length cl) ∧ W.cell? ⟨w.heap.size, 3, none⟩ = some (.slice ad V.ds.length cd) ∧ W.cell? ⟨w.heap.size + 1 + 1, 0, none⟩ = some (.int .u16 x) ∧ W.cell? ⟨w.heap.size + 1 + 1, 1, none⟩ = some (.int .u32 y)) (first | exact HS.out _ H0 | exact HS.out _ (by assumption) | exact HS.out _ (Below.alloc (by assumption) (Below.size (by assumption)) _) | exact HS.out _ (below_put (by assumption) (by first | exact Nat.le_refl _ | exact Below.size (by assumption)) _ _)) (first | ((go_at_call 77; refine (C1.out _ (by first | assumption | exact Below.alloc (by assumption) (Below.size (by assumption)) _)).mono ?_; rintro e w15 ⟨rfl, hbb15, hb15⟩; obtain ⟨hc15, hf15⟩ := bcell hbb15; try (have hs15 : w3.heap.size < w15.heap.size := by have := hbb15.size; simp at this; omega))) | ((go_at_call 52; refine (C2.out _ (by first | assumption | exact Below.alloc (by assumption) (Below.size (by assumption)) _)).mono ?_; rintro e w16 ⟨rfl, hbb16, hb16⟩; obtain ⟨hc16, hf16⟩ := bcell hbb16; (first | (have hs16 : w15.heap.size < w16.heap.size := by have := hbb16.size; simp at this; omega) | skip); (first | (have hs17 : w3.heap.size < w16.heap.size := by have := hbb16.size; have := hbb15.size; simp at *; omega) | skip))))
          all_goals (
            obtain ⟨hBx, -, -, -, -, -, z0, z1⟩ := ‹Below w3.heap.size w3 _ ∧ _›
            obtain ⟨y0, y1, y2, y3⟩ := BX.out _ hBx
            obtain ⟨x0, x1, x2, x3⟩ := VB.out _ hBx
            have hRx := hR6.ext hBx (by omega)
            have hVx := hV6.ext hBx
            go_wp2_with (first
              | (refine wpList_loadRw (by assumption) (by rfl) rfl rfl ?_)
              | (go_at_call 47; refine (chiefA_is HCH hVx hf).mono ?_; rintro e w20 ⟨rfl, hb20⟩; obtain ⟨g0, g1, g2, g3⟩ := (Box2.mk y0 y1 y2 y3).ext hb20))
            obtain ⟨t0, t1⟩ := two_cell (x := .int .u16 (optP oc).1.1) (y := .int .u32 (optP oc).1.2) g0 g1
            exact bodyPost_ret (v := optV oc) (by simp [results, Try.results48, go_sem, t0, t1]) rfl ⟨by rw [← HUU.out, HU.out], below_put ((hB6.trans (hBx.mono hB6.size)).trans (hb20.mono (by have := hBx.size; have := hB6.size; omega))) (by omega) _ _⟩)
    · have HU := hid (upP_no (V := V) (S := hasRu r) (p := (x, y)) (.inr hic))
      have HIC := hid hic
      have HZ4 := hid hz4
      have hlm := hf.ms
      clear hz4 hic hmem
      go_enter Try.func48, Try.ntmps48
      go_wp2_with (first | ((go_at_call 75; refine (hasV_is HM hV4).mono ?_; rintro e w5 ⟨rfl, hb5⟩; have hR5 := hR4.ext hb5 (by have := HZ4.out; omega); obtain ⟨x50, x51, x52, x53⟩ := hvb4.ext hb5 (by have := HZ4.out; omega); have k50 := cell_to k04 hb5; have k51 := cell_to k14 hb5)) | (refine wpList_loadRw (by assumption) (by rfl) rfl rfl ?_) | ((go_at_call 76; refine (isChief_is HIC (hV4.ext hb5) hf).mono ?_; rintro e w6 ⟨rfl, hb6⟩; obtain ⟨y0, y1, y2, y3⟩ := (hbx.ext hb5).ext hb6)))
      obtain ⟨t0, t1⟩ := two_cell (x := .int .u16 0) (y := .int .u32 0) y0 y1
      exact bodyPost_ret (v := optV none) (by simp [results, Try.results48, go_sem, t0, t1, optP]) rfl ⟨by rw [← HUU.out, HU.out], below_put ((hB4.trans (hb5.mono hB4.size)).trans (hb6.mono (by have := hB4.size; have := hb5.size; omega))) (by omega) _ _⟩
  · have HM : Hid (decide ((x, y) ∈ V.ms) = false) := hid (by simp [hmem])
    have HU := hid (upP_no (V := V) (S := hasRu r) (p := (x, y)) (.inl hmem))
    have HZ4 := hid hz4
    have hlm := hf.ms
    clear hz4 hmem
    go_enter Try.func48, Try.ntmps48
    go_wp2_with (first | ((go_at_call 75; refine (hasV_is HM hV4).mono ?_; rintro e w5 ⟨rfl, hb5⟩; have hR5 := hR4.ext hb5 (by have := HZ4.out; omega); obtain ⟨x50, x51, x52, x53⟩ := hvb4.ext hb5 (by have := HZ4.out; omega); have k50 := cell_to k04 hb5; have k51 := cell_to k14 hb5; obtain ⟨y0, y1, y2, y3⟩ := hbx.ext hb5)) | (refine wpList_loadRw (by assumption) (by rfl) rfl rfl ?_))
    obtain ⟨t0, t1⟩ := two_cell (x := .int .u16 0) (y := .int .u32 0) y0 y1
    exact bodyPost_ret (v := optV none) (by simp [results, Try.results48, go_sem, t0, t1, optP]) rfl ⟨by rw [← HUU.out, HU.out], below_put (hB4.trans (hb5.mono hB4.size)) (by omega) _ _⟩

set_option maxRecDepth 100000 in
set_option maxHeartbeats 6400000 in
theorem upRef_any (r : Nat → Int) (V : View) (am al ad : Option Addr) (cm cl cd : Nat) (x y : Int) (w : World) (hV : ViewR w am al ad V) (hf : Fine V) :
    Calls Try.prog 54 #[viewV V am al ad cm cl cd, .agg (RL r).toArray, .agg #[.int .u16 x, .int .u32 y]] w fun e w' => e = .returned (optV (upP V (hasRu r) (x, y))) ∧ Below w.heap.size w w' := by
  have hB3 : Below w.heap.size w (((w.alloc (.cells (vcells V am al ad cm cl cd) 68)).alloc (.cells (RL r).toArray 70)).alloc (.cells #[.int .u16 x, .int .u32 y] 32)) := (((Below.refl _ _).alloc (Nat.le_refl _) _).alloc (by simp) _).alloc (by simp; omega) _
  have hR3 := (RumBox.madeV (w.alloc (.cells (vcells V am al ad cm cl cd) 68)) r).ext (B := w.heap.size + 1 + 1) ((Below.refl _ _).alloc (by simp) (.cells #[.int .u16 x, .int .u32 y] 32)) (by simp)
  have hp2 := Box2.made ((w.alloc (.cells (vcells V am al ad cm cl cd) 68)).alloc (.cells (RL r).toArray 70)) (v0 := .int .u16 x) (v1 := .int .u32 y) 32
  have hvb := ((ViewBox.made (V := V) (am := am) (al := al) (ad := ad) (cm := cm) (cl := cl) (cd := cd) w).ext (B := w.heap.size + 1) ((Below.refl _ _).alloc (by simp) (.cells (RL r).toArray 70)) (by omega)).ext (B := w.heap.size + 1) ((Below.refl _ _).alloc (by simp) (.cells #[.int .u16 x, .int .u32 y] 32)) (by omega)
  have hz3 : (((w.alloc (.cells (vcells V am al ad cm cl cd) 68)).alloc (.cells (RL r).toArray 70)).alloc (.cells #[.int .u16 x, .int .u32 y] 32)).heap.size = w.heap.size + 1 + 1 + 1 := by simp
  simp only [World.size_alloc] at hR3 hp2
  have k0 := hp2.c0
  have k1 := hp2.c1
  clear hp2
  have hB34 : Below (((w.alloc (.cells (vcells V am al ad cm cl cd) 68)).alloc (.cells (RL r).toArray 70)).alloc (.cells #[.int .u16 x, .int .u32 y] 32)).heap.size (((w.alloc (.cells (vcells V am al ad cm cl cd) 68)).alloc (.cells (RL r).toArray 70)).alloc (.cells #[.int .u16 x, .int .u32 y] 32)) ((((w.alloc (.cells (vcells V am al ad cm cl cd) 68)).alloc (.cells (RL r).toArray 70)).alloc (.cells #[.int .u16 x, .int .u32 y] 32)).alloc (.cells #[.int .u16 0, .int .u32 0] 32)) := (Below.refl _ _).alloc (Nat.le_refl _) _
  have hbx := Box2.made (((w.alloc (.cells (vcells V am al ad cm cl cd) 68)).alloc (.cells (RL r).toArray 70)).alloc (.cells #[.int .u16 x, .int .u32 y] 32)) (v0 := .int .u16 0) (v1 := .int .u32 0) 32
  have hB4 : Below w.heap.size w ((((w.alloc (.cells (vcells V am al ad cm cl cd) 68)).alloc (.cells (RL r).toArray 70)).alloc (.cells #[.int .u16 x, .int .u32 y] 32)).alloc (.cells #[.int .u16 0, .int .u32 0] 32)) := hB3.alloc hB3.size _
  have hR4 := hR3.ext hB34 (by omega)
  have k04 := cell_to k0 hB34
  have k14 := cell_to k1 hB34
  have hvb4 := hvb.ext hB34 (by omega)
  have hV4 := hV.ext hB4
  have hz4 : ((((w.alloc (.cells (vcells V am al ad cm cl cd) 68)).alloc (.cells (RL r).toArray 70)).alloc (.cells #[.int .u16 x, .int .u32 y] 32)).alloc (.cells #[.int .u16 0, .int .u32 0] 32)).heap.size = w.heap.size + 1 + 1 + 1 + 1 := by simp
  simp only [World.size_alloc] at hbx
  clear hR3 k0 k1 hvb hz3 hB34
  obtain ⟨v40, v41, v42, v43⟩ := id hvb4
  obtain ⟨U, hU⟩ : ∃ U, upP V (hasRu r) (x, y) = U := ⟨_, rfl⟩
  rw [hU]
  have HUU := hid hU
  clear hU
  by_cases hmem : (x, y) ∈ V.ms
  · obtain ⟨A0, hA0⟩ : ∃ A0, atIx V.ms (x, y) = A0 := ⟨_, rfl⟩
    have hAd := atIx_nonneg (p := (x, y)) (xs := V.ms)
    rw [hA0] at hAd
    have hAn : decide (A0 < 0) = false := by simp [hmem] at hAd; simp; omega
    have HM := hid hA0
    clear hA0 hAd
    cases hic : isChiefB V (hasRu r) (x, y)
    · have HIC := hid hic
      obtain ⟨A, hA⟩ : ∃ A, leafIx V.ls (x, y) = A := ⟨_, rfl⟩
      obtain ⟨o, ho⟩ : ∃ o, speakP V (hasRu r) A = o := ⟨_, rfl⟩
      have HA := hid hA
      have HZ4 := hid hz4
      have HMEM := hid hmem
      have hlm := hf.ms
      clear hz4 hic hA hmem
      go_enter Try.func54, Try.ntmps54
      go_wp2_with (first | ((go_at_call 83; refine (at83_is HM hf.ms hV4.ms).mono ?_; rintro e w5 ⟨rfl, hb5⟩; have hR5 := hR4.ext hb5 (by have := HZ4.out; omega); obtain ⟨x50, x51, x52, x53⟩ := hvb4.ext hb5 (by have := HZ4.out; omega); have k50 := cell_to k04 hb5; have k51 := cell_to k14 hb5)) | (refine wpList_loadRw (by assumption) (by rfl) rfl rfl ?_) | ((go_at_call 84; refine (isChiefRef_is HIC (hV4.ext hb5) hf).mono ?_; rintro e w6 ⟨rfl, hb6⟩)))
      have hb46 := hb5.trans (hb6.mono hb5.size)
      have hR6 := hR4.ext hb46 (by have := HZ4.out; omega)
      have hV6 := hV4.ext hb46
      have hvb6 := hvb4.ext hb46 (by have := HZ4.out; omega)
      have e0 := cell_to k04 hb46
      have e1 := cell_to k14 hb46
      have hbx6 := hbx.ext hb46
      have hB6 : Below w.heap.size w w6 := hB4.trans (hb46.mono hB4.size)
      have hz6 : w.heap.size + 1 + 1 + 1 < w6.heap.size := by have := hb46.size; have := HZ4.out; omega
      clear x50 x51 x52 x53 k50 k51 v40 v41 v42 v43 hb5 hb6 hb46 hR4 hV4 hvb4 k04 k14 hbx hB4 hB3 hR5
      revert hz6 hB6 hbx6 e1 e0 hvb6 hV6 hR6
      generalize w6 = w3
      intro hR6 hV6 hvb6 e0 e1 hbx6 hB6 hz6
      have hu70 := Try.underlying70
      have hi70 := info70L r
      have HS : Hid (∀ W, Below w3.heap.size w3 W → Below w3.heap.size w3 W ∧ W.rangeAt (w.heap.size + 1) 0 (RL r) ∧ W.cell? ⟨w.heap.size, 0, none⟩ = some (.int .u64 V.id) ∧ W.cell? ⟨w.heap.size, 1, none⟩ = some (.slice am V.ms.length cm) ∧ W.cell? ⟨w.heap.size, 2, none⟩ = some (.slice al V.ls.length cl) ∧ W.cell? ⟨w.heap.size, 3, none⟩ = some (.slice ad V.ds.length cd) ∧ W.cell? ⟨w.heap.size + 1 + 1, 0, none⟩ = some (.int .u16 x) ∧ W.cell? ⟨w.heap.size + 1 + 1, 1, none⟩ = some (.int .u32 y)) := hid fun W h => ⟨h, (hR6.ext h (by omega)).range, (hvb6.ext h (by omega)).c0, (hvb6.ext h (by omega)).c1, (hvb6.ext h (by omega)).c2, (hvb6.ext h (by omega)).c3, cell_to e0 h, cell_to e1 h⟩
      have H0 : Below w3.heap.size w3 w3.drew := (Below.refl _ _).drew
      have C1 : Hid (∀ W, Below w3.heap.size w3 W → Calls Try.prog 85 #[viewV V am al ad cm cl cd, .agg #[.int .u16 x, .int .u32 y]] W fun e w' => e = .returned (.int .i64 A) ∧ Below W.heap.size W w' ∧ Below w3.heap.size w3 w') := hid fun W h => ((leafR_is HA (hV6.ext h)).mono fun e w' ⟨h1, h2⟩ => ⟨h1, h2, h.trans (h2.mono h.size)⟩)
      have BX : Hid (∀ W, Below w3.heap.size w3 W → Box2 W (w.heap.size + 1 + 1 + 1) (.int .u16 0) (.int .u32 0)) := hid fun W h => hbx6.ext h
      have VB : Hid (∀ W, Below w3.heap.size w3 W → ViewBox W w.heap.size V am al ad cm cl cd) := hid fun W h => hvb6.ext h (by omega)
      obtain ⟨oc, hoc⟩ : ∃ o, chiefP V (hasRu r) = o := ⟨_, rfl⟩
      have HCH := hid hoc
      clear hoc hvb6 e0 e1 hbx6
      cases o with
      | none =>
        have HU := hid ((upP_chief HMEM.out HIC.out (.inl (by rw [HA.out]; exact ho))).trans HCH.out)
        have HO := hid ho
        clear ho
        have C2 : Hid (∀ W, Below w3.heap.size w3 W → Calls Try.prog 53 #[viewV V am al ad cm cl cd, .agg (RL r).toArray, .int .i64 A] W fun e w' => e = .returned (.tuple #[.agg #[.int .u16 0, .int .u32 0], .bool false]) ∧ Below W.heap.size W w' ∧ Below w3.heap.size w3 w') := hid fun W h => ((speakerRef_none HO (hV6.ext h) hf).mono fun e w' ⟨h1, h2⟩ => ⟨h1, h2, h.trans (h2.mono h.size)⟩)
        go_region_held3 (fun W => Below w3.heap.size w3 W ∧ W.rangeAt (w.heap.size + 1) 0 (RL r) ∧ W.cell? ⟨w.heap.size, 0, none⟩ = some (.int .u64 V.id) ∧ W.cell? ⟨w.heap.size, 1, none⟩ = some (.slice am V.ms.length cm) ∧ W.cell? ⟨w.heap.size, 2, none⟩ = some (.slice al V.ls.length cl) ∧ W.cell? ⟨w.heap.size, 3, none⟩ = some (.slice ad V.ds.length cd) ∧ W.cell? ⟨w.heap.size + 1 + 1, 0, none⟩ = some (.int .u16 x) ∧ W.cell? ⟨w.heap.size + 1 + 1, 1, none⟩ = some (.int .u32 y)) (first | exact HS.out _ H0 | exact HS.out _ (by assumption) | exact HS.out _ (Below.alloc (by assumption) (Below.size (by assumption)) _) | exact HS.out _ (below_put (by assumption) (by first | exact Nat.le_refl _ | exact Below.size (by assumption)) _ _)) (first | ((go_at_call 85; refine (C1.out _ (by first | assumption | exact Below.alloc (by assumption) (Below.size (by assumption)) _)).mono ?_; rintro e w15 ⟨rfl, hbb15, hb15⟩; obtain ⟨hc15, hf15⟩ := bcell hbb15; try (have hs15 : w3.heap.size < w15.heap.size := by have := hbb15.size; simp at this; omega))) | ((go_at_call 53; refine (C2.out _ (by first | assumption | exact Below.alloc (by assumption) (Below.size (by assumption)) _)).mono ?_; rintro e w16 ⟨rfl, hbb16, hb16⟩; obtain ⟨hc16, hf16⟩ := bcell hbb16; (first | (have hs16 : w15.heap.size < w16.heap.size := by have := hbb16.size; simp at this; omega) | skip); (first | (have hs17 : w3.heap.size < w16.heap.size := by have := hbb16.size; have := hbb15.size; simp at *; omega) | skip))))
        all_goals (
          obtain ⟨hBx, -, -, -, -, -, z0, z1⟩ := ‹Below w3.heap.size w3 _ ∧ _›
          obtain ⟨y0, y1, y2, y3⟩ := BX.out _ hBx
          obtain ⟨x0, x1, x2, x3⟩ := VB.out _ hBx
          have hRx := hR6.ext hBx (by omega)
          have hVx := hV6.ext hBx
          go_wp2_with (first
            | (refine wpList_loadRw (by assumption) (by rfl) rfl rfl ?_)
            | (go_at_call 51; refine (chiefRef_is HCH hVx hf).mono ?_; rintro e w20 ⟨rfl, hb20⟩; obtain ⟨g0, g1, g2, g3⟩ := (Box2.mk y0 y1 y2 y3).ext hb20))
          obtain ⟨t0, t1⟩ := two_cell (x := .int .u16 (optP oc).1.1) (y := .int .u32 (optP oc).1.2) g0 g1
          exact bodyPost_ret (v := optV oc) (by simp [results, Try.results54, go_sem, t0, t1]) rfl ⟨by rw [← HUU.out, HU.out], below_put ((hB6.trans (hBx.mono hB6.size)).trans (hb20.mono (by have := hBx.size; have := hB6.size; omega))) (by omega) _ _⟩)
      | some q =>
        obtain ⟨u, v⟩ := q
        have he := fun w => neq_pid u v x y w
        cases hq : decide ((u, v) = (x, y))
        · have HU := hid (upP_spk HMEM.out HIC.out (by rw [HA.out]; exact ho) (by simpa using hq))
          rw [hq] at he
          have HO := hid ho
          clear ho hq
          have C2 : Hid (∀ W, Below w3.heap.size w3 W → Calls Try.prog 53 #[viewV V am al ad cm cl cd, .agg (RL r).toArray, .int .i64 A] W fun e w' => e = .returned (.tuple #[.agg #[.int .u16 u, .int .u32 v], .bool true]) ∧ Below W.heap.size W w' ∧ Below w3.heap.size w3 w') := hid fun W h => ((speakerRef_some HO (hV6.ext h) hf).mono fun e w' ⟨h1, h2⟩ => ⟨h1, h2, h.trans (h2.mono h.size)⟩)
          go_region_held3 (fun W => Below w3.heap.size w3 W ∧ W.rangeAt (w.heap.size + 1) 0 (RL r) ∧ W.cell? ⟨w.heap.size, 0, none⟩ = some (.int .u64 V.id) ∧ W.cell? ⟨w.heap.size, 1, none⟩ = some (.slice am V.ms.length cm) ∧ W.cell? ⟨w.heap.size, 2, none⟩ = some (.slice al V.ls.length cl) ∧ W.cell? ⟨w.heap.size, 3, none⟩ = some (.slice ad V.ds.length cd) ∧ W.cell? ⟨w.heap.size + 1 + 1, 0, none⟩ = some (.int .u16 x) ∧ W.cell? ⟨w.heap.size + 1 + 1, 1, none⟩ = some (.int .u32 y)) (first | exact HS.out _ H0 | exact HS.out _ (by assumption) | exact HS.out _ (Below.alloc (by assumption) (Below.size (by assumption)) _) | exact HS.out _ (below_put (by assumption) (by first | exact Nat.le_refl _ | exact Below.size (by assumption)) _ _)) (first | ((go_at_call 85; refine (C1.out _ (by first | assumption | exact Below.alloc (by assumption) (Below.size (by assumption)) _)).mono ?_; rintro e w15 ⟨rfl, hbb15, hb15⟩; obtain ⟨hc15, hf15⟩ := bcell hbb15; try (have hs15 : w3.heap.size < w15.heap.size := by have := hbb15.size; simp at this; omega))) | ((go_at_call 53; refine (C2.out _ (by first | assumption | exact Below.alloc (by assumption) (Below.size (by assumption)) _)).mono ?_; rintro e w16 ⟨rfl, hbb16, hb16⟩; obtain ⟨hc16, hf16⟩ := bcell hbb16; (first | (have hs16 : w15.heap.size < w16.heap.size := by have := hbb16.size; simp at this; omega) | skip); (first | (have hs17 : w3.heap.size < w16.heap.size := by have := hbb16.size; have := hbb15.size; simp at *; omega) | skip))))
          all_goals (
            obtain ⟨hBx, -, -, -, -, -, z0, z1⟩ := ‹Below w3.heap.size w3 _ ∧ _›
            obtain ⟨y0, y1, y2, y3⟩ := BX.out _ hBx
            go_wp2
            obtain ⟨t0, t1⟩ := two_cell (x := .int .u16 u) (y := .int .u32 v) y0 y1
            exact bodyPost_ret (v := optV (some (u, v))) (by simp [results, Try.results54, go_sem, t0, t1, optP]) rfl ⟨by rw [← HUU.out, HU.out], below_put (hB6.trans (hBx.mono hB6.size)) (by omega) _ _⟩)
        · have HU := hid ((upP_chief HMEM.out HIC.out (.inr (by rw [HA.out, ho]; simpa using hq))).trans HCH.out)
          rw [hq] at he
          have HO := hid ho
          clear ho hq
          have C2 : Hid (∀ W, Below w3.heap.size w3 W → Calls Try.prog 53 #[viewV V am al ad cm cl cd, .agg (RL r).toArray, .int .i64 A] W fun e w' => e = .returned (.tuple #[.agg #[.int .u16 u, .int .u32 v], .bool true]) ∧ Below W.heap.size W w' ∧ Below w3.heap.size w3 w') := hid fun W h => ((speakerRef_some HO (hV6.ext h) hf).mono fun e w' ⟨h1, h2⟩ => ⟨h1, h2, h.trans (h2.mono h.size)⟩)
          go_region_held3 (fun W => Below w3.heap.size w3 W ∧ W.rangeAt (w.heap.size + 1) 0 (RL r) ∧ W.cell? ⟨w.heap.size, 0, none⟩ = some (.int .u64 V.id) ∧ W.cell? ⟨w.heap.size, 1, none⟩ = some (.slice am V.ms.length cm) ∧ W.cell? ⟨w.heap.size, 2, none⟩ = some (.slice al V.ls.length cl) ∧ W.cell? ⟨w.heap.size, 3, none⟩ = some (.slice ad V.ds.length cd) ∧ W.cell? ⟨w.heap.size + 1 + 1, 0, none⟩ = some (.int .u16 x) ∧ W.cell? ⟨w.heap.size + 1 + 1, 1, none⟩ = some (.int .u32 y)) (first | exact HS.out _ H0 | exact HS.out _ (by assumption) | exact HS.out _ (Below.alloc (by assumption) (Below.size (by assumption)) _) | exact HS.out _ (below_put (by assumption) (by first | exact Nat.le_refl _ | exact Below.size (by assumption)) _ _)) (first | ((go_at_call 85; refine (C1.out _ (by first | assumption | exact Below.alloc (by assumption) (Below.size (by assumption)) _)).mono ?_; rintro e w15 ⟨rfl, hbb15, hb15⟩; obtain ⟨hc15, hf15⟩ := bcell hbb15; try (have hs15 : w3.heap.size < w15.heap.size := by have := hbb15.size; simp at this; omega))) | ((go_at_call 53; refine (C2.out _ (by first | assumption | exact Below.alloc (by assumption) (Below.size (by assumption)) _)).mono ?_; rintro e w16 ⟨rfl, hbb16, hb16⟩; obtain ⟨hc16, hf16⟩ := bcell hbb16; (first | (have hs16 : w15.heap.size < w16.heap.size := by have := hbb16.size; simp at this; omega) | skip); (first | (have hs17 : w3.heap.size < w16.heap.size := by have := hbb16.size; have := hbb15.size; simp at *; omega) | skip))))
          all_goals (
            obtain ⟨hBx, -, -, -, -, -, z0, z1⟩ := ‹Below w3.heap.size w3 _ ∧ _›
            obtain ⟨y0, y1, y2, y3⟩ := BX.out _ hBx
            obtain ⟨x0, x1, x2, x3⟩ := VB.out _ hBx
            have hRx := hR6.ext hBx (by omega)
            have hVx := hV6.ext hBx
            go_wp2_with (first
              | (refine wpList_loadRw (by assumption) (by rfl) rfl rfl ?_)
              | (go_at_call 51; refine (chiefRef_is HCH hVx hf).mono ?_; rintro e w20 ⟨rfl, hb20⟩; obtain ⟨g0, g1, g2, g3⟩ := (Box2.mk y0 y1 y2 y3).ext hb20))
            obtain ⟨t0, t1⟩ := two_cell (x := .int .u16 (optP oc).1.1) (y := .int .u32 (optP oc).1.2) g0 g1
            exact bodyPost_ret (v := optV oc) (by simp [results, Try.results54, go_sem, t0, t1]) rfl ⟨by rw [← HUU.out, HU.out], below_put ((hB6.trans (hBx.mono hB6.size)).trans (hb20.mono (by have := hBx.size; have := hB6.size; omega))) (by omega) _ _⟩)
    · have HU := hid (upP_no (V := V) (S := hasRu r) (p := (x, y)) (.inr hic))
      have HIC := hid hic
      have HZ4 := hid hz4
      have hlm := hf.ms
      clear hz4 hic hmem
      go_enter Try.func54, Try.ntmps54
      go_wp2_with (first | ((go_at_call 83; refine (at83_is HM hf.ms hV4.ms).mono ?_; rintro e w5 ⟨rfl, hb5⟩; have hR5 := hR4.ext hb5 (by have := HZ4.out; omega); obtain ⟨x50, x51, x52, x53⟩ := hvb4.ext hb5 (by have := HZ4.out; omega); have k50 := cell_to k04 hb5; have k51 := cell_to k14 hb5)) | (refine wpList_loadRw (by assumption) (by rfl) rfl rfl ?_) | ((go_at_call 84; refine (isChiefRef_is HIC (hV4.ext hb5) hf).mono ?_; rintro e w6 ⟨rfl, hb6⟩; obtain ⟨y0, y1, y2, y3⟩ := (hbx.ext hb5).ext hb6)))
      obtain ⟨t0, t1⟩ := two_cell (x := .int .u16 0) (y := .int .u32 0) y0 y1
      exact bodyPost_ret (v := optV none) (by simp [results, Try.results54, go_sem, t0, t1, optP]) rfl ⟨by rw [← HUU.out, HU.out], below_put ((hB4.trans (hb5.mono hB4.size)).trans (hb6.mono (by have := hB4.size; have := hb5.size; omega))) (by omega) _ _⟩
  · obtain ⟨A0, hA0⟩ : ∃ A0, atIx V.ms (x, y) = A0 := ⟨_, rfl⟩
    have hAd := atIx_nonneg (p := (x, y)) (xs := V.ms)
    rw [hA0] at hAd
    have hAn : decide (A0 < 0) = true := by simp [hmem] at hAd; simp; omega
    have HM := hid hA0
    clear hA0 hAd
    have HU := hid (upP_no (V := V) (S := hasRu r) (p := (x, y)) (.inl hmem))
    have HZ4 := hid hz4
    have hlm := hf.ms
    clear hz4 hmem
    go_enter Try.func54, Try.ntmps54
    go_wp2_with (first | ((go_at_call 83; refine (at83_is HM hf.ms hV4.ms).mono ?_; rintro e w5 ⟨rfl, hb5⟩; have hR5 := hR4.ext hb5 (by have := HZ4.out; omega); obtain ⟨x50, x51, x52, x53⟩ := hvb4.ext hb5 (by have := HZ4.out; omega); have k50 := cell_to k04 hb5; have k51 := cell_to k14 hb5; obtain ⟨y0, y1, y2, y3⟩ := hbx.ext hb5)) | (refine wpList_loadRw (by assumption) (by rfl) rfl rfl ?_))
    obtain ⟨t0, t1⟩ := two_cell (x := .int .u16 0) (y := .int .u32 0) y0 y1
    exact bodyPost_ret (v := optV none) (by simp [results, Try.results54, go_sem, t0, t1, optP]) rfl ⟨by rw [← HUU.out, HU.out], below_put (hB4.trans (hb5.mono hB4.size)) (by omega) _ _⟩
end Go.Proofs.Ytjjahefedpfnaaa

import Derived.Test.YtjjahefedpfnaaaH1
namespace Go.Proofs.Ytjjahefedpfnaaa
open Go.RowKit

/-! ### Tick -/
def tickL (T : Int) (L : List (Pid × Int)) : List (Pid × Int) := L.map fun p => (p.1, min (p.2 + 1) T)
/-- what stands while Tick is under way: who is still to come has its age as it was -/
def tickMid (T : Int) (todo : List Pid) (L : List (Pid × Int)) : List (Pid × Int) := L.map fun p => if p.1 ∈ todo then p else (p.1, min (p.2 + 1) T)
theorem keys_tickMid (T : Int) (todo : List Pid) (L : List (Pid × Int)) : keys (tickMid T todo L) = keys L := by
  unfold keys tickMid
  rw [List.map_map]
  apply List.map_congr_left
  intro p _
  dsimp only [Function.comp]
  split <;> rfl
theorem tickMid_all (T : Int) (L : List (Pid × Int)) : tickMid T (keys L) L = L := by
  unfold tickMid
  conv => rhs; rw [← List.map_id L]
  apply List.map_congr_left
  intro p hp
  have : p.1 ∈ keys L := List.mem_map_of_mem (f := fun x : Pid × Int => x.1) hp
  rw [if_pos this]; rfl
theorem tickMid_nil (T : Int) (L : List (Pid × Int)) : tickMid T [] L = tickL T L := by
  unfold tickMid tickL
  apply List.map_congr_left
  intro p _
  rw [if_neg (by simp)]
theorem ins_of_nodup {x : Pid} {u : Int} : ∀ {L : List (Pid × Int)}, (keys L).Nodup → ∀ {n : Int}, (x, n) ∈ L → ins x u L = L.map fun p => if p.1 = x then (x, u) else p
  | [], _, _, h => by simp at h
  | p :: l, hn, n, h => by
    obtain ⟨h1, h2⟩ := List.nodup_cons.1 hn
    by_cases hp : x = p.1
    · simp only [ins, if_pos hp, List.map_cons, if_pos hp.symm]
      congr 1
      conv => lhs; rw [← List.map_id l]
      apply List.map_congr_left
      intro q hq
      rw [if_neg]; · rfl
      intro e
      apply h1
      show p.1 ∈ _
      rw [← hp, ← e]
      exact List.mem_map_of_mem (f := fun x : Pid × Int => x.1) hq
    · simp only [ins, if_neg hp, List.map_cons, if_neg (Ne.symm hp)]
      rw [ins_of_nodup h2 (n := n) (by rcases List.mem_cons.1 h with h | h; · exact absurd (congrArg Prod.fst h) hp
                                       · exact h)]
theorem look_of_nodup {x : Pid} {n : Int} : ∀ {L : List (Pid × Int)}, (keys L).Nodup → (x, n) ∈ L → look x L = some n
  | [], _, h => by simp at h
  | p :: l, hn, h => by
    obtain ⟨h1, h2⟩ := List.nodup_cons.1 hn
    rcases List.mem_cons.1 h with h | h
    · subst h; simp [look]
    · have : x ≠ p.1 := fun e => h1 (by show p.1 ∈ _; rw [← e]; exact List.mem_map_of_mem (f := fun x : Pid × Int => x.1) h)
      simp only [look, if_neg this]
      exact look_of_nodup h2 h
theorem mem_of_look {x : Pid} {n : Int} : ∀ {L : List (Pid × Int)}, look x L = some n → (x, n) ∈ L
  | [], h => by simp [look] at h
  | p :: l, h => by
    simp only [look] at h
    split at h
    · next e => simp at h; rw [← h, e]; exact List.mem_cons_self ..
    · exact List.mem_cons_of_mem _ (mem_of_look h)
/-- one step of Tick -/
theorem tickMid_step {T : Int} {L : List (Pid × Int)} (hn : (keys L).Nodup) {s u : List Pid} {x : Pid} {n : Int} (hx : (x, n) ∈ L) (hd : x ∉ s ++ u) :
    ins x (min (n + 1) T) (tickMid T (s ++ x :: u) L) = tickMid T (s ++ u) L := by
  have hk : (keys (tickMid T (s ++ x :: u) L)).Nodup := by rw [keys_tickMid]; exact hn
  have hm : (x, n) ∈ tickMid T (s ++ x :: u) L := List.mem_map.2 ⟨(x, n), hx, by rw [if_pos (by simp)]⟩
  rw [ins_of_nodup hk hm]
  unfold tickMid
  rw [List.map_map]
  apply List.map_congr_left
  intro p hp
  dsimp only [Function.comp]
  by_cases hpx : p.1 = x
  · have : p = (x, n) := by
      have h1 := look_of_nodup hn hp
      have h2 := look_of_nodup hn hx
      rw [hpx, h2] at h1
      exact Prod.ext hpx (Option.some.inj h1).symm
    subst this
    simp at hd
    simp [hd]
  · by_cases h1 : p.1 ∈ s ++ u
    · have h2 : p.1 ∈ s ++ x :: u := by
        rcases List.mem_append.1 h1 with h | h
        · exact List.mem_append_left _ h
        · exact List.mem_append_right _ (List.mem_cons_of_mem _ h)
      simp only [h1, h2, if_true, hpx, if_false]
    · have h2 : p.1 ∉ s ++ x :: u := by
        intro h
        rcases List.mem_append.1 h with h | h
        · exact h1 (List.mem_append_left _ h)
        · rcases List.mem_cons.1 h with h | h
          · exact hpx h
          · exact h1 (List.mem_append_right _ h)
      simp only [h1, h2, if_false, hpx]

theorem Mut.thenBut {F : Nat → Prop} {a b c : World} {t : Nat} (h : Mut F a b) (k : But t b c) (ht : a.heap.size ≤ t) : Mut F a c :=
  ⟨k.os.trans h.os, k.tape.trans h.tape, k.output.trans h.output, by rw [k.size]; exact h.size, fun i hi hf => (k.block i (by omega)).trans (h.block i hi hf)⟩
theorem pidV_inj (x y : Pid) (h : pidV x = pidV y) : x = y := by
  obtain ⟨a, b⟩ := x
  obtain ⟨c, d⟩ := y
  simpa using h
set_option maxRecDepth 100000 in
set_option maxHeartbeats 1600000 in
theorem tick_any (s r : Nat) (T : Int) (L : List (Pid × Int)) (w : World) (hW : WatchIs w s r T L) (hnd : (keys L).Nodup) (hb : ∀ p ∈ L, 0 ≤ p.2 ∧ p.2 ≤ 4611686018427387904) :
   Calls Try.prog 21 #[.pointer (some ⟨s, 0, none⟩)] w fun e w' => e = .returned (.tuple #[]) ∧ WatchIs w' s r T (tickL T L) ∧ Mut (fun k => k = r) w w' := by
  have hsl := hW.lt
  have hrl := hW.map.lt
  have hsr := hW.ne
  obtain ⟨g0, g1, g2, hM⟩ := hW
  have HND := hid hnd
  have HB := hid hb
  clear hnd hb
  go_enter Try.func21, Try.ntmps21
  go_wp2_with (at_range; refine wpList_range_is hM Try.underlying87 rfl rfl rfl ?_; intro w0 hR0 hb0)
  go_frame
  go_loopw [] (fun wr => ∃ (left : List (Pid × Int)), RangeIs wr r w.heap.size pidV eI (tickMid T (keys left) L) left ∧ Hid (left.Sublist L) ∧ Mut (fun k => k = r) w wr) (fun wr => wr.rangeLeft r w.heap.size)
  case atStart => exact ⟨L, by rw [tickMid_all]; exact hR0, (show L.Sublist L from List.Sublist.refl _), Mut.of_below hb0⟩
  case round =>
    obtain ⟨left, hR, hSub, hmut⟩ := hrel
    have HLM := hid hR.left_eq
    have hlt := hR.lt
    go_wp2_with (at_next; refine wpList_next_is hR rfl rfl rfl ?_ ?_)
    · intro hl
      have hM' := hR.map
      rw [hl.out, show keys ([] : List (Pid × Int)) = [] from rfl, tickMid_nil] at hM'
      have hW' : WatchIs wr s r T (tickL T L) := ⟨(hmut.cell (by exact hsl) (by exact hsr)).trans g0, (hmut.cell (by exact hsl) (by exact hsr)).trans g1, (World.frozen?_of_block (w := w) (hmut.block s hsl hsr)).trans g2, hM'⟩
      go_wp2
      exact bodyPost_end (results_none rfl _ _ _) rfl ⟨rfl, hW', hmut⟩
    · intro x y n s1 s2 w1 hl hR1 hbut hen
      have hmem : ((x, y), n) ∈ left := by rw [hl.out]; simp
      have hmL : ((x, y), n) ∈ L := hSub.out.subset hmem
      obtain ⟨n0, n1⟩ := HB.out _ hmL
      simp only at n0 n1
      have hkl : (keys left).Nodup := HND.out.sublist (hSub.out.map _)
      have hkeys : keys left = keys s1 ++ (x, y) :: keys s2 := by rw [hl.out]; simp [keys]
      have hnot : (x, y) ∉ keys s1 ++ keys s2 := by
        rw [hkeys] at hkl
        intro h
        have := (List.nodup_append.1 hkl)
        rcases List.mem_append.1 h with h | h
        · exact this.2.2 _ h _ (List.mem_cons_self ..) rfl
        · exact (List.nodup_cons.1 this.2.1).1 h
      have hnot2 : ∀ p ∈ s1 ++ s2, p.1 ≠ (x, y) := by
        intro p hp e
        apply hnot
        rw [← e, show keys s1 ++ keys s2 = keys (s1 ++ s2) by simp [keys]]
        exact List.mem_map_of_mem (f := fun x : Pid × Int => x.1) hp
      have hlk : (look (x, y) (tickMid T (keys left) L)).isSome = true := by
        rw [look_isSome, keys_tickMid]
        exact List.mem_map_of_mem (f := fun x : Pid × Int => x.1) hmL
      have hstep : ins (x, y) (min (n + 1) T) (tickMid T (keys left) L) = tickMid T (keys (s1 ++ s2)) L := by
        rw [hkeys, tickMid_step HND.out hmL hnot]; simp [keys]
      obtain ⟨w2, hrun, hR2, hbut2⟩ := (hR1.alloc (.cells #[.int .u16 x, .int .u32 y] 32)).ext (Below.refl _ _).drew |>.update keyPid pidV_inj Try.underlying87 (x, y) (min (n + 1) T) hlk hnot2
      rw [hstep] at hR2
      have HSZ := hid hbut.size
      have hst : s ≠ w.heap.size := by omega
      have d0 : w1.cell? ⟨s, 0, none⟩ = some (.int .i64 T) := (hbut.cell (by exact hst)).trans ((hmut.cell (by exact hsl) (by exact hsr)).trans g0)
      have d1 : w1.cell? ⟨s, 1, none⟩ = some (.map (some r)) := (hbut.cell (by exact hst)).trans ((hmut.cell (by exact hsl) (by exact hsr)).trans g1)
      have hB1 : Below w1.heap.size w1 (w1.alloc (.cells #[.int .u16 x, .int .u32 y] 32)).drew := ((Below.refl _ _).alloc (Nat.le_refl _) _).drew
      have e0 := cell_to d0 hB1
      have e1 := cell_to d1 hB1
      have e2 : (w1.alloc (.cells #[.int .u16 x, .int .u32 y] 32)).drew.cell? ⟨w1.heap.size, 0, none⟩ = some (.int .u16 x) := by simp
      have e3 : (w1.alloc (.cells #[.int .u16 x, .int .u32 y] 32)).drew.cell? ⟨w1.heap.size, 1, none⟩ = some (.int .u32 y) := by simp
      have hrw1 : r < w1.heap.size := hR1.map.lt
      have k0 := (hbut2.cell (p := ⟨s, 0, none⟩) (by exact hsr)).trans e0
      have k1 := (hbut2.cell (p := ⟨s, 1, none⟩) (by exact hsr)).trans e1
      have k2 := (hbut2.cell (p := ⟨w1.heap.size, 0, none⟩) (by simp; omega)).trans e2
      have k3 := (hbut2.cell (p := ⟨w1.heap.size, 1, none⟩) (by simp; omega)).trans e3
      have HST := hid hR2
      have HSUB : Hid ((s1 ++ s2).Sublist L) := hid (List.Sublist.trans (by rw [hl.out]; simp) hSub.out)
      have HLEN : Hid (left.length = s1.length + 1 + s2.length) := hid (by rw [hl.out]; simp; omega)
      have hmut2 : Mut (fun k => k = r) w w2 := ((hmut.thenBut hbut (Nat.le_refl _)).trans (Mut.of_below hB1)).trans (Mut.of_but hbut2 rfl)
      clear hmem hmL hkl hkeys hnot hnot2 hlk hstep hR2 d0 d1
      have hsum : IntKind.i64.wrap (n + 1) = n + 1 := IntWalk.i64_in _ (by omega)
      go_wp2
      go_region_held3 (fun W => W.cell? ⟨s, 0, none⟩ = some (.int .i64 T) ∧ W.cell? ⟨s, 1, none⟩ = some (.map (some r)) ∧ W.cell? ⟨w1.heap.size, 0, none⟩ = some (.int .u16 x) ∧ W.cell? ⟨w1.heap.size, 1, none⟩ = some (.int .u32 y)) (first | exact ⟨e0, e1, e2, e3⟩ | exact ⟨k0, k1, k2, k3⟩) (fail)
      have HL2 := hid HST.out.left_eq
      go_wp2
      go_roundw
      case rel => exact ⟨s1 ++ s2, HST.out, HSUB, hmut2⟩
      case measure => rw [HL2.out, HLM.out, HLEN.out]; simp <;> omega

/-! ### Heard -/
set_option maxRecDepth 100000 in
set_option maxHeartbeats 800000 in
theorem heard_any (s r : Nat) (T : Int) (L : List (Pid × Int)) (x y : Int) (w : World) (hW : WatchIs w s r T L) (hpos : ∀ p ∈ L, 0 ≤ p.2) :
   Calls Try.prog 20 #[.pointer (some ⟨s, 0, none⟩), .agg #[.int .u16 x, .int .u32 y]] w fun e w' => e = .returned (.bool (look (x, y) L).isSome) ∧ WatchIs w' s r T (if (look (x, y) L).isSome = true then ins (x, y) 0 L else L) ∧ Mut (fun k => k = r) w w' := by
  have hB1 : Below w.heap.size w (w.alloc (.cells #[.int .u16 x, .int .u32 y] 32)) := (Below.refl _ _).alloc (Nat.le_refl _) _
  have hW1 := hW.alloc (.cells #[.int .u16 x, .int .u32 y] 32)
  have hsr := hW.ne
  have hrl := hW.map.lt
  have hk : ∀ n, look (x, y) L = some n → 0 ≤ n := fun n h => hpos _ (mem_of_look h)
  cases hl : look (x, y) L with
  | none =>
    have hA : ageL (x, y) L = -1 := by unfold ageL; rw [hl]
    have HA := hid hA
    clear hA hl hk
    go_enter Try.func20, Try.ntmps20
    go_wp2_with (go_at_call 23; refine (age_is HA hW1).mono ?_; rintro e w3 ⟨rfl, hb3⟩)
    go_ret
    exact ⟨rfl, hW1.ext hb3, Mut.of_below (hB1.trans (hb3.mono hB1.size))⟩
  | some n =>
    have hA : ageL (x, y) L = n := by unfold ageL; rw [hl]
    have hn0 := hk n hl
    have HA := hid hA
    have hneg : decide (n < 0) = false := by simpa using hn0
    clear hA hl hk
    go_enter Try.func20, Try.ntmps20
    go_wp2_with (go_at_call 23; refine (age_is HA hW1).mono ?_; rintro e w3 ⟨rfl, hb3⟩)
    have hW3 := (hW1.ext hb3).drew
    obtain ⟨w2, hrun, hM2, hbut⟩ := hW3.map.update keyPid Try.underlying87 (x, y) 0
    have hs3 := hb3.size
    simp at hs3
    have b0 : (w.alloc (.cells #[.int .u16 x, .int .u32 y] 32)).cell? ⟨w.heap.size, 0, none⟩ = some (.int .u16 x) := by simp
    have b1 : (w.alloc (.cells #[.int .u16 x, .int .u32 y] 32)).cell? ⟨w.heap.size, 1, none⟩ = some (.int .u32 y) := by simp
    have e0 : w3.drew.cell? ⟨w.heap.size, 0, none⟩ = some (.int .u16 x) := cell_to b0 hb3.drew
    have e1 : w3.drew.cell? ⟨w.heap.size, 1, none⟩ = some (.int .u32 y) := cell_to b1 hb3.drew
    clear b0 b1
    have e2 := hW3.c1
    have k0 := (hbut.cell (p := ⟨w.heap.size, 0, none⟩) (by simp; omega)).trans e0
    have k1 := (hbut.cell (p := ⟨w.heap.size, 1, none⟩) (by simp; omega)).trans e1
    have k2 := (hbut.cell (p := ⟨s, 1, none⟩) (by exact hsr)).trans e2
    have hW2 : WatchIs w2 s r T (ins (x, y) 0 L) := ⟨(hbut.cell (by exact hsr)).trans hW3.c0, k2, (hbut.frozen (by exact hsr)).trans hW3.f1, hM2⟩
    have hmut : Mut (fun k => k = r) w w2 := (Mut.of_below (hB1.trans (hb3.mono hB1.size)).drew).trans (Mut.of_but hbut rfl)
    go_region_held3 (fun W => W.cell? ⟨s, 1, none⟩ = some (.map (some r)) ∧ W.cell? ⟨w.heap.size, 0, none⟩ = some (.int .u16 x) ∧ W.cell? ⟨w.heap.size, 1, none⟩ = some (.int .u32 y)) (first | exact ⟨e2, e0, e1⟩ | exact ⟨k2, k0, k1⟩) (fail)
    go_wp2
    go_ret
    exact ⟨rfl, hW2, hmut⟩

/-! ### Late -/
def lateL (T : Int) (L : List (Pid × Int)) : List Pid := keys (L.filter fun p => decide (T ≤ p.2))
set_option maxRecDepth 100000 in
set_option maxHeartbeats 1600000 in
theorem late_any (s r : Nat) (T : Int) (L : List (Pid × Int)) (w : World) (hW : WatchIs w s r T L) (hnd : (keys L).Nodup) (hok : ∀ p ∈ keys L, ok p) (hn : L.length ≤ 549755813888) :
   Calls Try.prog 25 #[.pointer (some ⟨s, 0, none⟩)] w fun e w' => ∃ v, e = .returned v ∧ OwnP w' w.heap.size v (sortL (lateL T L)) ∧ Below w.heap.size w w' := by
  obtain ⟨g0, g1, -, hM⟩ := hW
  have hsl : s < w.heap.size := World.block_lt_of_cell? w _ g0
  have HND := hid hnd
  have HOK := hid hok
  clear hnd hok
  go_enter Try.func25, Try.ntmps25
  go_wp2_with (at_range; refine wpList_range_is hM Try.underlying87 rfl rfl rfl ?_; intro w0 hR0 hb0)
  go_frame
  have hs0 := hb0.size
  have ht0 := hR0.lt
  go_loopw [3] (fun v wr => ∃ (got : List Pid) (left : List (Pid × Int)), RangeIs wr r w.heap.size pidV eI L left ∧ OwnP wr w.heap.size v got ∧ Hid ((got ++ lateL T left).Perm (lateL T L)) ∧ got.length + left.length ≤ L.length ∧ Below w.heap.size w wr ∧ w.heap.size < wr.heap.size) (fun _ wr => wr.rangeLeft r w.heap.size)
  case atStart => exact ⟨[], L, hR0, OwnP.nil _ _, (show ([] ++ lateL T L).Perm (lateL T L) from List.Perm.refl _), by simp, hb0, ht0⟩
  case round =>
    obtain ⟨got, left, hR, hown, hP, hlen, hb, hlt⟩ := hrel
    have HLEN := hid hlen
    have hgl : got.length ≤ L.length := by omega
    have hlm := hR.left_eq
    have HLM := hid hlm
    clear hlen hlm
    have k0 := cell_to g0 hb
    go_wp2_with (at_next; refine wpList_next_is hR rfl rfl rfl ?_ ?_)
    · intro hl
      have hgp : got.Perm (lateL T L) := by have := hP.out; rw [hl.out] at this; simpa [lateL, keys] using this
      have hsub : (lateL T L).Sublist (keys L) := by unfold lateL keys; exact List.Sublist.map _ List.filter_sublist
      have hgn : got.Nodup := hgp.symm.nodup (HND.out.sublist hsub)
      have hgo : ∀ p ∈ got, ok p := fun p hp => HOK.out p (hsub.subset (hgp.mem_iff.1 hp))
      have hsq : sortP got = sortL (lateL T L) := by rw [sortP_nodup hgn]; exact sortL_perm hgp hgo
      have HSQ := hid hsq
      have HGO := hid hgo
      obtain ⟨a, c, rfl, hrow, -⟩ := hown.row
      clear hgp hgn hsq hgo hsub
      go_wp2_with (go_at_call 68; refine (sort_any a c got _ (by omega) hrow HGO.out).mono ?_; rintro e w3 ⟨v, rfl, hown3, hb3⟩)
      go_ret
      exact ⟨_, rfl, by rw [← HSQ.out]; exact hown3.mono (by omega), hb.trans (hb3.mono (by omega))⟩
    · intro x y n s1 s2 w1 hl hR1 hbut hen
      have hown1 := hown.butT hbut (hown.ne_iter hR)
      have HSZ := hid hbut.size
      have q0 := (hbut.cell (p := ⟨s, 0, none⟩) (by simp; omega)).trans k0
      have hsw1 : s < w1.heap.size := by rw [HSZ.out]; omega
      have hlq : Hid (left.length = s1.length + 1 + s2.length) := hid (by rw [hl.out]; simp; omega)
      by_cases hT : T ≤ n
      · have hT' : decide (T ≤ n) = true := by simpa using hT
        have hone : PidRow ((w1.alloc (.cells #[.int .u16 x, .int .u32 y] 32)).alloc (.cells #[.int .u16 x, .int .u32 y] 32)) (some ⟨w1.heap.size + 1, 0, none⟩) [(x, y)] := PidRow.one' _ (by simp) x y
        go_wp2_with (at_builtin; refine wpList_appendP ((hown1.alloc _).alloc _) hone ?cb ?cz rfl rfl rfl rfl ?_; rotate_right; intro v4 w4 hown4 hg4 hnil4)
        case cb => simp; omega
        case cz => have := HSZ.out; simp; omega
        have hsz1 := HSZ.out
        have hB4 : Below w.heap.size w w4 := (((But.below' hb hbut (Nat.le_refl _)).alloc (by omega) _).alloc (by simp; omega) _).grown hg4 (by simp; omega) (fun g hg => (World.ownsRow.lt hown g hg).1)
        have hR4 := ((hR1.alloc (.cells #[.int .u16 x, .int .u32 y] 32)).alloc (.cells #[.int .u16 x, .int .u32 y] 32)).grown ((hown1.alloc _).alloc _) hg4
        have hlt4 := hR4.lt
        have HLM4 := hid hR4.left_eq
        go_roundw
        case rel =>
          refine ⟨got ++ [(x, y)], s1 ++ s2, hR4, hown4, hid ?_, by have := HLEN.out; have := hlq.out; simp; omega, hB4, hlt4⟩
          refine List.Perm.trans ?_ hP.out
          rw [hl.out]
          simp only [lateL, keys, List.filter_append, List.filter_cons, hT', if_true, List.map_append, List.map_cons, List.append_assoc, List.cons_append, List.nil_append]
          exact List.Perm.append_left _ List.perm_middle.symm
        case measure => rw [HLM4.out, HLM.out, hlq.out]; simp <;> omega
      · have hT' : decide (T ≤ n) = false := by simpa using hT
        go_wp2
        have hsz1 := HSZ.out
        have hB4 : Below w.heap.size w (w1.alloc (.cells #[.int .u16 x, .int .u32 y] 32)) := (But.below' hb hbut (Nat.le_refl _)).alloc (by omega) _
        have hR4 := hR1.alloc (.cells #[.int .u16 x, .int .u32 y] 32)
        have hlt4 := hR4.lt
        have HLM4 := hid hR4.left_eq
        go_roundw
        case rel =>
          refine ⟨got, s1 ++ s2, hR4, hown1.alloc _, hid ?_, by have := HLEN.out; have := hlq.out; simp; omega, hB4, hlt4⟩
          refine List.Perm.trans ?_ hP.out
          rw [hl.out]
          simp only [lateL, keys, List.filter_append, List.filter_cons, hT', Bool.false_eq_true, if_false, List.map_append, List.append_assoc]
          exact List.Perm.refl _
        case measure => rw [HLM4.out, HLM.out, hlq.out]; simp <;> omega
end Go.Proofs.Ytjjahefedpfnaaa

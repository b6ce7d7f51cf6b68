/- Parts of the proof: G6. -/
import Derived.Test.YtppapeoainafbaaGreatDoorZ6
namespace Go.Proofs.YtppapeoainafbaaGreatDoor
open Go.RowKit
/-! ### view.Parse -/
set_option maxHeartbeats 3200000 in
theorem viewPrintNo_any {V : View} {am al ad : Option Addr} {cm cl cd : Nat} {w : World} (hV : ViewR w am al ad V) (hsum : lens V.ls ≤ 549755813888) (hc : Hid (checkB V = false)) :
    Calls Tryz.prog 17 #[.agg #[.int .u64 V.id, .slice am V.ms.length cm, .slice al V.ls.length cl, .slice ad V.ds.length cd]] w fun e w' => e = .returned (.tuple #[.string ⟨#[]⟩, .int .i64 1]) ∧ Below w.heap.size w w' := by
  obtain ⟨W1, hW1⟩ : ∃ W1, w.alloc (.cells #[.int .u64 V.id, .slice am V.ms.length cm, .slice al V.ls.length cl, .slice ad V.ds.length cd] 33) = W1 := ⟨_, rfl⟩
  have hb1 : Below w.heap.size w W1 := by rw [← hW1]; exact (Below.refl _ _).alloc (Nat.le_refl _) _
  have v0 : W1.cell? ⟨w.heap.size, 0, none⟩ = some (.int .u64 V.id) := by rw [← hW1]; simp
  have v1 : W1.cell? ⟨w.heap.size, 1, none⟩ = some (.slice am V.ms.length cm) := by rw [← hW1]; simp
  have v2 : W1.cell? ⟨w.heap.size, 2, none⟩ = some (.slice al V.ls.length cl) := by rw [← hW1]; simp
  have v3 : W1.cell? ⟨w.heap.size, 3, none⟩ = some (.slice ad V.ds.length cd) := by rw [← hW1]; simp
  have C1 := hid (check_is (cm := cm) (cl := cl) (cd := cd) hc (k := 1) rfl (hV.ext hb1) hsum)
  have HB1 := hid hb1
  clear hb1 hV hsum
  go_enter Tryz.func17, Tryz.ntmps17
  go_wp2_with fail
  (refine C1.out.mono ?_)
  rintro e w2 ⟨rfl, hb2⟩
  have HB2 := hid (HB1.out.trans (hb2.mono HB1.out.size))
  clear hb2 C1 hW1 v0 v1 v2 v3
  go_wp2_with fail
  exact bodyPost_ret (v := .tuple #[.string ⟨#[]⟩, .int .i64 1]) (by simp [results, Tryz.results17, go_sem]) rfl ⟨rfl, HB2.out⟩
/-! plain -/
theorem split_ne (s : Str) : Lib.split s [32] ≠ [] := by
  unfold Lib.split
  cases Lib.count s [32] with
  | zero => simp [Lib.splitK]
  | succ k =>
    unfold Lib.splitK
    split <;> simp
theorem splitK_len : ∀ (k : Nat) (s : Str), ∀ w ∈ Lib.splitK [32] 0 k s, w.length ≤ s.length
  | 0, s, w, h => by rw [Lib.splitK, List.mem_singleton] at h; rw [h]; exact Nat.le_refl _
  | k + 1, s, w, h => by
    unfold Lib.splitK at h
    split at h
    · rw [List.mem_singleton] at h; rw [h]; exact Nat.le_refl _
    · rcases List.mem_cons.1 h with e | h
      · rw [e, List.length_take]; omega
      · have := splitK_len k _ w h
        rw [List.length_drop] at this; omega
theorem split_len {s w : Str} (h : w ∈ Lib.split s [32]) : w.length ≤ s.length := splitK_len _ _ w h
structure Small (V : View) (n0 k : Nat) : Prop where
  id : V.id = (n0 : Int)
  wf : WfPids V.ms
  ms : V.ms.length ≤ k
  ds : V.ds.length ≤ k
  ls : V.ls.length ≤ 24
  le : ∀ l ∈ V.ls, l.length ≤ k
theorem putK_mem (p : Pid) : ∀ (k : Nat) (ls : LL) (l : List Pid), l ∈ putK p k ls → ∃ l', (l' ∈ ls ∨ l' = []) ∧ (l = l' ∨ l = l' ++ [p])
  | 0, [], l, h => ⟨[], .inr rfl, .inr (by simpa [putK] using h)⟩
  | 0, x :: r, l, h => by
    rcases List.mem_cons.1 h with e | h
    · exact ⟨x, .inl (List.mem_cons_self ..), .inr e⟩
    · exact ⟨l, .inl (List.mem_cons_of_mem _ h), .inl rfl⟩
  | k + 1, [], l, h => by
    rcases List.mem_cons.1 h with e | h
    · exact ⟨[], .inr rfl, .inl e⟩
    · exact putK_mem p k [] l h
  | k + 1, x :: r, l, h => by
    rcases List.mem_cons.1 h with e | h
    · exact ⟨x, .inl (List.mem_cons_self ..), .inl e⟩
    · obtain ⟨l', h1, h2⟩ := putK_mem p k r l h
      exact ⟨l', h1.imp (List.mem_cons_of_mem _) id, h2⟩
theorem Small.memD {V : View} {n0 k j : Nat} {p : Pid} {b : Bool} (h : Small V n0 k) (hp : okP p) (hj : j < 24) : Small (memD V p j b) n0 (k + 1) := by
  refine ⟨h.id, fun q hq => ?_, ?_, ?_, ?_, fun l hl => ?_⟩
  · rcases List.mem_append.1 hq with hq | hq
    · exact h.wf q hq
    · rw [List.mem_singleton.1 hq]; exact hp
  · have := h.ms; simp [Go.Proofs.YtppapeoainafbaaGreatDoor.memD]; omega
  · have := h.ds
    unfold Go.Proofs.YtppapeoainafbaaGreatDoor.memD
    simp only
    split
    · simp; omega
    · omega
  · have := h.ls
    have e := putK_len p j V.ls
    show (putK p j V.ls).length ≤ 24
    omega
  · obtain ⟨l', h1, h2⟩ := putK_mem p j V.ls l hl
    have : l'.length ≤ k := by
      rcases h1 with h1 | h1
      · exact h.le l' h1
      · rw [h1]; simp
    rcases h2 with rfl | rfl
    · omega
    · simp; omega
theorem Small.mem {V V' : View} {n0 k : Nat} {w : Str} (h : Small V n0 k) (hm : memP V w = some V') : Small V' n0 (k + 1) := by
  unfold memP at hm
  split at hm
  · rename_i p j hp _
    split at hm
    · rename_i hc
      cases hm
      exact h.memD (parse_okP hp) (by omega)
    · cases hm
  · cases hm
def resV (r : Option View) : View := r.getD zeroV
def resC (r : Option View) : Int := if r.isSome then 0 else 5
def ParseRes (w w' : World) (r : Option View) (e : Ending) : Prop :=
  ∃ (am al ad : Option Addr) (cm cl cd : Nat), e = .returned (.tuple #[.agg #[.int .u64 (resV r).id, .slice am (resV r).ms.length cm, .slice al (resV r).ls.length cl, .slice ad (resV r).ds.length cd], .int .i64 (resC r)]) ∧ ViewR w' am al ad (resV r) ∧ Below w.heap.size w w'
theorem below_mutB {w W W' : World} (hb : Below w.heap.size w W) (hm : Mut (fun k => k = w.heap.size) W W') : Below w.heap.size w W' :=
  ⟨hm.os.trans hb.os, hm.tape.trans hb.tape, hm.output.trans hb.output, Nat.le_trans hb.size hm.size, fun k hk => (hm.block k (by have := hb.size; omega) (by omega)).trans (hb.block k hk)⟩
theorem ParseRes.no {w W W' : World} {r : Option View} (hr : r = none) (hb : Below w.heap.size w W) (hm : Mut (fun k => k = w.heap.size) W W') : ParseRes w W' r (.returned (.tuple #[.agg #[.int .u64 0, .slice none 0 0, .slice none 0 0, .slice none 0 0], .int .i64 5])) := by
  subst hr
  refine ⟨none, none, none, 0, 0, 0, rfl, ⟨.inl rfl, .inl rfl, .inl rfl, Nat.zero_le _, Nat.zero_le _, Nat.zero_le _, fun l hl => by cases hl⟩, hm.os.trans hb.os, hm.tape.trans hb.tape, hm.output.trans hb.output, Nat.le_trans hb.size hm.size, fun k hk => (hm.block k (by have := hb.size; omega) (by omega)).trans (hb.block k hk)⟩
theorem viewOf_at {s wd : Str} {ws : List Str} {n0 : Nat} (h : Lib.split s [32] = wd :: ws) (hp : Lib.parseUintB 64 wd = .ok n0) (hl : ws.length ≤ 24) : viewOf s = endV s (foldM ⟨(n0 : Int), [], [], []⟩ ws) := by
  unfold viewOf
  rw [h]
  simp only [hp]
  rw [if_neg (by omega)]
theorem viewOf_long {s wd : Str} {ws : List Str} {n0 : Nat} (h : Lib.split s [32] = wd :: ws) (hp : Lib.parseUintB 64 wd = .ok n0) (hl : 24 < ws.length) : viewOf s = none := by
  unfold viewOf
  rw [h]
  simp only [hp]
  rw [if_pos hl]
theorem viewOf_bad {s wd : Str} {ws : List Str} (h : Lib.split s [32] = wd :: ws) (hp : isOk (Lib.parseUintB 64 wd) = false) : viewOf s = none := by
  unfold viewOf
  rw [h]
  simp only
  split
  · rename_i u hu
    rw [hu] at hp; cases hp
  · rfl
theorem run_fromS {a : Option Addr} {n c k : Nat} (h : k ≤ n) (W : World) : (Instr.slice 71 (.slice a n c) (some (.int .i64 k)) none none).run Tryz.prog W = .ok (.slice (if c = k then a else a.map (·.add (k * 1))) (n - k) (c - k)) W := by
  have hs : ∀ W, (sizeOf 9).run Tryz.prog W = .ok 1 W := fun W => Tryz.sizeOf9 W
  simp [Instr.slice, run_underlying Tryz.underlying71, Instr.sliceBounds, run_sliceBound, hs, Result.andThen, h]
theorem run_from1 (b m : Nat) : ∃ a1, (0 < m → a1 = some (⟨b, 1, none⟩ : Addr)) ∧ ∀ W : World, (Instr.slice 71 (.slice (some ⟨b, 0, none⟩) (m + 1) (m + 1)) (some (.int .i64 1)) none none).run Tryz.prog W = .ok (.slice a1 m m) W := by
  refine ⟨if m + 1 = 1 then some ⟨b, 0, none⟩ else (some (⟨b, 0, none⟩ : Addr)).map (·.add (1 * 1)), fun h => by rw [if_neg (by omega)]; rfl, fun W => ?_⟩
  have h := run_fromS (a := some ⟨b, 0, none⟩) (n := m + 1) (c := m + 1) (k := 1) (by omega) W
  rw [Nat.add_sub_cancel] at h
  exact h
theorem VSt.view {w : World} {s n0 k : Nat} {V : View} {vm vl vd : Value} {cs : List Sl} (h : VSt w s V vm vl vd cs) (hs : Small V n0 k) (hk : k ≤ 1000) : ∃ am al ad cm cl cd, vm = .slice am V.ms.length cm ∧ vl = .slice al V.ls.length cl ∧ vd = .slice ad V.ds.length cd ∧ ViewR w am al ad V := by
  obtain ⟨am, cm, e1, r1, -⟩ := h.ms.row
  obtain ⟨al, cl, e2, r2⟩ := h.ls.row
  obtain ⟨ad, cd, e3, r3, -⟩ := h.ds.row
  exact ⟨am, al, ad, cm, cl, cd, e1, e2, e3, r1, r2, r3, by have := hs.ms; omega, by have := hs.ls; omega, by have := hs.ds; omega, fun l hl => by have := hs.le l hl; omega⟩
theorem ViewR.mutB {w w' : World} {s b : Nat} {V : View} {cs : List Sl} {am al ad : Option Addr} {cm cl cd : Nat} (h : VSt w s V (.slice am V.ms.length cm) (.slice al V.ls.length cl) (.slice ad V.ds.length cd) cs) (hv : ViewR w am al ad V) (hm : Mut (fun k => k = b) w w') (hb : b < s) : ViewR w' am al ad V := by
  obtain ⟨a1, c1, e1, r1, -⟩ := (h.ms.mutN hm fun g e1 e2 => by have := (h.ms.blk e1).1; have e2 : g = b := e2; omega).row
  obtain ⟨a2, c2, e2, r2⟩ := (h.ls.mutT hm fun k e => by have e : k = b := e; omega).row
  obtain ⟨a3, c3, e3, r3, -⟩ := (h.ds.mutN hm fun g e1 e2 => by have := (h.ds.blk e1).1; have e2 : g = b := e2; omega).row
  cases e1; cases e2; cases e3
  exact ⟨r1, r2, r3, hv.lm, hv.ll, hv.ld, hv.le⟩
set_option maxRecDepth 100000 in
set_option maxHeartbeats 12800000 in
theorem viewParse_any (s : Str) (hs : s.length ≤ 100000) (w : World) (he : EnvOk w) {r : Option View} (hr : Hid (viewOf s = r)) :
    Calls Tryz.prog 14 #[.string ⟨s.toArray⟩] w fun e w' => ParseRes w w' r e := by
  obtain ⟨W1, hW1⟩ : ∃ W1, w.alloc (.cells #[.int .u64 0, .slice none 0 0, .slice none 0 0, .slice none 0 0] 33) = W1 := ⟨_, rfl⟩
  have hb1 : Below w.heap.size w W1 := by rw [← hW1]; exact (Below.refl _ _).alloc (Nat.le_refl _) _
  have hx1 : BoxV W1 w.heap.size (.int .u64 0) (.slice none 0 0) (.slice none 0 0) (.slice none 0 0) := by rw [← hW1]; exact BoxV.made w _ _ _ _ _
  obtain ⟨wd, ws, hsp⟩ := List.exists_cons_of_ne_nil (split_ne s)
  have hwl : wd.length ≤ 100000 ∧ ∀ x ∈ ws, x.length ≤ 100000 := ⟨by have := split_len (s := s) (w := wd) (by rw [hsp]; exact List.mem_cons_self ..); omega, fun x hx => by have := split_len (s := s) (w := x) (by rw [hsp]; exact List.mem_cons_of_mem _ hx); omega⟩
  obtain ⟨m, hm⟩ : ∃ m, ws.length = m := ⟨_, rfl⟩
  have C1 := split_any s hs W1 (he.ext hb1)
  rw [hsp, List.length_cons, hm] at C1
  obtain ⟨b1, hbs1⟩ : ∃ b, W1.heap.size = b := ⟨_, rfl⟩
  have D1 := hid C1
  have HE : Hid (∀ X, Below w.heap.size w X → EnvOk X) := hid fun X h => he.ext h
  have HX : Hid (∀ X, Below W1.heap.size W1 X → BoxV X w.heap.size (.int .u64 0) (.slice none 0 0) (.slice none 0 0) (.slice none 0 0)) := hid fun X h => hx1.ext h
  have HB1 := hid hb1
  have HZ1 : Hid (w.heap.size < W1.heap.size) := hid hx1.lt
  have HSP := hid hsp
  have HWL := hid hwl
  have HM := hid hm
  have HBS1 := hid hbs1
  clear he hb1 hx1 hsp hwl hm C1 hs
  go_enter Tryz.func14, Tryz.ntmps14
  go_wp2_with fail
  (refine D1.out.mono ?_)
  rintro e w2 ⟨rfl, hrow, hb2⟩
  have c0 : w2.cell? ⟨W1.heap.size, 0, none⟩ = some (.string ⟨wd.toArray⟩) := hrow.2 0 (by simp)
  have HB2 := hid hb2
  have HROW := hid hrow
  have C2 := hid (pu64_any wd HWL.out.1 w2 (HE.out _ (HB1.out.trans (hb2.mono HB1.out.size))))
  clear hb2 hrow D1 hW1
  rw [HBS1.out]
  rw [HBS1.out] at c0
  go_wp2_with fail
  (refine C2.out.mono ?_)
  rintro e w4 ⟨u, ev, rfl, hpu, hb4⟩
  have HB4 := hid (HB2.out.trans (hb4.mono HB2.out.size))
  have HROW4 : Hid (StrRow w4 b1 (wd :: ws)) := hid (by rw [← HBS1.out]; exact HROW.out.ext hb4 HROW.out.1)
  have HX4 := hid (HX.out _ HB4.out)
  have HPU := hid hpu
  clear hb4 c0 C2 hpu HROW
  rcases HPU.out with ⟨n0, hok, rfl, rfl⟩ | ⟨hbad, t, NN, rfl⟩
  rotate_left
  · have HN : Hid (r = none) := hid (hr.out.symm.trans (viewOf_bad HSP.out hbad))
    clear hbad
    obtain ⟨q0, q1, q2, q3, h0, h1, h2, h3⟩ := HX4.out
    have DD := hid (HX4.out.put (.int .u64 0) (.slice none 0 0) (.slice none 0 0) (.slice none 0 0))
    have HF := hid (ParseRes.no HN.out (HB1.out.trans (HB4.out.mono HB1.out.size)) (mutV w4 w.heap.size (.int .u64 0) (.slice none 0 0) (.slice none 0 0) (.slice none 0 0)))
    go_wp2_with fail
    obtain ⟨p0, p1, p2, p3, -, -, -, -⟩ := DD.out
    exact bodyPost_ret (v := .tuple #[.agg #[.int .u64 0, .slice none 0 0, .slice none 0 0, .slice none 0 0], .int .i64 5]) (by simp [results, Tryz.results14, go_sem, p0, p1, p2, p3]) rfl HF.out
  by_cases hlong : 24 < m
  · have HN : Hid (r = none) := hid (hr.out.symm.trans (viewOf_long HSP.out hok (by rw [HM.out]; exact hlong)))
    have d1 : decide (((m + 1 : Nat) : Int) > 25) = true := decide_eq_true (by omega)
    have d2 : decide (25 < ((m + 1 : Nat) : Int)) = true := decide_eq_true (by omega)
    have d3 : decide (25 < m + 1) = true := decide_eq_true (by omega)
    have d4 : decide ((m : Int) + 1 > 25) = true := decide_eq_true (by omega)
    have d5 : decide (25 < (m : Int) + 1) = true := decide_eq_true (by omega)
    clear hok
    obtain ⟨q0, q1, q2, q3, h0, h1, h2, h3⟩ := HX4.out
    have DD := hid (HX4.out.put (.int .u64 0) (.slice none 0 0) (.slice none 0 0) (.slice none 0 0))
    have HF := hid (ParseRes.no HN.out (HB1.out.trans (HB4.out.mono HB1.out.size)) (mutV w4 w.heap.size (.int .u64 0) (.slice none 0 0) (.slice none 0 0) (.slice none 0 0)))
    go_wp2_with fail
    obtain ⟨p0, p1, p2, p3, -, -, -, -⟩ := DD.out
    exact bodyPost_ret (v := .tuple #[.agg #[.int .u64 0, .slice none 0 0, .slice none 0 0, .slice none 0 0], .int .i64 5]) (by simp [results, Tryz.results14, go_sem, p0, p1, p2, p3]) rfl HF.out
  have d1 : decide (((m + 1 : Nat) : Int) > 25) = false := decide_eq_false (by omega)
  have d2 : decide (25 < ((m + 1 : Nat) : Int)) = false := decide_eq_false (by omega)
  have d3 : decide (25 < m + 1) = false := decide_eq_false (by omega)
  have d4 : decide ((m : Int) + 1 > 25) = false := decide_eq_false (by omega)
  have d5 : decide (25 < (m : Int) + 1) = false := decide_eq_false (by omega)
  have HM24 : Hid (m ≤ 24) := hid (by omega)
  have HR2 : Hid (r = endV s (foldM ⟨(n0 : Int), [], [], []⟩ ws)) := hid (hr.out.symm.trans (viewOf_at HSP.out hok (by rw [HM.out]; omega)))
  have HN64 : Hid (n0 < 18446744073709551616) := hid (by have := Lib.parseUintB_le hok; omega)
  obtain ⟨a1, ha1, U1⟩ := run_from1 b1 m
  obtain ⟨sv, hsv⟩ : ∃ sv, w4.heap.size = sv := ⟨_, rfl⟩
  obtain ⟨W5, hW5⟩ : ∃ W5, w4.alloc (.cells #[.int .u64 n0, .slice none 0 0, .slice none 0 0, .slice none 0 0] 33) = W5 := ⟨_, rfl⟩
  have hb5 : Below w4.heap.size w4 W5 := by rw [← hW5]; exact (Below.refl _ _).alloc (Nat.le_refl _) _
  have hv5 : VSt W5 sv ⟨(n0 : Int), [], [], []⟩ (.slice none 0 0) (.slice none 0 0) (.slice none 0 0) [] := by rw [← hW5, ← hsv]; exact VSt.made w4 _ n0
  have HB5 := hid (HB4.out.trans (hb5.mono HB4.out.size))
  have HROW5 := hid (HROW4.out.ext hb5 HROW4.out.1)
  have HLT : Hid (W1.heap.size ≤ sv ∧ b1 < sv) := hid ⟨by rw [← hsv]; exact HB4.out.size, by rw [← hsv]; exact HROW4.out.1⟩
  have HV5 := hid hv5
  have HA1 := hid ha1
  have HSV := hid hsv
  have HW5 := hid hW5
  clear hok hlong hb5 hv5 ha1 hsv hW5 HROW4 HX4 HB4
  go_wp2_with fail
  clear d1 d2 d3 d4 d5 U1
  rw [HW5.out, HSV.out]
  go_loopw [34] (fun kv wr => ∃ (k : Nat) (V : View) (vm vl vd : Value) (cs : List Sl), kv = .int .i64 k ∧ k ≤ m ∧ Hid (foldM ⟨(n0 : Int), [], [], []⟩ ws = foldM V (ws.drop k)) ∧ Hid (VSt wr sv V vm vl vd cs) ∧ Hid (Small V n0 k) ∧ Hid (Below sv W5 wr)) (fun kv _ => m - (intOf kv).toNat)
  case atStart => exact ⟨0, _, _, _, _, _, rfl, Nat.zero_le _, hid rfl, HV5, hid ⟨rfl, fun p hp => (by cases hp), Nat.le_refl _, Nat.le_refl _, Nat.zero_le _, fun l hl => (by cases hl)⟩, hid (Below.refl _ _)⟩
  case round =>
    obtain ⟨k, V, vm, vl, vd, cs, rfl, hk, hf, hv, hsm, hbw⟩ := hrel
    have hm24 := HM24.out
    have hba : Below w.heap.size w wr := HB1.out.trans ((HB5.out.mono HB1.out.size).trans (hbw.out.mono (by have := HLT.out.1; have := HB1.out.size; omega)))
    have hxr := HX.out wr (HB5.out.trans (hbw.out.mono HLT.out.1))
    by_cases hlt : k < m
    · have hk1 : k < ws.length := by rw [HM.out]; exact hlt
      obtain ⟨x, hx⟩ : ∃ x, ws[k] = x := ⟨_, rfl⟩
      have hd : ws.drop k = x :: ws.drop (k + 1) := by rw [List.drop_eq_getElem_cons hk1, hx]
      have ea := HA1.out (by omega)
      subst ea
      have hc := (HROW5.out.ext hbw.out HLT.out.2).2 (k + 1) (by simp; omega)
      simp only [List.getElem_cons_succ, hx] at hc
      have hc2 : wr.cell? ⟨b1, 1 + k, none⟩ = some (.string ⟨x.toArray⟩) := by rw [Nat.add_comm]; exact hc
      obtain ⟨q, hq⟩ : ∃ q, memP V x = q := ⟨_, rfl⟩
      have hs2 := hsm.out
      have CM := hid (member_any x (HWL.out.2 x (by rw [← hx]; exact List.getElem_mem hk1)) (HE.out _ hba) hv.out (by have := hs2.ms; have := HM24.out; omega) (by have := hs2.ds; have := HM24.out; omega) (by have := hs2.ls; omega) (fun l hl => by have := hs2.le l hl; have := HM24.out; omega) (hid hq))
      have HQ := hid hq
      have HD := hid hd
      have HBA := hid hba
      have HXR := hid hxr
      clear hx hd hs2 hq hba hxr hk1
      go_wp2_with fail
      (refine CM.out.mono ?_)
      rintro e w6 ⟨rfl, hb6, hres⟩
      have HB6 := hid (hbw.out.trans hb6)
      have HRES := hid hres
      clear hb6 hres CM hc hc2
      cases q with
      | none =>
        have HN : Hid (r = none) := hid (by rw [HR2.out, hf.out, HD.out, foldM, HQ.out]; rfl)
        have hx6 := HX.out w6 (HB5.out.trans (HB6.out.mono HLT.out.1))
        obtain ⟨q0, q1, q2, q3, h0, h1, h2, h3⟩ := id hx6
        have DD := hid (hx6.put (.int .u64 0) (.slice none 0 0) (.slice none 0 0) (.slice none 0 0))
        have HF := hid (ParseRes.no HN.out (HB1.out.trans ((HB5.out.mono HB1.out.size).trans (HB6.out.mono (by have := HLT.out.1; have := HB1.out.size; omega)))) (mutV w6 w.heap.size (.int .u64 0) (.slice none 0 0) (.slice none 0 0) (.slice none 0 0)))
        clear hx6
        go_wp2_with fail
        obtain ⟨p0, p1, p2, p3, -, -, -, -⟩ := DD.out
        exact bodyPost_ret (v := .tuple #[.agg #[.int .u64 0, .slice none 0 0, .slice none 0 0, .slice none 0 0], .int .i64 5]) (by simp [results, Tryz.results14, go_sem, p0, p1, p2, p3]) rfl HF.out
      | some V' =>
        obtain ⟨vm', vl', vd', cs', hv'⟩ := HRES.out V' rfl
        have HV' := hid hv'
        have HS' := hid (hsm.out.mem HQ.out)
        have HF' : Hid (foldM ⟨(n0 : Int), [], [], []⟩ ws = foldM V' (ws.drop (k + 1))) := hid (by rw [hf.out, HD.out, foldM, HQ.out])
        clear hv' HRES
        go_wp2_with fail
        go_roundw
        case rel => exact ⟨k + 1, V', vm', vl', vd', cs', by go_num, by omega, HF', HV', HS', HB6⟩
        case measure => simp [intOf]; omega
    · have hke : ws.drop k = [] := List.drop_eq_nil_of_le (by rw [HM.out]; omega)
      have HR3 : Hid (r = endV s (some V)) := hid (by rw [HR2.out, hf.out, hke]; rfl)
      obtain ⟨am, al, ad, cm, cl, cd, rfl, rfl, rfl, hvr⟩ := hv.out.view hsm.out (by have := HM24.out; omega)
      have hsum : lens V.ls ≤ 549755813888 := by
        have h1 := lens_le (n := 24) (fun l hl => by have := hsm.out.le l hl; have := HM24.out; omega : ∀ l ∈ V.ls, l.length ≤ 24)
        have h2 := hsm.out.ls
        omega
      obtain ⟨c0, c1, c2, c3, -, -, -, -⟩ := id hv.out.box
      rw [hsm.out.id] at c0
      have HBA := hid hba
      have HXR := hid hxr
      have HVR := hid hvr
      cases hcb : checkB V
      case false =>
        have HN : Hid (r = none) := hid (by rw [HR3.out]; unfold endV; simp [hcb])
        have CP := viewPrintNo_any (cm := cm) (cl := cl) (cd := cd) hvr hsum (hid hcb)
        rw [hsm.out.id] at CP
        have CP := hid CP
        clear hke hsum hcb hvr hba hxr
        go_wp2_with fail
        (refine CP.out.mono ?_)
        rintro e w6 ⟨rfl, hb6⟩
        have hx6 := HXR.out.ext hb6
        obtain ⟨q0, q1, q2, q3, h0, h1, h2, h3⟩ := id hx6
        have DD := hid (hx6.put (.int .u64 0) (.slice none 0 0) (.slice none 0 0) (.slice none 0 0))
        have HF := hid (ParseRes.no HN.out (HBA.out.trans (hb6.mono HBA.out.size)) (mutV w6 w.heap.size (.int .u64 0) (.slice none 0 0) (.slice none 0 0) (.slice none 0 0)))
        clear hx6 hb6 c0 c1 c2 c3
        go_wp2_with fail
        obtain ⟨p0, p1, p2, p3, -, -, -, -⟩ := DD.out
        exact bodyPost_ret (v := .tuple #[.agg #[.int .u64 0, .slice none 0 0, .slice none 0 0, .slice none 0 0], .int .i64 5]) (by simp [results, Tryz.results14, go_sem, p0, p1, p2, p3]) rfl HF.out
      case true =>
        have CP := hid (viewPrint_any (cm := cm) (cl := cl) (cd := cd) hsm.out.id hvr hsm.out.wf hsum (hid hcb) (HE.out _ hba).tab)
        have HCB := hid hcb
        clear hke hsum hcb hvr hba hxr
        go_wp2_with fail
        (refine CP.out.mono ?_)
        rintro e w6 ⟨rfl, hb6⟩
        have hx6 := HXR.out.ext hb6
        have HV6 := hid (hv.out.ext hb6)
        have HVR6 := hid (HVR.out.ext hb6)
        have HBA6 := hid (HBA.out.trans (hb6.mono HBA.out.size))
        obtain ⟨q0, q1, q2, q3, h0, h1, h2, h3⟩ := id hx6
        by_cases heq : viewP V = s
        · have u1 : (viewP V != s) = false := by simp [heq]
          have u2 : (viewP V == s) = true := by simp [heq]
          have HRS : Hid (r = some V) := hid (by rw [HR3.out]; unfold endV; simp [HCB.out, heq])
          have HEQ := hid heq
          obtain ⟨c0, c1, c2, c3, -, -, -, -⟩ := id HV6.out.box
          rw [hsm.out.id] at c0
          have DD := hid (hx6.put (.int .u64 n0) (.slice am V.ms.length cm) (.slice al V.ls.length cl) (.slice ad V.ds.length cd))
          have HMV := hid (mutV w6 w.heap.size (.int .u64 n0) (.slice am V.ms.length cm) (.slice al V.ls.length cl) (.slice ad V.ds.length cd))
          clear hx6 hb6 heq CP
          go_wp2_with fail
          obtain ⟨p0, p1, p2, p3, -, -, -, -⟩ := DD.out
          exact bodyPost_ret (v := .tuple #[.agg #[.int .u64 n0, .slice am V.ms.length cm, .slice al V.ls.length cl, .slice ad V.ds.length cd], .int .i64 0]) (by simp [results, Tryz.results14, go_sem, p0, p1, p2, p3]) rfl (by
            rw [HRS.out]
            refine ⟨am, al, ad, cm, cl, cd, by rw [show (resV (some V)) = V from rfl, hsm.out.id]; rfl, ViewR.mutB HV6.out HVR6.out HMV.out (by have := HLT.out.1; have := HZ1.out; omega), below_mutB HBA6.out HMV.out⟩)
        · have u1 : (viewP V != s) = true := by simpa using heq
          have u2 : (viewP V == s) = false := by simpa using heq
          have HN : Hid (r = none) := hid (by rw [HR3.out]; unfold endV; simp [heq])
          have DD := hid (hx6.put (.int .u64 0) (.slice none 0 0) (.slice none 0 0) (.slice none 0 0))
          have HF := hid (ParseRes.no HN.out HBA6.out (mutV w6 w.heap.size (.int .u64 0) (.slice none 0 0) (.slice none 0 0) (.slice none 0 0)))
          clear hx6 hb6 heq c0 c1 c2 c3 CP
          go_wp2_with fail
          obtain ⟨p0, p1, p2, p3, -, -, -, -⟩ := DD.out
          exact bodyPost_ret (v := .tuple #[.agg #[.int .u64 0, .slice none 0 0, .slice none 0 0, .slice none 0 0], .int .i64 5]) (by simp [results, Tryz.results14, go_sem, p0, p1, p2, p3]) rfl HF.out
end Go.Proofs.YtppapeoainafbaaGreatDoor


/- For every input, choraguslaw30.PlayStorms returns true, and each argument reads afterwards as it read before; no condition. -/
import Derived.Test.YtehagnbphamjhaaGreatDoorRows
import Derived.Test.YtehagnbphamjhaaGreatDoorCards
import Derived.Test.YtehagnbphamjhaaGreatDoorTie
import Derived.Test.YtehagnbphamjhaaGreatDoorPSn
namespace Go.Proofs.YtehagnbphamjhaaGreatDoor
open Go.RowKit
/-! ### the storm, in plain words -/
def rollX (x : Nat) : Nat := (x * 6364136223846793005 + 1442695040888963407) % 18446744073709551616
def rollN (x m : Nat) : Nat := rollX x / 8589934592 % m
/-- so many answers, one behind the other, and what is left -/
def runL {α : Type} (f : Nat → α × Nat) : Nat → Nat → List α
  | 0, _ => []
  | n + 1, x => (f x).1 :: runL f n (f x).2
def runX {α : Type} (f : Nat → α × Nat) : Nat → Nat → Nat
  | 0, x => x
  | n + 1, x => runX f n (f x).2
theorem runL_len {α : Type} (f : Nat → α × Nat) : ∀ n x, (runL f n x).length = n
  | 0, _ => rfl
  | n + 1, x => by rw [runL, List.length_cons, runL_len f n]
theorem runL_take {α : Type} (f : Nat → α × Nat) : ∀ n m x, (runL f (n + m) x).take n = runL f n x
  | 0, m, x => by simp [runL]
  | n + 1, m, x => by rw [Nat.add_right_comm, runL, runL, List.take_succ_cons, runL_take f n m]
theorem runL_all {α : Type} {f : Nat → α × Nat} {P : α → Prop} (h : ∀ x, P (f x).1) : ∀ n x, ∀ b ∈ runL f n x, P b
  | 0, x, b, hb => by simp [runL] at hb
  | n + 1, x, b, hb => by
    rw [runL] at hb
    rcases List.mem_cons.1 hb with rfl | hb
    · exact h x
    · exact runL_all h n _ b hb
theorem runX_lt {α : Type} {f : Nat → α × Nat} {B : Nat} (h : ∀ x, (f x).2 < B) : ∀ n x, x < B → runX f n x < B
  | 0, _, hx => hx
  | n + 1, x, _ => by rw [runX]; exact runX_lt h n _ (h x)
/-- a byte of the dice -/
def diceF (x : Nat) : Nat × Nat := (rollN x 256, rollX x)
def diceB (n x : Nat) : List Nat := runL diceF n x
def diceX (n x : Nat) : Nat := runX diceF n x
def stormK (k y : Nat) : StepD × Nat :=
  if k < 10 then (⟨2, rollN y 64, 0, []⟩, rollX y)
  else if k < 16 then (⟨1, rollN y 8, 0, []⟩, rollX y)
  else if k < 21 then (⟨9, rollN y 8, 0, diceB (rollN (rollX y) 4) (rollX (rollX y))⟩, diceX (rollN (rollX y) 4) (rollX (rollX y)))
  else if k = 21 then (⟨3, rollN y 64, 0, []⟩, rollX y)
  else if k = 22 then (⟨4, rollN y 64, 0, []⟩, rollX y)
  else if k = 23 then (⟨5, rollN y 64, rollN (rollX y) 64, diceB (rollN (rollX (rollX y)) 2) (rollX (rollX (rollX y)))⟩, diceX (rollN (rollX (rollX y)) 2) (rollX (rollX (rollX y))))
  else if k = 24 then (⟨6, rollN y 8, 0, []⟩, rollX y)
  else if k < 27 then (⟨7, rollN y 8, 0, []⟩, rollX y)
  else if k = 27 then (⟨8, rollN y 8, 0, []⟩, rollX y)
  else if k = 28 then (⟨11, rollN y 8, 0, diceB (rollN (rollX y) 4) (rollX (rollX y))⟩, diceX (rollN (rollX y) 4) (rollX (rollX y)))
  else if k = 29 then (⟨12, rollN y 8, rollN (rollX y) 8, []⟩, rollX (rollX y))
  else if k = 30 then (⟨13, 0, 0, []⟩, y)
  else (⟨10, rollN y 4, 0, []⟩, rollX y)
def stormS (x : Nat) : StepD × Nat := stormK (rollN x 32) (rollX x)
def stormL (n x : Nat) : List StepD := runL stormS n x
theorem rollN_lt (x m : Nat) (h : 0 < m) : rollN x m < m := Nat.mod_lt _ h
theorem rollX_lt (x : Nat) : rollX x < 18446744073709551616 := Nat.mod_lt _ (by decide)
theorem diceF_lt (x : Nat) : (diceF x).2 < 18446744073709551616 := rollX_lt x
theorem diceX_lt (n x : Nat) (h : x < 18446744073709551616) : diceX n x < 18446744073709551616 := runX_lt (f := diceF) (B := 18446744073709551616) diceF_lt n x h
theorem diceB_lt (n x : Nat) : ∀ b ∈ diceB n x, b < 256 := runL_all (fun x => rollN_lt x 256 (by decide)) n x
theorem diceB_len (n x : Nat) : (diceB n x).length = n := runL_len _ n x
/-- a storm's step may be printed -/
structure SFit (s : StepD) : Prop where
  ok : StepOk s
  ln : (lineP s).isSome = true
  dl : s.data.length ≤ 3
theorem SFit.mk1 (k : Int) (a b : Nat) (d : List Nat) (ha : a < 64) (hb : b < 64) (hd : ∀ x ∈ d, x < 256) (hl : d.length ≤ 3) (h : (lineP ⟨k, a, b, d⟩).isSome = true) : SFit ⟨k, a, b, d⟩ :=
  ⟨⟨by show (-9223372036854775808 : Int) ≤ (a : Int); omega, by show (a : Int) ≤ 9223372036854775807; omega, by show (-9223372036854775808 : Int) ≤ (b : Int); omega, by show (b : Int) ≤ 9223372036854775807; omega, hd⟩, h, hl⟩
theorem line0 {k : Int} {x : Shape} (hk : shapeK k = some x) (a b : Int) (d : List Nat) (h2 : x.two = false → b = 0) (h3 : x.bytes = false → d = []) : (lineP ⟨k, a, b, d⟩).isSome = true := by
  unfold lineP
  simp only [hk]
  rw [if_neg]
  · rfl
  · rintro (⟨g1, g2⟩ | ⟨g1, g2⟩)
    · exact g2 (h2 g1)
    · exact g2 (h3 g1)
theorem nil3 : ([] : List Nat).length ≤ 3 := by decide
theorem iteFit {c : Prop} [Decidable c] {a b : StepD × Nat} (h1 : SFit a.1) (h2 : SFit b.1) : SFit (if c then a else b).1 := by
  by_cases h : c
  · rw [if_pos h]; exact h1
  · rw [if_neg h]; exact h2
theorem stormK_fit (k y : Nat) : SFit (stormK k y).1 := by
  have r64 := fun y => rollN_lt y 64 (by decide)
  have r8 := fun y => (Nat.lt_trans (rollN_lt y 8 (by decide)) (by decide) : rollN y 8 < 64)
  have r4 := fun y => (Nat.lt_trans (rollN_lt y 4 (by decide)) (by decide) : rollN y 4 < 64)
  have l4 := fun y z => (by rw [diceB_len]; have := rollN_lt y 4 (by decide); omega : (diceB (rollN y 4) z).length ≤ 3)
  have l2 := fun y z => (by rw [diceB_len]; have := rollN_lt y 2 (by decide); omega : (diceB (rollN y 2) z).length ≤ 3)
  have z : (0 : Nat) < 64 := by decide
  unfold stormK
  refine iteFit (SFit.mk1 2 _ 0 [] (r64 _) z d0 nil3 (line0 rfl _ _ _ (fun _ => rfl) (fun _ => rfl))) ?_
  refine iteFit (SFit.mk1 1 _ 0 [] (r8 _) z d0 nil3 (line0 rfl _ _ _ (fun _ => rfl) (fun _ => rfl))) ?_
  refine iteFit (SFit.mk1 9 _ 0 _ (r8 _) z (diceB_lt _ _) (l4 _ _) (line0 rfl _ _ _ (fun _ => rfl) (fun h => by cases h))) ?_
  refine iteFit (SFit.mk1 3 _ 0 [] (r64 _) z d0 nil3 (line0 rfl _ _ _ (fun _ => rfl) (fun _ => rfl))) ?_
  refine iteFit (SFit.mk1 4 _ 0 [] (r64 _) z d0 nil3 (line0 rfl _ _ _ (fun _ => rfl) (fun _ => rfl))) ?_
  refine iteFit (SFit.mk1 5 _ _ _ (r64 _) (r64 _) (diceB_lt _ _) (l2 _ _) (line0 rfl _ _ _ (fun h => by cases h) (fun h => by cases h))) ?_
  refine iteFit (SFit.mk1 6 _ 0 [] (r8 _) z d0 nil3 (line0 rfl _ _ _ (fun _ => rfl) (fun _ => rfl))) ?_
  refine iteFit (SFit.mk1 7 _ 0 [] (r8 _) z d0 nil3 (line0 rfl _ _ _ (fun _ => rfl) (fun _ => rfl))) ?_
  refine iteFit (SFit.mk1 8 _ 0 [] (r8 _) z d0 nil3 (line0 rfl _ _ _ (fun _ => rfl) (fun _ => rfl))) ?_
  refine iteFit (SFit.mk1 11 _ 0 _ (r8 _) z (diceB_lt _ _) (l4 _ _) (line0 rfl _ _ _ (fun _ => rfl) (fun h => by cases h))) ?_
  refine iteFit (SFit.mk1 12 _ _ [] (r8 _) (r8 _) d0 nil3 (line0 rfl _ _ _ (fun h => by cases h) (fun _ => rfl))) ?_
  refine iteFit (SFit.mk1 13 0 0 [] z z d0 nil3 (line0 rfl _ _ _ (fun _ => rfl) (fun _ => rfl))) ?_
  exact SFit.mk1 10 _ 0 [] (r4 _) z d0 nil3 (line0 rfl _ _ _ (fun _ => rfl) (fun _ => rfl))
theorem storm_fit (x : Nat) : SFit (stormS x).1 := stormK_fit _ _
theorem mapO_some {α β : Type} {f : α → Option β} : ∀ {l : List α}, (∀ x ∈ l, (f x).isSome = true) → ∃ ls, mapO f l = some ls
  | [], _ => ⟨[], rfl⟩
  | x :: l, h => by
    obtain ⟨ls, h1⟩ := mapO_some fun y hy => h y (List.mem_cons_of_mem _ hy)
    obtain ⟨u, hu⟩ := Option.isSome_iff_exists.1 (h x (List.mem_cons_self ..))
    exact ⟨u :: ls, by rw [mapO, hu, h1]; rfl⟩
theorem storm_all (n x : Nat) : ∀ s ∈ stormL n x, SFit s := runL_all storm_fit n x
theorem storm_print (n x : Nat) : ∃ ls, mapO lineP (stormL n x) = some ls := mapO_some fun s hs => (storm_all n x s hs).ln
theorem stormL_len (n x : Nat) : (stormL n x).length = n := runL_len _ n x
theorem stormL_take (n m x : Nat) : (stormL (n + m) x).take n = stormL n x := runL_take _ n m x
end Go.Proofs.YtehagnbphamjhaaGreatDoor

namespace Go.Proofs.YtehagnbphamjhaaGreatDoor
open Go.RowKit

/-! ### cmd.Put, where the command may be -/
theorem CmdBox.mutT {w w' : World} {b s : Nat} {c : CmdD} {da am al ad : Option Addr} {dc cm cl cd : Nat} (h : CmdBox w b c da am al ad dc cm cl cd) (hm : Mut (fun k => k = s) w w') (hb : b ≠ s) : CmdBox w' b c da am al ad dc cm cl cd :=
  ⟨cell_mut h.c0 hm hb, cell_mut h.c1 hm hb, cell_mut h.c2 hm hb, cell_mut h.c3 hm hb, cell_mut h.c4 hm hb, cell_mut h.c5 hm hb, cell_mut h.c6 hm hb, cell_mut h.c7 hm hb, cell_mut h.c8 hm hb, cell_mut h.c9 hm hb⟩
theorem ByteRow.far {w : World} {a : Option Addr} {l : List Nat} (h : ByteRow w a l) {s : Nat} (hs : w.heap.size ≤ s) : ∀ b off, a = some ⟨b, off, none⟩ → l ≠ [] → b ≠ s := by
  rintro b off rfl hl
  rcases h with rfl | ⟨b', off', e, hlt, -⟩
  · exact absurd rfl hl
  · cases e; omega
end Go.Proofs.YtehagnbphamjhaaGreatDoor

namespace Go.Proofs.YtehagnbphamjhaaGreatDoor
open Go.RowKit

/-! ### commands: awake -/
theorem OwnB.mutT {G : Nat → Prop} {w w' : World} {base : Nat} {v : Value} {xs : List Nat} (h : OwnB w base v xs) (hm : Mut G w w') (hG : ∀ k, G k → k < base) : OwnB w' base v xs := by
  refine ⟨h.1, ?_⟩
  rcases h.2 with hn | ⟨g, cap, cur, rfl, hbb, hgg, rest⟩
  · exact .inl hn
  · exact .inr ⟨g, cap, cur, rfl, hbb, (hm.block g (Array.getElem?_eq_some_iff.1 hgg).1 (fun hg => by have := hG g hg; omega)).trans hgg, rest⟩
/-- a writer stays where another one writes -/
theorem WrIs.mutT {w w' : World} {s t base : Nat} {v : Value} {bs : List Nat} (h : WrIs w s v bs) (hm : Mut (fun k => k = t) w w') (hst : s ≠ t) (hown : OwnB w base v bs) (hb : s + 1 ≤ base) (ht : t < base) : WrIs w' s v bs :=
  ⟨cell_mut h.c hm hst, (World.frozen?_of_block (w := w) (a := ⟨s, 0, none⟩) (hm.block s h.lt hst)).trans h.f, (hown.mutT hm (fun _k e => e ▸ ht)).mono hb⟩
end Go.Proofs.YtehagnbphamjhaaGreatDoor

namespace Go.Proofs.YtehagnbphamjhaaGreatDoor
open Go.RowKit
/-! ### the dice of both sides -/
theorem roll_x (x : Nat) : IntKind.u64.wrap (IntKind.u64.wrap ((x : Int) * 6364136223846793005) + 1442695040888963407) = (rollX x : Int) := by
  rw [IntKind.wrap_u64, IntKind.wrap_u64]; unfold rollX; omega
theorem roll_n (x m : Nat) (hm : 0 < m) (hm2 : m ≤ 256) : wrap64 (((rollX x : Int) / 8589934592).tmod (m : Int)) = (rollN x m : Int) := by
  have e : ((rollX x : Int) / 8589934592) = ((rollX x / 8589934592 : Nat) : Int) := by omega
  have e2 : (((rollX x / 8589934592 : Nat) : Int)).tmod (m : Int) = ((rollX x / 8589934592 % m : Nat) : Int) := by rw [Int.ofNat_tmod]
  rw [e, e2]
  have := Nat.mod_lt (rollX x / 8589934592) hm
  unfold rollN
  unfold wrap64; omega
theorem roll_nR (x m : Nat) (hm : 0 < m) (hm2 : m ≤ 256) : wrap64 ((IntKind.u64.wrap ((rollX x : Int).tdiv 8589934592)).tmod (m : Int)) = (rollN x m : Int) := by
  have h0 := rollX_lt x
  have e : (rollX x : Int).tdiv 8589934592 = (rollX x : Int) / 8589934592 := Int.tdiv_eq_ediv_of_nonneg (by omega)
  rw [e, IntKind.wrap_u64]
  have e2 : ((rollX x : Int) / 8589934592) % 18446744073709551616 = (rollX x : Int) / 8589934592 := by omega
  rw [e2]
  exact roll_n x m hm hm2
set_option maxHeartbeats 1600000 in
theorem roll_any (x m : Nat) (hx : x < 18446744073709551616) (hm : 0 < m) (hm2 : m ≤ 256) {w : World} {b : Nat} (hB : BoxL w b 74 [.int .u64 x]) :
    Calls Tryz.prog 49 #[.pointer (some ⟨b, 0, none⟩), .int .u64 m] w fun e w' => e = .returned (.int .i64 (rollN x m)) ∧ Mut (fun k => k = b) w w' ∧ BoxL w' b 74 [.int .u64 (rollX x)] := by
  have c0 := hB.cell (j := 0) rfl
  have fz := hB.frozen
  have HB := hid hB
  clear hB
  go_enter Tryz.func49, Tryz.ntmps49
  go_wp2
  go_ret
  refine ⟨by rw [roll_x, roll_n x m hm hm2]; rfl, mut1, ?_⟩
  · have h := HB.out.set (j := 0) (v := .int .u64 (IntKind.u64.wrap (IntKind.u64.wrap ((x : Int) * 6364136223846793005) + 1442695040888963407)))
    rw [roll_x] at h ⊢
    exact h
theorem rollR_any (x m : Nat) (hx : x < 18446744073709551616) (hm : 0 < m) (hm2 : m ≤ 256) {w : World} {b : Nat} (hB : BoxL w b 78 [.int .u64 x]) :
    Calls Tryz.prog 30 #[.pointer (some ⟨b, 0, none⟩), .int .u64 m] w fun e w' => e = .returned (.int .i64 (rollN x m)) ∧ Mut (fun k => k = b) w w' ∧ BoxL w' b 78 [.int .u64 (rollX x)] := by
  have c0 := hB.cell (j := 0) rfl
  have fz := hB.frozen
  have HB := hid hB
  clear hB
  go_enter Tryz.func30, Tryz.ntmps30
  go_wp2
  go_ret
  refine ⟨by rw [roll_x, roll_nR x m hm hm2]; rfl, mut1, ?_⟩
  · have h := HB.out.set (j := 0) (v := .int .u64 (IntKind.u64.wrap (IntKind.u64.wrap ((x : Int) * 6364136223846793005) + 1442695040888963407)))
    rw [roll_x] at h ⊢
    exact h
/-! ### bytes of the dice -/
theorem diceB_succ (m y : Nat) : diceB (m + 1) y = rollN y 256 :: diceB m (rollX y) := by unfold diceB; rw [runL]; rfl
theorem diceX_succ (m y : Nat) : diceX (m + 1) y = diceX m (rollX y) := by unfold diceX; rw [runX]; rfl
theorem diceB_zero (y : Nat) : diceB 0 y = [] := by unfold diceB; rw [runL]
theorem diceX_zero (y : Nat) : diceX 0 y = y := by unfold diceX; rw [runX]
theorem OwnB.blkD {w : World} {base : Nat} {v : Value} {bs : List Nat} (h : OwnB w base v bs) {g : Nat} (hg : v.ownBlock = some g) : base ≤ g ∧ g < w.heap.size := World.ownsRow.lt h g hg
theorem grown_mutD {w w' : World} {v : Value} (h3 : w.grownBy w' v.ownBlock) : Mut (fun q => v.ownBlock = some q) w w' :=
  ⟨h3.os, h3.tape, h3.output, h3.size, fun q hq hf => h3.block q hq fun e => hf e.symm⟩
set_option maxRecDepth 100000 in
set_option maxHeartbeats 3200000 in
theorem dbytes_any (n x : Nat) (hx : x < 18446744073709551616) (hn : n ≤ 4) {w : World} {b : Nat} (hB : BoxL w b 74 [.int .u64 x]) :
    Calls Tryz.prog 50 #[.pointer (some ⟨b, 0, none⟩), .int .i64 n] w fun e w' => ∃ v, e = .returned v ∧ OwnB w' w.heap.size v (diceB n x) ∧ Mut (fun k => k = b) w w' ∧ BoxL w' b 74 [.int .u64 (diceX n x)] := by
  have HB := hid hB
  have HBL : Hid (b < w.heap.size) := hid hB.lt
  clear hB
  go_enter Tryz.func50, Tryz.ntmps50
  go_wp2
  go_loopw [5, 7] (fun v i wr => ∃ (k : Nat) (y : Nat) (out : List Nat), i = .int .i64 k ∧ k ≤ n ∧ y < 18446744073709551616 ∧ Hid (OwnB wr w.heap.size v out) ∧ Hid (Mut (fun q => q = b) w wr) ∧ Hid (BoxL wr b 74 [.int .u64 y]) ∧ Hid (diceB n x = out ++ diceB (n - k) y) ∧ Hid (diceX n x = diceX (n - k) y) ∧ Hid (out.length = k)) (fun _ i _ => n - (intOf i).toNat)
  case atStart => exact ⟨0, x, [], rfl, Nat.zero_le _, hx, hid (OwnB.nil _ _), hid (Mut.refl _ _), HB, hid (by rw [Nat.sub_zero, List.nil_append]), hid (by rw [Nat.sub_zero]), hid rfl⟩
  case round =>
    obtain ⟨k, y, out, rfl, hk, hy, HO, HM, HBX, H1, H2, H3⟩ := hrel
    by_cases hlt : k < n
    · have d1 : decide ((k : Int) < (n : Int)) = true := decide_eq_true (by omega)
      have d2 : decide (k < n) = true := decide_eq_true hlt
      have CR := hid (roll_any y 256 hy (by decide) (by decide) HBX.out)
      go_wp2_with fail
      refine CR.out.mono ?_
      rintro e w2 ⟨rfl, hm2, hB2⟩
      obtain ⟨z, hz⟩ : ∃ z, rollN y 256 = z := ⟨_, rfl⟩
      have hzl : z < 256 := by rw [← hz]; exact rollN_lt y 256 (by decide)
      have hw8 : IntKind.u8.wrap (z : Int) = (z : Int) := by rw [IntKind.wrap_u8]; omega
      have HZ := hid hz
      have HO2 := hid (OwnB.mutT HO.out hm2 (fun q e => by have := HBL.out; omega))
      have HM2 : Hid (Mut (fun q => q = b) w w2) := hid (HM.out.trans hm2)
      have HB2 := hid hB2
      have HW2 : Hid (w.heap.size ≤ w2.heap.size) := hid HM2.out.size
      rw [hz]
      clear hm2 hB2 CR hz HO HM
      go_wp2_with (at_builtin; refine wpList_appendB (HO2.out.alloc _) (ByteRow.one _ z) (hid rfl) (by have := H3.out; simp; omega) (by have := HW2.out; simp; omega) rfl rfl rfl rfl ?_; intro v4 w4 hown4 hg4 hat4)
      have hma : Mut (fun q => w.heap.size ≤ q) w2 w4 := (Mut.of_below ((Below.refl _ _).alloc (Nat.le_refl _) _)).trans ((grown_mutD hg4).mono fun q _ e => (HO2.out.blkD e).1)
      have HO4 := hid hown4
      have HM4 : Hid (Mut (fun q => q = b) w w4) := hid (HM2.out.transG hma (fun q hq e => by omega))
      have HB4 := hid (HB2.out.mut hma (fun e => by have := HBL.out; omega))
      have HR : Hid (n - k = (n - (k + 1)) + 1) := hid (by omega)
      clear hown4 hg4 hat4 hma
      go_roundw
      case rel => exact ⟨k + 1, rollX y, out ++ [z], by go_num, by omega, rollX_lt y, HO4, HM4, HB4, hid (by rw [H1.out, HR.out, diceB_succ, HZ.out]; simp), hid (by rw [H2.out, HR.out, diceX_succ]), hid (by simp [H3.out])⟩
      case measure => simp [intOf]; omega
    · have d1 : decide ((k : Int) < (n : Int)) = false := decide_eq_false (by omega)
      have d2 : decide (k < n) = false := decide_eq_false hlt
      have hkn : k = n := by omega
      go_wp2
      go_ret
      refine ⟨_, rfl, ?_, HM.out, ?_⟩
      · rw [H1.out, hkn, Nat.sub_self, diceB_zero, List.append_nil]; exact HO.out
      · rw [H2.out, hkn, Nat.sub_self, diceX_zero]; exact HBX.out
end Go.Proofs.YtehagnbphamjhaaGreatDoor

namespace Go.Proofs.YtehagnbphamjhaaGreatDoor
open Go.RowKit
/-! ### play: a storm's step -/
theorem infoStepZ (v0 v1 v2 v3 : Value) : (Tryz.prog.info? 62).map (·.size) = some [v0, v1, v2, v3].length := by kernel_rfl
theorem BoxL.range {w : World} {b : Nat} {t : TypeId} {cs : List Value} (h : BoxL w b t cs) : w.rangeAt b 0 cs := fun j v hj => by rw [Nat.zero_add]; exact h.cell hj
theorem OwnB.mutD {G : Nat → Prop} {w w' : World} {base : Nat} {v : Value} {xs : List Nat} (h : OwnB w base v xs) (hm : Mut G w w') (hG : ∀ g, v.ownBlock = some g → ¬ G g) : OwnB w' base v xs := by
  refine ⟨h.1, ?_⟩
  rcases h.2 with hn | ⟨g, cap, cur, rfl, hbb, hgg, rest⟩
  · exact .inl hn
  · exact .inr ⟨g, cap, cur, rfl, hbb, (hm.block g (Array.getElem?_eq_some_iff.1 hgg).1 (hG g rfl)).trans hgg, rest⟩
/-- what a roll of a storm's step leaves -/
def SStepRes (w : World) (b : Nat) (r : StepD × Nat) (e : Ending) (w' : World) : Prop := ∃ a c, e = .returned (.agg #[.int .i64 r.1.kind, .int .i64 r.1.a, .int .i64 r.1.b, .slice a r.1.data.length c]) ∧ OwnB w' w.heap.size (.slice a r.1.data.length c) r.1.data ∧ Mut (fun k => k = b) w w' ∧ BoxL w' b 74 [.int .u64 r.2]
theorem SStepRes.mk0 {w w' : World} {b : Nat} {r : StepD × Nat} {e : Ending} (h : r.1.data = []) (he : e = .returned (.agg #[.int .i64 r.1.kind, .int .i64 r.1.a, .int .i64 r.1.b, .slice none 0 0])) (hm : Mut (fun k => k = b) w w') (hB : BoxL w' b 74 [.int .u64 r.2]) : SStepRes w b r e w' :=
  ⟨none, 0, by rw [h]; exact he, by rw [h]; exact OwnB.nil _ _, hm, hB⟩
theorem SStepRes.mk1 {w w' : World} {b : Nat} {r : StepD × Nat} {e : Ending} {a : Option Addr} {n c : Nat} (hn : r.1.data.length = n) (he : e = .returned (.agg #[.int .i64 r.1.kind, .int .i64 r.1.a, .int .i64 r.1.b, .slice a n c])) (hO : OwnB w' w.heap.size (.slice a n c) r.1.data) (hm : Mut (fun k => k = b) w w') (hB : BoxL w' b 74 [.int .u64 r.2]) : SStepRes w b r e w' := by
  subst hn
  exact ⟨a, c, he, hO, hm, hB⟩
set_option maxRecDepth 100000 in
set_option maxHeartbeats 12800000 in
theorem dstep_any (x : Nat) (hx : x < 18446744073709551616) {w : World} {b : Nat} (hB : BoxL w b 74 [.int .u64 x]) :
    Calls Tryz.prog 29 #[.pointer (some ⟨b, 0, none⟩)] w fun e w' => SStepRes w b (stormS x) e w' := by
  obtain ⟨W1, hW1⟩ : ∃ W1, w.alloc (.cells #[.int .i64 0, .int .i64 0, .int .i64 0, .slice none 0 0] 62) = W1 := ⟨_, rfl⟩
  have hb1 : Below w.heap.size w W1 := by rw [← hW1]; exact (Below.refl _ _).alloc (Nat.le_refl _) _
  have hq1 : BoxL W1 w.heap.size 62 [.int .i64 0, .int .i64 0, .int .i64 0, .slice none 0 0] := by rw [← hW1]; exact BoxL.made _ _ _
  have CR := hid (roll_any x 32 hx (by decide) (by decide) (hB.ext hb1))
  have HBL : Hid (b < w.heap.size) := hid hB.lt
  have HB1 := hid hb1
  have HQ1 := hid hq1
  obtain ⟨rb, hrb⟩ : ∃ z, w.heap.size = z := ⟨_, rfl⟩
  have HRB := hid hrb
  have HW1 := hid hW1
  clear hB hb1 hq1 hrb hW1
  go_enter Tryz.func29, Tryz.ntmps29
  go_upto_region 1 with fail
  try rw [HW1.out]
  try rw [HRB.out]
  rw [HRB.out] at HQ1
  go_wp2_with fail
  refine CR.out.mono ?_
  rintro e w2 ⟨rfl, hm2, hB2⟩
  obtain ⟨y, hy⟩ : ∃ y, rollX x = y := ⟨_, rfl⟩
  have hyl : y < 18446744073709551616 := by rw [← hy]; exact rollX_lt x
  obtain ⟨k, hk⟩ : ∃ k, rollN x 32 = k := ⟨_, rfl⟩
  have hkl : k < 32 := by rw [← hk]; exact rollN_lt x 32 (by decide)
  have HST : Hid (stormS x = stormK k y) := hid (by unfold stormS; rw [hk, hy])
  rw [hy] at hB2
  rw [hk]
  have HB2 := hid hB2
  have HM2 : Hid (Mut (fun q => q = b) w w2) := hid ((Mut.of_below HB1.out).trans hm2)
  have HQ2 := hid (HQ1.out.mut hm2 (fun e => by have := HBL.out; have := HRB.out; omega))
  have HRN : Hid (rb ≠ b ∧ w.heap.size ≤ rb) := hid ⟨fun e => by have := HBL.out; have := HRB.out; omega, by have := HRB.out; omega⟩
  clear CR hm2 hB2 hk hy HB1 HQ1 HW1
  by_cases h10 : k < 10
  · have t10 := (decide_eq_true (by omega) : decide ((k : Int) < 10) = true)
    have C3 := hid (roll_any (y) 64 hyl (by decide) (by decide) HB2.out)
    go_wp2_with fail
    refine C3.out.mono ?_
    rintro e w3 ⟨rfl, hm3, hB3⟩
    have HB3 := hid hB3
    have HM3 : Hid (Mut (fun q => q = b) w w3) := hid (HM2.out.trans hm3)
    have HQ3 := hid (HQ2.out.mut hm3 HRN.out.1)
    clear C3 hm3 hB3
    have r0 := HQ3.out.cell (j := 0) rfl
    have r1 := HQ3.out.cell (j := 1) rfl
    have r2 := HQ3.out.cell (j := 2) rfl
    have r3 := HQ3.out.cell (j := 3) rfl
    have fz := HQ3.out.frozen
    go_wp2_with fail
    obtain ⟨wz, hwz⟩ : ∃ wz, (((w3.setCell ⟨rb, 0, none⟩ (.int .i64 2)).setCell ⟨rb, 1, none⟩ (.int .i64 (rollN (y) 64 : Nat))).setCell ⟨rb, 2, none⟩ (.int .i64 0)).setCell ⟨rb, 3, none⟩ (.slice none 0 0) = wz := ⟨_, rfl⟩
    rw [hwz]
    have hQz : BoxL wz rb 62 [.int .i64 2, .int .i64 (rollN (y) 64 : Nat), .int .i64 0, .slice none 0 0] := by rw [← hwz]; exact (((HQ3.out.set (j := 0) (v := .int .i64 2)).set (j := 1) (v := .int .i64 (rollN (y) 64 : Nat))).set (j := 2) (v := .int .i64 0)).set (j := 3) (v := .slice none 0 0)
    have hmz : Mut (fun q => q = rb) w3 wz := by rw [← hwz]; exact mut_all _ _ _ _ _ _
    refine bodyPost_ret (results_cellQ (b := rb) (o := 0) (cs := [.int .i64 2, .int .i64 (rollN (y) 64 : Nat), .int .i64 0, .slice none 0 0]) rfl _ _ rfl hQz.range Tryz.underlying62 rfl (infoStepZ _ _ _ _)) rfl ?_
    have hst : stormS x = (⟨2, (rollN (y) 64 : Nat), 0, []⟩, rollX (y)) := by rw [HST.out]; unfold stormK; simp [h10]
    rw [hst]
    exact SStepRes.mk0 rfl rfl (HM3.out.transG hmz (fun q hq e => by have := HRN.out.2; omega)) (HB3.out.mut hmz (fun e => HRN.out.1 e.symm))
  by_cases h16 : k < 16
  · have t10 := (decide_eq_false (by omega) : decide ((k : Int) < 10) = false)
    have t16 := (decide_eq_true (by omega) : decide ((k : Int) < 16) = true)
    have C3 := hid (roll_any (y) 8 hyl (by decide) (by decide) HB2.out)
    go_wp2_with fail
    refine C3.out.mono ?_
    rintro e w3 ⟨rfl, hm3, hB3⟩
    have HB3 := hid hB3
    have HM3 : Hid (Mut (fun q => q = b) w w3) := hid (HM2.out.trans hm3)
    have HQ3 := hid (HQ2.out.mut hm3 HRN.out.1)
    clear C3 hm3 hB3
    have r0 := HQ3.out.cell (j := 0) rfl
    have r1 := HQ3.out.cell (j := 1) rfl
    have r2 := HQ3.out.cell (j := 2) rfl
    have r3 := HQ3.out.cell (j := 3) rfl
    have fz := HQ3.out.frozen
    go_wp2_with fail
    obtain ⟨wz, hwz⟩ : ∃ wz, (((w3.setCell ⟨rb, 0, none⟩ (.int .i64 1)).setCell ⟨rb, 1, none⟩ (.int .i64 (rollN (y) 8 : Nat))).setCell ⟨rb, 2, none⟩ (.int .i64 0)).setCell ⟨rb, 3, none⟩ (.slice none 0 0) = wz := ⟨_, rfl⟩
    rw [hwz]
    have hQz : BoxL wz rb 62 [.int .i64 1, .int .i64 (rollN (y) 8 : Nat), .int .i64 0, .slice none 0 0] := by rw [← hwz]; exact (((HQ3.out.set (j := 0) (v := .int .i64 1)).set (j := 1) (v := .int .i64 (rollN (y) 8 : Nat))).set (j := 2) (v := .int .i64 0)).set (j := 3) (v := .slice none 0 0)
    have hmz : Mut (fun q => q = rb) w3 wz := by rw [← hwz]; exact mut_all _ _ _ _ _ _
    refine bodyPost_ret (results_cellQ (b := rb) (o := 0) (cs := [.int .i64 1, .int .i64 (rollN (y) 8 : Nat), .int .i64 0, .slice none 0 0]) rfl _ _ rfl hQz.range Tryz.underlying62 rfl (infoStepZ _ _ _ _)) rfl ?_
    have hst : stormS x = (⟨1, (rollN (y) 8 : Nat), 0, []⟩, rollX (y)) := by rw [HST.out]; unfold stormK; simp [h10, h16]
    rw [hst]
    exact SStepRes.mk0 rfl rfl (HM3.out.transG hmz (fun q hq e => by have := HRN.out.2; omega)) (HB3.out.mut hmz (fun e => HRN.out.1 e.symm))
  by_cases h21 : k < 21
  · have t10 := (decide_eq_false (by omega) : decide ((k : Int) < 10) = false)
    have t16 := (decide_eq_false (by omega) : decide ((k : Int) < 16) = false)
    have t21 := (decide_eq_true (by omega) : decide ((k : Int) < 21) = true)
    have C3 := hid (roll_any (y) 8 hyl (by decide) (by decide) HB2.out)
    go_wp2_with fail
    refine C3.out.mono ?_
    rintro e w3 ⟨rfl, hm3, hB3⟩
    have HB3 := hid hB3
    have HM3 : Hid (Mut (fun q => q = b) w w3) := hid (HM2.out.trans hm3)
    have HQ3 := hid (HQ2.out.mut hm3 HRN.out.1)
    clear C3 hm3 hB3
    obtain ⟨w4, hw4⟩ : ∃ z, w3.alloc (.cells #[.int .i64 9, .int .i64 (rollN (y) 8 : Nat), .int .i64 0, .slice none 0 0] 62) = z := ⟨_, rfl⟩
    have hb4 : Below w3.heap.size w3 w4 := by rw [← hw4]; exact (Below.refl _ _).alloc (Nat.le_refl _) _
    have hl4 : BoxL w4 w3.heap.size 62 [.int .i64 9, .int .i64 (rollN (y) 8 : Nat), .int .i64 0, .slice none 0 0] := by rw [← hw4]; exact BoxL.made _ _ _
    obtain ⟨sb, hsb⟩ : ∃ z, w3.heap.size = z := ⟨_, rfl⟩
    rw [hsb] at hl4
    have HL4 := hid hl4
    have HLN : Hid (sb ≠ b ∧ sb ≠ rb ∧ w.heap.size ≤ sb) := hid (by
      have h1 := HBL.out; have h2 := HM3.out.size; have h3 := HQ3.out.lt
      exact ⟨fun e => by omega, fun e => by omega, by omega⟩)
    have HB4 := hid (HB3.out.ext hb4)
    have HM4 : Hid (Mut (fun q => q = b) w w4) := hid (HM3.out.trans (Mut.of_below hb4))
    have HQ4 := hid (HQ3.out.ext hb4)
    have HWE := hid hw4
    have HSE := hid hsb
    clear hw4 hsb hb4 hl4
    go_upto_region 8 with fail
    try rw [HWE.out]
    try rw [HSE.out]
    clear HWE HSE
    have C5 := hid (roll_any (rollX (y)) 4 (rollX_lt _) (by decide) (by decide) HB4.out)
    go_wp2_with fail
    refine C5.out.mono ?_
    rintro e w5 ⟨rfl, hm5, hB5⟩
    have HB5 := hid hB5
    have HM5 : Hid (Mut (fun q => q = b) w w5) := hid (HM4.out.trans hm5)
    have HQ5 := hid (HQ4.out.mut hm5 HRN.out.1)
    have HL5 := hid (HL4.out.mut hm5 HLN.out.1)
    clear C5 hm5 hB5
    have C6 := hid (dbytes_any (rollN (rollX (y)) 4) (rollX (rollX (y))) (rollX_lt _) (Nat.le_of_lt (Nat.lt_of_lt_of_le (rollN_lt _ _ (by decide)) (by decide))) HB5.out)
    go_wp2_with fail
    refine C6.out.mono ?_
    rintro e w6 ⟨v6, rfl, hO6, hm6, hB6⟩
    obtain ⟨da, dc, hde, -, -⟩ := id hO6.row
    obtain ⟨dl, hdl⟩ : ∃ z, diceB (rollN (rollX (y)) 4) (rollX (rollX (y))) = z := ⟨_, rfl⟩
    rw [hdl] at hO6 hde
    obtain ⟨dn, hdn⟩ : ∃ z, dl.length = z := ⟨_, rfl⟩
    rw [hdn] at hde
    subst hde
    have HDL := hid hdl
    have HDN := hid hdn
    have HO6 := hid hO6
    have HOS : Hid (∀ g, (Value.slice da dn dc).ownBlock = some g → g ≠ sb ∧ g ≠ rb) := hid fun g e => by
      have h1 := (hO6.blkD e).1; have h2 := HL5.out.lt; have h3 := HQ5.out.lt
      exact ⟨fun e => by omega, fun e => by omega⟩
    have HB6 := hid hB6
    have HM6 : Hid (Mut (fun q => q = b) w w6) := hid (HM5.out.trans hm6)
    have HQ6 := hid (HQ5.out.mut hm6 HRN.out.1)
    have HL6 := hid (HL5.out.mut hm6 HLN.out.1)
    have HWS : Hid (w.heap.size ≤ w5.heap.size) := hid HM5.out.size
    clear C6 hm6 hB6 hO6 hdl hdn
    have lz7 := HL6.out.cell (j := 3) rfl
    have fz7 := HL6.out.frozen
    go_upto_region 9 with fail
    obtain ⟨w7, hw7⟩ : ∃ z, w6.setCell ⟨sb, 3, none⟩ (.slice da dn dc) = z := ⟨_, rfl⟩
    rw [hw7]
    have hm7 : Mut (fun q => q = sb) w6 w7 := by rw [← hw7]; exact mut1
    have hl7 := HL6.out.set (j := 3) (v := .slice da dn dc)
    rw [hw7] at hl7
    have HL7 := hid hl7
    have HB7 := hid (HB6.out.mut hm7 (fun e => HLN.out.1 e.symm))
    have HM7 : Hid (Mut (fun q => q = b) w w7) := hid (HM6.out.transG hm7 (fun q hq e => by have := HLN.out.2.2; omega))
    have HQ7 := hid (HQ6.out.mut hm7 (fun e => HLN.out.2.1 e.symm))
    have HO7 := hid (OwnB.mutD HO6.out hm7 (fun g e1 e2 => (HOS.out g e1).1 e2))
    clear hw7 hm7 hl7 lz7 fz7
    have r0 := HQ7.out.cell (j := 0) rfl
    have r1 := HQ7.out.cell (j := 1) rfl
    have r2 := HQ7.out.cell (j := 2) rfl
    have r3 := HQ7.out.cell (j := 3) rfl
    have l0 := HL7.out.cell (j := 0) rfl
    have l1 := HL7.out.cell (j := 1) rfl
    have l2 := HL7.out.cell (j := 2) rfl
    have l3 := HL7.out.cell (j := 3) rfl
    have fz := HQ7.out.frozen
    go_wp2_with fail
    obtain ⟨wz, hwz⟩ : ∃ wz, (((w7.setCell ⟨rb, 0, none⟩ (.int .i64 9)).setCell ⟨rb, 1, none⟩ (.int .i64 (rollN (y) 8 : Nat))).setCell ⟨rb, 2, none⟩ (.int .i64 0)).setCell ⟨rb, 3, none⟩ (.slice da dn dc) = wz := ⟨_, rfl⟩
    rw [hwz]
    have hQz : BoxL wz rb 62 [.int .i64 9, .int .i64 (rollN (y) 8 : Nat), .int .i64 0, .slice da dn dc] := by rw [← hwz]; exact (((HQ7.out.set (j := 0) (v := .int .i64 9)).set (j := 1) (v := .int .i64 (rollN (y) 8 : Nat))).set (j := 2) (v := .int .i64 0)).set (j := 3) (v := .slice da dn dc)
    have hmz : Mut (fun q => q = rb) w7 wz := by rw [← hwz]; exact mut_all _ _ _ _ _ _
    refine bodyPost_ret (results_cellQ (b := rb) (o := 0) (cs := [.int .i64 9, .int .i64 (rollN (y) 8 : Nat), .int .i64 0, .slice da dn dc]) rfl _ _ rfl hQz.range Tryz.underlying62 rfl (infoStepZ _ _ _ _)) rfl ?_
    have hst : stormS x = (⟨9, (rollN (y) 8 : Nat), 0, dl⟩, diceX (rollN (rollX (y)) 4) (rollX (rollX (y)))) := by rw [HST.out, ← HDL.out]; unfold stormK; simp [h10, h16, h21]
    rw [hst]
    exact SStepRes.mk1 HDN.out rfl ((OwnB.mutD HO7.out hmz (fun g e1 e2 => (HOS.out g e1).2 e2)).mono HWS.out) (HM7.out.transG hmz (fun q hq e => by have := HRN.out.2; omega)) (HB7.out.mut hmz (fun e => HRN.out.1 e.symm))
  have hk : k = 21 ∨ k = 22 ∨ k = 23 ∨ k = 24 ∨ k = 25 ∨ k = 26 ∨ k = 27 ∨ k = 28 ∨ k = 29 ∨ k = 30 ∨ k = 31 := by omega
  clear hkl h10 h16 h21
  rcases hk with rfl | rfl | rfl | rfl | rfl | rfl | rfl | rfl | rfl | rfl | rfl
  · have C3 := hid (roll_any (y) 64 hyl (by decide) (by decide) HB2.out)
    go_wp2_with fail
    refine C3.out.mono ?_
    rintro e w3 ⟨rfl, hm3, hB3⟩
    have HB3 := hid hB3
    have HM3 : Hid (Mut (fun q => q = b) w w3) := hid (HM2.out.trans hm3)
    have HQ3 := hid (HQ2.out.mut hm3 HRN.out.1)
    clear C3 hm3 hB3
    have r0 := HQ3.out.cell (j := 0) rfl
    have r1 := HQ3.out.cell (j := 1) rfl
    have r2 := HQ3.out.cell (j := 2) rfl
    have r3 := HQ3.out.cell (j := 3) rfl
    have fz := HQ3.out.frozen
    go_wp2_with fail
    obtain ⟨wz, hwz⟩ : ∃ wz, (((w3.setCell ⟨rb, 0, none⟩ (.int .i64 3)).setCell ⟨rb, 1, none⟩ (.int .i64 (rollN (y) 64 : Nat))).setCell ⟨rb, 2, none⟩ (.int .i64 0)).setCell ⟨rb, 3, none⟩ (.slice none 0 0) = wz := ⟨_, rfl⟩
    rw [hwz]
    have hQz : BoxL wz rb 62 [.int .i64 3, .int .i64 (rollN (y) 64 : Nat), .int .i64 0, .slice none 0 0] := by rw [← hwz]; exact (((HQ3.out.set (j := 0) (v := .int .i64 3)).set (j := 1) (v := .int .i64 (rollN (y) 64 : Nat))).set (j := 2) (v := .int .i64 0)).set (j := 3) (v := .slice none 0 0)
    have hmz : Mut (fun q => q = rb) w3 wz := by rw [← hwz]; exact mut_all _ _ _ _ _ _
    refine bodyPost_ret (results_cellQ (b := rb) (o := 0) (cs := [.int .i64 3, .int .i64 (rollN (y) 64 : Nat), .int .i64 0, .slice none 0 0]) rfl _ _ rfl hQz.range Tryz.underlying62 rfl (infoStepZ _ _ _ _)) rfl ?_
    have hst : stormS x = (⟨3, (rollN (y) 64 : Nat), 0, []⟩, rollX (y)) := by rw [HST.out]; unfold stormK; simp
    rw [hst]
    exact SStepRes.mk0 rfl rfl (HM3.out.transG hmz (fun q hq e => by have := HRN.out.2; omega)) (HB3.out.mut hmz (fun e => HRN.out.1 e.symm))
  · have C3 := hid (roll_any (y) 64 hyl (by decide) (by decide) HB2.out)
    go_wp2_with fail
    refine C3.out.mono ?_
    rintro e w3 ⟨rfl, hm3, hB3⟩
    have HB3 := hid hB3
    have HM3 : Hid (Mut (fun q => q = b) w w3) := hid (HM2.out.trans hm3)
    have HQ3 := hid (HQ2.out.mut hm3 HRN.out.1)
    clear C3 hm3 hB3
    have r0 := HQ3.out.cell (j := 0) rfl
    have r1 := HQ3.out.cell (j := 1) rfl
    have r2 := HQ3.out.cell (j := 2) rfl
    have r3 := HQ3.out.cell (j := 3) rfl
    have fz := HQ3.out.frozen
    go_wp2_with fail
    obtain ⟨wz, hwz⟩ : ∃ wz, (((w3.setCell ⟨rb, 0, none⟩ (.int .i64 4)).setCell ⟨rb, 1, none⟩ (.int .i64 (rollN (y) 64 : Nat))).setCell ⟨rb, 2, none⟩ (.int .i64 0)).setCell ⟨rb, 3, none⟩ (.slice none 0 0) = wz := ⟨_, rfl⟩
    rw [hwz]
    have hQz : BoxL wz rb 62 [.int .i64 4, .int .i64 (rollN (y) 64 : Nat), .int .i64 0, .slice none 0 0] := by rw [← hwz]; exact (((HQ3.out.set (j := 0) (v := .int .i64 4)).set (j := 1) (v := .int .i64 (rollN (y) 64 : Nat))).set (j := 2) (v := .int .i64 0)).set (j := 3) (v := .slice none 0 0)
    have hmz : Mut (fun q => q = rb) w3 wz := by rw [← hwz]; exact mut_all _ _ _ _ _ _
    refine bodyPost_ret (results_cellQ (b := rb) (o := 0) (cs := [.int .i64 4, .int .i64 (rollN (y) 64 : Nat), .int .i64 0, .slice none 0 0]) rfl _ _ rfl hQz.range Tryz.underlying62 rfl (infoStepZ _ _ _ _)) rfl ?_
    have hst : stormS x = (⟨4, (rollN (y) 64 : Nat), 0, []⟩, rollX (y)) := by rw [HST.out]; unfold stormK; simp
    rw [hst]
    exact SStepRes.mk0 rfl rfl (HM3.out.transG hmz (fun q hq e => by have := HRN.out.2; omega)) (HB3.out.mut hmz (fun e => HRN.out.1 e.symm))
  · have C3 := hid (roll_any (y) 64 hyl (by decide) (by decide) HB2.out)
    go_wp2_with fail
    refine C3.out.mono ?_
    rintro e w3 ⟨rfl, hm3, hB3⟩
    have HB3 := hid hB3
    have HM3 : Hid (Mut (fun q => q = b) w w3) := hid (HM2.out.trans hm3)
    have HQ3 := hid (HQ2.out.mut hm3 HRN.out.1)
    clear C3 hm3 hB3
    obtain ⟨w4, hw4⟩ : ∃ z, w3.alloc (.cells #[.int .i64 5, .int .i64 (rollN (y) 64 : Nat), .int .i64 0, .slice none 0 0] 62) = z := ⟨_, rfl⟩
    have hb4 : Below w3.heap.size w3 w4 := by rw [← hw4]; exact (Below.refl _ _).alloc (Nat.le_refl _) _
    have hl4 : BoxL w4 w3.heap.size 62 [.int .i64 5, .int .i64 (rollN (y) 64 : Nat), .int .i64 0, .slice none 0 0] := by rw [← hw4]; exact BoxL.made _ _ _
    obtain ⟨sb, hsb⟩ : ∃ z, w3.heap.size = z := ⟨_, rfl⟩
    rw [hsb] at hl4
    have HL4 := hid hl4
    have HLN : Hid (sb ≠ b ∧ sb ≠ rb ∧ w.heap.size ≤ sb) := hid (by
      have h1 := HBL.out; have h2 := HM3.out.size; have h3 := HQ3.out.lt
      exact ⟨fun e => by omega, fun e => by omega, by omega⟩)
    have HB4 := hid (HB3.out.ext hb4)
    have HM4 : Hid (Mut (fun q => q = b) w w4) := hid (HM3.out.trans (Mut.of_below hb4))
    have HQ4 := hid (HQ3.out.ext hb4)
    have HWE := hid hw4
    have HSE := hid hsb
    clear hw4 hsb hb4 hl4
    go_upto_region 14 with fail
    try rw [HWE.out]
    try rw [HSE.out]
    clear HWE HSE
    have C5 := hid (roll_any (rollX (y)) 64 (rollX_lt _) (by decide) (by decide) HB4.out)
    go_wp2_with fail
    refine C5.out.mono ?_
    rintro e w5 ⟨rfl, hm5, hB5⟩
    have HB5 := hid hB5
    have HM5 : Hid (Mut (fun q => q = b) w w5) := hid (HM4.out.trans hm5)
    have HQ5 := hid (HQ4.out.mut hm5 HRN.out.1)
    have HL5 := hid (HL4.out.mut hm5 HLN.out.1)
    clear C5 hm5 hB5
    have lz6 := HL5.out.cell (j := 2) rfl
    have fz6 := HL5.out.frozen
    go_upto_region 15 with fail
    obtain ⟨w6, hw6⟩ : ∃ z, w5.setCell ⟨sb, 2, none⟩ (.int .i64 (rollN (rollX (y)) 64 : Nat)) = z := ⟨_, rfl⟩
    rw [hw6]
    have hm6 : Mut (fun q => q = sb) w5 w6 := by rw [← hw6]; exact mut1
    have hl6 := HL5.out.set (j := 2) (v := .int .i64 (rollN (rollX (y)) 64 : Nat))
    rw [hw6] at hl6
    have HL6 := hid hl6
    have HB6 := hid (HB5.out.mut hm6 (fun e => HLN.out.1 e.symm))
    have HM6 : Hid (Mut (fun q => q = b) w w6) := hid (HM5.out.transG hm6 (fun q hq e => by have := HLN.out.2.2; omega))
    have HQ6 := hid (HQ5.out.mut hm6 (fun e => HLN.out.2.1 e.symm))
    clear hw6 hm6 hl6 lz6 fz6
    have C7 := hid (roll_any (rollX (rollX (y))) 2 (rollX_lt _) (by decide) (by decide) HB6.out)
    go_wp2_with fail
    refine C7.out.mono ?_
    rintro e w7 ⟨rfl, hm7, hB7⟩
    have HB7 := hid hB7
    have HM7 : Hid (Mut (fun q => q = b) w w7) := hid (HM6.out.trans hm7)
    have HQ7 := hid (HQ6.out.mut hm7 HRN.out.1)
    have HL7 := hid (HL6.out.mut hm7 HLN.out.1)
    clear C7 hm7 hB7
    have C8 := hid (dbytes_any (rollN (rollX (rollX (y))) 2) (rollX (rollX (rollX (y)))) (rollX_lt _) (Nat.le_of_lt (Nat.lt_of_lt_of_le (rollN_lt _ _ (by decide)) (by decide))) HB7.out)
    go_wp2_with fail
    refine C8.out.mono ?_
    rintro e w8 ⟨v8, rfl, hO8, hm8, hB8⟩
    obtain ⟨da, dc, hde, -, -⟩ := id hO8.row
    obtain ⟨dl, hdl⟩ : ∃ z, diceB (rollN (rollX (rollX (y))) 2) (rollX (rollX (rollX (y)))) = z := ⟨_, rfl⟩
    rw [hdl] at hO8 hde
    obtain ⟨dn, hdn⟩ : ∃ z, dl.length = z := ⟨_, rfl⟩
    rw [hdn] at hde
    subst hde
    have HDL := hid hdl
    have HDN := hid hdn
    have HO8 := hid hO8
    have HOS : Hid (∀ g, (Value.slice da dn dc).ownBlock = some g → g ≠ sb ∧ g ≠ rb) := hid fun g e => by
      have h1 := (hO8.blkD e).1; have h2 := HL7.out.lt; have h3 := HQ7.out.lt
      exact ⟨fun e => by omega, fun e => by omega⟩
    have HB8 := hid hB8
    have HM8 : Hid (Mut (fun q => q = b) w w8) := hid (HM7.out.trans hm8)
    have HQ8 := hid (HQ7.out.mut hm8 HRN.out.1)
    have HL8 := hid (HL7.out.mut hm8 HLN.out.1)
    have HWS : Hid (w.heap.size ≤ w7.heap.size) := hid HM7.out.size
    clear C8 hm8 hB8 hO8 hdl hdn
    have lz9 := HL8.out.cell (j := 3) rfl
    have fz9 := HL8.out.frozen
    go_upto_region 16 with fail
    obtain ⟨w9, hw9⟩ : ∃ z, w8.setCell ⟨sb, 3, none⟩ (.slice da dn dc) = z := ⟨_, rfl⟩
    rw [hw9]
    have hm9 : Mut (fun q => q = sb) w8 w9 := by rw [← hw9]; exact mut1
    have hl9 := HL8.out.set (j := 3) (v := .slice da dn dc)
    rw [hw9] at hl9
    have HL9 := hid hl9
    have HB9 := hid (HB8.out.mut hm9 (fun e => HLN.out.1 e.symm))
    have HM9 : Hid (Mut (fun q => q = b) w w9) := hid (HM8.out.transG hm9 (fun q hq e => by have := HLN.out.2.2; omega))
    have HQ9 := hid (HQ8.out.mut hm9 (fun e => HLN.out.2.1 e.symm))
    have HO9 := hid (OwnB.mutD HO8.out hm9 (fun g e1 e2 => (HOS.out g e1).1 e2))
    clear hw9 hm9 hl9 lz9 fz9
    have r0 := HQ9.out.cell (j := 0) rfl
    have r1 := HQ9.out.cell (j := 1) rfl
    have r2 := HQ9.out.cell (j := 2) rfl
    have r3 := HQ9.out.cell (j := 3) rfl
    have l0 := HL9.out.cell (j := 0) rfl
    have l1 := HL9.out.cell (j := 1) rfl
    have l2 := HL9.out.cell (j := 2) rfl
    have l3 := HL9.out.cell (j := 3) rfl
    have fz := HQ9.out.frozen
    go_wp2_with fail
    obtain ⟨wz, hwz⟩ : ∃ wz, (((w9.setCell ⟨rb, 0, none⟩ (.int .i64 5)).setCell ⟨rb, 1, none⟩ (.int .i64 (rollN (y) 64 : Nat))).setCell ⟨rb, 2, none⟩ (.int .i64 (rollN (rollX (y)) 64 : Nat))).setCell ⟨rb, 3, none⟩ (.slice da dn dc) = wz := ⟨_, rfl⟩
    rw [hwz]
    have hQz : BoxL wz rb 62 [.int .i64 5, .int .i64 (rollN (y) 64 : Nat), .int .i64 (rollN (rollX (y)) 64 : Nat), .slice da dn dc] := by rw [← hwz]; exact (((HQ9.out.set (j := 0) (v := .int .i64 5)).set (j := 1) (v := .int .i64 (rollN (y) 64 : Nat))).set (j := 2) (v := .int .i64 (rollN (rollX (y)) 64 : Nat))).set (j := 3) (v := .slice da dn dc)
    have hmz : Mut (fun q => q = rb) w9 wz := by rw [← hwz]; exact mut_all _ _ _ _ _ _
    refine bodyPost_ret (results_cellQ (b := rb) (o := 0) (cs := [.int .i64 5, .int .i64 (rollN (y) 64 : Nat), .int .i64 (rollN (rollX (y)) 64 : Nat), .slice da dn dc]) rfl _ _ rfl hQz.range Tryz.underlying62 rfl (infoStepZ _ _ _ _)) rfl ?_
    have hst : stormS x = (⟨5, (rollN (y) 64 : Nat), (rollN (rollX (y)) 64 : Nat), dl⟩, diceX (rollN (rollX (rollX (y))) 2) (rollX (rollX (rollX (y))))) := by rw [HST.out, ← HDL.out]; unfold stormK; simp
    rw [hst]
    exact SStepRes.mk1 HDN.out rfl ((OwnB.mutD HO9.out hmz (fun g e1 e2 => (HOS.out g e1).2 e2)).mono HWS.out) (HM9.out.transG hmz (fun q hq e => by have := HRN.out.2; omega)) (HB9.out.mut hmz (fun e => HRN.out.1 e.symm))
  · have C3 := hid (roll_any (y) 8 hyl (by decide) (by decide) HB2.out)
    go_wp2_with fail
    refine C3.out.mono ?_
    rintro e w3 ⟨rfl, hm3, hB3⟩
    have HB3 := hid hB3
    have HM3 : Hid (Mut (fun q => q = b) w w3) := hid (HM2.out.trans hm3)
    have HQ3 := hid (HQ2.out.mut hm3 HRN.out.1)
    clear C3 hm3 hB3
    have r0 := HQ3.out.cell (j := 0) rfl
    have r1 := HQ3.out.cell (j := 1) rfl
    have r2 := HQ3.out.cell (j := 2) rfl
    have r3 := HQ3.out.cell (j := 3) rfl
    have fz := HQ3.out.frozen
    go_wp2_with fail
    obtain ⟨wz, hwz⟩ : ∃ wz, (((w3.setCell ⟨rb, 0, none⟩ (.int .i64 6)).setCell ⟨rb, 1, none⟩ (.int .i64 (rollN (y) 8 : Nat))).setCell ⟨rb, 2, none⟩ (.int .i64 0)).setCell ⟨rb, 3, none⟩ (.slice none 0 0) = wz := ⟨_, rfl⟩
    rw [hwz]
    have hQz : BoxL wz rb 62 [.int .i64 6, .int .i64 (rollN (y) 8 : Nat), .int .i64 0, .slice none 0 0] := by rw [← hwz]; exact (((HQ3.out.set (j := 0) (v := .int .i64 6)).set (j := 1) (v := .int .i64 (rollN (y) 8 : Nat))).set (j := 2) (v := .int .i64 0)).set (j := 3) (v := .slice none 0 0)
    have hmz : Mut (fun q => q = rb) w3 wz := by rw [← hwz]; exact mut_all _ _ _ _ _ _
    refine bodyPost_ret (results_cellQ (b := rb) (o := 0) (cs := [.int .i64 6, .int .i64 (rollN (y) 8 : Nat), .int .i64 0, .slice none 0 0]) rfl _ _ rfl hQz.range Tryz.underlying62 rfl (infoStepZ _ _ _ _)) rfl ?_
    have hst : stormS x = (⟨6, (rollN (y) 8 : Nat), 0, []⟩, rollX (y)) := by rw [HST.out]; unfold stormK; simp
    rw [hst]
    exact SStepRes.mk0 rfl rfl (HM3.out.transG hmz (fun q hq e => by have := HRN.out.2; omega)) (HB3.out.mut hmz (fun e => HRN.out.1 e.symm))
  · have C3 := hid (roll_any (y) 8 hyl (by decide) (by decide) HB2.out)
    go_wp2_with fail
    refine C3.out.mono ?_
    rintro e w3 ⟨rfl, hm3, hB3⟩
    have HB3 := hid hB3
    have HM3 : Hid (Mut (fun q => q = b) w w3) := hid (HM2.out.trans hm3)
    have HQ3 := hid (HQ2.out.mut hm3 HRN.out.1)
    clear C3 hm3 hB3
    have r0 := HQ3.out.cell (j := 0) rfl
    have r1 := HQ3.out.cell (j := 1) rfl
    have r2 := HQ3.out.cell (j := 2) rfl
    have r3 := HQ3.out.cell (j := 3) rfl
    have fz := HQ3.out.frozen
    go_wp2_with fail
    obtain ⟨wz, hwz⟩ : ∃ wz, (((w3.setCell ⟨rb, 0, none⟩ (.int .i64 7)).setCell ⟨rb, 1, none⟩ (.int .i64 (rollN (y) 8 : Nat))).setCell ⟨rb, 2, none⟩ (.int .i64 0)).setCell ⟨rb, 3, none⟩ (.slice none 0 0) = wz := ⟨_, rfl⟩
    rw [hwz]
    have hQz : BoxL wz rb 62 [.int .i64 7, .int .i64 (rollN (y) 8 : Nat), .int .i64 0, .slice none 0 0] := by rw [← hwz]; exact (((HQ3.out.set (j := 0) (v := .int .i64 7)).set (j := 1) (v := .int .i64 (rollN (y) 8 : Nat))).set (j := 2) (v := .int .i64 0)).set (j := 3) (v := .slice none 0 0)
    have hmz : Mut (fun q => q = rb) w3 wz := by rw [← hwz]; exact mut_all _ _ _ _ _ _
    refine bodyPost_ret (results_cellQ (b := rb) (o := 0) (cs := [.int .i64 7, .int .i64 (rollN (y) 8 : Nat), .int .i64 0, .slice none 0 0]) rfl _ _ rfl hQz.range Tryz.underlying62 rfl (infoStepZ _ _ _ _)) rfl ?_
    have hst : stormS x = (⟨7, (rollN (y) 8 : Nat), 0, []⟩, rollX (y)) := by rw [HST.out]; unfold stormK; simp
    rw [hst]
    exact SStepRes.mk0 rfl rfl (HM3.out.transG hmz (fun q hq e => by have := HRN.out.2; omega)) (HB3.out.mut hmz (fun e => HRN.out.1 e.symm))
  · have C3 := hid (roll_any (y) 8 hyl (by decide) (by decide) HB2.out)
    go_wp2_with fail
    refine C3.out.mono ?_
    rintro e w3 ⟨rfl, hm3, hB3⟩
    have HB3 := hid hB3
    have HM3 : Hid (Mut (fun q => q = b) w w3) := hid (HM2.out.trans hm3)
    have HQ3 := hid (HQ2.out.mut hm3 HRN.out.1)
    clear C3 hm3 hB3
    have r0 := HQ3.out.cell (j := 0) rfl
    have r1 := HQ3.out.cell (j := 1) rfl
    have r2 := HQ3.out.cell (j := 2) rfl
    have r3 := HQ3.out.cell (j := 3) rfl
    have fz := HQ3.out.frozen
    go_wp2_with fail
    obtain ⟨wz, hwz⟩ : ∃ wz, (((w3.setCell ⟨rb, 0, none⟩ (.int .i64 7)).setCell ⟨rb, 1, none⟩ (.int .i64 (rollN (y) 8 : Nat))).setCell ⟨rb, 2, none⟩ (.int .i64 0)).setCell ⟨rb, 3, none⟩ (.slice none 0 0) = wz := ⟨_, rfl⟩
    rw [hwz]
    have hQz : BoxL wz rb 62 [.int .i64 7, .int .i64 (rollN (y) 8 : Nat), .int .i64 0, .slice none 0 0] := by rw [← hwz]; exact (((HQ3.out.set (j := 0) (v := .int .i64 7)).set (j := 1) (v := .int .i64 (rollN (y) 8 : Nat))).set (j := 2) (v := .int .i64 0)).set (j := 3) (v := .slice none 0 0)
    have hmz : Mut (fun q => q = rb) w3 wz := by rw [← hwz]; exact mut_all _ _ _ _ _ _
    refine bodyPost_ret (results_cellQ (b := rb) (o := 0) (cs := [.int .i64 7, .int .i64 (rollN (y) 8 : Nat), .int .i64 0, .slice none 0 0]) rfl _ _ rfl hQz.range Tryz.underlying62 rfl (infoStepZ _ _ _ _)) rfl ?_
    have hst : stormS x = (⟨7, (rollN (y) 8 : Nat), 0, []⟩, rollX (y)) := by rw [HST.out]; unfold stormK; simp
    rw [hst]
    exact SStepRes.mk0 rfl rfl (HM3.out.transG hmz (fun q hq e => by have := HRN.out.2; omega)) (HB3.out.mut hmz (fun e => HRN.out.1 e.symm))
  · have C3 := hid (roll_any (y) 8 hyl (by decide) (by decide) HB2.out)
    go_wp2_with fail
    refine C3.out.mono ?_
    rintro e w3 ⟨rfl, hm3, hB3⟩
    have HB3 := hid hB3
    have HM3 : Hid (Mut (fun q => q = b) w w3) := hid (HM2.out.trans hm3)
    have HQ3 := hid (HQ2.out.mut hm3 HRN.out.1)
    clear C3 hm3 hB3
    have r0 := HQ3.out.cell (j := 0) rfl
    have r1 := HQ3.out.cell (j := 1) rfl
    have r2 := HQ3.out.cell (j := 2) rfl
    have r3 := HQ3.out.cell (j := 3) rfl
    have fz := HQ3.out.frozen
    go_wp2_with fail
    obtain ⟨wz, hwz⟩ : ∃ wz, (((w3.setCell ⟨rb, 0, none⟩ (.int .i64 8)).setCell ⟨rb, 1, none⟩ (.int .i64 (rollN (y) 8 : Nat))).setCell ⟨rb, 2, none⟩ (.int .i64 0)).setCell ⟨rb, 3, none⟩ (.slice none 0 0) = wz := ⟨_, rfl⟩
    rw [hwz]
    have hQz : BoxL wz rb 62 [.int .i64 8, .int .i64 (rollN (y) 8 : Nat), .int .i64 0, .slice none 0 0] := by rw [← hwz]; exact (((HQ3.out.set (j := 0) (v := .int .i64 8)).set (j := 1) (v := .int .i64 (rollN (y) 8 : Nat))).set (j := 2) (v := .int .i64 0)).set (j := 3) (v := .slice none 0 0)
    have hmz : Mut (fun q => q = rb) w3 wz := by rw [← hwz]; exact mut_all _ _ _ _ _ _
    refine bodyPost_ret (results_cellQ (b := rb) (o := 0) (cs := [.int .i64 8, .int .i64 (rollN (y) 8 : Nat), .int .i64 0, .slice none 0 0]) rfl _ _ rfl hQz.range Tryz.underlying62 rfl (infoStepZ _ _ _ _)) rfl ?_
    have hst : stormS x = (⟨8, (rollN (y) 8 : Nat), 0, []⟩, rollX (y)) := by rw [HST.out]; unfold stormK; simp
    rw [hst]
    exact SStepRes.mk0 rfl rfl (HM3.out.transG hmz (fun q hq e => by have := HRN.out.2; omega)) (HB3.out.mut hmz (fun e => HRN.out.1 e.symm))
  · have C3 := hid (roll_any (y) 8 hyl (by decide) (by decide) HB2.out)
    go_wp2_with fail
    refine C3.out.mono ?_
    rintro e w3 ⟨rfl, hm3, hB3⟩
    have HB3 := hid hB3
    have HM3 : Hid (Mut (fun q => q = b) w w3) := hid (HM2.out.trans hm3)
    have HQ3 := hid (HQ2.out.mut hm3 HRN.out.1)
    clear C3 hm3 hB3
    obtain ⟨w4, hw4⟩ : ∃ z, w3.alloc (.cells #[.int .i64 11, .int .i64 (rollN (y) 8 : Nat), .int .i64 0, .slice none 0 0] 62) = z := ⟨_, rfl⟩
    have hb4 : Below w3.heap.size w3 w4 := by rw [← hw4]; exact (Below.refl _ _).alloc (Nat.le_refl _) _
    have hl4 : BoxL w4 w3.heap.size 62 [.int .i64 11, .int .i64 (rollN (y) 8 : Nat), .int .i64 0, .slice none 0 0] := by rw [← hw4]; exact BoxL.made _ _ _
    obtain ⟨sb, hsb⟩ : ∃ z, w3.heap.size = z := ⟨_, rfl⟩
    rw [hsb] at hl4
    have HL4 := hid hl4
    have HLN : Hid (sb ≠ b ∧ sb ≠ rb ∧ w.heap.size ≤ sb) := hid (by
      have h1 := HBL.out; have h2 := HM3.out.size; have h3 := HQ3.out.lt
      exact ⟨fun e => by omega, fun e => by omega, by omega⟩)
    have HB4 := hid (HB3.out.ext hb4)
    have HM4 : Hid (Mut (fun q => q = b) w w4) := hid (HM3.out.trans (Mut.of_below hb4))
    have HQ4 := hid (HQ3.out.ext hb4)
    have HWE := hid hw4
    have HSE := hid hsb
    clear hw4 hsb hb4 hl4
    go_upto_region 25 with fail
    try rw [HWE.out]
    try rw [HSE.out]
    clear HWE HSE
    have C5 := hid (roll_any (rollX (y)) 4 (rollX_lt _) (by decide) (by decide) HB4.out)
    go_wp2_with fail
    refine C5.out.mono ?_
    rintro e w5 ⟨rfl, hm5, hB5⟩
    have HB5 := hid hB5
    have HM5 : Hid (Mut (fun q => q = b) w w5) := hid (HM4.out.trans hm5)
    have HQ5 := hid (HQ4.out.mut hm5 HRN.out.1)
    have HL5 := hid (HL4.out.mut hm5 HLN.out.1)
    clear C5 hm5 hB5
    have C6 := hid (dbytes_any (rollN (rollX (y)) 4) (rollX (rollX (y))) (rollX_lt _) (Nat.le_of_lt (Nat.lt_of_lt_of_le (rollN_lt _ _ (by decide)) (by decide))) HB5.out)
    go_wp2_with fail
    refine C6.out.mono ?_
    rintro e w6 ⟨v6, rfl, hO6, hm6, hB6⟩
    obtain ⟨da, dc, hde, -, -⟩ := id hO6.row
    obtain ⟨dl, hdl⟩ : ∃ z, diceB (rollN (rollX (y)) 4) (rollX (rollX (y))) = z := ⟨_, rfl⟩
    rw [hdl] at hO6 hde
    obtain ⟨dn, hdn⟩ : ∃ z, dl.length = z := ⟨_, rfl⟩
    rw [hdn] at hde
    subst hde
    have HDL := hid hdl
    have HDN := hid hdn
    have HO6 := hid hO6
    have HOS : Hid (∀ g, (Value.slice da dn dc).ownBlock = some g → g ≠ sb ∧ g ≠ rb) := hid fun g e => by
      have h1 := (hO6.blkD e).1; have h2 := HL5.out.lt; have h3 := HQ5.out.lt
      exact ⟨fun e => by omega, fun e => by omega⟩
    have HB6 := hid hB6
    have HM6 : Hid (Mut (fun q => q = b) w w6) := hid (HM5.out.trans hm6)
    have HQ6 := hid (HQ5.out.mut hm6 HRN.out.1)
    have HL6 := hid (HL5.out.mut hm6 HLN.out.1)
    have HWS : Hid (w.heap.size ≤ w5.heap.size) := hid HM5.out.size
    clear C6 hm6 hB6 hO6 hdl hdn
    have lz7 := HL6.out.cell (j := 3) rfl
    have fz7 := HL6.out.frozen
    go_upto_region 26 with fail
    obtain ⟨w7, hw7⟩ : ∃ z, w6.setCell ⟨sb, 3, none⟩ (.slice da dn dc) = z := ⟨_, rfl⟩
    rw [hw7]
    have hm7 : Mut (fun q => q = sb) w6 w7 := by rw [← hw7]; exact mut1
    have hl7 := HL6.out.set (j := 3) (v := .slice da dn dc)
    rw [hw7] at hl7
    have HL7 := hid hl7
    have HB7 := hid (HB6.out.mut hm7 (fun e => HLN.out.1 e.symm))
    have HM7 : Hid (Mut (fun q => q = b) w w7) := hid (HM6.out.transG hm7 (fun q hq e => by have := HLN.out.2.2; omega))
    have HQ7 := hid (HQ6.out.mut hm7 (fun e => HLN.out.2.1 e.symm))
    have HO7 := hid (OwnB.mutD HO6.out hm7 (fun g e1 e2 => (HOS.out g e1).1 e2))
    clear hw7 hm7 hl7 lz7 fz7
    have r0 := HQ7.out.cell (j := 0) rfl
    have r1 := HQ7.out.cell (j := 1) rfl
    have r2 := HQ7.out.cell (j := 2) rfl
    have r3 := HQ7.out.cell (j := 3) rfl
    have l0 := HL7.out.cell (j := 0) rfl
    have l1 := HL7.out.cell (j := 1) rfl
    have l2 := HL7.out.cell (j := 2) rfl
    have l3 := HL7.out.cell (j := 3) rfl
    have fz := HQ7.out.frozen
    go_wp2_with fail
    obtain ⟨wz, hwz⟩ : ∃ wz, (((w7.setCell ⟨rb, 0, none⟩ (.int .i64 11)).setCell ⟨rb, 1, none⟩ (.int .i64 (rollN (y) 8 : Nat))).setCell ⟨rb, 2, none⟩ (.int .i64 0)).setCell ⟨rb, 3, none⟩ (.slice da dn dc) = wz := ⟨_, rfl⟩
    rw [hwz]
    have hQz : BoxL wz rb 62 [.int .i64 11, .int .i64 (rollN (y) 8 : Nat), .int .i64 0, .slice da dn dc] := by rw [← hwz]; exact (((HQ7.out.set (j := 0) (v := .int .i64 11)).set (j := 1) (v := .int .i64 (rollN (y) 8 : Nat))).set (j := 2) (v := .int .i64 0)).set (j := 3) (v := .slice da dn dc)
    have hmz : Mut (fun q => q = rb) w7 wz := by rw [← hwz]; exact mut_all _ _ _ _ _ _
    refine bodyPost_ret (results_cellQ (b := rb) (o := 0) (cs := [.int .i64 11, .int .i64 (rollN (y) 8 : Nat), .int .i64 0, .slice da dn dc]) rfl _ _ rfl hQz.range Tryz.underlying62 rfl (infoStepZ _ _ _ _)) rfl ?_
    have hst : stormS x = (⟨11, (rollN (y) 8 : Nat), 0, dl⟩, diceX (rollN (rollX (y)) 4) (rollX (rollX (y)))) := by rw [HST.out, ← HDL.out]; unfold stormK; simp
    rw [hst]
    exact SStepRes.mk1 HDN.out rfl ((OwnB.mutD HO7.out hmz (fun g e1 e2 => (HOS.out g e1).2 e2)).mono HWS.out) (HM7.out.transG hmz (fun q hq e => by have := HRN.out.2; omega)) (HB7.out.mut hmz (fun e => HRN.out.1 e.symm))
  · have C3 := hid (roll_any (y) 8 hyl (by decide) (by decide) HB2.out)
    go_wp2_with fail
    refine C3.out.mono ?_
    rintro e w3 ⟨rfl, hm3, hB3⟩
    have HB3 := hid hB3
    have HM3 : Hid (Mut (fun q => q = b) w w3) := hid (HM2.out.trans hm3)
    have HQ3 := hid (HQ2.out.mut hm3 HRN.out.1)
    clear C3 hm3 hB3
    obtain ⟨w4, hw4⟩ : ∃ z, w3.alloc (.cells #[.int .i64 12, .int .i64 (rollN (y) 8 : Nat), .int .i64 0, .slice none 0 0] 62) = z := ⟨_, rfl⟩
    have hb4 : Below w3.heap.size w3 w4 := by rw [← hw4]; exact (Below.refl _ _).alloc (Nat.le_refl _) _
    have hl4 : BoxL w4 w3.heap.size 62 [.int .i64 12, .int .i64 (rollN (y) 8 : Nat), .int .i64 0, .slice none 0 0] := by rw [← hw4]; exact BoxL.made _ _ _
    obtain ⟨sb, hsb⟩ : ∃ z, w3.heap.size = z := ⟨_, rfl⟩
    rw [hsb] at hl4
    have HL4 := hid hl4
    have HLN : Hid (sb ≠ b ∧ sb ≠ rb ∧ w.heap.size ≤ sb) := hid (by
      have h1 := HBL.out; have h2 := HM3.out.size; have h3 := HQ3.out.lt
      exact ⟨fun e => by omega, fun e => by omega, by omega⟩)
    have HB4 := hid (HB3.out.ext hb4)
    have HM4 : Hid (Mut (fun q => q = b) w w4) := hid (HM3.out.trans (Mut.of_below hb4))
    have HQ4 := hid (HQ3.out.ext hb4)
    have HWE := hid hw4
    have HSE := hid hsb
    clear hw4 hsb hb4 hl4
    go_upto_region 29 with fail
    try rw [HWE.out]
    try rw [HSE.out]
    clear HWE HSE
    have C5 := hid (roll_any (rollX (y)) 8 (rollX_lt _) (by decide) (by decide) HB4.out)
    go_wp2_with fail
    refine C5.out.mono ?_
    rintro e w5 ⟨rfl, hm5, hB5⟩
    have HB5 := hid hB5
    have HM5 : Hid (Mut (fun q => q = b) w w5) := hid (HM4.out.trans hm5)
    have HQ5 := hid (HQ4.out.mut hm5 HRN.out.1)
    have HL5 := hid (HL4.out.mut hm5 HLN.out.1)
    clear C5 hm5 hB5
    have lz6 := HL5.out.cell (j := 2) rfl
    have fz6 := HL5.out.frozen
    go_upto_region 30 with fail
    obtain ⟨w6, hw6⟩ : ∃ z, w5.setCell ⟨sb, 2, none⟩ (.int .i64 (rollN (rollX (y)) 8 : Nat)) = z := ⟨_, rfl⟩
    rw [hw6]
    have hm6 : Mut (fun q => q = sb) w5 w6 := by rw [← hw6]; exact mut1
    have hl6 := HL5.out.set (j := 2) (v := .int .i64 (rollN (rollX (y)) 8 : Nat))
    rw [hw6] at hl6
    have HL6 := hid hl6
    have HB6 := hid (HB5.out.mut hm6 (fun e => HLN.out.1 e.symm))
    have HM6 : Hid (Mut (fun q => q = b) w w6) := hid (HM5.out.transG hm6 (fun q hq e => by have := HLN.out.2.2; omega))
    have HQ6 := hid (HQ5.out.mut hm6 (fun e => HLN.out.2.1 e.symm))
    clear hw6 hm6 hl6 lz6 fz6
    have r0 := HQ6.out.cell (j := 0) rfl
    have r1 := HQ6.out.cell (j := 1) rfl
    have r2 := HQ6.out.cell (j := 2) rfl
    have r3 := HQ6.out.cell (j := 3) rfl
    have l0 := HL6.out.cell (j := 0) rfl
    have l1 := HL6.out.cell (j := 1) rfl
    have l2 := HL6.out.cell (j := 2) rfl
    have l3 := HL6.out.cell (j := 3) rfl
    have fz := HQ6.out.frozen
    go_wp2_with fail
    obtain ⟨wz, hwz⟩ : ∃ wz, (((w6.setCell ⟨rb, 0, none⟩ (.int .i64 12)).setCell ⟨rb, 1, none⟩ (.int .i64 (rollN (y) 8 : Nat))).setCell ⟨rb, 2, none⟩ (.int .i64 (rollN (rollX (y)) 8 : Nat))).setCell ⟨rb, 3, none⟩ (.slice none 0 0) = wz := ⟨_, rfl⟩
    rw [hwz]
    have hQz : BoxL wz rb 62 [.int .i64 12, .int .i64 (rollN (y) 8 : Nat), .int .i64 (rollN (rollX (y)) 8 : Nat), .slice none 0 0] := by rw [← hwz]; exact (((HQ6.out.set (j := 0) (v := .int .i64 12)).set (j := 1) (v := .int .i64 (rollN (y) 8 : Nat))).set (j := 2) (v := .int .i64 (rollN (rollX (y)) 8 : Nat))).set (j := 3) (v := .slice none 0 0)
    have hmz : Mut (fun q => q = rb) w6 wz := by rw [← hwz]; exact mut_all _ _ _ _ _ _
    refine bodyPost_ret (results_cellQ (b := rb) (o := 0) (cs := [.int .i64 12, .int .i64 (rollN (y) 8 : Nat), .int .i64 (rollN (rollX (y)) 8 : Nat), .slice none 0 0]) rfl _ _ rfl hQz.range Tryz.underlying62 rfl (infoStepZ _ _ _ _)) rfl ?_
    have hst : stormS x = (⟨12, (rollN (y) 8 : Nat), (rollN (rollX (y)) 8 : Nat), []⟩, rollX (rollX (y))) := by rw [HST.out]; unfold stormK; simp
    rw [hst]
    exact SStepRes.mk0 rfl rfl (HM6.out.transG hmz (fun q hq e => by have := HRN.out.2; omega)) (HB6.out.mut hmz (fun e => HRN.out.1 e.symm))
  · have r0 := HQ2.out.cell (j := 0) rfl
    have r1 := HQ2.out.cell (j := 1) rfl
    have r2 := HQ2.out.cell (j := 2) rfl
    have r3 := HQ2.out.cell (j := 3) rfl
    have fz := HQ2.out.frozen
    go_wp2_with fail
    obtain ⟨wz, hwz⟩ : ∃ wz, (((w2.setCell ⟨rb, 0, none⟩ (.int .i64 13)).setCell ⟨rb, 1, none⟩ (.int .i64 0)).setCell ⟨rb, 2, none⟩ (.int .i64 0)).setCell ⟨rb, 3, none⟩ (.slice none 0 0) = wz := ⟨_, rfl⟩
    rw [hwz]
    have hQz : BoxL wz rb 62 [.int .i64 13, .int .i64 0, .int .i64 0, .slice none 0 0] := by rw [← hwz]; exact (((HQ2.out.set (j := 0) (v := .int .i64 13)).set (j := 1) (v := .int .i64 0)).set (j := 2) (v := .int .i64 0)).set (j := 3) (v := .slice none 0 0)
    have hmz : Mut (fun q => q = rb) w2 wz := by rw [← hwz]; exact mut_all _ _ _ _ _ _
    refine bodyPost_ret (results_cellQ (b := rb) (o := 0) (cs := [.int .i64 13, .int .i64 0, .int .i64 0, .slice none 0 0]) rfl _ _ rfl hQz.range Tryz.underlying62 rfl (infoStepZ _ _ _ _)) rfl ?_
    have hst : stormS x = (⟨13, 0, 0, []⟩, y) := by rw [HST.out]; unfold stormK; simp
    rw [hst]
    exact SStepRes.mk0 rfl rfl (HM2.out.transG hmz (fun q hq e => by have := HRN.out.2; omega)) (HB2.out.mut hmz (fun e => HRN.out.1 e.symm))
  · have C3 := hid (roll_any (y) 4 hyl (by decide) (by decide) HB2.out)
    go_wp2_with fail
    refine C3.out.mono ?_
    rintro e w3 ⟨rfl, hm3, hB3⟩
    have HB3 := hid hB3
    have HM3 : Hid (Mut (fun q => q = b) w w3) := hid (HM2.out.trans hm3)
    have HQ3 := hid (HQ2.out.mut hm3 HRN.out.1)
    clear C3 hm3 hB3
    have r0 := HQ3.out.cell (j := 0) rfl
    have r1 := HQ3.out.cell (j := 1) rfl
    have r2 := HQ3.out.cell (j := 2) rfl
    have r3 := HQ3.out.cell (j := 3) rfl
    have fz := HQ3.out.frozen
    go_wp2_with fail
    obtain ⟨wz, hwz⟩ : ∃ wz, (((w3.setCell ⟨rb, 0, none⟩ (.int .i64 10)).setCell ⟨rb, 1, none⟩ (.int .i64 (rollN (y) 4 : Nat))).setCell ⟨rb, 2, none⟩ (.int .i64 0)).setCell ⟨rb, 3, none⟩ (.slice none 0 0) = wz := ⟨_, rfl⟩
    rw [hwz]
    have hQz : BoxL wz rb 62 [.int .i64 10, .int .i64 (rollN (y) 4 : Nat), .int .i64 0, .slice none 0 0] := by rw [← hwz]; exact (((HQ3.out.set (j := 0) (v := .int .i64 10)).set (j := 1) (v := .int .i64 (rollN (y) 4 : Nat))).set (j := 2) (v := .int .i64 0)).set (j := 3) (v := .slice none 0 0)
    have hmz : Mut (fun q => q = rb) w3 wz := by rw [← hwz]; exact mut_all _ _ _ _ _ _
    refine bodyPost_ret (results_cellQ (b := rb) (o := 0) (cs := [.int .i64 10, .int .i64 (rollN (y) 4 : Nat), .int .i64 0, .slice none 0 0]) rfl _ _ rfl hQz.range Tryz.underlying62 rfl (infoStepZ _ _ _ _)) rfl ?_
    have hst : stormS x = (⟨10, (rollN (y) 4 : Nat), 0, []⟩, rollX (y)) := by rw [HST.out]; unfold stormK; simp
    rw [hst]
    exact SStepRes.mk0 rfl rfl (HM3.out.transG hmz (fun q hq e => by have := HRN.out.2; omega)) (HB3.out.mut hmz (fun e => HRN.out.1 e.symm))
end Go.Proofs.YtehagnbphamjhaaGreatDoor

namespace Go.Proofs.YtehagnbphamjhaaGreatDoor
open Go.RowKit
/-! ### play: Storm -/
theorem stormL_succ (m y : Nat) : stormL (m + 1) y = (stormS y).1 :: stormL m (stormS y).2 := by unfold stormL; rw [runL]
theorem stormL_zero (y : Nat) : stormL 0 y = [] := by unfold stormL; rw [runL]
structure NextOk (r : StepD × Nat) : Prop where
  lt : r.2 < 18446744073709551616
theorem NextOk.mk1 (s : StepD) (z : Nat) (h : z < 18446744073709551616) : NextOk (s, z) := ⟨h⟩
theorem NextOk.ite {c : Prop} [Decidable c] {a b : StepD × Nat} (h1 : NextOk a) (h2 : NextOk b) : NextOk (if c then a else b) := by
  by_cases h : c
  · rw [if_pos h]; exact h1
  · rw [if_neg h]; exact h2
theorem stormK_next (k y : Nat) (hy : y < 18446744073709551616) : NextOk (stormK k y) := by
  unfold stormK
  refine NextOk.ite (NextOk.mk1 _ _ (rollX_lt _)) ?_
  refine NextOk.ite (NextOk.mk1 _ _ (rollX_lt _)) ?_
  refine NextOk.ite (NextOk.mk1 _ _ (diceX_lt _ _ (rollX_lt _))) ?_
  refine NextOk.ite (NextOk.mk1 _ _ (rollX_lt _)) ?_
  refine NextOk.ite (NextOk.mk1 _ _ (rollX_lt _)) ?_
  refine NextOk.ite (NextOk.mk1 _ _ (diceX_lt _ _ (rollX_lt _))) ?_
  refine NextOk.ite (NextOk.mk1 _ _ (rollX_lt _)) ?_
  refine NextOk.ite (NextOk.mk1 _ _ (rollX_lt _)) ?_
  refine NextOk.ite (NextOk.mk1 _ _ (rollX_lt _)) ?_
  refine NextOk.ite (NextOk.mk1 _ _ (diceX_lt _ _ (rollX_lt _))) ?_
  refine NextOk.ite (NextOk.mk1 _ _ (rollX_lt _)) ?_
  refine NextOk.ite (NextOk.mk1 _ _ hy) ?_
  exact NextOk.mk1 _ _ (rollX_lt _)
theorem stormS_next (y : Nat) : NextOk (stormS y) := by
  unfold stormS
  exact stormK_next _ _ (rollX_lt y)
theorem line_kind {s : StepD} {u : Str} (hu : lineP s = some u) : -9223372036854775808 ≤ s.kind ∧ s.kind ≤ 9223372036854775807 := by
  unfold lineP at hu
  split at hu
  · cases hu
  · rename_i x hx
    obtain ⟨h1, h2⟩ := shapeK_some hx
    have h4 := (shapes_ok x h1).2.2.2.2.2.2
    rw [h2] at h4
    omega
theorem fit_kind {s : StepD} (h : SFit s) : -9223372036854775808 ≤ s.kind ∧ s.kind ≤ 9223372036854775807 := by
  obtain ⟨u, hu⟩ := Option.isSome_iff_exists.1 h.ln
  exact line_kind hu
set_option maxRecDepth 100000 in
set_option maxHeartbeats 6400000 in
theorem storm_any (n x : Nat) (hx : x < 18446744073709551616) (hn : n ≤ 600) (w : World) :
    Calls Tryz.prog 12 #[.int .u64 x, .int .i64 n] w fun e w' => ∃ a c, e = .returned (.slice a n c) ∧ n ≤ c ∧ StepRow w' a (stormL n x) ∧ Below w.heap.size w w' := by
  obtain ⟨W1, hW1⟩ : ∃ W1, w.alloc (.cells #[.int .u64 x] 74) = W1 := ⟨_, rfl⟩
  have hb1 : Below w.heap.size w W1 := by rw [← hW1]; exact (Below.refl _ _).alloc (Nat.le_refl _) _
  have hq1 : BoxL W1 w.heap.size 74 [.int .u64 x] := by rw [← hW1]; exact BoxL.made _ _ _
  obtain ⟨b, hbe⟩ : ∃ z, w.heap.size = z := ⟨_, rfl⟩
  have HBE := hid hbe
  have HW1 := hid hW1
  have HB1 := hid hb1
  rw [hbe] at hq1
  have HQ1 := hid hq1
  have hmin : min (n : Int) 4096 = (n : Int) := by omega
  have hmin2 : min n 4096 = n := by omega
  obtain ⟨i0, hi, hz0, hz1, hz2⟩ := info_parts infoStepI
  clear hW1 hb1 hq1 hbe
  go_enter Tryz.func12, Tryz.ntmps12
  go_upto_region 2 with fail
  try rw [HW1.out]
  try rw [HBE.out]
  go_wp2_with fail
  go_loopw [6, 10] (fun v iv wr => ∃ (k y : Nat) (out : List StepD) (xs : List (List Value)), iv = .int .i64 k ∧ k ≤ n ∧ y < 18446744073709551616 ∧ Hid (BoxL wr b 74 [.int .u64 y]) ∧ Hid (out.length = k) ∧ Hid (stormL n x = out ++ stormL (n - k) y) ∧ Hid (OwnK wr W1.heap.size 62 4 v xs) ∧ Hid (ElsAt wr (fun q => v.ownBlock = some q ∨ q = b) xs (out.map stepH)) ∧ Hid (∀ s ∈ out, (-9223372036854775808 ≤ s.kind ∧ s.kind ≤ 9223372036854775807) ∧ StepOk s) ∧ Hid (Mut (fun q => q = b) W1 wr)) (fun _ iv _ => n - (intOf iv).toNat)
  case atStart => exact ⟨0, x, [], [], rfl, Nat.zero_le _, hx, HQ1, hid rfl, hid (by rw [Nat.sub_zero, List.nil_append]), hid (OwnK.nil _ _ _ _), hid (ElsAt.nil _ _), hid (by simp), hid (Mut.refl _ _)⟩
  case round =>
    obtain ⟨k, y, out, xs, rfl, hk, hy, HBX, hol, HST, how, hel, hok, HM⟩ := hrel
    by_cases hlt : k < n
    · have d1 : decide ((k : Int) < (n : Int)) = true := decide_eq_true (by omega)
      have d2 : decide (k < n) = true := decide_eq_true hlt
      have CS := hid (dstep_any y hy HBX.out)
      obtain ⟨s, hs⟩ : ∃ s, (stormS y).1 = s := ⟨_, rfl⟩
      have hfit : SFit s := by rw [← hs]; exact storm_fit y
      have hkd : (-9223372036854775808 ≤ s.kind ∧ s.kind ≤ 9223372036854775807) ∧ StepOk s := ⟨fit_kind hfit, hfit.ok⟩
      clear hfit
      have HR : Hid (n - k = (n - (k + 1)) + 1) := hid (by omega)
      have HS := hid hs
      have HK := hid hkd
      go_wp2_with fail
      refine CS.out.mono ?_
      rintro e w2 ⟨sa, sc, rfl, hO2, hm2, hB2⟩
      rw [hs] at hO2 ⊢
      obtain ⟨kd, av, bv, data⟩ := s
      simp only at hO2 ⊢
      obtain ⟨dn, hdn⟩ : ∃ z, data.length = z := ⟨_, rfl⟩
      rw [hdn] at hO2 ⊢
      have HDN := hid hdn
      have HBZ : Hid (b < W1.heap.size) := hid HQ1.out.lt
      have HO2 := hid hO2
      have HB2 := hid hB2
      have HM2 : Hid (Mut (fun q => q = b) W1 w2) := hid (HM.out.trans hm2)
      have hnb : ∀ g, u6.ownBlock = some g → ¬ (g = b) := fun g e1 e2 => by have h1 := (how.out.blk e1).1; have h2 := HBZ.out; omega
      have HOW2 := hid (how.out.mut hm2 hnb)
      have HEL2 := hid (hel.out.mut hm2 fun c _ h2 => .inr h2)
      have HIT : Hid (ItemAt w2 (fun q => u6.ownBlock = some q ∨ q = b) (.slice sa dn sc) data) := hid (by
        obtain ⟨a9, c9, e9, hr9, hb9⟩ := hO2.row
        rw [hdn] at e9
        cases e9
        refine ⟨_, _, by rw [hdn], hr9, HK.out.2.d, fun c off e => ⟨?_, fun hb => ?_⟩⟩
        · subst e; exact (hO2.blkD rfl).2
        · subst e
          have h1 := (hO2.blkD (g := c) rfl).1
          rcases hb with hb | hb
          · have h2 := (how.out.blk hb).2; omega
          · have h2 := HBX.out.lt; omega)
      have HXL : Hid (xs.length + 1 ≤ 1000000) := hid (by
        have h1 := hel.out.1
        rw [List.length_map, hol.out] at h1
        omega)
      have HW12 : Hid (W1.heap.size ≤ w2.heap.size) := hid HM2.out.size
      clear hO2 hm2 hB2 hnb how hel CS hs hkd HM HBX hdn
      go_wp2_with (at_builtin; refine wpList_appendEP (el := [.int .i64 kd, .int .i64 av, .int .i64 bv, .slice sa dn sc]) (b := w2.heap.size) Tryz.underlying28 hi hz0 hz1 hz2 rfl (by decide) (by decide) (HOW2.out.ext ((Below.refl _ _).alloc (Nat.le_refl _) _)) rfl (fun u hu => by simp at hu; rcases hu with rfl | rfl | rfl | rfl <;> rfl) (cells4_new _ _ _ _ _ _) HXL.out (by have := HW12.out; simp; omega) rfl rfl rfl rfl ?_; intro v6 w6 hown6 hm6 hn6)
      have hmw : Mut (fun g => u6.ownBlock = some g) w2 w6 := (Mut.of_below ((Below.refl _ _).alloc (Nat.le_refl _) _)).trans (hm6.mono fun k _ e => e)
      have HEL6 : Hid (ElsAt w6 (fun q => v6.ownBlock = some q ∨ q = b) (xs ++ [[.int .i64 kd, .int .i64 av, .int .i64 bv, .slice sa dn sc]]) ((out ++ [(⟨kd, av, bv, data⟩ : StepD)]).map stepH)) := hid (by
        have h0 := (HEL2.out.snoc (q := [.int .i64 kd, .int .i64 av, .int .i64 bv]) HIT.out).grow (N' := fun q => (u6.ownBlock = some q ∨ q = b) ∨ w2.heap.size ≤ q) fun b h => h
        have h1 := h0.mut hmw fun b _ e => .inl (.inl e)
        have h2 := h1.grow (N' := fun q => v6.ownBlock = some q ∨ q = b) fun q hq => .inl (hq.elim (fun hq => (hn6 q hq).imp .inl fun h => by simp at h; omega) fun e => .inl (.inr e))
        rw [List.map_append]
        exact h2)
      have HO6 := hid hown6
      have HM6 : Hid (Mut (fun q => q = b) W1 w6) := hid (HM2.out.transG hmw (fun q hq e => by have h1 := (HOW2.out.blk e).1; omega))
      have HB6 := hid (HB2.out.mut hmw (fun e => by have h1 := (HOW2.out.blk e).1; have h2 := HBZ.out; omega))
      have HOK6 : Hid (∀ s ∈ out ++ [(⟨kd, av, bv, data⟩ : StepD)], (-9223372036854775808 ≤ s.kind ∧ s.kind ≤ 9223372036854775807) ∧ StepOk s) := hid fun s hs => by
        rcases List.mem_append.1 hs with hs | hs
        · exact hok.out s hs
        · rw [List.mem_singleton.1 hs]; exact HK.out
      have HNX : Hid ((stormS y).2 < 18446744073709551616) := hid (stormS_next y).lt
      clear hown6 hm6 hn6 hmw
      go_roundw
      case rel => exact ⟨k + 1, (stormS y).2, out ++ [⟨kd, av, bv, data⟩], _, by go_num, by omega, HNX.out, HB6, hid (by have := hol.out; simp; omega), hid (by rw [HST.out, HR.out, stormL_succ, HS.out]; simp), HO6, HEL6, HOK6, HM6⟩
      case measure => simp [intOf]; omega
    · have d1 : decide ((k : Int) < (n : Int)) = false := decide_eq_false (by omega)
      have d2 : decide (k < n) = false := decide_eq_false hlt
      have hkn : k = n := by omega
      obtain ⟨a9, c9, rfl, hc9, hrow9⟩ := steps_row how.out hel.out hok.out
      have hol9 := hol.out
      have hst : stormL n x = out := by rw [HST.out, hkn, Nat.sub_self, stormL_zero, List.append_nil]
      rw [hol9, hkn]
      have HRW := hid hrow9
      have HF : Hid (n ≤ c9) := hid (by omega)
      have HMB : Hid (Below w.heap.size w wr) := hid (below_mutN HB1.out HM.out (fun q e => by rw [e, HBE.out]; exact Nat.le_refl _))
      have HSTE := hid hst
      clear hrow9 hc9 hol9 hst hkn
      go_wp2_with fail
      go_ret
      exact ⟨a9, c9, rfl, HF.out, by rw [HSTE.out]; exact HRW.out, HMB.out⟩
end Go.Proofs.YtehagnbphamjhaaGreatDoor

namespace Go.Proofs.YtehagnbphamjhaaGreatDoor
open Go.RowKit
/-! ### the document's storm: its step by kinds -/
def kindL : List Nat := [2, 2, 2, 2, 2, 2, 2, 2, 2, 2, 1, 1, 1, 1, 1, 1, 9, 9, 9, 9, 9, 3, 4, 5, 6, 7, 7, 8, 11, 12, 13, 10]
def aL : List Nat := [0, 8, 64, 64, 64, 64, 8, 8, 8, 8, 4, 8, 8, 0]
/-- what a step of a kind is -/
def refK (d y : Nat) : StepD × Nat :=
  if d = 5 then (⟨5, rollN y 64, rollN (rollX y) 64, diceB (rollN (rollX (rollX y)) 2) (rollX (rollX (rollX y)))⟩, diceX (rollN (rollX (rollX y)) 2) (rollX (rollX (rollX y))))
  else if d = 12 then (⟨12, rollN y 8, rollN (rollX y) 8, []⟩, rollX (rollX y))
  else if d = 13 then (⟨13, 0, 0, []⟩, y)
  else if d = 9 ∨ d = 11 then (⟨d, rollN y 8, 0, diceB (rollN (rollX y) 4) (rollX (rollX y))⟩, diceX (rollN (rollX y) 4) (rollX (rollX y)))
  else (⟨d, rollN y (aL.getD d 0), 0, []⟩, rollX y)
theorem refK_eq (k y : Nat) (hk : k < 32) : stormK k y = refK (kindL.getD k 0) y := by
  have h : k = 0 ∨ k = 1 ∨ k = 2 ∨ k = 3 ∨ k = 4 ∨ k = 5 ∨ k = 6 ∨ k = 7 ∨ k = 8 ∨ k = 9 ∨ k = 10 ∨ k = 11 ∨ k = 12 ∨ k = 13 ∨ k = 14 ∨ k = 15 ∨ k = 16 ∨ k = 17 ∨ k = 18 ∨ k = 19 ∨ k = 20 ∨ k = 21 ∨ k = 22 ∨ k = 23 ∨ k = 24 ∨ k = 25 ∨ k = 26 ∨ k = 27 ∨ k = 28 ∨ k = 29 ∨ k = 30 ∨ k = 31 := by omega
  rcases h with rfl | rfl | rfl | rfl | rfl | rfl | rfl | rfl | rfl | rfl | rfl | rfl | rfl | rfl | rfl | rfl | rfl | rfl | rfl | rfl | rfl | rfl | rfl | rfl | rfl | rfl | rfl | rfl | rfl | rfl | rfl | rfl <;> simp [stormK, refK, kindL, aL]
theorem kindL_lt (k : Nat) (hk : k < 32) : 1 ≤ kindL.getD k 0 ∧ kindL.getD k 0 ≤ 13 := by
  have h : ∀ k : Fin 32, 1 ≤ kindL.getD k.val 0 ∧ kindL.getD k.val 0 ≤ 13 := by decide
  exact h ⟨k, hk⟩
theorem kindC (W : World) (t : TypeId) (k : Nat) (hk : k < 32) : (W.alloc (.cells #[.int .i64 2, .int .i64 2, .int .i64 2, .int .i64 2, .int .i64 2, .int .i64 2, .int .i64 2, .int .i64 2, .int .i64 2, .int .i64 2, .int .i64 1, .int .i64 1, .int .i64 1, .int .i64 1, .int .i64 1, .int .i64 1, .int .i64 9, .int .i64 9, .int .i64 9, .int .i64 9, .int .i64 9, .int .i64 3, .int .i64 4, .int .i64 5, .int .i64 6, .int .i64 7, .int .i64 7, .int .i64 8, .int .i64 11, .int .i64 12, .int .i64 13, .int .i64 10] t)).cell? ⟨W.heap.size, k, none⟩ = some (.int .i64 ((kindL.getD k 0 : Nat) : Int)) := by
  refine (BoxL.made W t [.int .i64 2, .int .i64 2, .int .i64 2, .int .i64 2, .int .i64 2, .int .i64 2, .int .i64 2, .int .i64 2, .int .i64 2, .int .i64 2, .int .i64 1, .int .i64 1, .int .i64 1, .int .i64 1, .int .i64 1, .int .i64 1, .int .i64 9, .int .i64 9, .int .i64 9, .int .i64 9, .int .i64 9, .int .i64 3, .int .i64 4, .int .i64 5, .int .i64 6, .int .i64 7, .int .i64 7, .int .i64 8, .int .i64 11, .int .i64 12, .int .i64 13, .int .i64 10]).cell ?_
  have h : ∀ l : List Nat, ∀ k, k < l.length → (l.map fun x : Nat => Value.int .i64 (x : Int))[k]? = some (.int .i64 ((l.getD k 0 : Nat) : Int)) := fun l k hk => by
    simp [List.getElem?_eq_getElem hk, List.getD_eq_getElem?_getD]
  exact h kindL k hk
theorem aC (W : World) (t : TypeId) (d : Nat) (hd : d < 14) : (W.alloc (.cells #[.int .u64 0, .int .u64 8, .int .u64 64, .int .u64 64, .int .u64 64, .int .u64 64, .int .u64 8, .int .u64 8, .int .u64 8, .int .u64 8, .int .u64 4, .int .u64 8, .int .u64 8, .int .u64 0] t)).cell? ⟨W.heap.size, d, none⟩ = some (.int .u64 ((aL.getD d 0 : Nat) : Int)) := by
  refine (BoxL.made W t [.int .u64 0, .int .u64 8, .int .u64 64, .int .u64 64, .int .u64 64, .int .u64 64, .int .u64 8, .int .u64 8, .int .u64 8, .int .u64 8, .int .u64 4, .int .u64 8, .int .u64 8, .int .u64 0]).cell ?_
  have h : ∀ l : List Nat, ∀ k, k < l.length → (l.map fun x : Nat => Value.int .u64 (x : Int))[k]? = some (.int .u64 ((l.getD k 0 : Nat) : Int)) := fun l k hk => by
    simp [List.getElem?_eq_getElem hk, List.getD_eq_getElem?_getD]
  exact h aL d hd
end Go.Proofs.YtehagnbphamjhaaGreatDoor

namespace Go.Proofs.YtehagnbphamjhaaGreatDoor
open Go.RowKit
/-! ### the document's storm: its walk -/
theorem step_appendBz {w : World} {o : Oper} {a : Go.Act} {K : Go.Act → World → Prop} {Q : Exit → Go.Act → World → Prop} {y : Nat → Option Bool} {s x : Operand} {base : Nat} {v : Value} {xs ys : List Nat} {ad : Option Addr} {c n : Nat} (hw : Region.wanted o y = true) (hown : OwnB w base v xs) (hy : ByteRow w ad ys) (hn : Hid (ys.length = n)) (hlen : xs.length + n ≤ 1099511627776) (hbase : base ≤ w.heap.size)
    (ho : o.op = .call { callee := .builtin .append, args := #[s, x], argTypes := #[55, 55] }) (hs : a.eval s = v) (hx : a.eval x = .slice ad n c)
    (h : ∀ v' w', OwnB w' base v' (xs ++ ys) → w.grownBy w' v.ownBlock → K (a.put o.dst v') w') : if Region.wanted o y = true then Oper.wp Tryz.prog o a w K Q else K (a.put o.dst undef) w := by
  have hn := hn.out; subst hn
  rw [if_pos hw]
  obtain ⟨v', w', hr, h2, h3, -⟩ := run_appendB hown (c := c) hy hlen hbase o.type
  exact Lib.wp_append_run w s x 55 55 ho _ _ hs hx v' w' hr (h v' w' h2 h3)
set_option maxRecDepth 100000 in
set_option maxHeartbeats 12800000 in
theorem refStorm_any (n x : Nat) (hx : x < 18446744073709551616) (hn : n ≤ 600) (w : World) :
    Calls Tryz.prog 14 #[.int .u64 x, .int .i64 n] w fun e w' => ∃ a c, e = .returned (.slice a n c) ∧ n ≤ c ∧ StepRow w' a (stormL n x) ∧ Below w.heap.size w w' := by
  obtain ⟨W1, hW1⟩ : ∃ W1, w.alloc (.cells #[.int .u64 x] 78) = W1 := ⟨_, rfl⟩
  have hb1 : Below w.heap.size w W1 := by rw [← hW1]; exact (Below.refl _ _).alloc (Nat.le_refl _) _
  have hq1 : BoxL W1 w.heap.size 78 [.int .u64 x] := by rw [← hW1]; exact BoxL.made _ _ _
  obtain ⟨b, hbe⟩ : ∃ z, w.heap.size = z := ⟨_, rfl⟩
  have HBE := hid hbe
  have HW1 := hid hW1
  have HB1 := hid hb1
  rw [hbe] at hq1
  have HQ1 := hid hq1
  have HBZ : Hid (b < W1.heap.size) := hid hq1.lt
  obtain ⟨i0, hi, hz0, hz1, hz2⟩ := info_parts infoStepI
  clear hW1 hb1 hq1 hbe
  go_enter Tryz.func14, Tryz.ntmps14
  go_upto_region 2 with fail
  try rw [HW1.out]
  try rw [HBE.out]
  go_wp2_with fail
  go_loopw [6, 7] (fun v iv wr => ∃ (k y : Nat) (out : List StepD) (xs : List (List Value)), iv = .int .i64 k ∧ k ≤ n ∧ y < 18446744073709551616 ∧ Hid (BoxL wr b 78 [.int .u64 y]) ∧ Hid (out.length = k) ∧ Hid (stormL n x = out ++ stormL (n - k) y) ∧ Hid (OwnK wr W1.heap.size 62 4 v xs) ∧ Hid (ElsAt wr (fun q => v.ownBlock = some q ∨ q = b) xs (out.map stepH)) ∧ Hid (∀ s ∈ out, (-9223372036854775808 ≤ s.kind ∧ s.kind ≤ 9223372036854775807) ∧ StepOk s) ∧ Hid (Mut (fun q => q = b) W1 wr)) (fun _ iv _ => n - (intOf iv).toNat)
  case atStart => exact ⟨0, x, [], [], rfl, Nat.zero_le _, hx, HQ1, hid rfl, hid (by rw [Nat.sub_zero, List.nil_append]), hid (OwnK.nil _ _ _ _), hid (ElsAt.nil _ _), hid (by simp), hid (Mut.refl _ _)⟩
  case round =>
    obtain ⟨k0, y0, out, xs, rfl, hk, hy0, HBX, hol, HST, how, hel, hok, HM⟩ := hrel
    by_cases hlt : k0 < n
    · have d1 : decide ((k0 : Int) < (n : Int)) = true := decide_eq_true (by omega)
      have d2 : decide (k0 < n) = true := decide_eq_true hlt
      have d3 : decide ((k0 : Int) < 4096) = true := decide_eq_true (by omega)
      have d4 : decide (k0 < 4096) = true := decide_eq_true (by omega)
      have CR := hid (rollR_any y0 32 hy0 (by decide) (by decide) HBX.out)
      go_wp2_with fail
      refine CR.out.mono ?_
      rintro e w2 ⟨rfl, hm2, hB2⟩
      clear d1 d2 d3 d4
      obtain ⟨y, hy⟩ : ∃ y, rollX y0 = y := ⟨_, rfl⟩
      have hyl : y < 18446744073709551616 := by rw [← hy]; exact rollX_lt y0
      obtain ⟨k, hkk⟩ : ∃ k, rollN y0 32 = k := ⟨_, rfl⟩
      have hkl : k < 32 := by rw [← hkk]; exact rollN_lt y0 32 (by decide)
      obtain ⟨d, hd⟩ : ∃ d, kindL.getD k 0 = d := ⟨_, rfl⟩
      have hdl := kindL_lt k hkl
      rw [hd] at hdl
      obtain ⟨A0, hA⟩ : ∃ z, aL.getD d 0 = z := ⟨_, rfl⟩
      have HSK : Hid (stormS y0 = refK d y) := hid (by unfold stormS; rw [hkk, hy, refK_eq k y hkl, hd])
      rw [hy] at hB2
      rw [hkk]
      obtain ⟨W3, hW3⟩ : ∃ z, w2.alloc (.cells #[.int .i64 2, .int .i64 2, .int .i64 2, .int .i64 2, .int .i64 2, .int .i64 2, .int .i64 2, .int .i64 2, .int .i64 2, .int .i64 2, .int .i64 1, .int .i64 1, .int .i64 1, .int .i64 1, .int .i64 1, .int .i64 1, .int .i64 9, .int .i64 9, .int .i64 9, .int .i64 9, .int .i64 9, .int .i64 3, .int .i64 4, .int .i64 5, .int .i64 6, .int .i64 7, .int .i64 7, .int .i64 8, .int .i64 11, .int .i64 12, .int .i64 13, .int .i64 10] 3) = z := ⟨_, rfl⟩
      have q3 : W3.cell? ⟨w2.heap.size, k, none⟩ = some (.int .i64 (d : Int)) := by rw [← hW3, ← hd]; exact kindC w2 _ k hkl
      obtain ⟨W4, hW4⟩ : ∃ z, W3.alloc (.cells #[.int .u64 0, .int .u64 8, .int .u64 64, .int .u64 64, .int .u64 64, .int .u64 64, .int .u64 8, .int .u64 8, .int .u64 8, .int .u64 8, .int .u64 4, .int .u64 8, .int .u64 8, .int .u64 0] 27) = z := ⟨_, rfl⟩
      have q4 : W4.cell? ⟨W3.heap.size, d, none⟩ = some (.int .u64 (A0 : Int)) := by rw [← hW4, ← hA]; exact aC W3 _ d (by omega)
      obtain ⟨W5, hW5⟩ : ∃ z, W4.alloc (.cells #[.int .i64 (d : Int), .int .i64 0, .int .i64 0, .slice none 0 0] 62) = z := ⟨_, rfl⟩
      have hb23 : Below w2.heap.size w2 W3 := by rw [← hW3]; exact (Below.refl _ _).alloc (Nat.le_refl _) _
      have hb34 : Below W3.heap.size W3 W4 := by rw [← hW4]; exact (Below.refl _ _).alloc (Nat.le_refl _) _
      have hb45 : Below W4.heap.size W4 W5 := by rw [← hW5]; exact (Below.refl _ _).alloc (Nat.le_refl _) _
      have hl5 : BoxL W5 W4.heap.size 62 [.int .i64 (d : Int), .int .i64 0, .int .i64 0, .slice none 0 0] := by rw [← hW5]; exact BoxL.made _ _ _
      have hb25 : Below w2.heap.size w2 W5 := hb23.trans ((hb34.trans (hb45.mono hb34.size)).mono hb23.size)
      obtain ⟨sb, hsb⟩ : ∃ z, W4.heap.size = z := ⟨_, rfl⟩
      rw [hsb] at hl5
      have HWA := hid hW3
      have HWB := hid hW4
      have HWC := hid hW5
      have HSB := hid hsb
      have HM2 : Hid (Mut (fun q => q = b) W1 w2) := hid (HM.out.trans hm2)
      have HU5 : Hid (Mut (fun q => q = b ∨ w2.heap.size ≤ q) w2 W5) := hid (Mut.of_below hb25)
      have HB5 := hid (hB2.ext hb25)
      have HL5 := hid hl5
      have hnb : ∀ g, u6.ownBlock = some g → ¬ (g = b) := fun g e1 e2 => by have h1 := (how.out.blk e1).1; have h2 := HBZ.out; omega
      have HO2 := hid (how.out.mut hm2 hnb)
      have HE2 := hid ((hel.out.mut hm2 fun c _ h2 => .inr h2).grow (N' := fun q => (u6.ownBlock = some q ∨ q = b) ∨ w2.heap.size ≤ q) fun b h => h)
      have HSZ : Hid (W1.heap.size ≤ w2.heap.size) := hid HM2.out.size
      have HSN : Hid (sb ≠ b ∧ w2.heap.size ≤ sb) := hid (by
        have h1 := HM.out.size; have h2 := hm2.size; have h3 := hb23.size; have h4 := hb34.size; have h5 := HBZ.out
        exact ⟨fun e => by omega, by omega⟩)
      have HXL : Hid (xs.length + 1 ≤ 1000000) := hid (by
        have h1 := hel.out.1
        rw [List.length_map, hol.out] at h1
        omega)
      have HDD := hid hdl
      have HR : Hid (n - k0 = (n - (k0 + 1)) + 1) := hid (by omega)
      clear hm2 hB2 hb23 hb34 hb45 hl5 hb25 hnb how hel CR hkk hy HM HBX hsb hW5
      go_upto_region 10 with fail
      rw [HWC.out]
      rw [HSB.out]
      clear q3 q4 hW3 hW4 HWA HWB HWC HSB hd hkl
      by_cases h5 : d = 5
      · subst h5
        obtain rfl : A0 = 64 := by rw [← hA]; rfl
        clear hA
        have C6 := hid (rollR_any (y) 64 hyl (by decide) (by decide) HB5.out)
        go_wp2_with fail
        refine C6.out.mono ?_
        rintro e w6 ⟨rfl, hm6, hB6⟩
        have HB6 := hid hB6
        have HU6 : Hid (Mut (fun q => q = b ∨ w2.heap.size ≤ q) w2 w6) := hid (HU5.out.trans (hm6.mono fun q _ e => .inl e))
        have HL6 := hid (HL5.out.mut hm6 HSN.out.1)
        clear C6 hm6 hB6
        have lz7 := HL6.out.cell (j := 1) rfl
        have fz7 := HL6.out.frozen
        go_upto_region 12 with fail
        obtain ⟨w7, hw7⟩ : ∃ z, w6.setCell ⟨sb, 1, none⟩ (.int .i64 (rollN (y) 64 : Nat)) = z := ⟨_, rfl⟩
        rw [hw7]
        have hm7 : Mut (fun q => q = sb) w6 w7 := by rw [← hw7]; exact mut1
        have hl7 := HL6.out.set (j := 1) (v := .int .i64 (rollN (y) 64 : Nat))
        rw [hw7] at hl7
        have HL7 := hid hl7
        have HB7 := hid (HB6.out.mut hm7 (fun e => HSN.out.1 e.symm))
        have HU7 : Hid (Mut (fun q => q = b ∨ w2.heap.size ≤ q) w2 w7) := hid (HU6.out.trans (hm7.mono fun q _ e => .inr (by rw [e]; exact HSN.out.2)))
        clear hw7 hm7 hl7 lz7 fz7
        have C8 := hid (rollR_any (rollX (y)) 64 (rollX_lt _) (by decide) (by decide) HB7.out)
        go_wp2_with fail
        refine C8.out.mono ?_
        rintro e w8 ⟨rfl, hm8, hB8⟩
        have HB8 := hid hB8
        have HU8 : Hid (Mut (fun q => q = b ∨ w2.heap.size ≤ q) w2 w8) := hid (HU7.out.trans (hm8.mono fun q _ e => .inl e))
        have HL8 := hid (HL7.out.mut hm8 HSN.out.1)
        clear C8 hm8 hB8
        have lz9 := HL8.out.cell (j := 2) rfl
        have fz9 := HL8.out.frozen
        go_upto_region 14 with fail
        obtain ⟨w9, hw9⟩ : ∃ z, w8.setCell ⟨sb, 2, none⟩ (.int .i64 (rollN (rollX (y)) 64 : Nat)) = z := ⟨_, rfl⟩
        rw [hw9]
        have hm9 : Mut (fun q => q = sb) w8 w9 := by rw [← hw9]; exact mut1
        have hl9 := HL8.out.set (j := 2) (v := .int .i64 (rollN (rollX (y)) 64 : Nat))
        rw [hw9] at hl9
        have HL9 := hid hl9
        have HB9 := hid (HB8.out.mut hm9 (fun e => HSN.out.1 e.symm))
        have HU9 : Hid (Mut (fun q => q = b ∨ w2.heap.size ≤ q) w2 w9) := hid (HU8.out.trans (hm9.mono fun q _ e => .inr (by rw [e]; exact HSN.out.2)))
        clear hw9 hm9 hl9 lz9 fz9
        have C10 := hid (rollR_any (rollX (rollX (y))) 2 (rollX_lt _) (by decide) (by decide) HB9.out)
        go_wp2_with fail
        refine C10.out.mono ?_
        rintro e w10 ⟨rfl, hm10, hB10⟩
        have HB10 := hid hB10
        have HU10 : Hid (Mut (fun q => q = b ∨ w2.heap.size ≤ q) w2 w10) := hid (HU9.out.trans (hm10.mono fun q _ e => .inl e))
        have HL10 := hid (HL9.out.mut hm10 HSN.out.1)
        clear C10 hm10 hB10
        obtain ⟨cc, hcc⟩ : ∃ z, rollN (rollX (rollX (y))) 2 = z := ⟨_, rfl⟩
        have hccl : cc ≤ 4 := by rw [← hcc]; exact Nat.le_of_lt (Nat.lt_of_lt_of_le (rollN_lt _ _ (by decide)) (by decide))
        obtain ⟨yc, hyc⟩ : ∃ z, rollX (rollX (rollX (y))) = z := ⟨_, rfl⟩
        have hycl : yc < 18446744073709551616 := by rw [← hyc]; exact rollX_lt _
        have hBc := HB10.out
        rw [hyc] at hBc
        have HBc := hid hBc
        have HEQ : Hid (refK 5 y = (⟨((5 : Nat) : Int), (rollN (y) 64 : Nat), (rollN (rollX (y)) 64 : Nat), diceB cc yc⟩, diceX cc yc)) := hid (by unfold refK; rw [if_pos rfl]; rw [hcc, hyc] <;> try rfl)
        rw [hcc]
        have HBD : Hid (w2.heap.size ≤ w10.heap.size) := hid HU10.out.size
        have HLT : Hid (b < w10.heap.size ∧ sb < w10.heap.size) := hid ⟨hBc.lt, HL10.out.lt⟩
        clear hcc hyc hBc
        go_wp2_with fail
        go_loopw [14] (fun i wz => ∃ (j y' : Nat) (da : Option Addr) (dc : Nat) (ds : List Nat), i = .int .i64 j ∧ j ≤ cc ∧ y' < 18446744073709551616 ∧ Hid (BoxL wz b 78 [.int .u64 y']) ∧ Hid (BoxL wz sb 62 [.int .i64 ((5 : Nat) : Int), .int .i64 (rollN (y) 64 : Nat), .int .i64 (rollN (rollX (y)) 64 : Nat), .slice da j dc]) ∧ Hid (OwnB wz w10.heap.size (.slice da j dc) ds) ∧ Hid (diceB cc yc = ds ++ diceB (cc - j) y') ∧ Hid (diceX cc yc = diceX (cc - j) y') ∧ Hid (ds.length = j) ∧ Hid (Mut (fun q => q = b ∨ w2.heap.size ≤ q) w2 wz) ∧ Hid (w10.heap.size ≤ wz.heap.size)) (fun i _ => cc - (intOf i).toNat)
        case atStart => exact ⟨0, yc, none, 0, [], rfl, Nat.zero_le _, hycl, HBc, HL10, hid (OwnB.nil _ _), hid (by rw [Nat.sub_zero, List.nil_append]), hid (by rw [Nat.sub_zero]), hid rfl, HU10, hid (Nat.le_refl _)⟩
        case round =>
          obtain ⟨j, y', da, dc, ds, rfl, hjc, hy', HBj, HLj, HOj, H1, H2, H3, HUj, HZj⟩ := hrel
          rename World => wz
          by_cases hjl : j < cc
          · have e1 : decide ((j : Int) < (cc : Int)) = true := decide_eq_true (by omega)
            have e2 : decide (j < cc) = true := decide_eq_true hjl
            have s3 : wz.drew.cell? ⟨sb, 3, none⟩ = some (.slice da j dc) := (HLj.out.ext (Below.refl _ _).drew).cell (j := 3) rfl
            have HBd := hid (HBj.out.ext (Below.refl _ _).drew)
            have CR := hid (rollR_any y' 256 hy' (by decide) (by decide) HBd.out)
            obtain ⟨z, hz⟩ : ∃ z, rollN y' 256 = z := ⟨_, rfl⟩
            have hzl : z < 256 := by rw [← hz]; exact rollN_lt y' 256 (by decide)
            have hw8 : IntKind.u8.wrap (z : Int) = (z : Int) := by rw [IntKind.wrap_u8]; omega
            rw [hz] at CR
            have HZ := hid hz
            have HCJ : Hid (cc - j = (cc - (j + 1)) + 1) := hid (by omega)
            clear hz
            go_upto_region 28 with fail
            refine wp_region_held_drew (S := fun _ => True) (by kernel_rfl) (trivial) (fun hHeld => ?_)
            refine wpAnyH_take (i := 0) (oi := _) (v := .pointer (some ⟨sb, 3, none⟩)) rfl (by kernel_rfl) (by kernel_rfl) (by kernel_rfl) (fun _ _ _ h => h) (Or.inl ⟨by rfl, ?_⟩) (by assumption) ?_
            · intro W hSw
              try dsimp only at hSw
              go_simp
            try simp only [Act.put, List.getElem_toArray, List.getElem_cons_succ, List.getElem_cons_zero, List.setIfInBounds_toArray, List.set_cons_zero, List.set_cons_succ]
            refine wpAnyH_take (i := 2) (oi := _) (v := .pointer (some ⟨b, 0, none⟩)) rfl (by kernel_rfl) (by kernel_rfl) (by kernel_rfl) (fun _ _ _ h => h) (Or.inl ⟨by rfl, ?_⟩) (by assumption) ?_
            · intro W hSw
              try dsimp only at hSw
              go_simp
            try simp only [Act.put, List.getElem_toArray, List.getElem_cons_succ, List.getElem_cons_zero, List.setIfInBounds_toArray, List.set_cons_zero, List.set_cons_succ]
            refine wpAnyH_ready (rs := [1, 3]) (by kernel_rfl) (by simp) ?_
            refine AllReadyH.cons (o := _) rfl (fun K hK => ?_) (AllReadyH.cons (o := _) rfl (fun K hK => ?_) AllReadyH.nil)
            · go_simp
              refine hK.out _ _ (trivial) (fun hHeld => ?_)
              clear hK K
              try simp only [Act.put, List.getElem_toArray, List.getElem_cons_succ, List.getElem_cons_zero, List.setIfInBounds_toArray, List.set_cons_zero, List.set_cons_succ]
              refine wpAnyH_ready (rs := [3]) (by kernel_rfl) (by simp) ?_
              refine AllReadyH.cons (o := _) rfl (fun K hK => ?_) AllReadyH.nil
              go_simp
              (refine CR.out.mono ?_)
              rintro e wa ⟨rfl, hma, hBa⟩
              have HBa := hid hBa
              have hmu : Mut (fun q => q = b) wz wa := (Mut.of_below (Below.refl _ _).drew).trans hma
              have HLa := hid (HLj.out.mut hmu HSN.out.1)
              have HOa := hid (OwnB.mutD HOj.out hmu (fun g e1 e2 => by have h1 := (HOj.out.blkD e1).1; have h2 := HLT.out; omega))
              have HUa : Hid (Mut (fun q => q = b ∨ w2.heap.size ≤ q) w2 wa) := hid (HUj.out.trans (hmu.mono fun q _ e => .inl e))
              have a3 : wa.cell? ⟨sb, 3, none⟩ = some (.slice da j dc) := HLa.out.cell (j := 3) rfl
              have HLS : Hid (w10.heap.size ≤ wa.heap.size) := hid (Nat.le_trans HZj.out hmu.size)
              clear hma hBa hmu
              refine hK.out _ _ (trivial) (fun hHeld => ?_)
              clear hK K
              try simp only [Act.put, List.getElem_toArray, List.getElem_cons_succ, List.getElem_cons_zero, List.setIfInBounds_toArray, List.set_cons_zero, List.set_cons_succ]
              refine wpAnyH_take (i := 4) (oi := _) (v := .int .u8 (z : Int)) rfl (by kernel_rfl) (by kernel_rfl) (by kernel_rfl) (fun _ _ _ h => h) (Or.inl ⟨by rfl, ?_⟩) (by assumption) ?_
              · intro W hSw
                try dsimp only at hSw
                go_simp
              try simp only [Act.put, List.getElem_toArray, List.getElem_cons_succ, List.getElem_cons_zero, List.setIfInBounds_toArray, List.set_cons_zero, List.set_cons_succ]
              refine wpAnyH_ready (rs := [5]) (by kernel_rfl) (by simp) ?_
              refine AllReadyH.cons (o := _) rfl (fun K hK => ?_) AllReadyH.nil
              go_simp
              obtain ⟨wb, hwb⟩ : ∃ q, wa.alloc (.cells #[.int .u8 (z : Int)] 5) = q := ⟨_, rfl⟩
              try rw [hw8]
              rw [hwb]
              have hbb : Below wa.heap.size wa wb := by rw [← hwb]; exact (Below.refl _ _).alloc (Nat.le_refl _) _
              have HRb : Hid (ByteRow wb (some ⟨wa.heap.size, 0, none⟩) [z]) := hid (by rw [← hwb]; exact ByteRow.one wa z)
              have HBb := hid (HBa.out.ext hbb)
              have HLb := hid (HLa.out.ext hbb)
              have HOb := hid (HOa.out.ext hbb)
              have HUb : Hid (Mut (fun q => q = b ∨ w2.heap.size ≤ q) w2 wb) := hid (HUa.out.trans (Mut.of_below hbb))
              have HSb : Hid (w10.heap.size ≤ wb.heap.size) := hid (by have h1 := HOj.out; have h2 := HUb.out.size; have h3 := HLS.out; have h4 := hbb.size; omega)
              have b3 : wb.cell? ⟨sb, 3, none⟩ = some (.slice da j dc) := HLb.out.cell (j := 3) rfl
              clear hwb hbb
              refine hK.out _ _ (trivial) (fun hHeld => ?_)
              clear hK K
              try simp only [Act.put, List.getElem_toArray, List.getElem_cons_succ, List.getElem_cons_zero, List.setIfInBounds_toArray, List.set_cons_zero, List.set_cons_succ]
              refine wpAnyH_ready (rs := [6]) (by kernel_rfl) (by simp) ?_
              refine AllReadyH.cons (o := _) rfl (fun K hK => ?_) AllReadyH.nil
              refine step_appendBz (n := 1) (base := w10.heap.size) (by rfl) HOb.out HRb.out (hid rfl) (by have := H3.out; omega) HSb.out rfl rfl rfl ?_
              intro v8 wc hown8 hg8
              have hmg := grown_mutD hg8
              obtain ⟨ua, uc, hu, -, -⟩ := id hown8.row
              have hul : (ds ++ [z]).length = j + 1 := by have := H3.out; simp; omega
              rw [hul] at hu
              subst hu
              have hog : ∀ g, (Value.slice da j dc).ownBlock = some g → w10.heap.size ≤ g := fun g e => (HOb.out.blkD e).1
              have HLc := hid (HLb.out.mut hmg (fun e => by have h1 := hog _ e; have h2 := HLT.out; omega))
              have HBc2 := hid (HBb.out.mut hmg (fun e => by have h1 := hog _ e; have h2 := HLT.out; omega))
              have HUc : Hid (Mut (fun q => q = b ∨ w2.heap.size ≤ q) w2 wc) := hid (HUb.out.trans (hmg.mono fun q _ e => .inr (by have h1 := hog _ e; have h2 := HBD.out; omega)))
              have HSc : Hid (w10.heap.size ≤ wc.heap.size) := hid (Nat.le_trans HSb.out hmg.size)
              have HOc := hid hown8
              have c3 : wc.cell? ⟨sb, 3, none⟩ = some (.slice da j dc) := HLc.out.cell (j := 3) rfl
              have fzc := HLc.out.frozen
              clear hown8 hg8 hmg hul hog
              refine hK.out _ _ (trivial) (fun hHeld => ?_)
              clear hK K
              try simp only [Act.put, List.getElem_toArray, List.getElem_cons_succ, List.getElem_cons_zero, List.setIfInBounds_toArray, List.set_cons_zero, List.set_cons_succ]
              refine wpAnyH_ready (rs := [7]) (by kernel_rfl) (by simp) ?_
              refine AllReadyH.cons (o := _) rfl (fun K hK => ?_) AllReadyH.nil
              go_simp
              refine hK.out _ _ (trivial) (fun hHeld => ?_)
              clear hK K
              try simp only [Act.put, List.getElem_toArray, List.getElem_cons_succ, List.getElem_cons_zero, List.setIfInBounds_toArray, List.set_cons_zero, List.set_cons_succ]
              refine wpAnyH_ready (rs := [8]) (by kernel_rfl) (by simp) ?_
              refine AllReadyH.cons (o := _) rfl (fun K hK => ?_) AllReadyH.nil
              go_simp
              refine hK.out _ _ (trivial) (fun hHeld => ?_)
              clear hK K
              try simp only [Act.put, List.getElem_toArray, List.getElem_cons_succ, List.getElem_cons_zero, List.setIfInBounds_toArray, List.set_cons_zero, List.set_cons_succ]
              refine wpAnyH_done (by kernel_rfl) ?_ _
              obtain ⟨wd, hwd⟩ : ∃ q, wc.setCell ⟨sb, 3, none⟩ (.slice ua (j + 1) uc) = q := ⟨_, rfl⟩
              have hmd : Mut (fun q => q = sb) wc wd := by rw [← hwd]; exact mut1
              have hld := HLc.out.set (j := 3) (v := .slice ua (j + 1) uc)
              rw [hwd] at hld
              have HLd := hid hld
              have HBd2 := hid (HBc2.out.mut hmd (fun e => HSN.out.1 e.symm))
              have HUd : Hid (Mut (fun q => q = b ∨ w2.heap.size ≤ q) w2 wd) := hid (HUc.out.trans (hmd.mono fun q _ e => .inr (by rw [e]; exact HSN.out.2)))
              have HOd := hid (OwnB.mutD HOc.out hmd (fun g e1 e2 => by have h1 := (HOc.out.blkD e1).1; have h2 := HLT.out; omega))
              have HSd : Hid (w10.heap.size ≤ wd.heap.size) := hid (Nat.le_trans HSc.out hmd.size)
              go_wp2_with fail
              try rw [hwd]
              go_roundw
              case rel => exact ⟨j + 1, rollX y', ua, uc, ds ++ [z], by go_num, by omega, rollX_lt y', HBd2, HLd, HOd, hid (by rw [H1.out, HCJ.out, diceB_succ, HZ.out]; simp), hid (by rw [H2.out, HCJ.out, diceX_succ]), hid (by have := H3.out; simp; omega), HUd, HSd⟩
              case measure => simp [intOf]; omega
            · go_simp
              (refine CR.out.mono ?_)
              rintro e wa ⟨rfl, hma, hBa⟩
              have HBa := hid hBa
              have hmu : Mut (fun q => q = b) wz wa := (Mut.of_below (Below.refl _ _).drew).trans hma
              have HLa := hid (HLj.out.mut hmu HSN.out.1)
              have HOa := hid (OwnB.mutD HOj.out hmu (fun g e1 e2 => by have h1 := (HOj.out.blkD e1).1; have h2 := HLT.out; omega))
              have HUa : Hid (Mut (fun q => q = b ∨ w2.heap.size ≤ q) w2 wa) := hid (HUj.out.trans (hmu.mono fun q _ e => .inl e))
              have a3 : wa.cell? ⟨sb, 3, none⟩ = some (.slice da j dc) := HLa.out.cell (j := 3) rfl
              have HLS : Hid (w10.heap.size ≤ wa.heap.size) := hid (Nat.le_trans HZj.out hmu.size)
              clear hma hBa hmu
              refine hK.out _ _ (trivial) (fun hHeld => ?_)
              clear hK K
              try simp only [Act.put, List.getElem_toArray, List.getElem_cons_succ, List.getElem_cons_zero, List.setIfInBounds_toArray, List.set_cons_zero, List.set_cons_succ]
              refine wpAnyH_take (i := 4) (oi := _) (v := .int .u8 (z : Int)) rfl (by kernel_rfl) (by kernel_rfl) (by kernel_rfl) (fun _ _ _ h => h) (Or.inl ⟨by rfl, ?_⟩) (by assumption) ?_
              · intro W hSw
                try dsimp only at hSw
                go_simp
              try simp only [Act.put, List.getElem_toArray, List.getElem_cons_succ, List.getElem_cons_zero, List.setIfInBounds_toArray, List.set_cons_zero, List.set_cons_succ]
              refine wpAnyH_ready (rs := [1, 5]) (by kernel_rfl) (by simp) ?_
              refine AllReadyH.cons (o := _) rfl (fun K hK => ?_) (AllReadyH.cons (o := _) rfl (fun K hK => ?_) AllReadyH.nil)
              · go_simp
                refine hK.out _ _ (trivial) (fun hHeld => ?_)
                clear hK K
                try simp only [Act.put, List.getElem_toArray, List.getElem_cons_succ, List.getElem_cons_zero, List.setIfInBounds_toArray, List.set_cons_zero, List.set_cons_succ]
                refine wpAnyH_ready (rs := [5]) (by kernel_rfl) (by simp) ?_
                refine AllReadyH.cons (o := _) rfl (fun K hK => ?_) AllReadyH.nil
                go_simp
                obtain ⟨wb, hwb⟩ : ∃ q, wa.alloc (.cells #[.int .u8 (z : Int)] 5) = q := ⟨_, rfl⟩
                try rw [hw8]
                rw [hwb]
                have hbb : Below wa.heap.size wa wb := by rw [← hwb]; exact (Below.refl _ _).alloc (Nat.le_refl _) _
                have HRb : Hid (ByteRow wb (some ⟨wa.heap.size, 0, none⟩) [z]) := hid (by rw [← hwb]; exact ByteRow.one wa z)
                have HBb := hid (HBa.out.ext hbb)
                have HLb := hid (HLa.out.ext hbb)
                have HOb := hid (HOa.out.ext hbb)
                have HUb : Hid (Mut (fun q => q = b ∨ w2.heap.size ≤ q) w2 wb) := hid (HUa.out.trans (Mut.of_below hbb))
                have HSb : Hid (w10.heap.size ≤ wb.heap.size) := hid (by have h1 := HOj.out; have h2 := HUb.out.size; have h3 := HLS.out; have h4 := hbb.size; omega)
                have b3 : wb.cell? ⟨sb, 3, none⟩ = some (.slice da j dc) := HLb.out.cell (j := 3) rfl
                clear hwb hbb
                refine hK.out _ _ (trivial) (fun hHeld => ?_)
                clear hK K
                try simp only [Act.put, List.getElem_toArray, List.getElem_cons_succ, List.getElem_cons_zero, List.setIfInBounds_toArray, List.set_cons_zero, List.set_cons_succ]
                refine wpAnyH_ready (rs := [6]) (by kernel_rfl) (by simp) ?_
                refine AllReadyH.cons (o := _) rfl (fun K hK => ?_) AllReadyH.nil
                refine step_appendBz (n := 1) (base := w10.heap.size) (by rfl) HOb.out HRb.out (hid rfl) (by have := H3.out; omega) HSb.out rfl rfl rfl ?_
                intro v8 wc hown8 hg8
                have hmg := grown_mutD hg8
                obtain ⟨ua, uc, hu, -, -⟩ := id hown8.row
                have hul : (ds ++ [z]).length = j + 1 := by have := H3.out; simp; omega
                rw [hul] at hu
                subst hu
                have hog : ∀ g, (Value.slice da j dc).ownBlock = some g → w10.heap.size ≤ g := fun g e => (HOb.out.blkD e).1
                have HLc := hid (HLb.out.mut hmg (fun e => by have h1 := hog _ e; have h2 := HLT.out; omega))
                have HBc2 := hid (HBb.out.mut hmg (fun e => by have h1 := hog _ e; have h2 := HLT.out; omega))
                have HUc : Hid (Mut (fun q => q = b ∨ w2.heap.size ≤ q) w2 wc) := hid (HUb.out.trans (hmg.mono fun q _ e => .inr (by have h1 := hog _ e; have h2 := HBD.out; omega)))
                have HSc : Hid (w10.heap.size ≤ wc.heap.size) := hid (Nat.le_trans HSb.out hmg.size)
                have HOc := hid hown8
                have c3 : wc.cell? ⟨sb, 3, none⟩ = some (.slice da j dc) := HLc.out.cell (j := 3) rfl
                have fzc := HLc.out.frozen
                clear hown8 hg8 hmg hul hog
                refine hK.out _ _ (trivial) (fun hHeld => ?_)
                clear hK K
                try simp only [Act.put, List.getElem_toArray, List.getElem_cons_succ, List.getElem_cons_zero, List.setIfInBounds_toArray, List.set_cons_zero, List.set_cons_succ]
                refine wpAnyH_ready (rs := [7]) (by kernel_rfl) (by simp) ?_
                refine AllReadyH.cons (o := _) rfl (fun K hK => ?_) AllReadyH.nil
                go_simp
                refine hK.out _ _ (trivial) (fun hHeld => ?_)
                clear hK K
                try simp only [Act.put, List.getElem_toArray, List.getElem_cons_succ, List.getElem_cons_zero, List.setIfInBounds_toArray, List.set_cons_zero, List.set_cons_succ]
                refine wpAnyH_ready (rs := [8]) (by kernel_rfl) (by simp) ?_
                refine AllReadyH.cons (o := _) rfl (fun K hK => ?_) AllReadyH.nil
                go_simp
                refine hK.out _ _ (trivial) (fun hHeld => ?_)
                clear hK K
                try simp only [Act.put, List.getElem_toArray, List.getElem_cons_succ, List.getElem_cons_zero, List.setIfInBounds_toArray, List.set_cons_zero, List.set_cons_succ]
                refine wpAnyH_done (by kernel_rfl) ?_ _
                obtain ⟨wd, hwd⟩ : ∃ q, wc.setCell ⟨sb, 3, none⟩ (.slice ua (j + 1) uc) = q := ⟨_, rfl⟩
                have hmd : Mut (fun q => q = sb) wc wd := by rw [← hwd]; exact mut1
                have hld := HLc.out.set (j := 3) (v := .slice ua (j + 1) uc)
                rw [hwd] at hld
                have HLd := hid hld
                have HBd2 := hid (HBc2.out.mut hmd (fun e => HSN.out.1 e.symm))
                have HUd : Hid (Mut (fun q => q = b ∨ w2.heap.size ≤ q) w2 wd) := hid (HUc.out.trans (hmd.mono fun q _ e => .inr (by rw [e]; exact HSN.out.2)))
                have HOd := hid (OwnB.mutD HOc.out hmd (fun g e1 e2 => by have h1 := (HOc.out.blkD e1).1; have h2 := HLT.out; omega))
                have HSd : Hid (w10.heap.size ≤ wd.heap.size) := hid (Nat.le_trans HSc.out hmd.size)
                go_wp2_with fail
                try rw [hwd]
                go_roundw
                case rel => exact ⟨j + 1, rollX y', ua, uc, ds ++ [z], by go_num, by omega, rollX_lt y', HBd2, HLd, HOd, hid (by rw [H1.out, HCJ.out, diceB_succ, HZ.out]; simp), hid (by rw [H2.out, HCJ.out, diceX_succ]), hid (by have := H3.out; simp; omega), HUd, HSd⟩
                case measure => simp [intOf]; omega
              · go_simp
                obtain ⟨wb, hwb⟩ : ∃ q, wa.alloc (.cells #[.int .u8 (z : Int)] 5) = q := ⟨_, rfl⟩
                try rw [hw8]
                rw [hwb]
                have hbb : Below wa.heap.size wa wb := by rw [← hwb]; exact (Below.refl _ _).alloc (Nat.le_refl _) _
                have HRb : Hid (ByteRow wb (some ⟨wa.heap.size, 0, none⟩) [z]) := hid (by rw [← hwb]; exact ByteRow.one wa z)
                have HBb := hid (HBa.out.ext hbb)
                have HLb := hid (HLa.out.ext hbb)
                have HOb := hid (HOa.out.ext hbb)
                have HUb : Hid (Mut (fun q => q = b ∨ w2.heap.size ≤ q) w2 wb) := hid (HUa.out.trans (Mut.of_below hbb))
                have HSb : Hid (w10.heap.size ≤ wb.heap.size) := hid (by have h1 := HOj.out; have h2 := HUb.out.size; have h3 := HLS.out; have h4 := hbb.size; omega)
                have b3 : wb.cell? ⟨sb, 3, none⟩ = some (.slice da j dc) := HLb.out.cell (j := 3) rfl
                clear hwb hbb
                refine hK.out _ _ (trivial) (fun hHeld => ?_)
                clear hK K
                try simp only [Act.put, List.getElem_toArray, List.getElem_cons_succ, List.getElem_cons_zero, List.setIfInBounds_toArray, List.set_cons_zero, List.set_cons_succ]
                refine wpAnyH_ready (rs := [1]) (by kernel_rfl) (by simp) ?_
                refine AllReadyH.cons (o := _) rfl (fun K hK => ?_) AllReadyH.nil
                go_simp
                refine hK.out _ _ (trivial) (fun hHeld => ?_)
                clear hK K
                try simp only [Act.put, List.getElem_toArray, List.getElem_cons_succ, List.getElem_cons_zero, List.setIfInBounds_toArray, List.set_cons_zero, List.set_cons_succ]
                refine wpAnyH_ready (rs := [6]) (by kernel_rfl) (by simp) ?_
                refine AllReadyH.cons (o := _) rfl (fun K hK => ?_) AllReadyH.nil
                refine step_appendBz (n := 1) (base := w10.heap.size) (by rfl) HOb.out HRb.out (hid rfl) (by have := H3.out; omega) HSb.out rfl rfl rfl ?_
                intro v8 wc hown8 hg8
                have hmg := grown_mutD hg8
                obtain ⟨ua, uc, hu, -, -⟩ := id hown8.row
                have hul : (ds ++ [z]).length = j + 1 := by have := H3.out; simp; omega
                rw [hul] at hu
                subst hu
                have hog : ∀ g, (Value.slice da j dc).ownBlock = some g → w10.heap.size ≤ g := fun g e => (HOb.out.blkD e).1
                have HLc := hid (HLb.out.mut hmg (fun e => by have h1 := hog _ e; have h2 := HLT.out; omega))
                have HBc2 := hid (HBb.out.mut hmg (fun e => by have h1 := hog _ e; have h2 := HLT.out; omega))
                have HUc : Hid (Mut (fun q => q = b ∨ w2.heap.size ≤ q) w2 wc) := hid (HUb.out.trans (hmg.mono fun q _ e => .inr (by have h1 := hog _ e; have h2 := HBD.out; omega)))
                have HSc : Hid (w10.heap.size ≤ wc.heap.size) := hid (Nat.le_trans HSb.out hmg.size)
                have HOc := hid hown8
                have c3 : wc.cell? ⟨sb, 3, none⟩ = some (.slice da j dc) := HLc.out.cell (j := 3) rfl
                have fzc := HLc.out.frozen
                clear hown8 hg8 hmg hul hog
                refine hK.out _ _ (trivial) (fun hHeld => ?_)
                clear hK K
                try simp only [Act.put, List.getElem_toArray, List.getElem_cons_succ, List.getElem_cons_zero, List.setIfInBounds_toArray, List.set_cons_zero, List.set_cons_succ]
                refine wpAnyH_ready (rs := [7]) (by kernel_rfl) (by simp) ?_
                refine AllReadyH.cons (o := _) rfl (fun K hK => ?_) AllReadyH.nil
                go_simp
                refine hK.out _ _ (trivial) (fun hHeld => ?_)
                clear hK K
                try simp only [Act.put, List.getElem_toArray, List.getElem_cons_succ, List.getElem_cons_zero, List.setIfInBounds_toArray, List.set_cons_zero, List.set_cons_succ]
                refine wpAnyH_ready (rs := [8]) (by kernel_rfl) (by simp) ?_
                refine AllReadyH.cons (o := _) rfl (fun K hK => ?_) AllReadyH.nil
                go_simp
                refine hK.out _ _ (trivial) (fun hHeld => ?_)
                clear hK K
                try simp only [Act.put, List.getElem_toArray, List.getElem_cons_succ, List.getElem_cons_zero, List.setIfInBounds_toArray, List.set_cons_zero, List.set_cons_succ]
                refine wpAnyH_done (by kernel_rfl) ?_ _
                obtain ⟨wd, hwd⟩ : ∃ q, wc.setCell ⟨sb, 3, none⟩ (.slice ua (j + 1) uc) = q := ⟨_, rfl⟩
                have hmd : Mut (fun q => q = sb) wc wd := by rw [← hwd]; exact mut1
                have hld := HLc.out.set (j := 3) (v := .slice ua (j + 1) uc)
                rw [hwd] at hld
                have HLd := hid hld
                have HBd2 := hid (HBc2.out.mut hmd (fun e => HSN.out.1 e.symm))
                have HUd : Hid (Mut (fun q => q = b ∨ w2.heap.size ≤ q) w2 wd) := hid (HUc.out.trans (hmd.mono fun q _ e => .inr (by rw [e]; exact HSN.out.2)))
                have HOd := hid (OwnB.mutD HOc.out hmd (fun g e1 e2 => by have h1 := (HOc.out.blkD e1).1; have h2 := HLT.out; omega))
                have HSd : Hid (w10.heap.size ≤ wd.heap.size) := hid (Nat.le_trans HSc.out hmd.size)
                go_wp2_with fail
                try rw [hwd]
                go_roundw
                case rel => exact ⟨j + 1, rollX y', ua, uc, ds ++ [z], by go_num, by omega, rollX_lt y', HBd2, HLd, HOd, hid (by rw [H1.out, HCJ.out, diceB_succ, HZ.out]; simp), hid (by rw [H2.out, HCJ.out, diceX_succ]), hid (by have := H3.out; simp; omega), HUd, HSd⟩
                case measure => simp [intOf]; omega
          · have e1 : decide ((j : Int) < (cc : Int)) = false := decide_eq_false (by omega)
            have e2 : decide (j < cc) = false := decide_eq_false hjl
            obtain rfl : j = cc := by omega
            have HDS : Hid (diceB j yc = ds) := hid (by rw [H1.out, Nat.sub_self, diceB_zero, List.append_nil])
            have HXS : Hid (diceX j yc = y') := hid (by rw [H2.out, Nat.sub_self, diceX_zero])
            obtain ⟨w99, hw99⟩ : ∃ q, wz = q := ⟨_, rfl⟩
            subst hw99
            rename World => w99
            have HIT : Hid (ItemAt w99 (fun q => u6.ownBlock = some q ∨ q = b) (.slice da j dc) ds) := hid (by
              obtain ⟨a9, c9, e9, hr9, -⟩ := HOj.out.row
              rw [H3.out] at e9
              cases e9
              refine ⟨_, _, by rw [H3.out], hr9, fun q hq => by rw [← HDS.out] at hq; exact diceB_lt _ _ q hq, fun c off e => ⟨?_, fun hb => ?_⟩⟩
              · subst e; exact (HOj.out.blkD rfl).2
              · subst e
                have h1 := (HOj.out.blkD (g := c) rfl).1
                have h3 := HBD.out
                rcases hb with hb | hb
                · have h2 := (HO2.out.blk hb).2; omega
                · have h2 := HLT.out; omega)
            have HL99 := hid HLj.out
            have HB99 := hid HBj.out
            have HU99 := hid HUj.out
            have l0 := HL99.out.cell (j := 0) rfl
            have l1 := HL99.out.cell (j := 1) rfl
            have l2 := HL99.out.cell (j := 2) rfl
            have l3 := HL99.out.cell (j := 3) rfl
            have HOf := hid (HO2.out.mut HU99.out (fun g e1 e2 => by have h1 := HO2.out.blk e1; have h2 := HBZ.out; rcases e2 with e2 | e2 <;> omega))
            have HEf := hid ((HE2.out.mut HU99.out fun c _ h2 => h2.elim (fun e => .inl (.inr e)) .inr).grow (N' := fun q => u6.ownBlock = some q ∨ q = b) fun q h => .inl (.inl h))
            have HW12 : Hid (W1.heap.size ≤ w99.heap.size) := hid (Nat.le_trans HSZ.out HU99.out.size)
            have hst : stormS y0 = (⟨((5 : Nat) : Int), (rollN (y) 64 : Nat), (rollN (rollX (y)) 64 : Nat), ds⟩, y') := by rw [HSK.out, HEQ.out, HDS.out, HXS.out]
            have HK : Hid ((-9223372036854775808 ≤ (⟨((5 : Nat) : Int), (rollN (y) 64 : Nat), (rollN (rollX (y)) 64 : Nat), ds⟩ : StepD).kind ∧ (⟨((5 : Nat) : Int), (rollN (y) 64 : Nat), (rollN (rollX (y)) 64 : Nat), ds⟩ : StepD).kind ≤ 9223372036854775807) ∧ StepOk ⟨((5 : Nat) : Int), (rollN (y) 64 : Nat), (rollN (rollX (y)) 64 : Nat), ds⟩) := hid (by
              have h := storm_fit y0
              rw [hst] at h
              exact ⟨fit_kind h, h.ok⟩)
            have HNX : Hid ((y') < 18446744073709551616) := hid (by have h := (stormS_next y0).lt; rw [hst] at h; exact h)
            have HSTT := hid hst
            clear hst
            go_wp2_with (at_builtin; refine wpList_appendEP (el := [.int .i64 ((5 : Nat) : Int), .int .i64 (rollN (y) 64 : Nat), .int .i64 (rollN (rollX (y)) 64 : Nat), .slice da j dc]) (b := w99.heap.size) Tryz.underlying28 hi hz0 hz1 hz2 rfl (by decide) (by decide) (HOf.out.ext ((Below.refl _ _).alloc (Nat.le_refl _) _)) rfl (fun u hu => by simp at hu; rcases hu with rfl | rfl | rfl | rfl <;> rfl) (cells4_new _ _ _ _ _ _) HXL.out (by have := HW12.out; simp; omega) rfl rfl rfl rfl ?_; intro vq wq hownq hmq hnq)
            have hmw : Mut (fun g => u6.ownBlock = some g) w99 wq := (Mut.of_below ((Below.refl _ _).alloc (Nat.le_refl _) _)).trans (hmq.mono fun k _ e => e)
            have HEL6 : Hid (ElsAt wq (fun q => vq.ownBlock = some q ∨ q = b) (xs ++ [[.int .i64 ((5 : Nat) : Int), .int .i64 (rollN (y) 64 : Nat), .int .i64 (rollN (rollX (y)) 64 : Nat), .slice da j dc]]) ((out ++ [(⟨((5 : Nat) : Int), (rollN (y) 64 : Nat), (rollN (rollX (y)) 64 : Nat), ds⟩ : StepD)]).map stepH)) := hid (by
              have h0 := (HEf.out.snoc (q := [.int .i64 ((5 : Nat) : Int), .int .i64 (rollN (y) 64 : Nat), .int .i64 (rollN (rollX (y)) 64 : Nat)]) HIT.out).grow (N' := fun q => (u6.ownBlock = some q ∨ q = b) ∨ w99.heap.size ≤ q) fun b h => h
              have h1 := h0.mut hmw fun b _ e => .inl (.inl e)
              have h2 := h1.grow (N' := fun q => vq.ownBlock = some q ∨ q = b) fun q hq => .inl (hq.elim (fun hq => (hnq q hq).imp .inl fun h => by simp at h; omega) fun e => .inl (.inr e))
              rw [List.map_append]
              exact h2)
            have HO6 := hid hownq
            have HU6 : Hid (Mut (fun q => q = b) W1 wq) := hid ((HM2.out.transG HU99.out (fun q hq e => by have := HSZ.out; rcases e with e | e; exact e; omega)).transG hmw (fun q hq e => by have h1 := (HOf.out.blk e).1; omega))
            have HB6' := hid (HB99.out.mut hmw (fun e => by have h1 := (HOf.out.blk e).1; have h2 := HBZ.out; omega))
            have HOK6 : Hid (∀ s ∈ out ++ [(⟨((5 : Nat) : Int), (rollN (y) 64 : Nat), (rollN (rollX (y)) 64 : Nat), ds⟩ : StepD)], (-9223372036854775808 ≤ s.kind ∧ s.kind ≤ 9223372036854775807) ∧ StepOk s) := hid fun s hs => by
              rcases List.mem_append.1 hs with hs | hs
              · exact hok.out s hs
              · rw [List.mem_singleton.1 hs]; exact HK.out
            clear hownq hmq hnq hmw l0 l1 l2 l3
            go_wp2_with fail
            go_roundw
            case rel => exact ⟨k0 + 1, y', out ++ [⟨((5 : Nat) : Int), (rollN (y) 64 : Nat), (rollN (rollX (y)) 64 : Nat), ds⟩], _, by go_num, by omega, HNX.out, HB6', hid (by have := hol.out; simp; omega), hid (by rw [HST.out, HR.out, stormL_succ, HSTT.out]; simp), HO6, HEL6, HOK6, HU6⟩
            case measure => simp [intOf]; omega
      by_cases h12 : d = 12
      · subst h12
        obtain rfl : A0 = 8 := by rw [← hA]; rfl
        clear hA
        have C6 := hid (rollR_any (y) 8 hyl (by decide) (by decide) HB5.out)
        go_wp2_with fail
        refine C6.out.mono ?_
        rintro e w6 ⟨rfl, hm6, hB6⟩
        have HB6 := hid hB6
        have HU6 : Hid (Mut (fun q => q = b ∨ w2.heap.size ≤ q) w2 w6) := hid (HU5.out.trans (hm6.mono fun q _ e => .inl e))
        have HL6 := hid (HL5.out.mut hm6 HSN.out.1)
        clear C6 hm6 hB6
        have lz7 := HL6.out.cell (j := 1) rfl
        have fz7 := HL6.out.frozen
        go_upto_region 12 with fail
        obtain ⟨w7, hw7⟩ : ∃ z, w6.setCell ⟨sb, 1, none⟩ (.int .i64 (rollN (y) 8 : Nat)) = z := ⟨_, rfl⟩
        rw [hw7]
        have hm7 : Mut (fun q => q = sb) w6 w7 := by rw [← hw7]; exact mut1
        have hl7 := HL6.out.set (j := 1) (v := .int .i64 (rollN (y) 8 : Nat))
        rw [hw7] at hl7
        have HL7 := hid hl7
        have HB7 := hid (HB6.out.mut hm7 (fun e => HSN.out.1 e.symm))
        have HU7 : Hid (Mut (fun q => q = b ∨ w2.heap.size ≤ q) w2 w7) := hid (HU6.out.trans (hm7.mono fun q _ e => .inr (by rw [e]; exact HSN.out.2)))
        clear hw7 hm7 hl7 lz7 fz7
        have C8 := hid (rollR_any (rollX (y)) 8 (rollX_lt _) (by decide) (by decide) HB7.out)
        go_wp2_with fail
        refine C8.out.mono ?_
        rintro e w8 ⟨rfl, hm8, hB8⟩
        have HB8 := hid hB8
        have HU8 : Hid (Mut (fun q => q = b ∨ w2.heap.size ≤ q) w2 w8) := hid (HU7.out.trans (hm8.mono fun q _ e => .inl e))
        have HL8 := hid (HL7.out.mut hm8 HSN.out.1)
        clear C8 hm8 hB8
        have lz9 := HL8.out.cell (j := 2) rfl
        have fz9 := HL8.out.frozen
        go_upto_region 16 with fail
        obtain ⟨w9, hw9⟩ : ∃ z, w8.setCell ⟨sb, 2, none⟩ (.int .i64 (rollN (rollX (y)) 8 : Nat)) = z := ⟨_, rfl⟩
        rw [hw9]
        have hm9 : Mut (fun q => q = sb) w8 w9 := by rw [← hw9]; exact mut1
        have hl9 := HL8.out.set (j := 2) (v := .int .i64 (rollN (rollX (y)) 8 : Nat))
        rw [hw9] at hl9
        have HL9 := hid hl9
        have HB9 := hid (HB8.out.mut hm9 (fun e => HSN.out.1 e.symm))
        have HU9 : Hid (Mut (fun q => q = b ∨ w2.heap.size ≤ q) w2 w9) := hid (HU8.out.trans (hm9.mono fun q _ e => .inr (by rw [e]; exact HSN.out.2)))
        clear hw9 hm9 hl9 lz9 fz9
        have l0 := HL9.out.cell (j := 0) rfl
        have l1 := HL9.out.cell (j := 1) rfl
        have l2 := HL9.out.cell (j := 2) rfl
        have l3 := HL9.out.cell (j := 3) rfl
        have HIT : Hid (ItemAt w9 (fun q => u6.ownBlock = some q ∨ q = b) (.slice none 0 0) []) := hid (ItemAt.none _ _)
        have HOf := hid (HO2.out.mut HU9.out (fun g e1 e2 => by have h1 := HO2.out.blk e1; have h2 := HBZ.out; rcases e2 with e2 | e2 <;> omega))
        have HEf := hid ((HE2.out.mut HU9.out fun c _ h2 => h2.elim (fun e => .inl (.inr e)) .inr).grow (N' := fun q => u6.ownBlock = some q ∨ q = b) fun q h => .inl (.inl h))
        have HW12 : Hid (W1.heap.size ≤ w9.heap.size) := hid (Nat.le_trans HSZ.out HU9.out.size)
        have hst : stormS y0 = (⟨((12 : Nat) : Int), (rollN (y) 8 : Nat), (rollN (rollX (y)) 8 : Nat), []⟩, rollX (rollX (y))) := by rw [HSK.out]; unfold refK; rw [if_neg (by decide), if_pos rfl]; rfl
        have HK : Hid ((-9223372036854775808 ≤ (⟨((12 : Nat) : Int), (rollN (y) 8 : Nat), (rollN (rollX (y)) 8 : Nat), []⟩ : StepD).kind ∧ (⟨((12 : Nat) : Int), (rollN (y) 8 : Nat), (rollN (rollX (y)) 8 : Nat), []⟩ : StepD).kind ≤ 9223372036854775807) ∧ StepOk ⟨((12 : Nat) : Int), (rollN (y) 8 : Nat), (rollN (rollX (y)) 8 : Nat), []⟩) := hid (by
          have h := storm_fit y0
          rw [hst] at h
          exact ⟨fit_kind h, h.ok⟩)
        have HNX : Hid ((rollX (rollX (y))) < 18446744073709551616) := hid (by have h := (stormS_next y0).lt; rw [hst] at h; exact h)
        have HSTT := hid hst
        clear hst
        go_wp2_with (at_builtin; refine wpList_appendEP (el := [.int .i64 ((12 : Nat) : Int), .int .i64 (rollN (y) 8 : Nat), .int .i64 (rollN (rollX (y)) 8 : Nat), .slice none 0 0]) (b := w9.heap.size) Tryz.underlying28 hi hz0 hz1 hz2 rfl (by decide) (by decide) (HOf.out.ext ((Below.refl _ _).alloc (Nat.le_refl _) _)) rfl (fun u hu => by simp at hu; rcases hu with rfl | rfl | rfl | rfl <;> rfl) (cells4_new _ _ _ _ _ _) HXL.out (by have := HW12.out; simp; omega) rfl rfl rfl rfl ?_; intro vq wq hownq hmq hnq)
        have hmw : Mut (fun g => u6.ownBlock = some g) w9 wq := (Mut.of_below ((Below.refl _ _).alloc (Nat.le_refl _) _)).trans (hmq.mono fun k _ e => e)
        have HEL6 : Hid (ElsAt wq (fun q => vq.ownBlock = some q ∨ q = b) (xs ++ [[.int .i64 ((12 : Nat) : Int), .int .i64 (rollN (y) 8 : Nat), .int .i64 (rollN (rollX (y)) 8 : Nat), .slice none 0 0]]) ((out ++ [(⟨((12 : Nat) : Int), (rollN (y) 8 : Nat), (rollN (rollX (y)) 8 : Nat), []⟩ : StepD)]).map stepH)) := hid (by
          have h0 := (HEf.out.snoc (q := [.int .i64 ((12 : Nat) : Int), .int .i64 (rollN (y) 8 : Nat), .int .i64 (rollN (rollX (y)) 8 : Nat)]) HIT.out).grow (N' := fun q => (u6.ownBlock = some q ∨ q = b) ∨ w9.heap.size ≤ q) fun b h => h
          have h1 := h0.mut hmw fun b _ e => .inl (.inl e)
          have h2 := h1.grow (N' := fun q => vq.ownBlock = some q ∨ q = b) fun q hq => .inl (hq.elim (fun hq => (hnq q hq).imp .inl fun h => by simp at h; omega) fun e => .inl (.inr e))
          rw [List.map_append]
          exact h2)
        have HO6 := hid hownq
        have HU6 : Hid (Mut (fun q => q = b) W1 wq) := hid ((HM2.out.transG HU9.out (fun q hq e => by have := HSZ.out; rcases e with e | e; exact e; omega)).transG hmw (fun q hq e => by have h1 := (HOf.out.blk e).1; omega))
        have HB6' := hid (HB9.out.mut hmw (fun e => by have h1 := (HOf.out.blk e).1; have h2 := HBZ.out; omega))
        have HOK6 : Hid (∀ s ∈ out ++ [(⟨((12 : Nat) : Int), (rollN (y) 8 : Nat), (rollN (rollX (y)) 8 : Nat), []⟩ : StepD)], (-9223372036854775808 ≤ s.kind ∧ s.kind ≤ 9223372036854775807) ∧ StepOk s) := hid fun s hs => by
          rcases List.mem_append.1 hs with hs | hs
          · exact hok.out s hs
          · rw [List.mem_singleton.1 hs]; exact HK.out
        clear hownq hmq hnq hmw l0 l1 l2 l3
        go_wp2_with fail
        go_roundw
        case rel => exact ⟨k0 + 1, rollX (rollX (y)), out ++ [⟨((12 : Nat) : Int), (rollN (y) 8 : Nat), (rollN (rollX (y)) 8 : Nat), []⟩], _, by go_num, by omega, HNX.out, HB6', hid (by have := hol.out; simp; omega), hid (by rw [HST.out, HR.out, stormL_succ, HSTT.out]; simp), HO6, HEL6, HOK6, HU6⟩
        case measure => simp [intOf]; omega
      by_cases h13 : d = 13
      · subst h13
        obtain rfl : A0 = 0 := by rw [← hA]; rfl
        clear hA
        obtain ⟨W5, hW5e⟩ : ∃ z, W5 = z := ⟨_, rfl⟩
        subst hW5e
        have l0 := HL5.out.cell (j := 0) rfl
        have l1 := HL5.out.cell (j := 1) rfl
        have l2 := HL5.out.cell (j := 2) rfl
        have l3 := HL5.out.cell (j := 3) rfl
        have HIT : Hid (ItemAt W5 (fun q => u6.ownBlock = some q ∨ q = b) (.slice none 0 0) []) := hid (ItemAt.none _ _)
        have HOf := hid (HO2.out.mut HU5.out (fun g e1 e2 => by have h1 := HO2.out.blk e1; have h2 := HBZ.out; rcases e2 with e2 | e2 <;> omega))
        have HEf := hid ((HE2.out.mut HU5.out fun c _ h2 => h2.elim (fun e => .inl (.inr e)) .inr).grow (N' := fun q => u6.ownBlock = some q ∨ q = b) fun q h => .inl (.inl h))
        have HW12 : Hid (W1.heap.size ≤ W5.heap.size) := hid (Nat.le_trans HSZ.out HU5.out.size)
        have hst : stormS y0 = (⟨((13 : Nat) : Int), 0, 0, []⟩, y) := by rw [HSK.out]; unfold refK; rw [if_neg (by decide), if_neg (by decide), if_pos rfl]; rfl
        have HK : Hid ((-9223372036854775808 ≤ (⟨((13 : Nat) : Int), 0, 0, []⟩ : StepD).kind ∧ (⟨((13 : Nat) : Int), 0, 0, []⟩ : StepD).kind ≤ 9223372036854775807) ∧ StepOk ⟨((13 : Nat) : Int), 0, 0, []⟩) := hid (by
          have h := storm_fit y0
          rw [hst] at h
          exact ⟨fit_kind h, h.ok⟩)
        have HNX : Hid ((y) < 18446744073709551616) := hid (by have h := (stormS_next y0).lt; rw [hst] at h; exact h)
        have HSTT := hid hst
        clear hst
        go_wp2_with (at_builtin; refine wpList_appendEP (el := [.int .i64 ((13 : Nat) : Int), .int .i64 0, .int .i64 0, .slice none 0 0]) (b := W5.heap.size) Tryz.underlying28 hi hz0 hz1 hz2 rfl (by decide) (by decide) (HOf.out.ext ((Below.refl _ _).alloc (Nat.le_refl _) _)) rfl (fun u hu => by simp at hu; rcases hu with rfl | rfl | rfl | rfl <;> rfl) (cells4_new _ _ _ _ _ _) HXL.out (by have := HW12.out; simp; omega) rfl rfl rfl rfl ?_; intro vq wq hownq hmq hnq)
        have hmw : Mut (fun g => u6.ownBlock = some g) W5 wq := (Mut.of_below ((Below.refl _ _).alloc (Nat.le_refl _) _)).trans (hmq.mono fun k _ e => e)
        have HEL6 : Hid (ElsAt wq (fun q => vq.ownBlock = some q ∨ q = b) (xs ++ [[.int .i64 ((13 : Nat) : Int), .int .i64 0, .int .i64 0, .slice none 0 0]]) ((out ++ [(⟨((13 : Nat) : Int), 0, 0, []⟩ : StepD)]).map stepH)) := hid (by
          have h0 := (HEf.out.snoc (q := [.int .i64 ((13 : Nat) : Int), .int .i64 0, .int .i64 0]) HIT.out).grow (N' := fun q => (u6.ownBlock = some q ∨ q = b) ∨ W5.heap.size ≤ q) fun b h => h
          have h1 := h0.mut hmw fun b _ e => .inl (.inl e)
          have h2 := h1.grow (N' := fun q => vq.ownBlock = some q ∨ q = b) fun q hq => .inl (hq.elim (fun hq => (hnq q hq).imp .inl fun h => by simp at h; omega) fun e => .inl (.inr e))
          rw [List.map_append]
          exact h2)
        have HO6 := hid hownq
        have HU6 : Hid (Mut (fun q => q = b) W1 wq) := hid ((HM2.out.transG HU5.out (fun q hq e => by have := HSZ.out; rcases e with e | e; exact e; omega)).transG hmw (fun q hq e => by have h1 := (HOf.out.blk e).1; omega))
        have HB6' := hid (HB5.out.mut hmw (fun e => by have h1 := (HOf.out.blk e).1; have h2 := HBZ.out; omega))
        have HOK6 : Hid (∀ s ∈ out ++ [(⟨((13 : Nat) : Int), 0, 0, []⟩ : StepD)], (-9223372036854775808 ≤ s.kind ∧ s.kind ≤ 9223372036854775807) ∧ StepOk s) := hid fun s hs => by
          rcases List.mem_append.1 hs with hs | hs
          · exact hok.out s hs
          · rw [List.mem_singleton.1 hs]; exact HK.out
        clear hownq hmq hnq hmw l0 l1 l2 l3
        go_wp2_with fail
        go_roundw
        case rel => exact ⟨k0 + 1, y, out ++ [⟨((13 : Nat) : Int), 0, 0, []⟩], _, by go_num, by omega, HNX.out, HB6', hid (by have := hol.out; simp; omega), hid (by rw [HST.out, HR.out, stormL_succ, HSTT.out]; simp), HO6, HEL6, HOK6, HU6⟩
        case measure => simp [intOf]; omega
      by_cases h9 : d = 9
      · subst h9
        obtain rfl : A0 = 8 := by rw [← hA]; rfl
        clear hA
        have C6 := hid (rollR_any (y) 8 hyl (by decide) (by decide) HB5.out)
        go_wp2_with fail
        refine C6.out.mono ?_
        rintro e w6 ⟨rfl, hm6, hB6⟩
        have HB6 := hid hB6
        have HU6 : Hid (Mut (fun q => q = b ∨ w2.heap.size ≤ q) w2 w6) := hid (HU5.out.trans (hm6.mono fun q _ e => .inl e))
        have HL6 := hid (HL5.out.mut hm6 HSN.out.1)
        clear C6 hm6 hB6
        have lz7 := HL6.out.cell (j := 1) rfl
        have fz7 := HL6.out.frozen
        go_upto_region 12 with fail
        obtain ⟨w7, hw7⟩ : ∃ z, w6.setCell ⟨sb, 1, none⟩ (.int .i64 (rollN (y) 8 : Nat)) = z := ⟨_, rfl⟩
        rw [hw7]
        have hm7 : Mut (fun q => q = sb) w6 w7 := by rw [← hw7]; exact mut1
        have hl7 := HL6.out.set (j := 1) (v := .int .i64 (rollN (y) 8 : Nat))
        rw [hw7] at hl7
        have HL7 := hid hl7
        have HB7 := hid (HB6.out.mut hm7 (fun e => HSN.out.1 e.symm))
        have HU7 : Hid (Mut (fun q => q = b ∨ w2.heap.size ≤ q) w2 w7) := hid (HU6.out.trans (hm7.mono fun q _ e => .inr (by rw [e]; exact HSN.out.2)))
        clear hw7 hm7 hl7 lz7 fz7
        have C8 := hid (rollR_any (rollX (y)) 4 (rollX_lt _) (by decide) (by decide) HB7.out)
        go_wp2_with fail
        refine C8.out.mono ?_
        rintro e w8 ⟨rfl, hm8, hB8⟩
        have HB8 := hid hB8
        have HU8 : Hid (Mut (fun q => q = b ∨ w2.heap.size ≤ q) w2 w8) := hid (HU7.out.trans (hm8.mono fun q _ e => .inl e))
        have HL8 := hid (HL7.out.mut hm8 HSN.out.1)
        clear C8 hm8 hB8
        obtain ⟨cc, hcc⟩ : ∃ z, rollN (rollX (y)) 4 = z := ⟨_, rfl⟩
        have hccl : cc ≤ 4 := by rw [← hcc]; exact Nat.le_of_lt (Nat.lt_of_lt_of_le (rollN_lt _ _ (by decide)) (by decide))
        obtain ⟨yc, hyc⟩ : ∃ z, rollX (rollX (y)) = z := ⟨_, rfl⟩
        have hycl : yc < 18446744073709551616 := by rw [← hyc]; exact rollX_lt _
        have hBc := HB8.out
        rw [hyc] at hBc
        have HBc := hid hBc
        have HEQ : Hid (refK 9 y = (⟨((9 : Nat) : Int), (rollN (y) 8 : Nat), 0, diceB cc yc⟩, diceX cc yc)) := hid (by unfold refK; rw [if_neg (by decide), if_neg (by decide), if_neg (by decide), if_pos (.inl rfl)]; rw [hcc, hyc] <;> try rfl)
        rw [hcc]
        have HBD : Hid (w2.heap.size ≤ w8.heap.size) := hid HU8.out.size
        have HLT : Hid (b < w8.heap.size ∧ sb < w8.heap.size) := hid ⟨hBc.lt, HL8.out.lt⟩
        clear hcc hyc hBc
        go_wp2_with fail
        go_loopw [14] (fun i wz => ∃ (j y' : Nat) (da : Option Addr) (dc : Nat) (ds : List Nat), i = .int .i64 j ∧ j ≤ cc ∧ y' < 18446744073709551616 ∧ Hid (BoxL wz b 78 [.int .u64 y']) ∧ Hid (BoxL wz sb 62 [.int .i64 ((9 : Nat) : Int), .int .i64 (rollN (y) 8 : Nat), .int .i64 0, .slice da j dc]) ∧ Hid (OwnB wz w8.heap.size (.slice da j dc) ds) ∧ Hid (diceB cc yc = ds ++ diceB (cc - j) y') ∧ Hid (diceX cc yc = diceX (cc - j) y') ∧ Hid (ds.length = j) ∧ Hid (Mut (fun q => q = b ∨ w2.heap.size ≤ q) w2 wz) ∧ Hid (w8.heap.size ≤ wz.heap.size)) (fun i _ => cc - (intOf i).toNat)
        case atStart => exact ⟨0, yc, none, 0, [], rfl, Nat.zero_le _, hycl, HBc, HL8, hid (OwnB.nil _ _), hid (by rw [Nat.sub_zero, List.nil_append]), hid (by rw [Nat.sub_zero]), hid rfl, HU8, hid (Nat.le_refl _)⟩
        case round =>
          obtain ⟨j, y', da, dc, ds, rfl, hjc, hy', HBj, HLj, HOj, H1, H2, H3, HUj, HZj⟩ := hrel
          rename World => wz
          by_cases hjl : j < cc
          · have e1 : decide ((j : Int) < (cc : Int)) = true := decide_eq_true (by omega)
            have e2 : decide (j < cc) = true := decide_eq_true hjl
            have s3 : wz.drew.cell? ⟨sb, 3, none⟩ = some (.slice da j dc) := (HLj.out.ext (Below.refl _ _).drew).cell (j := 3) rfl
            have HBd := hid (HBj.out.ext (Below.refl _ _).drew)
            have CR := hid (rollR_any y' 256 hy' (by decide) (by decide) HBd.out)
            obtain ⟨z, hz⟩ : ∃ z, rollN y' 256 = z := ⟨_, rfl⟩
            have hzl : z < 256 := by rw [← hz]; exact rollN_lt y' 256 (by decide)
            have hw8 : IntKind.u8.wrap (z : Int) = (z : Int) := by rw [IntKind.wrap_u8]; omega
            rw [hz] at CR
            have HZ := hid hz
            have HCJ : Hid (cc - j = (cc - (j + 1)) + 1) := hid (by omega)
            clear hz
            go_upto_region 28 with fail
            refine wp_region_held_drew (S := fun _ => True) (by kernel_rfl) (trivial) (fun hHeld => ?_)
            refine wpAnyH_take (i := 0) (oi := _) (v := .pointer (some ⟨sb, 3, none⟩)) rfl (by kernel_rfl) (by kernel_rfl) (by kernel_rfl) (fun _ _ _ h => h) (Or.inl ⟨by rfl, ?_⟩) (by assumption) ?_
            · intro W hSw
              try dsimp only at hSw
              go_simp
            try simp only [Act.put, List.getElem_toArray, List.getElem_cons_succ, List.getElem_cons_zero, List.setIfInBounds_toArray, List.set_cons_zero, List.set_cons_succ]
            refine wpAnyH_take (i := 2) (oi := _) (v := .pointer (some ⟨b, 0, none⟩)) rfl (by kernel_rfl) (by kernel_rfl) (by kernel_rfl) (fun _ _ _ h => h) (Or.inl ⟨by rfl, ?_⟩) (by assumption) ?_
            · intro W hSw
              try dsimp only at hSw
              go_simp
            try simp only [Act.put, List.getElem_toArray, List.getElem_cons_succ, List.getElem_cons_zero, List.setIfInBounds_toArray, List.set_cons_zero, List.set_cons_succ]
            refine wpAnyH_ready (rs := [1, 3]) (by kernel_rfl) (by simp) ?_
            refine AllReadyH.cons (o := _) rfl (fun K hK => ?_) (AllReadyH.cons (o := _) rfl (fun K hK => ?_) AllReadyH.nil)
            · go_simp
              refine hK.out _ _ (trivial) (fun hHeld => ?_)
              clear hK K
              try simp only [Act.put, List.getElem_toArray, List.getElem_cons_succ, List.getElem_cons_zero, List.setIfInBounds_toArray, List.set_cons_zero, List.set_cons_succ]
              refine wpAnyH_ready (rs := [3]) (by kernel_rfl) (by simp) ?_
              refine AllReadyH.cons (o := _) rfl (fun K hK => ?_) AllReadyH.nil
              go_simp
              (refine CR.out.mono ?_)
              rintro e wa ⟨rfl, hma, hBa⟩
              have HBa := hid hBa
              have hmu : Mut (fun q => q = b) wz wa := (Mut.of_below (Below.refl _ _).drew).trans hma
              have HLa := hid (HLj.out.mut hmu HSN.out.1)
              have HOa := hid (OwnB.mutD HOj.out hmu (fun g e1 e2 => by have h1 := (HOj.out.blkD e1).1; have h2 := HLT.out; omega))
              have HUa : Hid (Mut (fun q => q = b ∨ w2.heap.size ≤ q) w2 wa) := hid (HUj.out.trans (hmu.mono fun q _ e => .inl e))
              have a3 : wa.cell? ⟨sb, 3, none⟩ = some (.slice da j dc) := HLa.out.cell (j := 3) rfl
              have HLS : Hid (w8.heap.size ≤ wa.heap.size) := hid (Nat.le_trans HZj.out hmu.size)
              clear hma hBa hmu
              refine hK.out _ _ (trivial) (fun hHeld => ?_)
              clear hK K
              try simp only [Act.put, List.getElem_toArray, List.getElem_cons_succ, List.getElem_cons_zero, List.setIfInBounds_toArray, List.set_cons_zero, List.set_cons_succ]
              refine wpAnyH_take (i := 4) (oi := _) (v := .int .u8 (z : Int)) rfl (by kernel_rfl) (by kernel_rfl) (by kernel_rfl) (fun _ _ _ h => h) (Or.inl ⟨by rfl, ?_⟩) (by assumption) ?_
              · intro W hSw
                try dsimp only at hSw
                go_simp
              try simp only [Act.put, List.getElem_toArray, List.getElem_cons_succ, List.getElem_cons_zero, List.setIfInBounds_toArray, List.set_cons_zero, List.set_cons_succ]
              refine wpAnyH_ready (rs := [5]) (by kernel_rfl) (by simp) ?_
              refine AllReadyH.cons (o := _) rfl (fun K hK => ?_) AllReadyH.nil
              go_simp
              obtain ⟨wb, hwb⟩ : ∃ q, wa.alloc (.cells #[.int .u8 (z : Int)] 5) = q := ⟨_, rfl⟩
              try rw [hw8]
              rw [hwb]
              have hbb : Below wa.heap.size wa wb := by rw [← hwb]; exact (Below.refl _ _).alloc (Nat.le_refl _) _
              have HRb : Hid (ByteRow wb (some ⟨wa.heap.size, 0, none⟩) [z]) := hid (by rw [← hwb]; exact ByteRow.one wa z)
              have HBb := hid (HBa.out.ext hbb)
              have HLb := hid (HLa.out.ext hbb)
              have HOb := hid (HOa.out.ext hbb)
              have HUb : Hid (Mut (fun q => q = b ∨ w2.heap.size ≤ q) w2 wb) := hid (HUa.out.trans (Mut.of_below hbb))
              have HSb : Hid (w8.heap.size ≤ wb.heap.size) := hid (by have h1 := HOj.out; have h2 := HUb.out.size; have h3 := HLS.out; have h4 := hbb.size; omega)
              have b3 : wb.cell? ⟨sb, 3, none⟩ = some (.slice da j dc) := HLb.out.cell (j := 3) rfl
              clear hwb hbb
              refine hK.out _ _ (trivial) (fun hHeld => ?_)
              clear hK K
              try simp only [Act.put, List.getElem_toArray, List.getElem_cons_succ, List.getElem_cons_zero, List.setIfInBounds_toArray, List.set_cons_zero, List.set_cons_succ]
              refine wpAnyH_ready (rs := [6]) (by kernel_rfl) (by simp) ?_
              refine AllReadyH.cons (o := _) rfl (fun K hK => ?_) AllReadyH.nil
              refine step_appendBz (n := 1) (base := w8.heap.size) (by rfl) HOb.out HRb.out (hid rfl) (by have := H3.out; omega) HSb.out rfl rfl rfl ?_
              intro v8 wc hown8 hg8
              have hmg := grown_mutD hg8
              obtain ⟨ua, uc, hu, -, -⟩ := id hown8.row
              have hul : (ds ++ [z]).length = j + 1 := by have := H3.out; simp; omega
              rw [hul] at hu
              subst hu
              have hog : ∀ g, (Value.slice da j dc).ownBlock = some g → w8.heap.size ≤ g := fun g e => (HOb.out.blkD e).1
              have HLc := hid (HLb.out.mut hmg (fun e => by have h1 := hog _ e; have h2 := HLT.out; omega))
              have HBc2 := hid (HBb.out.mut hmg (fun e => by have h1 := hog _ e; have h2 := HLT.out; omega))
              have HUc : Hid (Mut (fun q => q = b ∨ w2.heap.size ≤ q) w2 wc) := hid (HUb.out.trans (hmg.mono fun q _ e => .inr (by have h1 := hog _ e; have h2 := HBD.out; omega)))
              have HSc : Hid (w8.heap.size ≤ wc.heap.size) := hid (Nat.le_trans HSb.out hmg.size)
              have HOc := hid hown8
              have c3 : wc.cell? ⟨sb, 3, none⟩ = some (.slice da j dc) := HLc.out.cell (j := 3) rfl
              have fzc := HLc.out.frozen
              clear hown8 hg8 hmg hul hog
              refine hK.out _ _ (trivial) (fun hHeld => ?_)
              clear hK K
              try simp only [Act.put, List.getElem_toArray, List.getElem_cons_succ, List.getElem_cons_zero, List.setIfInBounds_toArray, List.set_cons_zero, List.set_cons_succ]
              refine wpAnyH_ready (rs := [7]) (by kernel_rfl) (by simp) ?_
              refine AllReadyH.cons (o := _) rfl (fun K hK => ?_) AllReadyH.nil
              go_simp
              refine hK.out _ _ (trivial) (fun hHeld => ?_)
              clear hK K
              try simp only [Act.put, List.getElem_toArray, List.getElem_cons_succ, List.getElem_cons_zero, List.setIfInBounds_toArray, List.set_cons_zero, List.set_cons_succ]
              refine wpAnyH_ready (rs := [8]) (by kernel_rfl) (by simp) ?_
              refine AllReadyH.cons (o := _) rfl (fun K hK => ?_) AllReadyH.nil
              go_simp
              refine hK.out _ _ (trivial) (fun hHeld => ?_)
              clear hK K
              try simp only [Act.put, List.getElem_toArray, List.getElem_cons_succ, List.getElem_cons_zero, List.setIfInBounds_toArray, List.set_cons_zero, List.set_cons_succ]
              refine wpAnyH_done (by kernel_rfl) ?_ _
              obtain ⟨wd, hwd⟩ : ∃ q, wc.setCell ⟨sb, 3, none⟩ (.slice ua (j + 1) uc) = q := ⟨_, rfl⟩
              have hmd : Mut (fun q => q = sb) wc wd := by rw [← hwd]; exact mut1
              have hld := HLc.out.set (j := 3) (v := .slice ua (j + 1) uc)
              rw [hwd] at hld
              have HLd := hid hld
              have HBd2 := hid (HBc2.out.mut hmd (fun e => HSN.out.1 e.symm))
              have HUd : Hid (Mut (fun q => q = b ∨ w2.heap.size ≤ q) w2 wd) := hid (HUc.out.trans (hmd.mono fun q _ e => .inr (by rw [e]; exact HSN.out.2)))
              have HOd := hid (OwnB.mutD HOc.out hmd (fun g e1 e2 => by have h1 := (HOc.out.blkD e1).1; have h2 := HLT.out; omega))
              have HSd : Hid (w8.heap.size ≤ wd.heap.size) := hid (Nat.le_trans HSc.out hmd.size)
              go_wp2_with fail
              try rw [hwd]
              go_roundw
              case rel => exact ⟨j + 1, rollX y', ua, uc, ds ++ [z], by go_num, by omega, rollX_lt y', HBd2, HLd, HOd, hid (by rw [H1.out, HCJ.out, diceB_succ, HZ.out]; simp), hid (by rw [H2.out, HCJ.out, diceX_succ]), hid (by have := H3.out; simp; omega), HUd, HSd⟩
              case measure => simp [intOf]; omega
            · go_simp
              (refine CR.out.mono ?_)
              rintro e wa ⟨rfl, hma, hBa⟩
              have HBa := hid hBa
              have hmu : Mut (fun q => q = b) wz wa := (Mut.of_below (Below.refl _ _).drew).trans hma
              have HLa := hid (HLj.out.mut hmu HSN.out.1)
              have HOa := hid (OwnB.mutD HOj.out hmu (fun g e1 e2 => by have h1 := (HOj.out.blkD e1).1; have h2 := HLT.out; omega))
              have HUa : Hid (Mut (fun q => q = b ∨ w2.heap.size ≤ q) w2 wa) := hid (HUj.out.trans (hmu.mono fun q _ e => .inl e))
              have a3 : wa.cell? ⟨sb, 3, none⟩ = some (.slice da j dc) := HLa.out.cell (j := 3) rfl
              have HLS : Hid (w8.heap.size ≤ wa.heap.size) := hid (Nat.le_trans HZj.out hmu.size)
              clear hma hBa hmu
              refine hK.out _ _ (trivial) (fun hHeld => ?_)
              clear hK K
              try simp only [Act.put, List.getElem_toArray, List.getElem_cons_succ, List.getElem_cons_zero, List.setIfInBounds_toArray, List.set_cons_zero, List.set_cons_succ]
              refine wpAnyH_take (i := 4) (oi := _) (v := .int .u8 (z : Int)) rfl (by kernel_rfl) (by kernel_rfl) (by kernel_rfl) (fun _ _ _ h => h) (Or.inl ⟨by rfl, ?_⟩) (by assumption) ?_
              · intro W hSw
                try dsimp only at hSw
                go_simp
              try simp only [Act.put, List.getElem_toArray, List.getElem_cons_succ, List.getElem_cons_zero, List.setIfInBounds_toArray, List.set_cons_zero, List.set_cons_succ]
              refine wpAnyH_ready (rs := [1, 5]) (by kernel_rfl) (by simp) ?_
              refine AllReadyH.cons (o := _) rfl (fun K hK => ?_) (AllReadyH.cons (o := _) rfl (fun K hK => ?_) AllReadyH.nil)
              · go_simp
                refine hK.out _ _ (trivial) (fun hHeld => ?_)
                clear hK K
                try simp only [Act.put, List.getElem_toArray, List.getElem_cons_succ, List.getElem_cons_zero, List.setIfInBounds_toArray, List.set_cons_zero, List.set_cons_succ]
                refine wpAnyH_ready (rs := [5]) (by kernel_rfl) (by simp) ?_
                refine AllReadyH.cons (o := _) rfl (fun K hK => ?_) AllReadyH.nil
                go_simp
                obtain ⟨wb, hwb⟩ : ∃ q, wa.alloc (.cells #[.int .u8 (z : Int)] 5) = q := ⟨_, rfl⟩
                try rw [hw8]
                rw [hwb]
                have hbb : Below wa.heap.size wa wb := by rw [← hwb]; exact (Below.refl _ _).alloc (Nat.le_refl _) _
                have HRb : Hid (ByteRow wb (some ⟨wa.heap.size, 0, none⟩) [z]) := hid (by rw [← hwb]; exact ByteRow.one wa z)
                have HBb := hid (HBa.out.ext hbb)
                have HLb := hid (HLa.out.ext hbb)
                have HOb := hid (HOa.out.ext hbb)
                have HUb : Hid (Mut (fun q => q = b ∨ w2.heap.size ≤ q) w2 wb) := hid (HUa.out.trans (Mut.of_below hbb))
                have HSb : Hid (w8.heap.size ≤ wb.heap.size) := hid (by have h1 := HOj.out; have h2 := HUb.out.size; have h3 := HLS.out; have h4 := hbb.size; omega)
                have b3 : wb.cell? ⟨sb, 3, none⟩ = some (.slice da j dc) := HLb.out.cell (j := 3) rfl
                clear hwb hbb
                refine hK.out _ _ (trivial) (fun hHeld => ?_)
                clear hK K
                try simp only [Act.put, List.getElem_toArray, List.getElem_cons_succ, List.getElem_cons_zero, List.setIfInBounds_toArray, List.set_cons_zero, List.set_cons_succ]
                refine wpAnyH_ready (rs := [6]) (by kernel_rfl) (by simp) ?_
                refine AllReadyH.cons (o := _) rfl (fun K hK => ?_) AllReadyH.nil
                refine step_appendBz (n := 1) (base := w8.heap.size) (by rfl) HOb.out HRb.out (hid rfl) (by have := H3.out; omega) HSb.out rfl rfl rfl ?_
                intro v8 wc hown8 hg8
                have hmg := grown_mutD hg8
                obtain ⟨ua, uc, hu, -, -⟩ := id hown8.row
                have hul : (ds ++ [z]).length = j + 1 := by have := H3.out; simp; omega
                rw [hul] at hu
                subst hu
                have hog : ∀ g, (Value.slice da j dc).ownBlock = some g → w8.heap.size ≤ g := fun g e => (HOb.out.blkD e).1
                have HLc := hid (HLb.out.mut hmg (fun e => by have h1 := hog _ e; have h2 := HLT.out; omega))
                have HBc2 := hid (HBb.out.mut hmg (fun e => by have h1 := hog _ e; have h2 := HLT.out; omega))
                have HUc : Hid (Mut (fun q => q = b ∨ w2.heap.size ≤ q) w2 wc) := hid (HUb.out.trans (hmg.mono fun q _ e => .inr (by have h1 := hog _ e; have h2 := HBD.out; omega)))
                have HSc : Hid (w8.heap.size ≤ wc.heap.size) := hid (Nat.le_trans HSb.out hmg.size)
                have HOc := hid hown8
                have c3 : wc.cell? ⟨sb, 3, none⟩ = some (.slice da j dc) := HLc.out.cell (j := 3) rfl
                have fzc := HLc.out.frozen
                clear hown8 hg8 hmg hul hog
                refine hK.out _ _ (trivial) (fun hHeld => ?_)
                clear hK K
                try simp only [Act.put, List.getElem_toArray, List.getElem_cons_succ, List.getElem_cons_zero, List.setIfInBounds_toArray, List.set_cons_zero, List.set_cons_succ]
                refine wpAnyH_ready (rs := [7]) (by kernel_rfl) (by simp) ?_
                refine AllReadyH.cons (o := _) rfl (fun K hK => ?_) AllReadyH.nil
                go_simp
                refine hK.out _ _ (trivial) (fun hHeld => ?_)
                clear hK K
                try simp only [Act.put, List.getElem_toArray, List.getElem_cons_succ, List.getElem_cons_zero, List.setIfInBounds_toArray, List.set_cons_zero, List.set_cons_succ]
                refine wpAnyH_ready (rs := [8]) (by kernel_rfl) (by simp) ?_
                refine AllReadyH.cons (o := _) rfl (fun K hK => ?_) AllReadyH.nil
                go_simp
                refine hK.out _ _ (trivial) (fun hHeld => ?_)
                clear hK K
                try simp only [Act.put, List.getElem_toArray, List.getElem_cons_succ, List.getElem_cons_zero, List.setIfInBounds_toArray, List.set_cons_zero, List.set_cons_succ]
                refine wpAnyH_done (by kernel_rfl) ?_ _
                obtain ⟨wd, hwd⟩ : ∃ q, wc.setCell ⟨sb, 3, none⟩ (.slice ua (j + 1) uc) = q := ⟨_, rfl⟩
                have hmd : Mut (fun q => q = sb) wc wd := by rw [← hwd]; exact mut1
                have hld := HLc.out.set (j := 3) (v := .slice ua (j + 1) uc)
                rw [hwd] at hld
                have HLd := hid hld
                have HBd2 := hid (HBc2.out.mut hmd (fun e => HSN.out.1 e.symm))
                have HUd : Hid (Mut (fun q => q = b ∨ w2.heap.size ≤ q) w2 wd) := hid (HUc.out.trans (hmd.mono fun q _ e => .inr (by rw [e]; exact HSN.out.2)))
                have HOd := hid (OwnB.mutD HOc.out hmd (fun g e1 e2 => by have h1 := (HOc.out.blkD e1).1; have h2 := HLT.out; omega))
                have HSd : Hid (w8.heap.size ≤ wd.heap.size) := hid (Nat.le_trans HSc.out hmd.size)
                go_wp2_with fail
                try rw [hwd]
                go_roundw
                case rel => exact ⟨j + 1, rollX y', ua, uc, ds ++ [z], by go_num, by omega, rollX_lt y', HBd2, HLd, HOd, hid (by rw [H1.out, HCJ.out, diceB_succ, HZ.out]; simp), hid (by rw [H2.out, HCJ.out, diceX_succ]), hid (by have := H3.out; simp; omega), HUd, HSd⟩
                case measure => simp [intOf]; omega
              · go_simp
                obtain ⟨wb, hwb⟩ : ∃ q, wa.alloc (.cells #[.int .u8 (z : Int)] 5) = q := ⟨_, rfl⟩
                try rw [hw8]
                rw [hwb]
                have hbb : Below wa.heap.size wa wb := by rw [← hwb]; exact (Below.refl _ _).alloc (Nat.le_refl _) _
                have HRb : Hid (ByteRow wb (some ⟨wa.heap.size, 0, none⟩) [z]) := hid (by rw [← hwb]; exact ByteRow.one wa z)
                have HBb := hid (HBa.out.ext hbb)
                have HLb := hid (HLa.out.ext hbb)
                have HOb := hid (HOa.out.ext hbb)
                have HUb : Hid (Mut (fun q => q = b ∨ w2.heap.size ≤ q) w2 wb) := hid (HUa.out.trans (Mut.of_below hbb))
                have HSb : Hid (w8.heap.size ≤ wb.heap.size) := hid (by have h1 := HOj.out; have h2 := HUb.out.size; have h3 := HLS.out; have h4 := hbb.size; omega)
                have b3 : wb.cell? ⟨sb, 3, none⟩ = some (.slice da j dc) := HLb.out.cell (j := 3) rfl
                clear hwb hbb
                refine hK.out _ _ (trivial) (fun hHeld => ?_)
                clear hK K
                try simp only [Act.put, List.getElem_toArray, List.getElem_cons_succ, List.getElem_cons_zero, List.setIfInBounds_toArray, List.set_cons_zero, List.set_cons_succ]
                refine wpAnyH_ready (rs := [1]) (by kernel_rfl) (by simp) ?_
                refine AllReadyH.cons (o := _) rfl (fun K hK => ?_) AllReadyH.nil
                go_simp
                refine hK.out _ _ (trivial) (fun hHeld => ?_)
                clear hK K
                try simp only [Act.put, List.getElem_toArray, List.getElem_cons_succ, List.getElem_cons_zero, List.setIfInBounds_toArray, List.set_cons_zero, List.set_cons_succ]
                refine wpAnyH_ready (rs := [6]) (by kernel_rfl) (by simp) ?_
                refine AllReadyH.cons (o := _) rfl (fun K hK => ?_) AllReadyH.nil
                refine step_appendBz (n := 1) (base := w8.heap.size) (by rfl) HOb.out HRb.out (hid rfl) (by have := H3.out; omega) HSb.out rfl rfl rfl ?_
                intro v8 wc hown8 hg8
                have hmg := grown_mutD hg8
                obtain ⟨ua, uc, hu, -, -⟩ := id hown8.row
                have hul : (ds ++ [z]).length = j + 1 := by have := H3.out; simp; omega
                rw [hul] at hu
                subst hu
                have hog : ∀ g, (Value.slice da j dc).ownBlock = some g → w8.heap.size ≤ g := fun g e => (HOb.out.blkD e).1
                have HLc := hid (HLb.out.mut hmg (fun e => by have h1 := hog _ e; have h2 := HLT.out; omega))
                have HBc2 := hid (HBb.out.mut hmg (fun e => by have h1 := hog _ e; have h2 := HLT.out; omega))
                have HUc : Hid (Mut (fun q => q = b ∨ w2.heap.size ≤ q) w2 wc) := hid (HUb.out.trans (hmg.mono fun q _ e => .inr (by have h1 := hog _ e; have h2 := HBD.out; omega)))
                have HSc : Hid (w8.heap.size ≤ wc.heap.size) := hid (Nat.le_trans HSb.out hmg.size)
                have HOc := hid hown8
                have c3 : wc.cell? ⟨sb, 3, none⟩ = some (.slice da j dc) := HLc.out.cell (j := 3) rfl
                have fzc := HLc.out.frozen
                clear hown8 hg8 hmg hul hog
                refine hK.out _ _ (trivial) (fun hHeld => ?_)
                clear hK K
                try simp only [Act.put, List.getElem_toArray, List.getElem_cons_succ, List.getElem_cons_zero, List.setIfInBounds_toArray, List.set_cons_zero, List.set_cons_succ]
                refine wpAnyH_ready (rs := [7]) (by kernel_rfl) (by simp) ?_
                refine AllReadyH.cons (o := _) rfl (fun K hK => ?_) AllReadyH.nil
                go_simp
                refine hK.out _ _ (trivial) (fun hHeld => ?_)
                clear hK K
                try simp only [Act.put, List.getElem_toArray, List.getElem_cons_succ, List.getElem_cons_zero, List.setIfInBounds_toArray, List.set_cons_zero, List.set_cons_succ]
                refine wpAnyH_ready (rs := [8]) (by kernel_rfl) (by simp) ?_
                refine AllReadyH.cons (o := _) rfl (fun K hK => ?_) AllReadyH.nil
                go_simp
                refine hK.out _ _ (trivial) (fun hHeld => ?_)
                clear hK K
                try simp only [Act.put, List.getElem_toArray, List.getElem_cons_succ, List.getElem_cons_zero, List.setIfInBounds_toArray, List.set_cons_zero, List.set_cons_succ]
                refine wpAnyH_done (by kernel_rfl) ?_ _
                obtain ⟨wd, hwd⟩ : ∃ q, wc.setCell ⟨sb, 3, none⟩ (.slice ua (j + 1) uc) = q := ⟨_, rfl⟩
                have hmd : Mut (fun q => q = sb) wc wd := by rw [← hwd]; exact mut1
                have hld := HLc.out.set (j := 3) (v := .slice ua (j + 1) uc)
                rw [hwd] at hld
                have HLd := hid hld
                have HBd2 := hid (HBc2.out.mut hmd (fun e => HSN.out.1 e.symm))
                have HUd : Hid (Mut (fun q => q = b ∨ w2.heap.size ≤ q) w2 wd) := hid (HUc.out.trans (hmd.mono fun q _ e => .inr (by rw [e]; exact HSN.out.2)))
                have HOd := hid (OwnB.mutD HOc.out hmd (fun g e1 e2 => by have h1 := (HOc.out.blkD e1).1; have h2 := HLT.out; omega))
                have HSd : Hid (w8.heap.size ≤ wd.heap.size) := hid (Nat.le_trans HSc.out hmd.size)
                go_wp2_with fail
                try rw [hwd]
                go_roundw
                case rel => exact ⟨j + 1, rollX y', ua, uc, ds ++ [z], by go_num, by omega, rollX_lt y', HBd2, HLd, HOd, hid (by rw [H1.out, HCJ.out, diceB_succ, HZ.out]; simp), hid (by rw [H2.out, HCJ.out, diceX_succ]), hid (by have := H3.out; simp; omega), HUd, HSd⟩
                case measure => simp [intOf]; omega
          · have e1 : decide ((j : Int) < (cc : Int)) = false := decide_eq_false (by omega)
            have e2 : decide (j < cc) = false := decide_eq_false hjl
            obtain rfl : j = cc := by omega
            have HDS : Hid (diceB j yc = ds) := hid (by rw [H1.out, Nat.sub_self, diceB_zero, List.append_nil])
            have HXS : Hid (diceX j yc = y') := hid (by rw [H2.out, Nat.sub_self, diceX_zero])
            obtain ⟨w99, hw99⟩ : ∃ q, wz = q := ⟨_, rfl⟩
            subst hw99
            rename World => w99
            have HIT : Hid (ItemAt w99 (fun q => u6.ownBlock = some q ∨ q = b) (.slice da j dc) ds) := hid (by
              obtain ⟨a9, c9, e9, hr9, -⟩ := HOj.out.row
              rw [H3.out] at e9
              cases e9
              refine ⟨_, _, by rw [H3.out], hr9, fun q hq => by rw [← HDS.out] at hq; exact diceB_lt _ _ q hq, fun c off e => ⟨?_, fun hb => ?_⟩⟩
              · subst e; exact (HOj.out.blkD rfl).2
              · subst e
                have h1 := (HOj.out.blkD (g := c) rfl).1
                have h3 := HBD.out
                rcases hb with hb | hb
                · have h2 := (HO2.out.blk hb).2; omega
                · have h2 := HLT.out; omega)
            have HL99 := hid HLj.out
            have HB99 := hid HBj.out
            have HU99 := hid HUj.out
            have l0 := HL99.out.cell (j := 0) rfl
            have l1 := HL99.out.cell (j := 1) rfl
            have l2 := HL99.out.cell (j := 2) rfl
            have l3 := HL99.out.cell (j := 3) rfl
            have HOf := hid (HO2.out.mut HU99.out (fun g e1 e2 => by have h1 := HO2.out.blk e1; have h2 := HBZ.out; rcases e2 with e2 | e2 <;> omega))
            have HEf := hid ((HE2.out.mut HU99.out fun c _ h2 => h2.elim (fun e => .inl (.inr e)) .inr).grow (N' := fun q => u6.ownBlock = some q ∨ q = b) fun q h => .inl (.inl h))
            have HW12 : Hid (W1.heap.size ≤ w99.heap.size) := hid (Nat.le_trans HSZ.out HU99.out.size)
            have hst : stormS y0 = (⟨((9 : Nat) : Int), (rollN (y) 8 : Nat), 0, ds⟩, y') := by rw [HSK.out, HEQ.out, HDS.out, HXS.out]
            have HK : Hid ((-9223372036854775808 ≤ (⟨((9 : Nat) : Int), (rollN (y) 8 : Nat), 0, ds⟩ : StepD).kind ∧ (⟨((9 : Nat) : Int), (rollN (y) 8 : Nat), 0, ds⟩ : StepD).kind ≤ 9223372036854775807) ∧ StepOk ⟨((9 : Nat) : Int), (rollN (y) 8 : Nat), 0, ds⟩) := hid (by
              have h := storm_fit y0
              rw [hst] at h
              exact ⟨fit_kind h, h.ok⟩)
            have HNX : Hid ((y') < 18446744073709551616) := hid (by have h := (stormS_next y0).lt; rw [hst] at h; exact h)
            have HSTT := hid hst
            clear hst
            go_wp2_with (at_builtin; refine wpList_appendEP (el := [.int .i64 ((9 : Nat) : Int), .int .i64 (rollN (y) 8 : Nat), .int .i64 0, .slice da j dc]) (b := w99.heap.size) Tryz.underlying28 hi hz0 hz1 hz2 rfl (by decide) (by decide) (HOf.out.ext ((Below.refl _ _).alloc (Nat.le_refl _) _)) rfl (fun u hu => by simp at hu; rcases hu with rfl | rfl | rfl | rfl <;> rfl) (cells4_new _ _ _ _ _ _) HXL.out (by have := HW12.out; simp; omega) rfl rfl rfl rfl ?_; intro vq wq hownq hmq hnq)
            have hmw : Mut (fun g => u6.ownBlock = some g) w99 wq := (Mut.of_below ((Below.refl _ _).alloc (Nat.le_refl _) _)).trans (hmq.mono fun k _ e => e)
            have HEL6 : Hid (ElsAt wq (fun q => vq.ownBlock = some q ∨ q = b) (xs ++ [[.int .i64 ((9 : Nat) : Int), .int .i64 (rollN (y) 8 : Nat), .int .i64 0, .slice da j dc]]) ((out ++ [(⟨((9 : Nat) : Int), (rollN (y) 8 : Nat), 0, ds⟩ : StepD)]).map stepH)) := hid (by
              have h0 := (HEf.out.snoc (q := [.int .i64 ((9 : Nat) : Int), .int .i64 (rollN (y) 8 : Nat), .int .i64 0]) HIT.out).grow (N' := fun q => (u6.ownBlock = some q ∨ q = b) ∨ w99.heap.size ≤ q) fun b h => h
              have h1 := h0.mut hmw fun b _ e => .inl (.inl e)
              have h2 := h1.grow (N' := fun q => vq.ownBlock = some q ∨ q = b) fun q hq => .inl (hq.elim (fun hq => (hnq q hq).imp .inl fun h => by simp at h; omega) fun e => .inl (.inr e))
              rw [List.map_append]
              exact h2)
            have HO6 := hid hownq
            have HU6 : Hid (Mut (fun q => q = b) W1 wq) := hid ((HM2.out.transG HU99.out (fun q hq e => by have := HSZ.out; rcases e with e | e; exact e; omega)).transG hmw (fun q hq e => by have h1 := (HOf.out.blk e).1; omega))
            have HB6' := hid (HB99.out.mut hmw (fun e => by have h1 := (HOf.out.blk e).1; have h2 := HBZ.out; omega))
            have HOK6 : Hid (∀ s ∈ out ++ [(⟨((9 : Nat) : Int), (rollN (y) 8 : Nat), 0, ds⟩ : StepD)], (-9223372036854775808 ≤ s.kind ∧ s.kind ≤ 9223372036854775807) ∧ StepOk s) := hid fun s hs => by
              rcases List.mem_append.1 hs with hs | hs
              · exact hok.out s hs
              · rw [List.mem_singleton.1 hs]; exact HK.out
            clear hownq hmq hnq hmw l0 l1 l2 l3
            go_wp2_with fail
            go_roundw
            case rel => exact ⟨k0 + 1, y', out ++ [⟨((9 : Nat) : Int), (rollN (y) 8 : Nat), 0, ds⟩], _, by go_num, by omega, HNX.out, HB6', hid (by have := hol.out; simp; omega), hid (by rw [HST.out, HR.out, stormL_succ, HSTT.out]; simp), HO6, HEL6, HOK6, HU6⟩
            case measure => simp [intOf]; omega
      by_cases h11 : d = 11
      · subst h11
        obtain rfl : A0 = 8 := by rw [← hA]; rfl
        clear hA
        have C6 := hid (rollR_any (y) 8 hyl (by decide) (by decide) HB5.out)
        go_wp2_with fail
        refine C6.out.mono ?_
        rintro e w6 ⟨rfl, hm6, hB6⟩
        have HB6 := hid hB6
        have HU6 : Hid (Mut (fun q => q = b ∨ w2.heap.size ≤ q) w2 w6) := hid (HU5.out.trans (hm6.mono fun q _ e => .inl e))
        have HL6 := hid (HL5.out.mut hm6 HSN.out.1)
        clear C6 hm6 hB6
        have lz7 := HL6.out.cell (j := 1) rfl
        have fz7 := HL6.out.frozen
        go_upto_region 12 with fail
        obtain ⟨w7, hw7⟩ : ∃ z, w6.setCell ⟨sb, 1, none⟩ (.int .i64 (rollN (y) 8 : Nat)) = z := ⟨_, rfl⟩
        rw [hw7]
        have hm7 : Mut (fun q => q = sb) w6 w7 := by rw [← hw7]; exact mut1
        have hl7 := HL6.out.set (j := 1) (v := .int .i64 (rollN (y) 8 : Nat))
        rw [hw7] at hl7
        have HL7 := hid hl7
        have HB7 := hid (HB6.out.mut hm7 (fun e => HSN.out.1 e.symm))
        have HU7 : Hid (Mut (fun q => q = b ∨ w2.heap.size ≤ q) w2 w7) := hid (HU6.out.trans (hm7.mono fun q _ e => .inr (by rw [e]; exact HSN.out.2)))
        clear hw7 hm7 hl7 lz7 fz7
        have C8 := hid (rollR_any (rollX (y)) 4 (rollX_lt _) (by decide) (by decide) HB7.out)
        go_wp2_with fail
        refine C8.out.mono ?_
        rintro e w8 ⟨rfl, hm8, hB8⟩
        have HB8 := hid hB8
        have HU8 : Hid (Mut (fun q => q = b ∨ w2.heap.size ≤ q) w2 w8) := hid (HU7.out.trans (hm8.mono fun q _ e => .inl e))
        have HL8 := hid (HL7.out.mut hm8 HSN.out.1)
        clear C8 hm8 hB8
        obtain ⟨cc, hcc⟩ : ∃ z, rollN (rollX (y)) 4 = z := ⟨_, rfl⟩
        have hccl : cc ≤ 4 := by rw [← hcc]; exact Nat.le_of_lt (Nat.lt_of_lt_of_le (rollN_lt _ _ (by decide)) (by decide))
        obtain ⟨yc, hyc⟩ : ∃ z, rollX (rollX (y)) = z := ⟨_, rfl⟩
        have hycl : yc < 18446744073709551616 := by rw [← hyc]; exact rollX_lt _
        have hBc := HB8.out
        rw [hyc] at hBc
        have HBc := hid hBc
        have HEQ : Hid (refK 11 y = (⟨((11 : Nat) : Int), (rollN (y) 8 : Nat), 0, diceB cc yc⟩, diceX cc yc)) := hid (by unfold refK; rw [if_neg (by decide), if_neg (by decide), if_neg (by decide), if_pos (.inr rfl)]; rw [hcc, hyc] <;> try rfl)
        rw [hcc]
        have HBD : Hid (w2.heap.size ≤ w8.heap.size) := hid HU8.out.size
        have HLT : Hid (b < w8.heap.size ∧ sb < w8.heap.size) := hid ⟨hBc.lt, HL8.out.lt⟩
        clear hcc hyc hBc
        go_wp2_with fail
        go_loopw [14] (fun i wz => ∃ (j y' : Nat) (da : Option Addr) (dc : Nat) (ds : List Nat), i = .int .i64 j ∧ j ≤ cc ∧ y' < 18446744073709551616 ∧ Hid (BoxL wz b 78 [.int .u64 y']) ∧ Hid (BoxL wz sb 62 [.int .i64 ((11 : Nat) : Int), .int .i64 (rollN (y) 8 : Nat), .int .i64 0, .slice da j dc]) ∧ Hid (OwnB wz w8.heap.size (.slice da j dc) ds) ∧ Hid (diceB cc yc = ds ++ diceB (cc - j) y') ∧ Hid (diceX cc yc = diceX (cc - j) y') ∧ Hid (ds.length = j) ∧ Hid (Mut (fun q => q = b ∨ w2.heap.size ≤ q) w2 wz) ∧ Hid (w8.heap.size ≤ wz.heap.size)) (fun i _ => cc - (intOf i).toNat)
        case atStart => exact ⟨0, yc, none, 0, [], rfl, Nat.zero_le _, hycl, HBc, HL8, hid (OwnB.nil _ _), hid (by rw [Nat.sub_zero, List.nil_append]), hid (by rw [Nat.sub_zero]), hid rfl, HU8, hid (Nat.le_refl _)⟩
        case round =>
          obtain ⟨j, y', da, dc, ds, rfl, hjc, hy', HBj, HLj, HOj, H1, H2, H3, HUj, HZj⟩ := hrel
          rename World => wz
          by_cases hjl : j < cc
          · have e1 : decide ((j : Int) < (cc : Int)) = true := decide_eq_true (by omega)
            have e2 : decide (j < cc) = true := decide_eq_true hjl
            have s3 : wz.drew.cell? ⟨sb, 3, none⟩ = some (.slice da j dc) := (HLj.out.ext (Below.refl _ _).drew).cell (j := 3) rfl
            have HBd := hid (HBj.out.ext (Below.refl _ _).drew)
            have CR := hid (rollR_any y' 256 hy' (by decide) (by decide) HBd.out)
            obtain ⟨z, hz⟩ : ∃ z, rollN y' 256 = z := ⟨_, rfl⟩
            have hzl : z < 256 := by rw [← hz]; exact rollN_lt y' 256 (by decide)
            have hw8 : IntKind.u8.wrap (z : Int) = (z : Int) := by rw [IntKind.wrap_u8]; omega
            rw [hz] at CR
            have HZ := hid hz
            have HCJ : Hid (cc - j = (cc - (j + 1)) + 1) := hid (by omega)
            clear hz
            go_upto_region 28 with fail
            refine wp_region_held_drew (S := fun _ => True) (by kernel_rfl) (trivial) (fun hHeld => ?_)
            refine wpAnyH_take (i := 0) (oi := _) (v := .pointer (some ⟨sb, 3, none⟩)) rfl (by kernel_rfl) (by kernel_rfl) (by kernel_rfl) (fun _ _ _ h => h) (Or.inl ⟨by rfl, ?_⟩) (by assumption) ?_
            · intro W hSw
              try dsimp only at hSw
              go_simp
            try simp only [Act.put, List.getElem_toArray, List.getElem_cons_succ, List.getElem_cons_zero, List.setIfInBounds_toArray, List.set_cons_zero, List.set_cons_succ]
            refine wpAnyH_take (i := 2) (oi := _) (v := .pointer (some ⟨b, 0, none⟩)) rfl (by kernel_rfl) (by kernel_rfl) (by kernel_rfl) (fun _ _ _ h => h) (Or.inl ⟨by rfl, ?_⟩) (by assumption) ?_
            · intro W hSw
              try dsimp only at hSw
              go_simp
            try simp only [Act.put, List.getElem_toArray, List.getElem_cons_succ, List.getElem_cons_zero, List.setIfInBounds_toArray, List.set_cons_zero, List.set_cons_succ]
            refine wpAnyH_ready (rs := [1, 3]) (by kernel_rfl) (by simp) ?_
            refine AllReadyH.cons (o := _) rfl (fun K hK => ?_) (AllReadyH.cons (o := _) rfl (fun K hK => ?_) AllReadyH.nil)
            · go_simp
              refine hK.out _ _ (trivial) (fun hHeld => ?_)
              clear hK K
              try simp only [Act.put, List.getElem_toArray, List.getElem_cons_succ, List.getElem_cons_zero, List.setIfInBounds_toArray, List.set_cons_zero, List.set_cons_succ]
              refine wpAnyH_ready (rs := [3]) (by kernel_rfl) (by simp) ?_
              refine AllReadyH.cons (o := _) rfl (fun K hK => ?_) AllReadyH.nil
              go_simp
              (refine CR.out.mono ?_)
              rintro e wa ⟨rfl, hma, hBa⟩
              have HBa := hid hBa
              have hmu : Mut (fun q => q = b) wz wa := (Mut.of_below (Below.refl _ _).drew).trans hma
              have HLa := hid (HLj.out.mut hmu HSN.out.1)
              have HOa := hid (OwnB.mutD HOj.out hmu (fun g e1 e2 => by have h1 := (HOj.out.blkD e1).1; have h2 := HLT.out; omega))
              have HUa : Hid (Mut (fun q => q = b ∨ w2.heap.size ≤ q) w2 wa) := hid (HUj.out.trans (hmu.mono fun q _ e => .inl e))
              have a3 : wa.cell? ⟨sb, 3, none⟩ = some (.slice da j dc) := HLa.out.cell (j := 3) rfl
              have HLS : Hid (w8.heap.size ≤ wa.heap.size) := hid (Nat.le_trans HZj.out hmu.size)
              clear hma hBa hmu
              refine hK.out _ _ (trivial) (fun hHeld => ?_)
              clear hK K
              try simp only [Act.put, List.getElem_toArray, List.getElem_cons_succ, List.getElem_cons_zero, List.setIfInBounds_toArray, List.set_cons_zero, List.set_cons_succ]
              refine wpAnyH_take (i := 4) (oi := _) (v := .int .u8 (z : Int)) rfl (by kernel_rfl) (by kernel_rfl) (by kernel_rfl) (fun _ _ _ h => h) (Or.inl ⟨by rfl, ?_⟩) (by assumption) ?_
              · intro W hSw
                try dsimp only at hSw
                go_simp
              try simp only [Act.put, List.getElem_toArray, List.getElem_cons_succ, List.getElem_cons_zero, List.setIfInBounds_toArray, List.set_cons_zero, List.set_cons_succ]
              refine wpAnyH_ready (rs := [5]) (by kernel_rfl) (by simp) ?_
              refine AllReadyH.cons (o := _) rfl (fun K hK => ?_) AllReadyH.nil
              go_simp
              obtain ⟨wb, hwb⟩ : ∃ q, wa.alloc (.cells #[.int .u8 (z : Int)] 5) = q := ⟨_, rfl⟩
              try rw [hw8]
              rw [hwb]
              have hbb : Below wa.heap.size wa wb := by rw [← hwb]; exact (Below.refl _ _).alloc (Nat.le_refl _) _
              have HRb : Hid (ByteRow wb (some ⟨wa.heap.size, 0, none⟩) [z]) := hid (by rw [← hwb]; exact ByteRow.one wa z)
              have HBb := hid (HBa.out.ext hbb)
              have HLb := hid (HLa.out.ext hbb)
              have HOb := hid (HOa.out.ext hbb)
              have HUb : Hid (Mut (fun q => q = b ∨ w2.heap.size ≤ q) w2 wb) := hid (HUa.out.trans (Mut.of_below hbb))
              have HSb : Hid (w8.heap.size ≤ wb.heap.size) := hid (by have h1 := HOj.out; have h2 := HUb.out.size; have h3 := HLS.out; have h4 := hbb.size; omega)
              have b3 : wb.cell? ⟨sb, 3, none⟩ = some (.slice da j dc) := HLb.out.cell (j := 3) rfl
              clear hwb hbb
              refine hK.out _ _ (trivial) (fun hHeld => ?_)
              clear hK K
              try simp only [Act.put, List.getElem_toArray, List.getElem_cons_succ, List.getElem_cons_zero, List.setIfInBounds_toArray, List.set_cons_zero, List.set_cons_succ]
              refine wpAnyH_ready (rs := [6]) (by kernel_rfl) (by simp) ?_
              refine AllReadyH.cons (o := _) rfl (fun K hK => ?_) AllReadyH.nil
              refine step_appendBz (n := 1) (base := w8.heap.size) (by rfl) HOb.out HRb.out (hid rfl) (by have := H3.out; omega) HSb.out rfl rfl rfl ?_
              intro v8 wc hown8 hg8
              have hmg := grown_mutD hg8
              obtain ⟨ua, uc, hu, -, -⟩ := id hown8.row
              have hul : (ds ++ [z]).length = j + 1 := by have := H3.out; simp; omega
              rw [hul] at hu
              subst hu
              have hog : ∀ g, (Value.slice da j dc).ownBlock = some g → w8.heap.size ≤ g := fun g e => (HOb.out.blkD e).1
              have HLc := hid (HLb.out.mut hmg (fun e => by have h1 := hog _ e; have h2 := HLT.out; omega))
              have HBc2 := hid (HBb.out.mut hmg (fun e => by have h1 := hog _ e; have h2 := HLT.out; omega))
              have HUc : Hid (Mut (fun q => q = b ∨ w2.heap.size ≤ q) w2 wc) := hid (HUb.out.trans (hmg.mono fun q _ e => .inr (by have h1 := hog _ e; have h2 := HBD.out; omega)))
              have HSc : Hid (w8.heap.size ≤ wc.heap.size) := hid (Nat.le_trans HSb.out hmg.size)
              have HOc := hid hown8
              have c3 : wc.cell? ⟨sb, 3, none⟩ = some (.slice da j dc) := HLc.out.cell (j := 3) rfl
              have fzc := HLc.out.frozen
              clear hown8 hg8 hmg hul hog
              refine hK.out _ _ (trivial) (fun hHeld => ?_)
              clear hK K
              try simp only [Act.put, List.getElem_toArray, List.getElem_cons_succ, List.getElem_cons_zero, List.setIfInBounds_toArray, List.set_cons_zero, List.set_cons_succ]
              refine wpAnyH_ready (rs := [7]) (by kernel_rfl) (by simp) ?_
              refine AllReadyH.cons (o := _) rfl (fun K hK => ?_) AllReadyH.nil
              go_simp
              refine hK.out _ _ (trivial) (fun hHeld => ?_)
              clear hK K
              try simp only [Act.put, List.getElem_toArray, List.getElem_cons_succ, List.getElem_cons_zero, List.setIfInBounds_toArray, List.set_cons_zero, List.set_cons_succ]
              refine wpAnyH_ready (rs := [8]) (by kernel_rfl) (by simp) ?_
              refine AllReadyH.cons (o := _) rfl (fun K hK => ?_) AllReadyH.nil
              go_simp
              refine hK.out _ _ (trivial) (fun hHeld => ?_)
              clear hK K
              try simp only [Act.put, List.getElem_toArray, List.getElem_cons_succ, List.getElem_cons_zero, List.setIfInBounds_toArray, List.set_cons_zero, List.set_cons_succ]
              refine wpAnyH_done (by kernel_rfl) ?_ _
              obtain ⟨wd, hwd⟩ : ∃ q, wc.setCell ⟨sb, 3, none⟩ (.slice ua (j + 1) uc) = q := ⟨_, rfl⟩
              have hmd : Mut (fun q => q = sb) wc wd := by rw [← hwd]; exact mut1
              have hld := HLc.out.set (j := 3) (v := .slice ua (j + 1) uc)
              rw [hwd] at hld
              have HLd := hid hld
              have HBd2 := hid (HBc2.out.mut hmd (fun e => HSN.out.1 e.symm))
              have HUd : Hid (Mut (fun q => q = b ∨ w2.heap.size ≤ q) w2 wd) := hid (HUc.out.trans (hmd.mono fun q _ e => .inr (by rw [e]; exact HSN.out.2)))
              have HOd := hid (OwnB.mutD HOc.out hmd (fun g e1 e2 => by have h1 := (HOc.out.blkD e1).1; have h2 := HLT.out; omega))
              have HSd : Hid (w8.heap.size ≤ wd.heap.size) := hid (Nat.le_trans HSc.out hmd.size)
              go_wp2_with fail
              try rw [hwd]
              go_roundw
              case rel => exact ⟨j + 1, rollX y', ua, uc, ds ++ [z], by go_num, by omega, rollX_lt y', HBd2, HLd, HOd, hid (by rw [H1.out, HCJ.out, diceB_succ, HZ.out]; simp), hid (by rw [H2.out, HCJ.out, diceX_succ]), hid (by have := H3.out; simp; omega), HUd, HSd⟩
              case measure => simp [intOf]; omega
            · go_simp
              (refine CR.out.mono ?_)
              rintro e wa ⟨rfl, hma, hBa⟩
              have HBa := hid hBa
              have hmu : Mut (fun q => q = b) wz wa := (Mut.of_below (Below.refl _ _).drew).trans hma
              have HLa := hid (HLj.out.mut hmu HSN.out.1)
              have HOa := hid (OwnB.mutD HOj.out hmu (fun g e1 e2 => by have h1 := (HOj.out.blkD e1).1; have h2 := HLT.out; omega))
              have HUa : Hid (Mut (fun q => q = b ∨ w2.heap.size ≤ q) w2 wa) := hid (HUj.out.trans (hmu.mono fun q _ e => .inl e))
              have a3 : wa.cell? ⟨sb, 3, none⟩ = some (.slice da j dc) := HLa.out.cell (j := 3) rfl
              have HLS : Hid (w8.heap.size ≤ wa.heap.size) := hid (Nat.le_trans HZj.out hmu.size)
              clear hma hBa hmu
              refine hK.out _ _ (trivial) (fun hHeld => ?_)
              clear hK K
              try simp only [Act.put, List.getElem_toArray, List.getElem_cons_succ, List.getElem_cons_zero, List.setIfInBounds_toArray, List.set_cons_zero, List.set_cons_succ]
              refine wpAnyH_take (i := 4) (oi := _) (v := .int .u8 (z : Int)) rfl (by kernel_rfl) (by kernel_rfl) (by kernel_rfl) (fun _ _ _ h => h) (Or.inl ⟨by rfl, ?_⟩) (by assumption) ?_
              · intro W hSw
                try dsimp only at hSw
                go_simp
              try simp only [Act.put, List.getElem_toArray, List.getElem_cons_succ, List.getElem_cons_zero, List.setIfInBounds_toArray, List.set_cons_zero, List.set_cons_succ]
              refine wpAnyH_ready (rs := [1, 5]) (by kernel_rfl) (by simp) ?_
              refine AllReadyH.cons (o := _) rfl (fun K hK => ?_) (AllReadyH.cons (o := _) rfl (fun K hK => ?_) AllReadyH.nil)
              · go_simp
                refine hK.out _ _ (trivial) (fun hHeld => ?_)
                clear hK K
                try simp only [Act.put, List.getElem_toArray, List.getElem_cons_succ, List.getElem_cons_zero, List.setIfInBounds_toArray, List.set_cons_zero, List.set_cons_succ]
                refine wpAnyH_ready (rs := [5]) (by kernel_rfl) (by simp) ?_
                refine AllReadyH.cons (o := _) rfl (fun K hK => ?_) AllReadyH.nil
                go_simp
                obtain ⟨wb, hwb⟩ : ∃ q, wa.alloc (.cells #[.int .u8 (z : Int)] 5) = q := ⟨_, rfl⟩
                try rw [hw8]
                rw [hwb]
                have hbb : Below wa.heap.size wa wb := by rw [← hwb]; exact (Below.refl _ _).alloc (Nat.le_refl _) _
                have HRb : Hid (ByteRow wb (some ⟨wa.heap.size, 0, none⟩) [z]) := hid (by rw [← hwb]; exact ByteRow.one wa z)
                have HBb := hid (HBa.out.ext hbb)
                have HLb := hid (HLa.out.ext hbb)
                have HOb := hid (HOa.out.ext hbb)
                have HUb : Hid (Mut (fun q => q = b ∨ w2.heap.size ≤ q) w2 wb) := hid (HUa.out.trans (Mut.of_below hbb))
                have HSb : Hid (w8.heap.size ≤ wb.heap.size) := hid (by have h1 := HOj.out; have h2 := HUb.out.size; have h3 := HLS.out; have h4 := hbb.size; omega)
                have b3 : wb.cell? ⟨sb, 3, none⟩ = some (.slice da j dc) := HLb.out.cell (j := 3) rfl
                clear hwb hbb
                refine hK.out _ _ (trivial) (fun hHeld => ?_)
                clear hK K
                try simp only [Act.put, List.getElem_toArray, List.getElem_cons_succ, List.getElem_cons_zero, List.setIfInBounds_toArray, List.set_cons_zero, List.set_cons_succ]
                refine wpAnyH_ready (rs := [6]) (by kernel_rfl) (by simp) ?_
                refine AllReadyH.cons (o := _) rfl (fun K hK => ?_) AllReadyH.nil
                refine step_appendBz (n := 1) (base := w8.heap.size) (by rfl) HOb.out HRb.out (hid rfl) (by have := H3.out; omega) HSb.out rfl rfl rfl ?_
                intro v8 wc hown8 hg8
                have hmg := grown_mutD hg8
                obtain ⟨ua, uc, hu, -, -⟩ := id hown8.row
                have hul : (ds ++ [z]).length = j + 1 := by have := H3.out; simp; omega
                rw [hul] at hu
                subst hu
                have hog : ∀ g, (Value.slice da j dc).ownBlock = some g → w8.heap.size ≤ g := fun g e => (HOb.out.blkD e).1
                have HLc := hid (HLb.out.mut hmg (fun e => by have h1 := hog _ e; have h2 := HLT.out; omega))
                have HBc2 := hid (HBb.out.mut hmg (fun e => by have h1 := hog _ e; have h2 := HLT.out; omega))
                have HUc : Hid (Mut (fun q => q = b ∨ w2.heap.size ≤ q) w2 wc) := hid (HUb.out.trans (hmg.mono fun q _ e => .inr (by have h1 := hog _ e; have h2 := HBD.out; omega)))
                have HSc : Hid (w8.heap.size ≤ wc.heap.size) := hid (Nat.le_trans HSb.out hmg.size)
                have HOc := hid hown8
                have c3 : wc.cell? ⟨sb, 3, none⟩ = some (.slice da j dc) := HLc.out.cell (j := 3) rfl
                have fzc := HLc.out.frozen
                clear hown8 hg8 hmg hul hog
                refine hK.out _ _ (trivial) (fun hHeld => ?_)
                clear hK K
                try simp only [Act.put, List.getElem_toArray, List.getElem_cons_succ, List.getElem_cons_zero, List.setIfInBounds_toArray, List.set_cons_zero, List.set_cons_succ]
                refine wpAnyH_ready (rs := [7]) (by kernel_rfl) (by simp) ?_
                refine AllReadyH.cons (o := _) rfl (fun K hK => ?_) AllReadyH.nil
                go_simp
                refine hK.out _ _ (trivial) (fun hHeld => ?_)
                clear hK K
                try simp only [Act.put, List.getElem_toArray, List.getElem_cons_succ, List.getElem_cons_zero, List.setIfInBounds_toArray, List.set_cons_zero, List.set_cons_succ]
                refine wpAnyH_ready (rs := [8]) (by kernel_rfl) (by simp) ?_
                refine AllReadyH.cons (o := _) rfl (fun K hK => ?_) AllReadyH.nil
                go_simp
                refine hK.out _ _ (trivial) (fun hHeld => ?_)
                clear hK K
                try simp only [Act.put, List.getElem_toArray, List.getElem_cons_succ, List.getElem_cons_zero, List.setIfInBounds_toArray, List.set_cons_zero, List.set_cons_succ]
                refine wpAnyH_done (by kernel_rfl) ?_ _
                obtain ⟨wd, hwd⟩ : ∃ q, wc.setCell ⟨sb, 3, none⟩ (.slice ua (j + 1) uc) = q := ⟨_, rfl⟩
                have hmd : Mut (fun q => q = sb) wc wd := by rw [← hwd]; exact mut1
                have hld := HLc.out.set (j := 3) (v := .slice ua (j + 1) uc)
                rw [hwd] at hld
                have HLd := hid hld
                have HBd2 := hid (HBc2.out.mut hmd (fun e => HSN.out.1 e.symm))
                have HUd : Hid (Mut (fun q => q = b ∨ w2.heap.size ≤ q) w2 wd) := hid (HUc.out.trans (hmd.mono fun q _ e => .inr (by rw [e]; exact HSN.out.2)))
                have HOd := hid (OwnB.mutD HOc.out hmd (fun g e1 e2 => by have h1 := (HOc.out.blkD e1).1; have h2 := HLT.out; omega))
                have HSd : Hid (w8.heap.size ≤ wd.heap.size) := hid (Nat.le_trans HSc.out hmd.size)
                go_wp2_with fail
                try rw [hwd]
                go_roundw
                case rel => exact ⟨j + 1, rollX y', ua, uc, ds ++ [z], by go_num, by omega, rollX_lt y', HBd2, HLd, HOd, hid (by rw [H1.out, HCJ.out, diceB_succ, HZ.out]; simp), hid (by rw [H2.out, HCJ.out, diceX_succ]), hid (by have := H3.out; simp; omega), HUd, HSd⟩
                case measure => simp [intOf]; omega
              · go_simp
                obtain ⟨wb, hwb⟩ : ∃ q, wa.alloc (.cells #[.int .u8 (z : Int)] 5) = q := ⟨_, rfl⟩
                try rw [hw8]
                rw [hwb]
                have hbb : Below wa.heap.size wa wb := by rw [← hwb]; exact (Below.refl _ _).alloc (Nat.le_refl _) _
                have HRb : Hid (ByteRow wb (some ⟨wa.heap.size, 0, none⟩) [z]) := hid (by rw [← hwb]; exact ByteRow.one wa z)
                have HBb := hid (HBa.out.ext hbb)
                have HLb := hid (HLa.out.ext hbb)
                have HOb := hid (HOa.out.ext hbb)
                have HUb : Hid (Mut (fun q => q = b ∨ w2.heap.size ≤ q) w2 wb) := hid (HUa.out.trans (Mut.of_below hbb))
                have HSb : Hid (w8.heap.size ≤ wb.heap.size) := hid (by have h1 := HOj.out; have h2 := HUb.out.size; have h3 := HLS.out; have h4 := hbb.size; omega)
                have b3 : wb.cell? ⟨sb, 3, none⟩ = some (.slice da j dc) := HLb.out.cell (j := 3) rfl
                clear hwb hbb
                refine hK.out _ _ (trivial) (fun hHeld => ?_)
                clear hK K
                try simp only [Act.put, List.getElem_toArray, List.getElem_cons_succ, List.getElem_cons_zero, List.setIfInBounds_toArray, List.set_cons_zero, List.set_cons_succ]
                refine wpAnyH_ready (rs := [1]) (by kernel_rfl) (by simp) ?_
                refine AllReadyH.cons (o := _) rfl (fun K hK => ?_) AllReadyH.nil
                go_simp
                refine hK.out _ _ (trivial) (fun hHeld => ?_)
                clear hK K
                try simp only [Act.put, List.getElem_toArray, List.getElem_cons_succ, List.getElem_cons_zero, List.setIfInBounds_toArray, List.set_cons_zero, List.set_cons_succ]
                refine wpAnyH_ready (rs := [6]) (by kernel_rfl) (by simp) ?_
                refine AllReadyH.cons (o := _) rfl (fun K hK => ?_) AllReadyH.nil
                refine step_appendBz (n := 1) (base := w8.heap.size) (by rfl) HOb.out HRb.out (hid rfl) (by have := H3.out; omega) HSb.out rfl rfl rfl ?_
                intro v8 wc hown8 hg8
                have hmg := grown_mutD hg8
                obtain ⟨ua, uc, hu, -, -⟩ := id hown8.row
                have hul : (ds ++ [z]).length = j + 1 := by have := H3.out; simp; omega
                rw [hul] at hu
                subst hu
                have hog : ∀ g, (Value.slice da j dc).ownBlock = some g → w8.heap.size ≤ g := fun g e => (HOb.out.blkD e).1
                have HLc := hid (HLb.out.mut hmg (fun e => by have h1 := hog _ e; have h2 := HLT.out; omega))
                have HBc2 := hid (HBb.out.mut hmg (fun e => by have h1 := hog _ e; have h2 := HLT.out; omega))
                have HUc : Hid (Mut (fun q => q = b ∨ w2.heap.size ≤ q) w2 wc) := hid (HUb.out.trans (hmg.mono fun q _ e => .inr (by have h1 := hog _ e; have h2 := HBD.out; omega)))
                have HSc : Hid (w8.heap.size ≤ wc.heap.size) := hid (Nat.le_trans HSb.out hmg.size)
                have HOc := hid hown8
                have c3 : wc.cell? ⟨sb, 3, none⟩ = some (.slice da j dc) := HLc.out.cell (j := 3) rfl
                have fzc := HLc.out.frozen
                clear hown8 hg8 hmg hul hog
                refine hK.out _ _ (trivial) (fun hHeld => ?_)
                clear hK K
                try simp only [Act.put, List.getElem_toArray, List.getElem_cons_succ, List.getElem_cons_zero, List.setIfInBounds_toArray, List.set_cons_zero, List.set_cons_succ]
                refine wpAnyH_ready (rs := [7]) (by kernel_rfl) (by simp) ?_
                refine AllReadyH.cons (o := _) rfl (fun K hK => ?_) AllReadyH.nil
                go_simp
                refine hK.out _ _ (trivial) (fun hHeld => ?_)
                clear hK K
                try simp only [Act.put, List.getElem_toArray, List.getElem_cons_succ, List.getElem_cons_zero, List.setIfInBounds_toArray, List.set_cons_zero, List.set_cons_succ]
                refine wpAnyH_ready (rs := [8]) (by kernel_rfl) (by simp) ?_
                refine AllReadyH.cons (o := _) rfl (fun K hK => ?_) AllReadyH.nil
                go_simp
                refine hK.out _ _ (trivial) (fun hHeld => ?_)
                clear hK K
                try simp only [Act.put, List.getElem_toArray, List.getElem_cons_succ, List.getElem_cons_zero, List.setIfInBounds_toArray, List.set_cons_zero, List.set_cons_succ]
                refine wpAnyH_done (by kernel_rfl) ?_ _
                obtain ⟨wd, hwd⟩ : ∃ q, wc.setCell ⟨sb, 3, none⟩ (.slice ua (j + 1) uc) = q := ⟨_, rfl⟩
                have hmd : Mut (fun q => q = sb) wc wd := by rw [← hwd]; exact mut1
                have hld := HLc.out.set (j := 3) (v := .slice ua (j + 1) uc)
                rw [hwd] at hld
                have HLd := hid hld
                have HBd2 := hid (HBc2.out.mut hmd (fun e => HSN.out.1 e.symm))
                have HUd : Hid (Mut (fun q => q = b ∨ w2.heap.size ≤ q) w2 wd) := hid (HUc.out.trans (hmd.mono fun q _ e => .inr (by rw [e]; exact HSN.out.2)))
                have HOd := hid (OwnB.mutD HOc.out hmd (fun g e1 e2 => by have h1 := (HOc.out.blkD e1).1; have h2 := HLT.out; omega))
                have HSd : Hid (w8.heap.size ≤ wd.heap.size) := hid (Nat.le_trans HSc.out hmd.size)
                go_wp2_with fail
                try rw [hwd]
                go_roundw
                case rel => exact ⟨j + 1, rollX y', ua, uc, ds ++ [z], by go_num, by omega, rollX_lt y', HBd2, HLd, HOd, hid (by rw [H1.out, HCJ.out, diceB_succ, HZ.out]; simp), hid (by rw [H2.out, HCJ.out, diceX_succ]), hid (by have := H3.out; simp; omega), HUd, HSd⟩
                case measure => simp [intOf]; omega
          · have e1 : decide ((j : Int) < (cc : Int)) = false := decide_eq_false (by omega)
            have e2 : decide (j < cc) = false := decide_eq_false hjl
            obtain rfl : j = cc := by omega
            have HDS : Hid (diceB j yc = ds) := hid (by rw [H1.out, Nat.sub_self, diceB_zero, List.append_nil])
            have HXS : Hid (diceX j yc = y') := hid (by rw [H2.out, Nat.sub_self, diceX_zero])
            obtain ⟨w99, hw99⟩ : ∃ q, wz = q := ⟨_, rfl⟩
            subst hw99
            rename World => w99
            have HIT : Hid (ItemAt w99 (fun q => u6.ownBlock = some q ∨ q = b) (.slice da j dc) ds) := hid (by
              obtain ⟨a9, c9, e9, hr9, -⟩ := HOj.out.row
              rw [H3.out] at e9
              cases e9
              refine ⟨_, _, by rw [H3.out], hr9, fun q hq => by rw [← HDS.out] at hq; exact diceB_lt _ _ q hq, fun c off e => ⟨?_, fun hb => ?_⟩⟩
              · subst e; exact (HOj.out.blkD rfl).2
              · subst e
                have h1 := (HOj.out.blkD (g := c) rfl).1
                have h3 := HBD.out
                rcases hb with hb | hb
                · have h2 := (HO2.out.blk hb).2; omega
                · have h2 := HLT.out; omega)
            have HL99 := hid HLj.out
            have HB99 := hid HBj.out
            have HU99 := hid HUj.out
            have l0 := HL99.out.cell (j := 0) rfl
            have l1 := HL99.out.cell (j := 1) rfl
            have l2 := HL99.out.cell (j := 2) rfl
            have l3 := HL99.out.cell (j := 3) rfl
            have HOf := hid (HO2.out.mut HU99.out (fun g e1 e2 => by have h1 := HO2.out.blk e1; have h2 := HBZ.out; rcases e2 with e2 | e2 <;> omega))
            have HEf := hid ((HE2.out.mut HU99.out fun c _ h2 => h2.elim (fun e => .inl (.inr e)) .inr).grow (N' := fun q => u6.ownBlock = some q ∨ q = b) fun q h => .inl (.inl h))
            have HW12 : Hid (W1.heap.size ≤ w99.heap.size) := hid (Nat.le_trans HSZ.out HU99.out.size)
            have hst : stormS y0 = (⟨((11 : Nat) : Int), (rollN (y) 8 : Nat), 0, ds⟩, y') := by rw [HSK.out, HEQ.out, HDS.out, HXS.out]
            have HK : Hid ((-9223372036854775808 ≤ (⟨((11 : Nat) : Int), (rollN (y) 8 : Nat), 0, ds⟩ : StepD).kind ∧ (⟨((11 : Nat) : Int), (rollN (y) 8 : Nat), 0, ds⟩ : StepD).kind ≤ 9223372036854775807) ∧ StepOk ⟨((11 : Nat) : Int), (rollN (y) 8 : Nat), 0, ds⟩) := hid (by
              have h := storm_fit y0
              rw [hst] at h
              exact ⟨fit_kind h, h.ok⟩)
            have HNX : Hid ((y') < 18446744073709551616) := hid (by have h := (stormS_next y0).lt; rw [hst] at h; exact h)
            have HSTT := hid hst
            clear hst
            go_wp2_with (at_builtin; refine wpList_appendEP (el := [.int .i64 ((11 : Nat) : Int), .int .i64 (rollN (y) 8 : Nat), .int .i64 0, .slice da j dc]) (b := w99.heap.size) Tryz.underlying28 hi hz0 hz1 hz2 rfl (by decide) (by decide) (HOf.out.ext ((Below.refl _ _).alloc (Nat.le_refl _) _)) rfl (fun u hu => by simp at hu; rcases hu with rfl | rfl | rfl | rfl <;> rfl) (cells4_new _ _ _ _ _ _) HXL.out (by have := HW12.out; simp; omega) rfl rfl rfl rfl ?_; intro vq wq hownq hmq hnq)
            have hmw : Mut (fun g => u6.ownBlock = some g) w99 wq := (Mut.of_below ((Below.refl _ _).alloc (Nat.le_refl _) _)).trans (hmq.mono fun k _ e => e)
            have HEL6 : Hid (ElsAt wq (fun q => vq.ownBlock = some q ∨ q = b) (xs ++ [[.int .i64 ((11 : Nat) : Int), .int .i64 (rollN (y) 8 : Nat), .int .i64 0, .slice da j dc]]) ((out ++ [(⟨((11 : Nat) : Int), (rollN (y) 8 : Nat), 0, ds⟩ : StepD)]).map stepH)) := hid (by
              have h0 := (HEf.out.snoc (q := [.int .i64 ((11 : Nat) : Int), .int .i64 (rollN (y) 8 : Nat), .int .i64 0]) HIT.out).grow (N' := fun q => (u6.ownBlock = some q ∨ q = b) ∨ w99.heap.size ≤ q) fun b h => h
              have h1 := h0.mut hmw fun b _ e => .inl (.inl e)
              have h2 := h1.grow (N' := fun q => vq.ownBlock = some q ∨ q = b) fun q hq => .inl (hq.elim (fun hq => (hnq q hq).imp .inl fun h => by simp at h; omega) fun e => .inl (.inr e))
              rw [List.map_append]
              exact h2)
            have HO6 := hid hownq
            have HU6 : Hid (Mut (fun q => q = b) W1 wq) := hid ((HM2.out.transG HU99.out (fun q hq e => by have := HSZ.out; rcases e with e | e; exact e; omega)).transG hmw (fun q hq e => by have h1 := (HOf.out.blk e).1; omega))
            have HB6' := hid (HB99.out.mut hmw (fun e => by have h1 := (HOf.out.blk e).1; have h2 := HBZ.out; omega))
            have HOK6 : Hid (∀ s ∈ out ++ [(⟨((11 : Nat) : Int), (rollN (y) 8 : Nat), 0, ds⟩ : StepD)], (-9223372036854775808 ≤ s.kind ∧ s.kind ≤ 9223372036854775807) ∧ StepOk s) := hid fun s hs => by
              rcases List.mem_append.1 hs with hs | hs
              · exact hok.out s hs
              · rw [List.mem_singleton.1 hs]; exact HK.out
            clear hownq hmq hnq hmw l0 l1 l2 l3
            go_wp2_with fail
            go_roundw
            case rel => exact ⟨k0 + 1, y', out ++ [⟨((11 : Nat) : Int), (rollN (y) 8 : Nat), 0, ds⟩], _, by go_num, by omega, HNX.out, HB6', hid (by have := hol.out; simp; omega), hid (by rw [HST.out, HR.out, stormL_succ, HSTT.out]; simp), HO6, HEL6, HOK6, HU6⟩
            case measure => simp [intOf]; omega
      have hdd := HDD.out
      have f5 : ((d : Int) == 5) = false := by simp; omega
      have f12 : ((d : Int) == 12) = false := by simp; omega
      have f9 : ((d : Int) == 9) = false := by simp; omega
      have f11 : ((d : Int) == 11) = false := by simp; omega
      have g5 : (d == 5) = false := by simp; omega
      have g12 : (d == 12) = false := by simp; omega
      have g9 : (d == 9) = false := by simp; omega
      have g11 : (d == 11) = false := by simp; omega
      have hA0 : 0 < A0 ∧ A0 ≤ 256 := by
        have h : ∀ z : Fin 14, z.val ≠ 0 → z.val ≠ 13 → 0 < aL.getD z.val 0 ∧ aL.getD z.val 0 ≤ 256 := by decide
        have := h ⟨d, by omega⟩ (by simp; omega) (by simp; omega)
        rw [← hA]; exact this
      have p1 : decide ((A0 : Int) > 0) = true := decide_eq_true (by omega)
      have p2 : decide (0 < (A0 : Int)) = true := decide_eq_true (by omega)
      have p3 : decide (0 < A0) = true := decide_eq_true hA0.1
      have HA := hid hA
      have HA0 := hid hA0
      have HN5 : Hid (d ≠ 5 ∧ d ≠ 12 ∧ d ≠ 13 ∧ d ≠ 9 ∧ d ≠ 11) := hid ⟨h5, h12, h13, h9, h11⟩
      clear h5 h12 h13 h9 h11 hA hA0 hdd
      have C6 := hid (rollR_any (y) A0 hyl HA0.out.1 HA0.out.2 HB5.out)
      go_wp2_with fail
      refine C6.out.mono ?_
      rintro e w6 ⟨rfl, hm6, hB6⟩
      have HB6 := hid hB6
      have HU6 : Hid (Mut (fun q => q = b ∨ w2.heap.size ≤ q) w2 w6) := hid (HU5.out.trans (hm6.mono fun q _ e => .inl e))
      have HL6 := hid (HL5.out.mut hm6 HSN.out.1)
      clear C6 hm6 hB6
      have lz7 := HL6.out.cell (j := 1) rfl
      have fz7 := HL6.out.frozen
      go_upto_region 12 with fail
      obtain ⟨w7, hw7⟩ : ∃ z, w6.setCell ⟨sb, 1, none⟩ (.int .i64 (rollN (y) A0 : Nat)) = z := ⟨_, rfl⟩
      rw [hw7]
      have hm7 : Mut (fun q => q = sb) w6 w7 := by rw [← hw7]; exact mut1
      have hl7 := HL6.out.set (j := 1) (v := .int .i64 (rollN (y) A0 : Nat))
      rw [hw7] at hl7
      have HL7 := hid hl7
      have HB7 := hid (HB6.out.mut hm7 (fun e => HSN.out.1 e.symm))
      have HU7 : Hid (Mut (fun q => q = b ∨ w2.heap.size ≤ q) w2 w7) := hid (HU6.out.trans (hm7.mono fun q _ e => .inr (by rw [e]; exact HSN.out.2)))
      clear hw7 hm7 hl7 lz7 fz7
      have l0 := HL7.out.cell (j := 0) rfl
      have l1 := HL7.out.cell (j := 1) rfl
      have l2 := HL7.out.cell (j := 2) rfl
      have l3 := HL7.out.cell (j := 3) rfl
      have HIT : Hid (ItemAt w7 (fun q => u6.ownBlock = some q ∨ q = b) (.slice none 0 0) []) := hid (ItemAt.none _ _)
      have HOf := hid (HO2.out.mut HU7.out (fun g e1 e2 => by have h1 := HO2.out.blk e1; have h2 := HBZ.out; rcases e2 with e2 | e2 <;> omega))
      have HEf := hid ((HE2.out.mut HU7.out fun c _ h2 => h2.elim (fun e => .inl (.inr e)) .inr).grow (N' := fun q => u6.ownBlock = some q ∨ q = b) fun q h => .inl (.inl h))
      have HW12 : Hid (W1.heap.size ≤ w7.heap.size) := hid (Nat.le_trans HSZ.out HU7.out.size)
      have hst : stormS y0 = (⟨(d : Int), (rollN (y) A0 : Nat), 0, []⟩, rollX (y)) := by rw [HSK.out]; unfold refK; rw [if_neg HN5.out.1, if_neg HN5.out.2.1, if_neg HN5.out.2.2.1, if_neg (by have := HN5.out; omega), HA.out]
      have HK : Hid ((-9223372036854775808 ≤ (⟨(d : Int), (rollN (y) A0 : Nat), 0, []⟩ : StepD).kind ∧ (⟨(d : Int), (rollN (y) A0 : Nat), 0, []⟩ : StepD).kind ≤ 9223372036854775807) ∧ StepOk ⟨(d : Int), (rollN (y) A0 : Nat), 0, []⟩) := hid (by
        have h := storm_fit y0
        rw [hst] at h
        exact ⟨fit_kind h, h.ok⟩)
      have HNX : Hid ((rollX (y)) < 18446744073709551616) := hid (by have h := (stormS_next y0).lt; rw [hst] at h; exact h)
      have HSTT := hid hst
      clear hst
      go_wp2_with (at_builtin; refine wpList_appendEP (el := [.int .i64 (d : Int), .int .i64 (rollN (y) A0 : Nat), .int .i64 0, .slice none 0 0]) (b := w7.heap.size) Tryz.underlying28 hi hz0 hz1 hz2 rfl (by decide) (by decide) (HOf.out.ext ((Below.refl _ _).alloc (Nat.le_refl _) _)) rfl (fun u hu => by simp at hu; rcases hu with rfl | rfl | rfl | rfl <;> rfl) (cells4_new _ _ _ _ _ _) HXL.out (by have := HW12.out; simp; omega) rfl rfl rfl rfl ?_; intro vq wq hownq hmq hnq)
      have hmw : Mut (fun g => u6.ownBlock = some g) w7 wq := (Mut.of_below ((Below.refl _ _).alloc (Nat.le_refl _) _)).trans (hmq.mono fun k _ e => e)
      have HEL6 : Hid (ElsAt wq (fun q => vq.ownBlock = some q ∨ q = b) (xs ++ [[.int .i64 (d : Int), .int .i64 (rollN (y) A0 : Nat), .int .i64 0, .slice none 0 0]]) ((out ++ [(⟨(d : Int), (rollN (y) A0 : Nat), 0, []⟩ : StepD)]).map stepH)) := hid (by
        have h0 := (HEf.out.snoc (q := [.int .i64 (d : Int), .int .i64 (rollN (y) A0 : Nat), .int .i64 0]) HIT.out).grow (N' := fun q => (u6.ownBlock = some q ∨ q = b) ∨ w7.heap.size ≤ q) fun b h => h
        have h1 := h0.mut hmw fun b _ e => .inl (.inl e)
        have h2 := h1.grow (N' := fun q => vq.ownBlock = some q ∨ q = b) fun q hq => .inl (hq.elim (fun hq => (hnq q hq).imp .inl fun h => by simp at h; omega) fun e => .inl (.inr e))
        rw [List.map_append]
        exact h2)
      have HO6 := hid hownq
      have HU6 : Hid (Mut (fun q => q = b) W1 wq) := hid ((HM2.out.transG HU7.out (fun q hq e => by have := HSZ.out; rcases e with e | e; exact e; omega)).transG hmw (fun q hq e => by have h1 := (HOf.out.blk e).1; omega))
      have HB6' := hid (HB7.out.mut hmw (fun e => by have h1 := (HOf.out.blk e).1; have h2 := HBZ.out; omega))
      have HOK6 : Hid (∀ s ∈ out ++ [(⟨(d : Int), (rollN (y) A0 : Nat), 0, []⟩ : StepD)], (-9223372036854775808 ≤ s.kind ∧ s.kind ≤ 9223372036854775807) ∧ StepOk s) := hid fun s hs => by
        rcases List.mem_append.1 hs with hs | hs
        · exact hok.out s hs
        · rw [List.mem_singleton.1 hs]; exact HK.out
      clear hownq hmq hnq hmw l0 l1 l2 l3
      go_wp2_with fail
      go_roundw
      case rel => exact ⟨k0 + 1, rollX (y), out ++ [⟨(d : Int), (rollN (y) A0 : Nat), 0, []⟩], _, by go_num, by omega, HNX.out, HB6', hid (by have := hol.out; simp; omega), hid (by rw [HST.out, HR.out, stormL_succ, HSTT.out]; simp), HO6, HEL6, HOK6, HU6⟩
      case measure => simp [intOf]; omega
    · have d1 : decide ((k0 : Int) < (n : Int)) = false := decide_eq_false (by omega)
      have d2 : decide (k0 < n) = false := decide_eq_false hlt
      have hkn : k0 = n := by omega
      obtain ⟨a9, c9, rfl, hc9, hrow9⟩ := steps_row how.out hel.out hok.out
      have hol9 := hol.out
      have hst : stormL n x = out := by rw [HST.out, hkn, Nat.sub_self, stormL_zero, List.append_nil]
      rw [hol9, hkn]
      have HRW := hid hrow9
      have HF : Hid (n ≤ c9) := hid (by omega)
      have HMB : Hid (Below w.heap.size w wr) := hid (below_mutN HB1.out HM.out (fun q e => by rw [e, HBE.out]; exact Nat.le_refl _))
      have HSTE := hid hst
      clear hrow9 hc9 hol9 hst hkn
      go_wp2_with fail
      go_ret
      exact ⟨a9, c9, rfl, HF.out, by rw [HSTE.out]; exact HRW.out, HMB.out⟩
end Go.Proofs.YtehagnbphamjhaaGreatDoor

namespace Go.Proofs.YtehagnbphamjhaaGreatDoor
open Go.RowKit
/-! ### play: Print -/
set_option maxRecDepth 100000 in
set_option maxHeartbeats 12800000 in
theorem print_anyS {l : List StepD} {a : Option Addr} {c n : Nat} {w : World} (hrow : StepRow w a l) (hn : Hid (l.length = n)) (hd : ∀ s ∈ l, s.data.length ≤ 200) (ht : TabOk w) :
    Calls Tryz.prog 15 #[.slice a n c] w fun e w' => e = .returned (PrintV (printS l)) ∧ Below w.heap.size w w' := by
  obtain ⟨r, hr⟩ : ∃ r, printS l = r := ⟨_, rfl⟩
  rw [hr]
  have HR := hid hr
  clear hr
  by_cases hbig : 4096 < n
  · have HE : Hid (r = ([], 3)) := hid (by rw [← HR.out]; unfold printS; rw [if_pos (by rw [hn.out]; exact hbig)])
    go_enter Tryz.func15, Tryz.ntmps15
    go_wp2_with fail
    refine bodyPost_ret (v := .tuple #[.string ⟨#[]⟩, .int .i64 3]) (by simp [results, Tryz.results15, go_sem]) rfl ⟨by rw [HE.out]; rfl, Below.refl _ _⟩
  · have HE : Hid (r = match mapO lineP l with | none => ([], 1) | some ls => (ls.flatten, 0)) := hid (by rw [← HR.out]; unfold printS; rw [if_neg (by rw [hn.out]; exact hbig)]; cases mapO lineP l <;> rfl)
    obtain ⟨W1, hW1⟩ : ∃ W1, w.alloc (.cells #[.pointer none, .slice none 0 0] 65) = W1 := ⟨_, rfl⟩
    have hb1 : Below w.heap.size w W1 := by rw [← hW1]; exact (Below.refl _ _).alloc (Nat.le_refl _) _
    have HL1 : Hid (Bld w.heap.size w.heap.size [] W1) := hid (by rw [← hW1]; exact Bld.fresh w)
    have HB1 := hid hb1
    have HRW := hid hrow
    have HT := hid ht
    have HD := hid hd
    have HBG : Hid (n ≤ 4096) := hid (by omega)
    clear hrow ht hd hb1
    go_enter Tryz.func15, Tryz.ntmps15
    go_wp2_with fail
    go_loopw [14] (fun iv wr => ∃ (k : Nat) (out : Str), iv = .int .i64 k ∧ k ≤ n ∧ Hid (out.length ≤ 500 * k) ∧ Hid (r = match mapO lineP (l.drop k) with | none => ([], 1) | some ls => (out ++ ls.flatten, 0)) ∧ Hid (Bld w.heap.size w.heap.size out wr) ∧ Hid (Below w.heap.size w wr)) (fun iv _ => n - (intOf iv).toNat)
    case atStart => exact ⟨0, [], rfl, Nat.zero_le _, hid (by simp), hid (by rw [HE.out, List.drop_zero]; cases mapO lineP l <;> rfl), by first | exact HL1 | (rw [hW1]; exact HL1), by first | exact HB1 | (rw [hW1]; exact HB1)⟩
    case round =>
      obtain ⟨k, out, rfl, hk, hol, hf, hbl, hbw⟩ := hrel
      by_cases hlt : k < n
      · obtain ⟨s, hs⟩ : ∃ s, l[k]? = some s := ⟨l[k]'(by rw [hn.out]; exact hlt), List.getElem?_eq_getElem _⟩
        have hkl := (List.getElem?_eq_some_iff.1 hs).1
        have hsk : l[k] = s := by rw [List.getElem?_eq_getElem hkl] at hs; exact Option.some.inj hs
        obtain ⟨b, off, ai, ci, rfl, hblt, q0, q1, q2, q3, hst⟩ := (HRW.out.ext hbw.out).cells hkl hsk
        have hf2 : r = match lineP s with | none => ([], 1) | some y => (match mapO lineP (l.drop (k + 1)) with | none => ([], 1) | some ls => (out ++ y ++ ls.flatten, 0)) := by
          rw [hf.out, mapO_drop lineP hs]
          cases lineP s
          · rfl
          · cases mapO lineP (l.drop (k + 1)) <;> simp
        have hdl := HD.out s (List.mem_of_getElem? hs)
        obtain ⟨kd, av, bv, data⟩ := s
        simp only at q0 q1 q2 q3 hdl
        obtain ⟨dn, hdn⟩ : ∃ dn, data.length = dn := ⟨_, rfl⟩
        rw [hdn] at q3 hdl
        obtain ⟨W4, hW4⟩ : ∃ W4, wr.alloc (.cells #[.int .i64 kd, .int .i64 av, .int .i64 bv, .slice ai dn ci] 62) = W4 := ⟨_, rfl⟩
        have hb4 : Below wr.heap.size wr W4 := by rw [← hW4]; exact (Below.refl _ _).alloc (Nat.le_refl _) _
        have hx4 : Bx4 W4 wr.heap.size (.int .i64 kd) (.int .i64 av) (.int .i64 bv) (.slice ai dn ci) := by rw [← hW4]; exact Bx4.made _ _ _ _ _ _
        have HB4 := hid (hbw.out.trans (hb4.mono hbw.out.size))
        have C3 := hid (line_any (c := ci) (hst.ext hb4) (hid hdn) (by omega) (HT.out.ext HB4.out))
        obtain ⟨r3, hr3⟩ : ∃ r3, lineP ⟨kd, av, bv, data⟩ = r3 := ⟨_, rfl⟩
        simp only at C3
        rw [hr3] at hf2 C3
        have HF2 := hid hf2
        have HL4 := hid (hbl.out.extP hb4)
        have HLN : Hid (∀ t, r3 = some t → t.length ≤ 500) := hid fun t ht => by
          have := line_len hst.ok (hr3.trans ht)
          simp only [hdn] at this
          omega
        have y0 := hx4.c0
        have y1 := hx4.c1
        have y2 := hx4.c2
        have y3 := hx4.c3
        clear hs hkl hsk hblt hst hf2 hf hdl hdn hb4 hx4 hr3 hbl
        go_upto_region 7 with fail
        clear hW4 q0 q1 q2 q3
        go_wp2_with fail
        refine C3.out.mono ?_
        rintro e w5 ⟨rfl, hb5⟩
        have HB5 := hid (HB4.out.trans (hb5.mono HB4.out.size))
        have HL5 := hid (HL4.out.extP hb5)
        clear hb5 C3 y0 y1 y2 y3 HB4 HL4
        rcases r3 with _ | t
        · have HRE : Hid (r = ([], 1)) := hid HF2.out
          unfold lineV
          clear HF2
          go_wp2_with fail
          refine bodyPost_ret (v := .tuple #[.string ⟨#[]⟩, .int .i64 1]) (by simp [results, Tryz.results15, go_sem]) rfl ⟨by rw [HRE.out]; rfl, HB5.out⟩
        · unfold lineV
          have htl := HLN.out t rfl
          have C4 := hid (bws_any w.heap.size w.heap.size out t w5 HL5.out (by have := hol.out; have := HBG.out; omega) HB5.out.size)
          obtain ⟨tl, htl2⟩ : ∃ tl, t.length = tl := ⟨_, rfl⟩
          rw [htl2] at C4 htl
          have HTL := hid htl2
          have HF3 : Hid (r = match mapO lineP (l.drop (k + 1)) with | none => ([], 1) | some ls => (out ++ t ++ ls.flatten, 0)) := hid HF2.out
          clear HF2 HLN htl2
          go_wp2_with fail
          refine C4.out.mono ?_
          rintro e w6 ⟨rfl, hbl6, hb6, -⟩
          have HL6 : Hid (Bld w.heap.size w.heap.size (out ++ t) w6) := hid (.inr hbl6)
          have HB6 := hid (HB5.out.trans hb6)
          clear hbl6 hb6 C4
          go_wp2_with fail
          go_roundw
          case rel => exact ⟨k + 1, out ++ t, by go_num, by omega, hid (by have := hol.out; have := HTL.out; simp; omega), HF3, HL6, HB6⟩
          case measure => simp [intOf]; omega
      · have hd : l.drop k = [] := List.drop_eq_nil_of_le (by rw [hn.out]; omega)
        have HRE : Hid (r = (out, 0)) := hid (by rw [hf.out, hd]; simp [mapO])
        have C5 := hid (bst_any w.heap.size w.heap.size out wr hbl.out hbw.out.size)
        clear hd hf
        go_wp2_with fail
        refine C5.out.mono ?_
        rintro e w9 ⟨rfl, hb9⟩
        have HB9 := hid (hbw.out.trans hb9)
        clear hb9 C5
        go_wp2_with fail
        refine bodyPost_ret (v := .tuple #[.string ⟨out.toArray⟩, .int .i64 0]) (by simp [results, Tryz.results15, go_sem]) rfl ⟨by rw [HRE.out]; rfl, HB9.out⟩
end Go.Proofs.YtehagnbphamjhaaGreatDoor

namespace Go.Proofs.YtehagnbphamjhaaGreatDoor
open Go.RowKit
/-! ### the law PlayStorms -/
theorem storm_prints (n x : Nat) (hn : n ≤ 4096) : ∃ t, printS (stormL n x) = (t, 0) := by
  obtain ⟨ls, h⟩ := storm_print n x
  refine ⟨ls.flatten, ?_⟩
  unfold printS
  rw [stormL_len, if_neg (by omega), h]
theorem StepRow.take {w : World} {a : Option Addr} {l : List StepD} (h : StepRow w a l) (k : Nat) : StepRow w a (l.take k) := by
  rcases h with rfl | ⟨b, off, rfl, hb, hc⟩
  · exact .inl (by simp)
  · refine .inr ⟨b, off, rfl, hb, fun i hi => ?_⟩
    have hi2 : i < l.length := by rw [List.length_take] at hi; omega
    obtain ⟨ai, ci, g1, g2⟩ := hc i hi2
    have e : (l.take k)[i] = l[i] := List.getElem_take
    rw [e]
    exact ⟨ai, ci, g1, g2⟩
set_option maxRecDepth 100000 in
set_option maxHeartbeats 6400000 in
theorem playStorms_law (x n m : Nat) (hx : x < 18446744073709551616) (hn : n < 256) (hm : m < 256) {w : World} (he : EnvP w) :
    Calls Tryz.prog 4 #[.int .u64 x, .int .u8 n, .int .u8 m] w fun e w' => e = .returned (.bool true) ∧ Below w.heap.size w w' := by
  obtain ⟨A, hA⟩ : ∃ A, stormL n x = A := ⟨_, rfl⟩
  obtain ⟨B, hB⟩ : ∃ B, stormL (n + m) x = B := ⟨_, rfl⟩
  have hal : A.length = n := by rw [← hA]; exact stormL_len n x
  have hbl : B.length = n + m := by rw [← hB]; exact stormL_len (n + m) x
  have hbt : B.take n = A := by rw [← hA, ← hB]; exact stormL_take n m x
  have HAL := hid hal
  have HBL := hid hbl
  have HBT := hid hbt
  obtain ⟨t, hpr⟩ := storm_prints (n + m) x (by omega)
  rw [hB] at hpr
  have HPR := hid hpr
  have hfit := storm_all (n + m) x
  rw [hB] at hfit
  have HFIT := hid hfit
  have HE := hid he
  have C1 := storm_any n x hx (by omega) w
  rw [hA] at C1
  have C1 := hid C1
  have C2 : Hid (∀ W, Calls Tryz.prog 12 #[.int .u64 x, .int .i64 ((n : Int) + (m : Int))] W fun e w' => ∃ a c, e = .returned (.slice a (n + m) c) ∧ n + m ≤ c ∧ StepRow w' a B ∧ Below W.heap.size W w') := hid fun W => by
    have h := storm_any (n + m) x hx (by omega) W
    rw [hB] at h
    have e : ((n + m : Nat) : Int) = (n : Int) + (m : Int) := by omega
    rw [e] at h
    exact h
  have C3 : Hid (∀ W, Calls Tryz.prog 14 #[.int .u64 x, .int .i64 n] W fun e w' => ∃ a c, e = .returned (.slice a n c) ∧ n ≤ c ∧ StepRow w' a A ∧ Below W.heap.size W w') := hid fun W => by
    have h := refStorm_any n x hx (by omega) W
    rw [hA] at h
    exact h
  have hwr : wrap64 ((n : Int) + (m : Int)) = (n : Int) + (m : Int) := by unfold wrap64; omega
  have hw1 : wrap64 (n : Int) = (n : Int) := by unfold wrap64; omega
  have hw2 : wrap64 (m : Int) = (m : Int) := by unfold wrap64; omega
  have HNM : Hid (n < 256 ∧ m < 256) := hid ⟨hn, hm⟩
  clear hA hB hal hbl hbt hpr hfit he hn hm
  go_enter Tryz.func4, Tryz.ntmps4
  go_wp2_with fail
  refine C1.out.mono ?_
  rintro e w2 ⟨a2, c2, rfl, hc2, hr2, hb2⟩
  have HR2 := hid hr2
  have HB2 := hid hb2
  clear C1 hc2 hr2 hb2
  go_wp2_with fail
  refine (C2.out _).mono ?_
  rintro e w3 ⟨a3, c3, rfl, hc3, hr3, hb3⟩
  have HR3 := hid hr3
  have HB3 := hid (HB2.out.trans (hb3.mono HB2.out.size))
  have HR23 := hid (HR2.out.ext hb3)
  have HC3 := hid hc3
  clear C2 hc3 hr3 hb3 HR2
  go_wp2_with fail
  refine (C3.out _).mono ?_
  rintro e w4 ⟨a4, c4, rfl, hc4, hr4, hb4⟩
  have HB4 := hid (HB3.out.trans (hb4.mono HB3.out.size))
  have CS := hid (sameSteps_true (c := c2) (d := c4) HAL (HR23.out.ext hb4) hr4 (by have := HNM.out; omega))
  have HR24 := hid (HR23.out.ext hb4)
  have HR34 := hid (HR3.out.ext hb4)
  clear C3 hc4 hr4 hb4 HR23 HR3
  go_wp2_with fail
  refine CS.out.mono ?_
  rintro e w5 ⟨rfl, hb5⟩
  have HB5 := hid (HB4.out.trans (hb5.mono HB4.out.size))
  have HR25 := hid (HR24.out.ext hb5)
  have HR35 := hid (HR34.out.ext hb5)
  have CS2 := hid (sameSteps_true (c := c2) (d := c3) HAL HR25.out (by have h := HR35.out.take n; rw [HBT.out] at h; exact h) (by have := HNM.out; omega))
  have hq : n ≤ c3 := by have := HC3.out; omega
  have hq2 : (n : Int) ≤ (c3 : Int) := by omega
  clear CS hb5 HR24 HR34
  go_wp2_with fail
  refine CS2.out.mono ?_
  rintro e w6 ⟨rfl, hb6⟩
  have HB6 := hid (HB5.out.trans (hb6.mono HB5.out.size))
  have CP := print_anyS (c := c3) (HR35.out.ext hb6) HBL (fun s hs => Nat.le_trans (HFIT.out s hs).dl (by decide)) (HE.out.ext HB6.out).tab
  rw [HPR.out] at CP
  have CP : Hid (Calls Tryz.prog 15 #[.slice a3 (n + m) c3] w6 fun e w' => e = .returned (.tuple #[.string ⟨t.toArray⟩, .int .i64 0]) ∧ Below w6.heap.size w6 w') := hid CP
  clear CS2 hb6 HR25 HR35 hq hq2
  go_wp2_with fail
  refine CP.out.mono ?_
  rintro e w7 ⟨rfl, hb7⟩
  have HB7 := hid (HB6.out.trans (hb7.mono HB6.out.size))
  have CA := hid (awake30_any w7 (HE.out.ext HB7.out))
  clear CP hb7
  go_wp2_with (go_at_call 9; refine CA.out.mono ?_; rintro e w8 ⟨rfl, hb8⟩)
  go_ret
  exact ⟨rfl, HB7.out.trans (hb8.mono HB7.out.size)⟩
end Go.Proofs.YtehagnbphamjhaaGreatDoor

namespace Go.Proofs.YtehagnbphamjhaaGreatDoor.PlayStormsProof
open Go.ChangeShapes Go.WideShapes Go.ChangeAt Go.RowKit
abbrev wargs : Array Value := #[.int .u64 0, .int .u8 0, .int .u8 0]
theorem reads (os : Os) {H : Type} (enc : TypeId × Value → H) : DataW.whole enc Tryz.prog ((World.laidAll Tryz.prog os Rows.playStormsRow.laid).forCall (fun _ _ => 0) ⟨#[], wargs, []⟩).memory Tryz.f4.params.toList Rows.playStormsSpec.vars false wargs.toList 8 = some ([.lit (.int .u64 0), .lit (.int .u8 0), .lit (.int .u8 0)], [], []) := by kernel_rfl
theorem env_of {W : World} (hL : laidMet Tryz.prog Rows.playStormsRow.laid W) (hsh : W.ShapedOpen Tryz.prog) : EnvP W := by
  obtain ⟨m, hm⟩ := Go.Proofs.cell_of_shapedOpen_int (g := 1) (t := 3) (zero := #[.int .i64 0]) (k := .i64) hsh (of_decide_eq_true (by kernel_rfl)) (by kernel_rfl) rfl (by kernel_rfl) (by kernel_rfl) Tryz.underlying3
  have hT : TabOk W := Lib.tabIs_of_head (t := 205) (e := 27) (n := 20) pf_gTab (by kernel_rfl) (by kernel_rfl) Tryz.underlying27 (by kernel_rfl) (by kernel_rfl) hL.tail.tail
  obtain ⟨a1, s1, hv1, -, -, -⟩ := laid_sentinel hL.tail.tail.tail.tail.tail pf_gES pf_gESType Tryz.underlying67 pf_rowP Tryz.underlying365 Tryz.underlying367 rfl rfl Tryz.underlying9 pf_cellsE pf_cells9
  obtain ⟨a2, s2, hv2, -, -, -⟩ := laid_sentinel hL.tail.tail.tail.tail pf_gER pf_gERType Tryz.underlying67 pf_rowP Tryz.underlying365 Tryz.underlying367 rfl rfl Tryz.underlying9 pf_cellsE pf_cells9
  exact ⟨hT, ⟨_, _, hv1⟩, ⟨_, _, hv2⟩, ⟨m, hm⟩⟩
set_option maxRecDepth 100000 in
theorem lifted (os : Os) (started : os.Started) (H : Type) (enc : TypeId × Value → H) (F : Stop.Interp) :
    ReturnsInHanded {} Tryz.checked os 4 .any ((OpenSpec.ofChange Rows.playStormsSpec).preRow enc Tryz.prog Tryz.f4 Rows.playStormsRow.domain false Rows.playStormsRow.laid) (((OpenSpec.ofChange Rows.playStormsSpec).at F).post enc Tryz.prog Tryz.f4 false true false false) := by
  refine returnsInHanded_of_row (C := Tryz.checked) (s := OpenSpec.ofChange Rows.playStormsSpec) pf_own started (by kernel_rfl) Tryz.func4
    (witness_row_atRef (enc := enc) (C := Tryz.checked) false (World.laidAll Tryz.prog os Rows.playStormsRow.laid) wargs (World.laidAll_os _ _ _) (playStorms_vref os) (playStorms_heap os) (playStorms_okw os)
      (OpenSpec.preRow_of_cond 8 (reads os enc) (by kernel_rfl) (fun k hk => by cases hk) (by kernel_rfl) (playStorms_met os))) ?_
  intro W base args ds gs before hval0 hW _ _ hsz0 hL hsh _
  rw [MakeChecks.laidMetH_plain _ _ _ (by kernel_rfl)] at hL
  have hE := env_of hL hsh
  have hval : ∀ (j : Nat) t v, Tryz.f4.params[j]? = some t → args[j]? = some v → Value.okWide Tryz.prog W .any base t v := hval0
  have hsz : (DataW.weightsEach Tryz.prog (Tryz.f4.params.toList ++ Rows.playStormsSpec.plain.varTypes Tryz.prog) (ds ++ gs)).all (· ≤ reachBytes) = true := hsz0
  have hW' := hW
  obtain ⟨p, q, hA0, hV, rfl, hfz, hnd⟩ := hW
  have hA : DataW.TrodAll enc Tryz.prog W 0 (fun _ => true) true Tryz.f4.params.toList args.toList ds p := hA0
  rw [Tryz.params4] at hA hval hsz
  obtain ⟨v0, vs0, d0, ds0, p0, q0, hargs, rfl, rfl, h0, r0⟩ := trodAll_cons hA
  obtain ⟨v1, vs1, d1, ds1, p1, q1, rfl, rfl, rfl, h1, r1⟩ := trodAll_cons r0
  obtain ⟨v2, vs2, d2, ds2, p2, q2, rfl, rfl, rfl, h2, r2⟩ := trodAll_cons r1
  obtain ⟨rfl, rfl, rfl⟩ := trodAll_nil r2
  obtain rfl : args = #[v0, v1, v2] := by cases args; simp_all
  obtain ⟨rfl, rfl⟩ := trodVars_none hV
  obtain ⟨x0, rfl, rfl, rfl, wx0⟩ := open_int Tryz.underlying27 (hval 0 27 v0 rfl rfl) h0
  have hwf0 := bounds_u64 wx0
  obtain ⟨n0, rfl⟩ : ∃ n : Nat, x0 = (n : Int) := ⟨x0.toNat, by omega⟩
  obtain ⟨x1, rfl, rfl, rfl, wx1⟩ := open_int Tryz.underlying5 (hval 1 5 v1 rfl rfl) h1
  have hwf1 := bounds_u8 wx1
  obtain ⟨n1, rfl⟩ : ∃ n : Nat, x1 = (n : Int) := ⟨x1.toNat, by omega⟩
  obtain ⟨x2, rfl, rfl, rfl, wx2⟩ := open_int Tryz.underlying5 (hval 2 5 v2 rfl rfl) h2
  have hwf2 := bounds_u8 wx2
  obtain ⟨n2, rfl⟩ : ∃ n : Nat, x2 = (n : Int) := ⟨x2.toNat, by omega⟩
  clear hA0 hval0 hsz0
  refine (playStorms_law n0 n1 n2 (by omega) (by omega) (by omega) hE).mono fun e W' ⟨he, bel⟩ => ?_
  subst he
  exact ⟨_, rfl, _, _, _, [], _, [], hW', trodAll_mk1 (shut_bool Tryz.underlying4 _), (trodAll_cons_mk (shut_int Tryz.underlying27 wx0) (trodAll_cons_mk (shut_int Tryz.underlying5 wx1) (trodAll_cons_mk (shut_int Tryz.underlying5 wx2) trodAll_mk0))), rfl, bel.frame _, fun h => by cases h⟩
set_option maxRecDepth 100000 in
theorem joined : joinedFacts Tryz.pinned.checked.prog 4 Tryz.f4 (OpenSpec.ofChange Rows.playStormsSpec).bare Rows.playStormsRow = true := by
  unfold joinedFacts
  simp only [Bool.and_eq_true]
  exact ⟨⟨⟨⟨⟨⟨⟨⟨⟨⟨⟨⟨⟨⟨⟨⟨⟨⟨⟨⟨⟨⟨⟨⟨⟨⟨⟨⟨⟨⟨⟨playStorms_j1, pf_laidOut⟩, pf_mapsRowed⟩, playStorms_j4⟩, playStorms_j5⟩, playStorms_j6⟩, pf_s2⟩, playStorms_j8⟩, pf_s4⟩, playStorms_j10⟩, playStorms_j11⟩, playStorms_j12⟩, playStorms_j13⟩, playStorms_j14⟩, playStorms_j15⟩, playStorms_j16⟩, playStorms_j17⟩, playStorms_j17b⟩, playStorms_j18⟩, playStorms_j19⟩, playStorms_j20⟩, playStorms_j21⟩, playStorms_j22⟩, playStorms_j23⟩, pf_heard⟩, pf_enter⟩, playStorms_j24⟩, playStorms_j25⟩, playStorms_j26⟩, playStorms_j27⟩, playStorms_j28⟩, playStorms_j29⟩
theorem said : Rows.PlayStormsSaid :=
  OpenClaim.holds_of_cond 4 Tryz.f4 rfl rfl rfl rfl rfl rfl rfl ⟨rfl, rfl, rfl, rfl, rfl⟩ rfl rfl rfl rfl rfl playStorms_fnm Tryz.func4 joined
    (of_decide_eq_true (by kernel_rfl)) (by unfold Func.isWrapper; first | (rw [if_pos (by decide +kernel)]; kernel_rfl) | (rw [if_neg (by decide +kernel)]; exact ⟨rfl, rfl⟩))
    (fun os started H enc _ F => by rw [OpenClaim.pre_eq_preRow]; exact lifted os started H enc F)
/-- No parameter wants a stand-in; the program's own looks are off. -/
theorem plain (f : FuncId) (fn : Func) (hf : Tryz.pinned.checked.prog.funcNamed "choragus/choraguslaw30.PlayStorms" = some f) (hfn : Tryz.pinned.checked.prog.funcs[f]? = some fn) :
    true = Tryz.pinned.checked.prog.looks [] ∧ ∀ (j : Nat) t, fn.params[j]? = some t → Tryz.pinned.checked.prog.wantsStandIn t = false := by
  obtain rfl : f = 4 := Option.some.inj (playStorms_fnm.symm.trans hf) |>.symm
  obtain rfl : fn = Tryz.f4 := (Option.some.inj (Tryz.func4.symm.trans hfn)).symm
  refine ⟨pf_looks, fun j t ht => ?_⟩
  rw [Tryz.params4] at ht
  have hm : t = 27 ∨ t = 5 := by simpa using Array.mem_of_getElem? ht
  rcases hm with rfl | rfl
  · exact (show Tryz.prog.wantsStandIn 27 = false by kernel_rfl)
  · exact (show Tryz.prog.wantsStandIn 5 = false by kernel_rfl)
theorem card : Rows.PlayStormsCardSaid :=
  Claim7.holds_tied_plain_at .later [] _ _ _ _ said (fun _ h => by cases h) playStorms_wft (fun _ h => by cases h) playStorms_row_tie rfl ⟨rfl, rfl⟩ pf_main rfl plain (goesBy_none tz_go _ rfl)
end Go.Proofs.YtehagnbphamjhaaGreatDoor.PlayStormsProof
namespace Go.Proofs.YtehagnbphamjhaaGreatDoor
theorem playStorms_holds : Rows.PlayStormsCardSaid := PlayStormsProof.card
#print axioms playStorms_holds
end Go.Proofs.YtehagnbphamjhaaGreatDoor


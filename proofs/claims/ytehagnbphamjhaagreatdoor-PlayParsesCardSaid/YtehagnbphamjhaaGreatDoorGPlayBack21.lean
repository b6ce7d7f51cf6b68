/- Parts of the proof: NG NH B1 B3 E1 E2. -/
import Derived.Test.YtehagnbphamjhaaGreatDoorKJ
namespace Go.Proofs.YtehagnbphamjhaaGreatDoor
open Go.RowKit
/-! ### tell, Poll, DeleteFunc of nothing -/
theorem infoEvI : (Tryz.prog.info? 57).map (fun i => (i.zero, i.size, i.bytes)) = some (some (.agg #[.int .i64 0, .int .u64 0, .slice none 0 0, .slice none 0 0, .slice none 0 0, .int .u16 0, .int .u32 0, .int .u64 0, .slice none 0 0]), 9, 128) := by kernel_rfl
theorem els9 {k i f1 f2 q : Int} {a1 a2 a3 a4 : Option Addr} {n1 n2 n3 n4 c1 c2 c3 c4 : Nat} : ∀ u ∈ [Value.int .i64 k, .int .u64 i, .slice a1 n1 c1, .slice a2 n2 c2, .slice a3 n3 c3, .int .u16 f1, .int .u32 f2, .int .u64 q, .slice a4 n4 c4], u.oneCell' = true := fun u hu => by
  simp at hu
  rcases hu with rfl | rfl | rfl | rfl | rfl | rfl | rfl | rfl | rfl <;> rfl
theorem OwnK.lit {w : World} {base : Nat} {e : TypeId} {k : Nat} {v : Value} {xs : List (List Value)} (h : OwnK w base e k v xs) : ∃ a n c, v = .slice a n c := by
  rcases h.row.2 with ⟨rfl, -⟩ | ⟨g, cap, cur, rfl, -⟩
  · exact ⟨_, _, _, rfl⟩
  · exact ⟨_, _, _, rfl⟩
set_option maxRecDepth 100000 in
set_option maxHeartbeats 6400000 in
theorem tell_any (k i f1 f2 q : Int) (a1 a2 a3 a4 : Option Addr) (n1 n2 n3 n4 c1 c2 c3 c4 : Nat) {w : World} {nb base : Nat} {cs : List Value} {v : Value} {xs : List (List Value)} (hB : BoxL w nb 233 cs) (hc : cs[48]? = some v) (hO : OwnK w base 57 9 v xs) (hbase : base ≤ w.heap.size) (hne : v.ownBlock ≠ some nb) (hl : xs.length + 1 ≤ 1000000) :
    Calls Tryz.prog 210 #[.pointer (some ⟨nb, 0, none⟩), .agg #[.int .i64 k, .int .u64 i, .slice a1 n1 c1, .slice a2 n2 c2, .slice a3 n3 c3, .int .u16 f1, .int .u32 f2, .int .u64 q, .slice a4 n4 c4]] w fun e w' => e = .returned (.tuple #[]) ∧ ∃ v', OwnK w' base 57 9 v' (xs ++ [[.int .i64 k, .int .u64 i, .slice a1 n1 c1, .slice a2 n2 c2, .slice a3 n3 c3, .int .u16 f1, .int .u32 f2, .int .u64 q, .slice a4 n4 c4]]) ∧ BoxL w' nb 233 (cs.set 48 v') ∧ Mut (fun g => g = nb ∨ v.ownBlock = some g) w w' ∧ ∀ g, v'.ownBlock = some g → v.ownBlock = some g ∨ w.heap.size ≤ g := by
  obtain ⟨i0, hi, hz0, hz1, hz2⟩ := info_parts infoEvI
  obtain ⟨W1, hW1⟩ : ∃ W1, w.alloc (.cells #[.int .i64 k, .int .u64 i, .slice a1 n1 c1, .slice a2 n2 c2, .slice a3 n3 c3, .int .u16 f1, .int .u32 f2, .int .u64 q, .slice a4 n4 c4] 57) = W1 := ⟨_, rfl⟩
  have hb1 : Below w.heap.size w W1 := by rw [← hW1]; exact (Below.refl _ _).alloc (Nat.le_refl _) _
  have hE : BoxL W1 w.heap.size 57 [.int .i64 k, .int .u64 i, .slice a1 n1 c1, .slice a2 n2 c2, .slice a3 n3 c3, .int .u16 f1, .int .u32 f2, .int .u64 q, .slice a4 n4 c4] := by rw [← hW1]; exact BoxL.made w _ _
  have HN := hid (hB.ext hb1)
  have HO := hid (hO.ext hb1)
  have HB1 := hid hb1
  have HBS : Hid (base ≤ W1.heap.size) := hid (Nat.le_trans hbase hb1.size)
  have HNE := hid hne
  have HL := hid hl
  have HNB : Hid (nb < w.heap.size) := hid hB.lt
  have HOW : Hid (∀ g, v.ownBlock = some g → g < w.heap.size) := hid fun g e => (hO.blk e).2
  obtain ⟨va, vn, vc, hv⟩ := hO.lit
  have HS : Hid (∀ W, Mut (fun g => g = nb ∨ v.ownBlock = some g) W1 W → W.cell? ⟨w.heap.size, 0, none⟩ = some (.int .i64 k) ∧ W.cell? ⟨w.heap.size, 1, none⟩ = some (.int .u64 i) ∧ W.cell? ⟨w.heap.size, 2, none⟩ = some (.slice a1 n1 c1) ∧ W.cell? ⟨w.heap.size, 3, none⟩ = some (.slice a2 n2 c2) ∧ W.cell? ⟨w.heap.size, 4, none⟩ = some (.slice a3 n3 c3) ∧ W.cell? ⟨w.heap.size, 5, none⟩ = some (.int .u16 f1) ∧ W.cell? ⟨w.heap.size, 6, none⟩ = some (.int .u32 f2) ∧ W.cell? ⟨w.heap.size, 7, none⟩ = some (.int .u64 q) ∧ W.cell? ⟨w.heap.size, 8, none⟩ = some (.slice a4 n4 c4)) := hid fun W hm => by
    have h2 := hE.mut hm fun e => e.elim (fun e => by have := HNB.out; omega) fun e => by have := HOW.out _ e; omega
    exact ⟨h2.cell (j := 0) rfl, h2.cell (j := 1) rfl, h2.cell (j := 2) rfl, h2.cell (j := 3) rfl, h2.cell (j := 4) rfl, h2.cell (j := 5) rfl, h2.cell (j := 6) rfl, h2.cell (j := 7) rfl, h2.cell (j := 8) rfl⟩
  have HM0 : Hid (Mut (fun g => g = nb ∨ v.ownBlock = some g) W1 W1.drew) := hid (Mut.of_below (Below.refl _ _).drew)
  have HC := hid hc
  have q0 : W1.drew.cell? ⟨nb, 48, none⟩ = some v := ((hB.ext hb1).ext (Below.refl _ _).drew).cell hc
  clear hB hO hbase hne hl hb1 hE
  subst hv
  go_enter Tryz.func210, Tryz.ntmps210
  go_upto_region 1 with fail
  try rw [hW1]
  clear hW1
  refine wp_region_held_drew (S := fun W => W.cell? ⟨w.heap.size, 0, none⟩ = some (.int .i64 k) ∧ W.cell? ⟨w.heap.size, 1, none⟩ = some (.int .u64 i) ∧ W.cell? ⟨w.heap.size, 2, none⟩ = some (.slice a1 n1 c1) ∧ W.cell? ⟨w.heap.size, 3, none⟩ = some (.slice a2 n2 c2) ∧ W.cell? ⟨w.heap.size, 4, none⟩ = some (.slice a3 n3 c3) ∧ W.cell? ⟨w.heap.size, 5, none⟩ = some (.int .u16 f1) ∧ W.cell? ⟨w.heap.size, 6, none⟩ = some (.int .u32 f2) ∧ W.cell? ⟨w.heap.size, 7, none⟩ = some (.int .u64 q) ∧ W.cell? ⟨w.heap.size, 8, none⟩ = some (.slice a4 n4 c4)) (by kernel_rfl) (HS.out _ HM0.out) (fun hHeld => ?_)
  refine wpAnyH_take (i := 0) (oi := _) (v := .pointer (some ⟨nb, 0, none⟩)) rfl (by kernel_rfl) (by kernel_rfl) (by kernel_rfl) (fun _ _ _ h => h) (Or.inl ⟨by rfl, ?_⟩) (by assumption) ?_
  · intro W hSw
    try dsimp only at hSw
    go_simp
  try simp only [Act.put, List.getElem_toArray, List.getElem_cons_succ, List.getElem_cons_zero, List.setIfInBounds_toArray, List.set_cons_zero, List.set_cons_succ]
  refine wpAnyH_take (i := 1) (oi := _) (v := .pointer (some ⟨nb, 0, none⟩)) rfl (by kernel_rfl) (by kernel_rfl) (by kernel_rfl) (fun _ _ _ h => h) (Or.inl ⟨by rfl, ?_⟩) (by assumption) ?_
  · intro W hSw
    try dsimp only at hSw
    go_simp
  try simp only [Act.put, List.getElem_toArray, List.getElem_cons_succ, List.getElem_cons_zero, List.setIfInBounds_toArray, List.set_cons_zero, List.set_cons_succ]
  refine wpAnyH_take (i := 2) (oi := _) (v := .pointer (some ⟨nb, 0, none⟩)) rfl (by kernel_rfl) (by kernel_rfl) (by kernel_rfl) (fun _ _ _ h => h) (Or.inl ⟨by rfl, ?_⟩) (by assumption) ?_
  · intro W hSw
    try dsimp only at hSw
    go_simp
  try simp only [Act.put, List.getElem_toArray, List.getElem_cons_succ, List.getElem_cons_zero, List.setIfInBounds_toArray, List.set_cons_zero, List.set_cons_succ]
  refine wpAnyH_take (i := 3) (oi := _) (v := .pointer (some ⟨nb, 48, none⟩)) rfl (by kernel_rfl) (by kernel_rfl) (by kernel_rfl) (fun _ _ _ h => h) (Or.inl ⟨by rfl, ?_⟩) (by assumption) ?_
  · intro W hSw
    try dsimp only at hSw
    go_simp
  try simp only [Act.put, List.getElem_toArray, List.getElem_cons_succ, List.getElem_cons_zero, List.setIfInBounds_toArray, List.set_cons_zero, List.set_cons_succ]
  refine wpAnyH_take (i := 5) (oi := _) (v := .agg #[.int .i64 k, .int .u64 i, .slice a1 n1 c1, .slice a2 n2 c2, .slice a3 n3 c3, .int .u16 f1, .int .u32 f2, .int .u64 q, .slice a4 n4 c4]) rfl (by kernel_rfl) (by kernel_rfl) (by kernel_rfl) (fun _ _ _ h => h) (Or.inl ⟨by rfl, ?_⟩) (by assumption) ?_
  · intro W hSw
    try dsimp only at hSw
    go_simp
  try simp only [Act.put, List.getElem_toArray, List.getElem_cons_succ, List.getElem_cons_zero, List.setIfInBounds_toArray, List.set_cons_zero, List.set_cons_succ]
  refine wpAnyH_ready (rs := [4, 6]) (by kernel_rfl) (by simp) ?_
  refine AllReadyH.cons (o := _) rfl (fun K hK => ?_) (AllReadyH.cons (o := _) rfl (fun K hK => ?_) AllReadyH.nil)
  · go_simp
    refine hK.out _ _ (HS.out _ (HM0.out)) (fun hHeld => ?_)
    clear hK K
    try simp only [Act.put, List.getElem_toArray, List.getElem_cons_succ, List.getElem_cons_zero, List.setIfInBounds_toArray, List.set_cons_zero, List.set_cons_succ]
    refine wpAnyH_ready (rs := [6]) (by kernel_rfl) (by simp) ?_
    refine AllReadyH.cons (o := _) rfl (fun K hK => ?_) AllReadyH.nil
    go_simp
    obtain ⟨w7, hw7⟩ : ∃ w7, (W1.alloc (.cells #[.int .i64 k, .int .u64 i, .slice a1 n1 c1, .slice a2 n2 c2, .slice a3 n3 c3, .int .u16 f1, .int .u32 f2, .int .u64 q, .slice a4 n4 c4] 57)).drew = w7 := ⟨_, rfl⟩
    rw [hw7]
    have hb7 : Below W1.heap.size W1 w7 := by rw [← hw7]; exact ((Below.refl _ _).alloc (Nat.le_refl _) _).drew
    have hs7 : W1.heap.size ≤ w7.heap.size := hb7.size
    have HM7 : Hid (Mut (fun g => g = nb ∨ (Value.slice va vn vc).ownBlock = some g) W1 w7) := hid (Mut.of_below hb7)
    have HO7 := hid (HO.out.ext hb7)
    have HN7 := hid (HN.out.ext hb7)
    have HC7 : Hid (∀ j u, ([.int .i64 k, .int .u64 i, .slice a1 n1 c1, .slice a2 n2 c2, .slice a3 n3 c3, .int .u16 f1, .int .u32 f2, .int .u64 q, .slice a4 n4 c4] : List Value)[j]? = some u → w7.cell? ⟨W1.heap.size, j, none⟩ = some u) := hid (by rw [← hw7]; exact fun j u hj => ((BoxL.made W1 57 _).ext (Below.refl _ _).drew).cell hj)
    have q48 : w7.cell? ⟨nb, 48, none⟩ = some (.slice va vn vc) := HN7.out.cell HC.out
    clear hw7 hb7
    refine hK.out _ _ (HS.out _ (HM7.out)) (fun hHeld => ?_)
    clear hK K
    try simp only [Act.put, List.getElem_toArray, List.getElem_cons_succ, List.getElem_cons_zero, List.setIfInBounds_toArray, List.set_cons_zero, List.set_cons_succ]
    refine wpAnyH_ready (rs := [7]) (by kernel_rfl) (by simp) ?_
    refine AllReadyH.cons (o := _) rfl (fun K hK => ?_) AllReadyH.nil
    refine step_appendE (base := base) (b := W1.heap.size) (el := [.int .i64 k, .int .u64 i, .slice a1 n1 c1, .slice a2 n2 c2, .slice a3 n3 c3, .int .u16 f1, .int .u32 f2, .int .u64 q, .slice a4 n4 c4]) (by rfl) Tryz.underlying47 hi hz0 hz1 hz2 rfl (by decide) (by decide) HO7.out rfl els9 HC7.out HL.out (Nat.le_trans HBS.out hs7) rfl rfl rfl ?_
    intro v8 w8 hown8 hm8 hn8
    have hmw8 : Mut (fun g => (Value.slice va vn vc).ownBlock = some g) w7 w8 := hm8
    have HM8 : Hid (Mut (fun g => g = nb ∨ (Value.slice va vn vc).ownBlock = some g) W1 w8) := hid (HM7.out.trans (hmw8.mono fun g _ e => .inr e))
    have HN8 := hid (HN7.out.mut hmw8 HNE.out)
    have fz8 : ∀ j, w8.frozen? ⟨nb, j, none⟩ = false := HN8.out.frozen
    have q8 : w8.cell? ⟨nb, 48, none⟩ = some (.slice va vn vc) := HN8.out.cell HC.out
    obtain ⟨ua, un, uc, hu⟩ := hown8.lit
    subst hu
    have HO8 := hid hown8
    have HG8 : Hid (∀ g, (Value.slice ua un uc).ownBlock = some g → (Value.slice va vn vc).ownBlock = some g ∨ W1.heap.size ≤ g) := hid fun g e => (hn8 g e).imp id fun h => Nat.le_trans hs7 h
    have HM9 : Hid (Mut (fun g => g = nb ∨ (Value.slice va vn vc).ownBlock = some g) W1 (w8.setCell ⟨nb, 48, none⟩ (.slice ua un uc))) := hid (mut_set HM8.out nb 48 _ (.inl rfl))
    clear hown8 hm8 hn8 hmw8
    refine hK.out _ _ (HS.out _ (HM8.out)) (fun hHeld => ?_)
    clear hK K
    try simp only [Act.put, List.getElem_toArray, List.getElem_cons_succ, List.getElem_cons_zero, List.setIfInBounds_toArray, List.set_cons_zero, List.set_cons_succ]
    refine wpAnyH_ready (rs := [8]) (by kernel_rfl) (by simp) ?_
    refine AllReadyH.cons (o := _) rfl (fun K hK => ?_) AllReadyH.nil
    go_simp
    refine hK.out _ _ (HS.out _ (HM8.out)) (fun hHeld => ?_)
    clear hK K
    try simp only [Act.put, List.getElem_toArray, List.getElem_cons_succ, List.getElem_cons_zero, List.setIfInBounds_toArray, List.set_cons_zero, List.set_cons_succ]
    refine wpAnyH_ready (rs := [9]) (by kernel_rfl) (by simp) ?_
    refine AllReadyH.cons (o := _) rfl (fun K hK => ?_) AllReadyH.nil
    go_simp
    refine hK.out _ _ (HS.out _ (HM8.out)) (fun hHeld => ?_)
    clear hK K
    try simp only [Act.put, List.getElem_toArray, List.getElem_cons_succ, List.getElem_cons_zero, List.setIfInBounds_toArray, List.set_cons_zero, List.set_cons_succ]
    refine wpAnyH_ready (rs := [10]) (by kernel_rfl) (by simp) ?_
    refine AllReadyH.cons (o := _) rfl (fun K hK => ?_) AllReadyH.nil
    go_simp
    refine hK.out _ _ (HS.out _ (HM9.out)) (fun hHeld => ?_)
    clear hK K
    try simp only [Act.put, List.getElem_toArray, List.getElem_cons_succ, List.getElem_cons_zero, List.setIfInBounds_toArray, List.set_cons_zero, List.set_cons_succ]
    refine wpAnyH_done (by kernel_rfl) ?_ _
    go_wp2_with fail
    refine bodyPost_end (results_none rfl _ _ _) rfl ⟨rfl, _, ?_, HN8.out.set, (Mut.of_below HB1.out).trans HM9.out, fun g e => (HG8.out g e).imp id fun h => Nat.le_trans HB1.out.size h⟩
    exact HO8.out.mut (mut1 (w := w8) (s := nb) (i := 48)) fun g e1 e2 => (HG8.out g e1).elim (fun e => HNE.out (by rw [e, e2])) fun e => by have := HNB.out; have := HB1.out.size; omega
  · go_simp
    obtain ⟨w7, hw7⟩ : ∃ w7, (W1.alloc (.cells #[.int .i64 k, .int .u64 i, .slice a1 n1 c1, .slice a2 n2 c2, .slice a3 n3 c3, .int .u16 f1, .int .u32 f2, .int .u64 q, .slice a4 n4 c4] 57)).drew = w7 := ⟨_, rfl⟩
    rw [hw7]
    have hb7 : Below W1.heap.size W1 w7 := by rw [← hw7]; exact ((Below.refl _ _).alloc (Nat.le_refl _) _).drew
    have hs7 : W1.heap.size ≤ w7.heap.size := hb7.size
    have HM7 : Hid (Mut (fun g => g = nb ∨ (Value.slice va vn vc).ownBlock = some g) W1 w7) := hid (Mut.of_below hb7)
    have HO7 := hid (HO.out.ext hb7)
    have HN7 := hid (HN.out.ext hb7)
    have HC7 : Hid (∀ j u, ([.int .i64 k, .int .u64 i, .slice a1 n1 c1, .slice a2 n2 c2, .slice a3 n3 c3, .int .u16 f1, .int .u32 f2, .int .u64 q, .slice a4 n4 c4] : List Value)[j]? = some u → w7.cell? ⟨W1.heap.size, j, none⟩ = some u) := hid (by rw [← hw7]; exact fun j u hj => ((BoxL.made W1 57 _).ext (Below.refl _ _).drew).cell hj)
    have q48 : w7.cell? ⟨nb, 48, none⟩ = some (.slice va vn vc) := HN7.out.cell HC.out
    clear hw7 hb7
    refine hK.out _ _ (HS.out _ (HM7.out)) (fun hHeld => ?_)
    clear hK K
    try simp only [Act.put, List.getElem_toArray, List.getElem_cons_succ, List.getElem_cons_zero, List.setIfInBounds_toArray, List.set_cons_zero, List.set_cons_succ]
    refine wpAnyH_ready (rs := [4]) (by kernel_rfl) (by simp) ?_
    refine AllReadyH.cons (o := _) rfl (fun K hK => ?_) AllReadyH.nil
    go_simp
    refine hK.out _ _ (HS.out _ (HM7.out)) (fun hHeld => ?_)
    clear hK K
    try simp only [Act.put, List.getElem_toArray, List.getElem_cons_succ, List.getElem_cons_zero, List.setIfInBounds_toArray, List.set_cons_zero, List.set_cons_succ]
    refine wpAnyH_ready (rs := [7]) (by kernel_rfl) (by simp) ?_
    refine AllReadyH.cons (o := _) rfl (fun K hK => ?_) AllReadyH.nil
    refine step_appendE (base := base) (b := W1.heap.size) (el := [.int .i64 k, .int .u64 i, .slice a1 n1 c1, .slice a2 n2 c2, .slice a3 n3 c3, .int .u16 f1, .int .u32 f2, .int .u64 q, .slice a4 n4 c4]) (by rfl) Tryz.underlying47 hi hz0 hz1 hz2 rfl (by decide) (by decide) HO7.out rfl els9 HC7.out HL.out (Nat.le_trans HBS.out hs7) rfl rfl rfl ?_
    intro v8 w8 hown8 hm8 hn8
    have hmw8 : Mut (fun g => (Value.slice va vn vc).ownBlock = some g) w7 w8 := hm8
    have HM8 : Hid (Mut (fun g => g = nb ∨ (Value.slice va vn vc).ownBlock = some g) W1 w8) := hid (HM7.out.trans (hmw8.mono fun g _ e => .inr e))
    have HN8 := hid (HN7.out.mut hmw8 HNE.out)
    have fz8 : ∀ j, w8.frozen? ⟨nb, j, none⟩ = false := HN8.out.frozen
    have q8 : w8.cell? ⟨nb, 48, none⟩ = some (.slice va vn vc) := HN8.out.cell HC.out
    obtain ⟨ua, un, uc, hu⟩ := hown8.lit
    subst hu
    have HO8 := hid hown8
    have HG8 : Hid (∀ g, (Value.slice ua un uc).ownBlock = some g → (Value.slice va vn vc).ownBlock = some g ∨ W1.heap.size ≤ g) := hid fun g e => (hn8 g e).imp id fun h => Nat.le_trans hs7 h
    have HM9 : Hid (Mut (fun g => g = nb ∨ (Value.slice va vn vc).ownBlock = some g) W1 (w8.setCell ⟨nb, 48, none⟩ (.slice ua un uc))) := hid (mut_set HM8.out nb 48 _ (.inl rfl))
    clear hown8 hm8 hn8 hmw8
    refine hK.out _ _ (HS.out _ (HM8.out)) (fun hHeld => ?_)
    clear hK K
    try simp only [Act.put, List.getElem_toArray, List.getElem_cons_succ, List.getElem_cons_zero, List.setIfInBounds_toArray, List.set_cons_zero, List.set_cons_succ]
    refine wpAnyH_ready (rs := [8]) (by kernel_rfl) (by simp) ?_
    refine AllReadyH.cons (o := _) rfl (fun K hK => ?_) AllReadyH.nil
    go_simp
    refine hK.out _ _ (HS.out _ (HM8.out)) (fun hHeld => ?_)
    clear hK K
    try simp only [Act.put, List.getElem_toArray, List.getElem_cons_succ, List.getElem_cons_zero, List.setIfInBounds_toArray, List.set_cons_zero, List.set_cons_succ]
    refine wpAnyH_ready (rs := [9]) (by kernel_rfl) (by simp) ?_
    refine AllReadyH.cons (o := _) rfl (fun K hK => ?_) AllReadyH.nil
    go_simp
    refine hK.out _ _ (HS.out _ (HM8.out)) (fun hHeld => ?_)
    clear hK K
    try simp only [Act.put, List.getElem_toArray, List.getElem_cons_succ, List.getElem_cons_zero, List.setIfInBounds_toArray, List.set_cons_zero, List.set_cons_succ]
    refine wpAnyH_ready (rs := [10]) (by kernel_rfl) (by simp) ?_
    refine AllReadyH.cons (o := _) rfl (fun K hK => ?_) AllReadyH.nil
    go_simp
    refine hK.out _ _ (HS.out _ (HM9.out)) (fun hHeld => ?_)
    clear hK K
    try simp only [Act.put, List.getElem_toArray, List.getElem_cons_succ, List.getElem_cons_zero, List.setIfInBounds_toArray, List.set_cons_zero, List.set_cons_succ]
    refine wpAnyH_done (by kernel_rfl) ?_ _
    go_wp2_with fail
    refine bodyPost_end (results_none rfl _ _ _) rfl ⟨rfl, _, ?_, HN8.out.set, (Mut.of_below HB1.out).trans HM9.out, fun g e => (HG8.out g e).imp id fun h => Nat.le_trans HB1.out.size h⟩
    exact HO8.out.mut (mut1 (w := w8) (s := nb) (i := 48)) fun g e1 e2 => (HG8.out g e1).elim (fun e => HNE.out (by rw [e, e2])) fun e => by have := HNB.out; have := HB1.out.size; omega
theorem poll_any {w : World} {nb : Nat} {cs : List Value} {a : Option Addr} {n c : Nat} (hB : BoxL w nb 233 cs) (hc : cs[48]? = some (.slice a n c)) :
    Calls Tryz.prog 149 #[.pointer (some ⟨nb, 0, none⟩)] w fun e w' => e = .returned (.slice a n c) ∧ Mut (fun k => k = nb) w w' ∧ BoxL w' nb 233 (cs.set 48 (.slice none 0 0)) := by
  have c48 := hB.cell hc
  have fz := hB.frozen
  have HB := hid hB
  clear hB hc
  go_enter Tryz.func149, Tryz.ntmps149
  go_wp2
  go_ret
  exact ⟨rfl, mut1, HB.out.set⟩
theorem indexFuncNil_any (fv : Value) (w : World) : Calls Tryz.prog 247 #[.slice none 0 0, fv] w fun e w' => e = .returned (.int .i64 (-1)) ∧ w' = w := by
  go_enter Tryz.func247, Tryz.ntmps247
  go_wp2
  go_loopw [8] (fun i wr => i = .int .i64 0 ∧ wr = w) (fun _ _ => 0)
  case atStart => exact ⟨rfl, rfl⟩
  case round =>
    obtain ⟨rfl, rfl⟩ := hrel
    go_wp2
    go_ret
    exact ⟨rfl, rfl⟩
theorem deleteFuncNil_any (fv : Value) (w : World) : Calls Tryz.prog 207 #[.slice none 0 0, fv] w fun e w' => e = .returned (.slice none 0 0) ∧ w' = w := by
  go_enter Tryz.func207, Tryz.ntmps207
  go_wp2_with (go_at_call 247; refine (indexFuncNil_any fv _).mono ?_; rintro e w2 ⟨rfl, rfl⟩)
  go_ret
  exact ⟨rfl, rfl⟩
end Go.Proofs.YtehagnbphamjhaaGreatDoor

namespace Go.Proofs.YtehagnbphamjhaaGreatDoor
open Go.RowKit
/-! ### Out of a process that has nothing to send -/
set_option maxRecDepth 100000 in
set_option maxHeartbeats 3200000 in
theorem houtNil_any {w : World} {N : Nat → Prop} {h r : Nat} {sf : Pid} (H : HubIs w N h r sf []) :
    Calls Tryz.prog 216 #[.pointer (some ⟨h, 0, none⟩)] w fun e w' => e = .returned (.slice none 0 0) ∧ Below w.heap.size w w' := by
  have CP := hpeers_any H
  have e0 : peersR (hubD []) = [] := List.eq_nil_of_length_eq_zero (by unfold peersR; rw [sortL_length]; rfl)
  rw [e0] at CP
  have CP := hid CP
  clear H
  go_enter Tryz.func216, Tryz.ntmps216
  go_wp2_with fail
  refine CP.out.mono ?_
  rintro e w1 ⟨pv, rfl, hpo, hb1⟩
  obtain ⟨pa, pc, rfl, -, -⟩ := hpo.row
  have HB1 := hid hb1
  clear hpo hb1 CP
  simp only [List.length_nil]
  go_wp2_with fail
  go_loopw [3, 12] (fun v i wr => v = .slice none 0 0 ∧ i = .int .i64 0 ∧ wr = w1) (fun _ _ _ => 0)
  case atStart => exact ⟨rfl, rfl, rfl⟩
  case round =>
    obtain ⟨rfl, rfl, rfl⟩ := hrel
    go_wp2
    go_ret
    exact ⟨rfl, HB1.out⟩
theorem run_append00 {T E : TypeId} {i0 : TypeInfo} (ht : Tryz.prog.underlying T = some (.slice E)) (hi : Tryz.prog.info? E = some i0) (ty : TypeId) (a : Option Addr) (c : Nat) (w : World) :
    (Builtin.append_ #[T, T] ty #[.slice none 0 0, .slice a 0 c]).run Tryz.prog w = .ok (.slice none 0 0) w := by
  cases a <;> simp [Builtin.append_, run_underlying ht, sizeOf, typeInfo, hi, Builtin.lenOf, Builtin.firstCells, loadCells, loadCellsFrom]
theorem growPk0_any (w : World) : Calls Tryz.prog 272 #[.slice none 0 0, .int .i64 0] w fun e w' => e = .returned (.slice none 0 0) ∧ w' = w := by
  go_enter Tryz.func272, Tryz.ntmps272
  go_wp2
  go_ret
  exact ⟨rfl, rfl⟩
theorem infoPk3 : (Tryz.prog.info? 332).map (fun i => (i.zero, i.size, i.bytes)) = some (some (.agg #[.int .i64 0, .int .u16 0, .int .u32 0, .int .u16 0, .int .u32 0, .int .u64 0, .slice none 0 0]), 7, 56) := by kernel_rfl
set_option maxRecDepth 100000 in
set_option maxHeartbeats 3200000 in
theorem concatPk0_any {w : World} {b : Nat} (h0 : w.cell? ⟨b, 0, none⟩ = some (.slice none 0 0)) (h1 : w.cell? ⟨b, 1, none⟩ = some (.slice none 0 0)) :
    Calls Tryz.prog 215 #[.slice (some ⟨b, 0, none⟩) 2 2] w fun e w' => e = .returned (.slice none 0 0) ∧ w' = w := by
  obtain ⟨i0, hi, -, -, -⟩ := info_parts infoPk3
  have HA := fun ty => run_append00 Tryz.underlying231 hi ty none 0 w
  go_enter Tryz.func215, Tryz.ntmps215
  go_wp2
  go_loopw [3, 11] (fun n i wr => n = .int .i64 0 ∧ (i = .int .i64 0 ∨ i = .int .i64 1 ∨ i = .int .i64 2) ∧ wr = w) (fun _ i _ => 2 - (intOf i).toNat)
  case atStart => exact ⟨rfl, .inl rfl, rfl⟩
  case round =>
    obtain ⟨rfl, hi3, rfl⟩ := hrel
    rcases hi3 with rfl | rfl | rfl
    · go_wp2
      go_roundw
      case rel => simp
      case measure => simp [intOf]
    · go_wp2
      go_roundw
      case rel => simp
      case measure => simp [intOf]
    · go_wp2_with (go_at_call 272; refine (growPk0_any _).mono ?_; rintro e w2 ⟨rfl, rfl⟩)
      go_loopw [6, 27] (fun v i wr => v = .slice none 0 0 ∧ (i = .int .i64 0 ∨ i = .int .i64 1 ∨ i = .int .i64 2) ∧ wr = w2) (fun _ i _ => 2 - (intOf i).toNat)
      case atStart => exact ⟨rfl, .inl rfl, rfl⟩
      case round =>
        obtain ⟨rfl, hi3, rfl⟩ := hrel
        rcases hi3 with rfl | rfl | rfl
        · go_wp2_with (at_builtin; refine Lib.wpList_append_run _ rfl _ _ _ _ rfl _ _ rfl rfl _ _ (HA _) ?_)
          go_roundw
          case rel => simp
          case measure => simp [intOf]
        · go_wp2_with (at_builtin; refine Lib.wpList_append_run _ rfl _ _ _ _ rfl _ _ rfl rfl _ _ (HA _) ?_)
          go_roundw
          case rel => simp
          case measure => simp [intOf]
        · go_wp2
          go_ret
          exact ⟨rfl, rfl⟩
set_option maxRecDepth 100000 in
set_option maxHeartbeats 6400000 in
theorem outNil_any {w : World} {N : Nat → Prop} {nb h r : Nat} {sf : Pid} {cs : List Value} (hB : BoxL w nb 233 cs) (h8 : cs[8]? = some (.pointer (some ⟨h, 0, none⟩))) (h47 : cs[47]? = some (.slice none 0 0)) (H : HubIs w N h r sf []) :
    Calls Tryz.prog 150 #[.pointer (some ⟨nb, 0, none⟩)] w fun e w' => e = .returned (.slice none 0 0) ∧ Mut (fun k => k = nb) w w' ∧ BoxL w' nb 233 (cs.set 47 (.slice none 0 0)) := by
  have c8 := hB.cell h8
  have c47 := hB.cell h47
  have hb0 : Below w.heap.size w w := Below.refl _ _
  have HS : Hid (∀ W, Below w.heap.size w W → Below w.heap.size w W ∧ W.cell? ⟨nb, 8, none⟩ = some (.pointer (some ⟨h, 0, none⟩)) ∧ W.cell? ⟨nb, 47, none⟩ = some (.slice none 0 0)) := hid fun W hb => ⟨hb, cell_toB c8 hb, cell_toB c47 hb⟩
  have CO : Hid (∀ W, Below w.heap.size w W → Calls Tryz.prog 216 #[.pointer (some ⟨h, 0, none⟩)] W fun e w' => e = .returned (.slice none 0 0) ∧ Below w.heap.size w w') := hid fun W hb => (houtNil_any (H.ext hb)).mono fun e w' ⟨h1, h2⟩ => ⟨h1, hb.trans (h2.mono hb.size)⟩
  have HB := hid hB
  have HC47 := hid h47
  have H0 : Below w.heap.size w w.drew := (Below.refl _ _).drew
  clear hB h8 h47 H c8 c47
  go_enter Tryz.func150, Tryz.ntmps150
  go_upto_region 4 with fail
  go_region_held3 (fun W => Below w.heap.size w W ∧ W.cell? ⟨nb, 8, none⟩ = some (.pointer (some ⟨h, 0, none⟩)) ∧ W.cell? ⟨nb, 47, none⟩ = some (.slice none 0 0)) (exact HS.out _ (by repeat (first | assumption | exact H0 | exact Below.refl _ _ | refine below_allocS ?_ _ | refine Below.drew ?_))) (first
    | (go_at_call 216; refine (CO.out _ (by repeat (first | assumption | exact H0 | exact Below.refl _ _ | refine below_allocS ?_ _ | refine Below.drew ?_))).mono ?_; rintro e w6 ⟨rfl, hb6⟩)
    | (go_at_call 215; refine (concatPk0_any (by simp) (by simp)).mono ?_; rintro e w7 ⟨rfl, rfl⟩))
  have B6 : Hid (Below w.heap.size w w6) := hid hb6
  have HB6 := hid (HB.out.ext (below_allocS hb6 (.cells #[.slice none 0 0, .slice none 0 0] 231)))
  have c47 := HB6.out.cell (HC47.out)
  have fz := HB6.out.frozen
  go_wp2_with fail
  go_loopw [3, 22] (fun v i wr => v = .slice none 0 0 ∧ i = .int .i64 0 ∧ wr = w6.alloc (.cells #[.slice none 0 0, .slice none 0 0] 231)) (fun _ _ _ => 0)
  case atStart => exact ⟨rfl, rfl, rfl⟩
  case round =>
    obtain ⟨rfl, rfl, rfl⟩ := hrel
    go_wp2
    go_ret
    exact ⟨rfl, mut_set (Mut.of_below (below_allocS B6.out _)) nb 47 _ rfl, HB6.out.set⟩
end Go.Proofs.YtehagnbphamjhaaGreatDoor

namespace Go.Proofs.YtehagnbphamjhaaGreatDoor
open Go.RowKit
def minusP (xs ys : List Pid) : List Pid := xs.filter fun p => !decide (p ∈ ys)
def commonP (xs ys : List Pid) : List Pid := xs.filter fun p => decide (p ∈ ys)
theorem filter_drop {xs : List Pid} {k : Nat} (h : k < xs.length) {x y : Int} (hx : (x, y) = xs[k]) (f : Pid → Bool) : (xs.drop k).filter f = if f (x, y) = true then (x, y) :: (xs.drop (k + 1)).filter f else (xs.drop (k + 1)).filter f := by
  rw [List.drop_eq_getElem_cons h, ← hx, List.filter_cons]
set_option maxRecDepth 100000 in
set_option maxHeartbeats 1600000 in
theorem minus_any (a : Option Addr) (c : Nat) (xs : List Pid) (b : Option Addr) (d : Nat) (ys : List Pid) (w : World) (hn : xs.length ≤ 549755813888) (hm : ys.length ≤ 549755813888) (hx : PidRow w a xs) (hy : PidRow w b ys) :
   Calls Tryz.prog 212 #[.slice a xs.length c, .slice b ys.length d] w fun e w' => ∃ v, e = .returned v ∧ OwnP w' w.heap.size v (minusP xs ys) ∧ Below w.heap.size w w' := by
  go_enter Tryz.func212, Tryz.ntmps212
  go_wp2_with (go_at_call 142; refine (new_any _ _ ys _ (by omega) hy).mono ?_; rintro e w1 ⟨s, r, rfl, hs, hr, hS, hb1⟩)
  have hx1 := hx.ext hb1
  go_loopw [6, 13] (fun v i wr => ∃ (k : Nat) (got : List Pid), k ≤ xs.length ∧ i = .int .i64 k ∧ got.length ≤ k ∧ Hid (minusP xs ys = got ++ minusP (xs.drop k) ys) ∧ OwnP wr w1.heap.size v got ∧ Below w1.heap.size w1 wr) (fun _ i _ => xs.length - (intOf i).toNat)
  case atStart => exact ⟨0, [], Nat.zero_le _, rfl, Nat.le_refl _, rfl, OwnP.nil _ _, Below.refl _ _⟩
  case round =>
    obtain ⟨k, got, hk, rfl, hg, hM, hown, hb⟩ := hrel
    have hs0 := hb.size
    have hSr := hS.ext hb
    by_cases hlt : k < xs.length
    · obtain ⟨pb, po, x, y, rfl, hpx, d1, d2⟩ := hx1.at hb rfl hlt
      have hfd := filter_drop hlt hpx (fun p => !decide (p ∈ ys))
      have hB1 : Below w1.heap.size w1 (wr.alloc (.cells #[.int .u16 x, .int .u32 y] 46)) := hb.alloc hb.size _
      have hS1 := hSr.alloc (.cells #[.int .u16 x, .int .u32 y] 46)
      have hmem : (look (x, y) (unionL [] ys)).isSome = decide ((x, y) ∈ ys) := by rw [Bool.eq_iff_iff, isSome_union]; simp
      cases hin : decide ((x, y) ∈ ys)
      · rw [hin] at hmem hfd
        have HMEM := hid hmem
        have HFD := hid hfd
        clear hmem hfd hin hpx hx hx1
        go_wp2_with (first
          | (go_at_call 266; refine (has_any _ _ _ _ _ _ _ hS1 HMEM).mono ?_; rintro e w3 ⟨rfl, hb3⟩; have p0 := cell_to (show (wr.alloc (.cells #[.int .u16 x, .int .u32 y] 46)).cell? ⟨wr.heap.size, 0, none⟩ = some (.int .u16 x) by simp) hb3; have p1 := cell_to (show (wr.alloc (.cells #[.int .u16 x, .int .u32 y] 46)).cell? ⟨wr.heap.size, 1, none⟩ = some (.int .u32 y) by simp) hb3)
          | (at_builtin; refine wpList_appendP (((hown.alloc _).ext hb3).alloc _) (PidRow.one _ x y) ?cb ?cz rfl rfl rfl rfl ?_; rotate_right; intro v4 w4 hown4 hg4 hnil4))
        case cb => simp; omega
        case cz => have := hb3.size; simp at this; simp; omega
        have hz3 := hb3.size
        simp at hz3
        have hB3 := hB1.trans (hb3.mono hB1.size)
        have hB4 : Below w1.heap.size w1 w4 := (hB3.alloc hB3.size _).grown hg4 (by simp; omega) (fun g hg => (World.ownsRow.lt hown g hg).1)
        go_roundw
        case rel => exact ⟨k + 1, got ++ [(x, y)], by omega, by go_num, by simp; omega, hid (hM.out.trans (by unfold minusP; rw [HFD.out]; simp)), hown4, hB4⟩
        case measure => simp [intOf]; omega
      · rw [hin] at hmem hfd
        have HMEM := hid hmem
        have HFD := hid hfd
        clear hmem hfd hin hpx hx hx1
        go_wp2_with (go_at_call 266; refine (has_any _ _ _ _ _ _ _ hS1 HMEM).mono ?_; rintro e w3 ⟨rfl, hb3⟩)
        go_roundw
        case rel => exact ⟨k + 1, got, by omega, by go_num, by omega, hid (hM.out.trans (by unfold minusP; rw [HFD.out]; simp)), (hown.alloc _).ext hb3, hB1.trans (hb3.mono hB1.size)⟩
        case measure => simp [intOf]; omega
    · have hend : Hid (minusP xs ys = got) := by
        have := hM.out
        rw [List.drop_eq_nil_of_le (by omega)] at this
        rw [Hid, this]; simp [minusP]
      go_wp2
      go_ret
      exact ⟨_, rfl, by rw [hend.out]; exact hown.mono hb1.size, hb1.trans (hb.mono hb1.size)⟩
theorem minus_minus (xs ys : List Pid) : minusP xs (minusP xs ys) = commonP xs ys := by
  unfold minusP commonP
  apply List.filter_congr
  intro p hp
  simp [hp]
set_option maxRecDepth 100000 in
set_option maxHeartbeats 1600000 in
theorem common_any (a : Option Addr) (c : Nat) (xs : List Pid) (b : Option Addr) (d : Nat) (ys : List Pid) (w : World) (hn : xs.length ≤ 549755813888) (hm : ys.length ≤ 549755813888) (hx : PidRow w a xs) (hy : PidRow w b ys) :
   Calls Tryz.prog 251 #[.slice a xs.length c, .slice b ys.length d] w fun e w' => ∃ v, e = .returned v ∧ OwnP w' w.heap.size v (commonP xs ys) ∧ Below w.heap.size w w' := by
  have hl : (minusP xs ys).length ≤ 549755813888 := Nat.le_trans (List.length_filter_le _ _) hn
  have hmm := minus_minus xs ys
  have HMM := hid hmm
  clear hmm
  go_enter Tryz.func251, Tryz.ntmps251
  go_wp2_with fail
  refine (minus_any _ _ xs _ _ ys _ hn hm hx hy).mono ?_
  rintro e w1 ⟨v1, rfl, hown1, hb1⟩
  obtain ⟨a1, c1, rfl, hrow1, -⟩ := hown1.row
  go_wp2_with fail
  refine (minus_any _ _ xs _ _ (minusP xs ys) _ hn hl (hx.ext hb1) hrow1).mono ?_
  rintro e w2 ⟨v2, rfl, hown2, hb2⟩
  go_wp2
  go_ret
  exact ⟨_, rfl, by rw [← HMM.out]; exact hown2.mono hb1.size, hb1.trans (hb2.mono hb1.size)⟩

end Go.Proofs.YtehagnbphamjhaaGreatDoor

namespace Go.Proofs.YtehagnbphamjhaaGreatDoor
open Go.RowKit
theorem del_filter {x : Pid} : ∀ {L : List (Pid × Unit)}, (keys L).Nodup → del x L = L.filter fun q => !decide (q.1 = x)
  | [], _ => rfl
  | p :: l, h => by
    obtain ⟨h1, h2⟩ := List.nodup_cons.1 h
    by_cases hx : x = p.1
    · have hall : l.filter (fun q => !decide (q.1 = x)) = l := List.filter_eq_self.2 fun q hq => by
        have : q.1 ≠ x := fun e => h1 (by show p.1 ∈ _; rw [← hx, ← e]; exact List.mem_map_of_mem (f := fun x : Pid × Unit => x.1) hq)
        simp [this]
      simp only [del, if_pos hx, List.filter_cons]
      rw [if_neg (by simp [hx]), hall]
    · simp only [del, if_neg hx, List.filter_cons]
      rw [if_pos (by simp [Ne.symm hx]), del_filter h2]

set_option maxRecDepth 100000 in
set_option maxHeartbeats 800000 in
theorem drop_is (s r : Nat) (L : List (Pid × Unit)) (x y : Int) {bs : Bool} (hl : (look (x, y) L).isSome = bs) (w : World) (hS : SetIs w s r L) :
   Calls Tryz.prog 267 #[.pointer (some ⟨s, 0, none⟩), .agg #[.int .u16 x, .int .u32 y]] w fun e w' => e = .returned (.bool bs) ∧ SetIs w' s r (del (x, y) L) ∧ Mut (fun k => k = r) w w' := by
  have hS1 := hS.alloc (.cells #[.int .u16 x, .int .u32 y] 46)
  have hB1 : Below w.heap.size w (w.alloc (.cells #[.int .u16 x, .int .u32 y] 46)) := (Below.refl _ _).alloc (Nat.le_refl _) _
  have hsr : s ≠ r := fun e => by
    have h1 := hS.box
    obtain ⟨es, cl, h2, _⟩ := hS.map
    subst e
    simp [World.cell?, h2] at h1
  have hrl := hS.map.lt
  have HS := hid hl
  cases bs with
  | false =>
    have hd : del (x, y) L = L := by
      cases hq : lookI (x, y) L 0 with
      | none => exact del_none hq
      | some q => have := lookI_look (x, y) L 0; rw [hq] at this; rw [← this] at hl; simp at hl
    have HD := hid hd
    clear hl hd
    go_enter Tryz.func267, Tryz.ntmps267
    go_wp2_with (go_at_call 266; refine (has_any _ _ _ _ _ _ _ hS1 HS).mono ?_; rintro e w3 ⟨rfl, hb3⟩)
    go_ret
    exact ⟨rfl, by rw [HD.out]; exact hS1.ext hb3, Mut.of_below (hB1.trans (hb3.mono hB1.size))⟩
  | true =>
    clear hl
    go_enter Tryz.func267, Tryz.ntmps267
    go_wp2_with (go_at_call 266; refine (has_any _ _ _ _ _ _ _ hS1 HS).mono ?_; rintro e w3 ⟨rfl, hb3⟩)
    have hS3 := (hS1.ext hb3).drew
    obtain ⟨w2, hrun, hM2, hbut⟩ := hS3.map.delete keyPid Tryz.underlying262 (x, y)
    have hs3 := hb3.size
    simp at hs3
    have b0 : (w.alloc (.cells #[.int .u16 x, .int .u32 y] 46)).cell? ⟨w.heap.size, 0, none⟩ = some (.int .u16 x) := by simp
    have b1 : (w.alloc (.cells #[.int .u16 x, .int .u32 y] 46)).cell? ⟨w.heap.size, 1, none⟩ = some (.int .u32 y) := by simp
    have e0 : w3.drew.cell? ⟨w.heap.size, 0, none⟩ = some (.int .u16 x) := cell_to b0 hb3.drew
    have e1 : w3.drew.cell? ⟨w.heap.size, 1, none⟩ = some (.int .u32 y) := cell_to b1 hb3.drew
    clear b0 b1
    have e2 := hS3.box
    have k0 := (hbut.cell (p := ⟨w.heap.size, 0, none⟩) (by simp; omega)).trans e0
    have k1 := (hbut.cell (p := ⟨w.heap.size, 1, none⟩) (by simp; omega)).trans e1
    have k2 := (hbut.cell (p := ⟨s, 0, none⟩) (by exact hsr)).trans e2
    go_region_held3 (fun W => W.cell? ⟨s, 0, none⟩ = some (.map (some r)) ∧ W.cell? ⟨w.heap.size, 0, none⟩ = some (.int .u16 x) ∧ W.cell? ⟨w.heap.size, 1, none⟩ = some (.int .u32 y)) (first | exact ⟨e2, e0, e1⟩ | exact ⟨k2, k0, k1⟩) (fail)
    go_wp2
    go_ret
    exact ⟨rfl, ⟨k2, hM2⟩, (Mut.of_below (hB1.trans (hb3.mono hB1.size)).drew).trans (Mut.of_but hbut rfl)⟩
theorem SetIs.mut {F : Nat → Prop} {w w' : World} {s r : Nat} {L : List (Pid × Unit)} (h : SetIs w s r L) (hm : Mut F w w') (hs : ¬ F s) (hr : ¬ F r) : SetIs w' s r L :=
  ⟨(hm.cell (by exact h.lt) (by exact hs)).trans h.box, h.map.same (hm.block r h.map.lt hr)⟩

/-- what Keep leaves, the list having been gone through so far that 'todo' is left -/
def keepMid (L : List (Pid × Unit)) (xs todo : List Pid) : List (Pid × Unit) := L.filter fun q => decide (q.1 ∈ xs) || decide (q.1 ∈ todo)
def keepL (L : List (Pid × Unit)) (xs : List Pid) : List (Pid × Unit) := L.filter fun q => decide (q.1 ∈ xs)
theorem keepMid_all {L : List (Pid × Unit)} {xs l : List Pid} (h : ∀ p ∈ keys L, p ∈ l) : keepMid L xs l = L :=
  List.filter_eq_self.2 fun q hq => by simp [h q.1 (List.mem_map_of_mem (f := fun x : Pid × Unit => x.1) hq)]
theorem keepMid_nil (L : List (Pid × Unit)) (xs : List Pid) : keepMid L xs [] = keepL L xs := by unfold keepMid keepL; simp
theorem keepMid_in {L : List (Pid × Unit)} {xs t : List Pid} {p : Pid} (h : p ∈ xs) : keepMid L xs (p :: t) = keepMid L xs t := by
  unfold keepMid
  apply List.filter_congr
  intro q _
  by_cases hq : q.1 = p
  · simp [hq, h]
  · simp [hq]
theorem keepMid_nodup {L : List (Pid × Unit)} {xs t : List Pid} (h : (keys L).Nodup) : (keys (keepMid L xs t)).Nodup := h.sublist (List.Sublist.map _ List.filter_sublist)
theorem keepMid_out {L : List (Pid × Unit)} {xs t : List Pid} {p : Pid} (hn : (keys L).Nodup) (h : p ∉ xs) (ht : p ∉ t) : del p (keepMid L xs (p :: t)) = keepMid L xs t := by
  rw [del_filter (keepMid_nodup hn)]
  unfold keepMid
  rw [List.filter_filter]
  apply List.filter_congr
  intro q _
  by_cases hq : q.1 = p
  · simp [hq, h, ht]
  · simp [hq]
theorem keepMid_len {L : List (Pid × Unit)} {xs t : List Pid} {p : Pid} (hn : (keys L).Nodup) (h : p ∉ xs) (ht : p ∉ t) (hp : p ∈ keys L) : (keepMid L xs (p :: t)).length = (keepMid L xs t).length + 1 := by
  have hin : p ∈ keys (keepMid L xs (p :: t)) := by
    obtain ⟨q, hq, rfl⟩ := List.mem_map.1 hp
    exact List.mem_map.2 ⟨q, List.mem_filter.2 ⟨hq, by simp⟩, rfl⟩
  have hq : (look p (keepMid L xs (p :: t))).isSome = true := by rw [look_isSome]; exact hin
  rw [← keepMid_out hn h ht]
  cases hl : lookI p (keepMid L xs (p :: t)) 0 with
  | none => have := lookI_look p (keepMid L xs (p :: t)) 0; rw [hl] at this; rw [← this] at hq; simp at hq
  | some v =>
    obtain ⟨j, u⟩ := v
    have h1 := (lookI_some hl).2.1
    rw [del_eq hl, List.length_eraseIdx_of_lt h1]
    omega

set_option maxRecDepth 100000 in
set_option maxHeartbeats 1600000 in
theorem keep_any (s r : Nat) (L : List (Pid × Unit)) (a : Option Addr) (c : Nat) (xs : List Pid) (w : World) (hS : SetIs w s r L) (hnd : (keys L).Nodup) (hok : ∀ p ∈ keys L, ok p) (hn : L.length ≤ 549755813888) (hm : xs.length ≤ 549755813888) (hrow : PidRow w a xs) :
   Calls Tryz.prog 209 #[.pointer (some ⟨s, 0, none⟩), .slice a xs.length c] w fun e w' => e = .returned (.int .i64 ((L.length : Int) - (keepL L xs).length)) ∧ SetIs w' s r (keepL L xs) ∧ Mut (fun k => k = r) w w' := by
  have hsl := hS.lt
  have hrl := hS.map.lt
  have hlk : (keys L).length = L.length := by simp [keys]
  obtain ⟨l0, hl0⟩ : ∃ l, sortL (keys L) = l := ⟨_, rfl⟩
  have hl0n : l0.Nodup := by rw [← hl0]; exact (sortL_perm_self _).symm.nodup hnd
  have hl0m : ∀ p, p ∈ l0 ↔ p ∈ keys L := fun p => by rw [← hl0]; exact mem_sortL
  have hl0l : l0.length = L.length := by rw [← hl0, sortL_length, hlk]
  have hl0b : l0.length ≤ 549755813888 := by omega
  have HL0 := hid hl0
  have HND := hid hnd
  have HOK := hid hok
  have HLN := hid hl0n
  have HLM := hid hl0m
  have HLL := hid hl0l
  clear hl0 hnd hok hl0n hl0m hl0l hlk
  go_enter Tryz.func209, Tryz.ntmps209
  go_wp2_with (first
    | (go_at_call 142; refine (new_any _ _ xs _ (by omega) hrow).mono ?_; rintro e w1 ⟨s2, r2, rfl, hs2, hr2, hS2, hb1⟩)
    | (go_at_call 260; refine (list_any _ _ _ _ (hS.ext hb1) HND.out HOK.out hn).mono ?_; rintro e w2 ⟨v, rfl, hown, hb2⟩; rw [HL0.out] at hown; obtain ⟨la, lc, rfl, hlrow, hlb⟩ := hown.row))
  have hS2' := (hS.ext hb1).ext hb2
  have hT2' := hS2.ext hb2
  have hz1 := hb1.size
  have hz2 := hb2.size
  have hB2 : Below w.heap.size w w2 := hb1.trans (hb2.mono hz1)
  have hs2l := hT2'.lt
  have hr2l := hT2'.map.lt
  go_loopw [6, 14] (fun n i wr => ∃ (k m : Nat), k ≤ l0.length ∧ i = .int .i64 k ∧ n = .int .i64 m ∧ m ≤ k ∧ Hid ((keepMid L xs (l0.drop k)).length + m = L.length) ∧ SetIs wr s r (keepMid L xs (l0.drop k)) ∧ Mut (fun k => k = r) w2 wr) (fun _ i _ => l0.length - (intOf i).toNat)
  case atStart => exact ⟨0, 0, Nat.zero_le _, rfl, rfl, Nat.le_refl _, hid (by rw [List.drop_zero, keepMid_all (fun p hp => (HLM.out p).2 hp)]; omega), by rw [List.drop_zero, keepMid_all (fun p hp => (HLM.out p).2 hp)]; exact hS2', Mut.refl _ _⟩
  case round =>
    obtain ⟨k, m, hk, rfl, rfl, hmk, hM, hSk, hmut⟩ := hrel
    have hz := hmut.size
    have hTr := hT2'.mut hmut (by omega) (by omega)
    by_cases hlt : k < l0.length
    · have hlrow' := hlrow.mut hmut (fun b off ha _ => by have := hlb b off ha; omega)
      obtain ⟨pb, po, x, y, rfl, hpx, d1, d2⟩ := hlrow'.at (Below.refl _ _) rfl hlt
      have hdk : l0.drop k = (x, y) :: l0.drop (k + 1) := by rw [List.drop_eq_getElem_cons hlt, ← hpx]
      have hnt : (x, y) ∉ l0.drop (k + 1) := by
        have := HLN.out.sublist (List.drop_sublist k l0)
        rw [hdk] at this
        exact (List.nodup_cons.1 this).1
      have hinL : (x, y) ∈ keys L := (HLM.out _).1 (by rw [hpx]; exact List.getElem_mem _)
      have hmem : (look (x, y) (unionL [] xs)).isSome = decide ((x, y) ∈ xs) := by rw [Bool.eq_iff_iff, isSome_union]; simp
      rw [hdk] at hSk hM
      have hB1 : Below wr.heap.size wr (wr.alloc (.cells #[.int .u16 x, .int .u32 y] 46)) := (Below.refl _ _).alloc (Nat.le_refl _) _
      cases hin : decide ((x, y) ∈ xs)
      · have hnx : (x, y) ∉ xs := of_decide_eq_false hin
        rw [hin] at hmem
        have HMEM := hid hmem
        have HOUT := hid (keepMid_out (t := l0.drop (k + 1)) HND.out hnx hnt)
        have HLEN := hid (keepMid_len (t := l0.drop (k + 1)) HND.out hnx hnt hinL)
        have hlk : (look (x, y) (keepMid L xs ((x, y) :: l0.drop (k + 1)))).isSome = true := by
          rw [look_isSome]
          obtain ⟨q, hq, hqe⟩ := List.mem_map.1 hinL
          exact List.mem_map.2 ⟨q, List.mem_filter.2 ⟨hq, by simp [hqe]⟩, hqe⟩
        have HLK := hid hlk
        clear hmem hin hnx hlk hpx hdk hnt hinL
        go_wp2_with (first
          | (go_at_call 266; refine (has_any _ _ _ _ _ _ _ (hTr.alloc _) HMEM).mono ?_; rintro e w3 ⟨rfl, hb3⟩; have p0 := cell_to (show (wr.alloc (.cells #[.int .u16 x, .int .u32 y] 46)).cell? ⟨wr.heap.size, 0, none⟩ = some (.int .u16 x) by simp) hb3; have p1 := cell_to (show (wr.alloc (.cells #[.int .u16 x, .int .u32 y] 46)).cell? ⟨wr.heap.size, 1, none⟩ = some (.int .u32 y) by simp) hb3)
          | (go_at_call 267; refine (drop_is _ _ _ _ _ HLK.out _ ((hSk.alloc _).ext hb3)).mono ?_; rintro e w4 ⟨rfl, hS4, hm4⟩))
        have hm3 : Mut (fun k => k = r) w2 w4 := (hmut.trans (Mut.of_below (hB1.trans (hb3.mono hB1.size)))).trans hm4
        go_roundw
        case rel => exact ⟨k + 1, m + 1, by omega, by go_num, by go_num, by omega, hid (by have := HLEN.out; have := hM.out; omega), by rw [← HOUT.out]; exact hS4, hm3⟩
        case measure => simp [intOf]; omega
      · have hix : (x, y) ∈ xs := of_decide_eq_true hin
        rw [hin] at hmem
        have HMEM := hid hmem
        have HIN := hid (keepMid_in (L := L) (t := l0.drop (k + 1)) hix)
        clear hmem hin hix hpx hdk hnt hinL
        go_wp2_with (go_at_call 266; refine (has_any _ _ _ _ _ _ _ (hTr.alloc _) HMEM).mono ?_; rintro e w3 ⟨rfl, hb3⟩)
        go_roundw
        case rel => exact ⟨k + 1, m, by omega, by go_num, rfl, by omega, hid (by have := hM.out; rw [HIN.out] at this; exact this), by rw [← HIN.out]; exact (hSk.alloc _).ext hb3, hmut.trans (Mut.of_below (hB1.trans (hb3.mono hB1.size)))⟩
        case measure => simp [intOf]; omega
    · rw [List.drop_eq_nil_of_le (by omega), keepMid_nil] at hSk hM
      have hMe : Hid ((m : Int) = (L.length : Int) - (keepL L xs).length) := hid (by have := hM.out; omega)
      go_wp2
      go_ret
      exact ⟨ret_int hMe.out, hSk, (Mut.of_below hB2).trans hmut⟩
end Go.Proofs.YtehagnbphamjhaaGreatDoor

namespace Go.Proofs.YtehagnbphamjhaaGreatDoor
open Go.RowKit
/-- the sixteen cells of a rumor -/
abbrev rumC (r : Nat → Int) : Array Value := #[.int .u32 (r 0), .int .u32 (r 1), .int .u32 (r 2), .int .u32 (r 3), .int .u32 (r 4), .int .u32 (r 5), .int .u32 (r 6), .int .u32 (r 7), .int .u32 (r 8), .int .u32 (r 9), .int .u32 (r 10), .int .u32 (r 11), .int .u32 (r 12), .int .u32 (r 13), .int .u32 (r 14), .int .u32 (r 15)]
theorem rumC_get (r : Nat → Int) {i : Nat} (h : i < 16) : (rumC r)[i]? = some (.int .u32 (r i)) := by
  rcases (show i = 0 ∨ i = 1 ∨ i = 2 ∨ i = 3 ∨ i = 4 ∨ i = 5 ∨ i = 6 ∨ i = 7 ∨ i = 8 ∨ i = 9 ∨ i = 10 ∨ i = 11 ∨ i = 12 ∨ i = 13 ∨ i = 14 ∨ i = 15 by omega) with rfl | rfl | rfl | rfl | rfl | rfl | rfl | rfl | rfl | rfl | rfl | rfl | rfl | rfl | rfl | rfl <;> rfl
end Go.Proofs.YtehagnbphamjhaaGreatDoor

namespace Go.Proofs.YtehagnbphamjhaaGreatDoor
/-! ### who speaks with whom, in plain words -/
def leafP (V : View) (p : Pid) : List Pid := if leafIx V.ls p < 0 then [] else V.ls.getD (leafIx V.ls p).toNat []
def othersP (V : View) (p : Pid) (L : List (List Pid)) : List Pid := V.ms.filter fun q => decide (q ∈ L.flatten) && !decide (q = p)
def peersL (V : View) (p : Pid) : List (List Pid) := [leafP V p] ++ (if p ∈ V.ds then [V.ds] else [])
def peersP (V : View) (p : Pid) : List Pid := if p ∈ V.ms then othersP V p (peersL V p) else []
/-! ### the reference's -/
/-! ### what a view that may be is -/
structure GoodV (V : View) : Prop where
  nd : V.ms.Nodup
  one : ∀ p ∈ V.ms, V.ls.flatten.count p = 1
  sub : ∀ l ∈ V.ls, ∀ p ∈ l, p ∈ V.ms
  dsub : ∀ p ∈ V.ds, p ∈ V.ms
  len : V.ms.length ≤ 24
  llen : V.ls.length ≤ 24
  le : ∀ l ∈ V.ls, l.length ≤ 24
  ld : V.ds.length ≤ 24
section
variable {V : View} {S : Pid → Bool} (hV : GoodV V)
include hV
end
end Go.Proofs.YtehagnbphamjhaaGreatDoor


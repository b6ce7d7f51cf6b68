/- Parts of the proof: X93 ShelfD X94 X95 X96 X98 X97 X99 ShelfL X100. -/
import Derived.Shelf.SlicesE.Delete
import Derived.Deep.LoopGhost
import Derived.WalkMore
import Derived.Test.YtehagnbphamjhaaGreatDoorX92
namespace Go.Proofs.YtehagnbphamjhaaGreatDoor
open Go.RowKit
/-! ### the reference's great, small, fewest; layout.fewest -/
theorem LeafRow.at2 {w : World} {b off : Nat} {ls : LL} (h : LeafRow w (some ⟨b, off, none⟩) ls) {k : Nat} (hk : k < ls.length) :
    ∃ ai ci l, l = ls[k] ∧ w.cell? ⟨b, off + k, none⟩ = some (.slice ai l.length ci) ∧ PidRow w ai l := by
  obtain ⟨b', off', ai, ci, l, e, h1, h2, h3⟩ := h.at (Below.refl _ _) rfl hk
  cases e
  exact ⟨ai, ci, l, h1, h2, h3⟩
theorem fewest1_any {a b : Option Addr} {c d n m : Nat} {w : World} {r : Bool} (hr : Hid (decide (n < m) = r)) :
    Calls Tryz.prog 250 #[.slice a n c, .slice b m d] w fun e w' => e = .returned (.bool r) ∧ w = w' := by
  have t1 : decide ((n : Int) < (m : Int)) = r := by rw [← hr.out]; congr 1; simp
  have t2 : decide (n < m) = r := hr.out
  clear hr
  go_enter Tryz.func250, Tryz.ntmps250
  go_wp2
  go_ret
  exact ⟨rfl, rfl⟩
set_option maxRecDepth 100000 in
set_option maxHeartbeats 6400000 in
theorem best_any {a : Option Addr} {c : Nat} {ls : LL} {w : World} (hn : ls.length ≤ 70368744177664) (hrow : LeafRow w a ls) :
    Calls Tryz.prog 249 #[.slice a ls.length c, .func (.func 250) #[] #[]] w fun e w' => e = .returned (.int .i64 (fewL ls (-1))) ∧ w = w' := by
  go_enter Tryz.func249, Tryz.ntmps249
  go_wp2
  go_loopw [5, 10] (fun z i wr => ∃ k : Nat, k ≤ ls.length ∧ z = .int .i64 (fewTo ls (-1) k) ∧ i = .int .i64 k ∧ wr = w) (fun _ i _ => ls.length - (intOf i).toNat)
  case atStart => exact ⟨0, Nat.zero_le _, rfl, rfl, rfl⟩
  case round =>
    obtain ⟨k, hk, rfl, rfl, rfl⟩ := hrel
    by_cases hlt : k < ls.length
    · obtain ⟨bb, off, ai, ci, l, rfl, hx, d1, -⟩ := hrow.at (Below.refl _ _) rfl hlt
      have hlk : lenAt ls k = l.length := by unfold lenAt; rw [hx]; simp [List.getD, hlt]
      have hstep : fewTo ls (-1) (k + 1) = fewStep ls (-1) (fewTo ls (-1) k) k := rfl
      have hcase := fewTo_is ls (-1) k
      obtain ⟨z, hz⟩ : ∃ z, fewTo ls (-1) k = z := ⟨_, rfl⟩
      rw [hz] at hstep hcase
      rw [hz]
      have hkb : ¬ (k : Int) = -1 := by omega
      by_cases hz0 : z < 0
      · have z1 : decide (z < 0) = true := decide_eq_true hz0
        have HV : Hid (fewTo ls (-1) (k + 1) = (k : Int)) := hid (by rw [hstep]; unfold fewStep; rw [if_pos ⟨hkb, .inl hz0⟩])
        clear hkb hstep hcase hz hx hlk hz0
        go_wp2
        go_roundw
        case rel => exact ⟨k + 1, by omega, by rw [HV.out], by go_num, trivial⟩
        case measure => simp [intOf]; omega
      have z1 : decide (z < 0) = false := decide_eq_false hz0
      obtain ⟨j, hj1, hj2⟩ : ∃ j : Nat, j < k ∧ z = (j : Int) := by
        rcases hcase with ⟨h1, -⟩ | ⟨j, h1, h2, -⟩
        · omega
        · exact ⟨j, h1, h2⟩
      subst hj2
      obtain ⟨aj, cj, lj, hxj, dj, -⟩ := hrow.at2 (k := j) (by omega)
      have hlj : lenAt ls j = lj.length := by unfold lenAt; rw [hxj]; simp [List.getD, show j < ls.length by omega]
      have hjl : j < ls.length := by omega
      obtain ⟨r, hr⟩ : ∃ r, decide (l.length < lj.length) = r := ⟨_, rfl⟩
      have HV : Hid (fewTo ls (-1) (k + 1) = if r = true then (k : Int) else (j : Int)) := hid (by
        rw [hstep]; unfold fewStep
        rw [Int.toNat_natCast, hlk, hlj, ← hr]
        by_cases hc : l.length < lj.length
        · rw [if_pos ⟨hkb, .inr hc⟩, if_pos (decide_eq_true hc)]
        · rw [if_neg (by rintro ⟨-, h | h⟩ <;> omega), if_neg (by simpa using hc)])
      have C1 := fun (W : World) => fewest1_any (a := ai) (b := aj) (c := ci) (d := cj) (w := W) (hid hr)
      have HC := hid C1
      clear C1 hkb hstep hcase hz hx hlk hz0 hr hxj hlj
      cases r
      case true =>
        go_wp2_with (go_at_call 250; (with_reducible refine (HC.out _).mono ?_); rintro e wz ⟨rfl, rfl⟩)
        go_roundw
        case rel => exact ⟨k + 1, by omega, by rw [HV.out]; rfl, by go_num, trivial⟩
        case measure => simp [intOf]; omega
      case false =>
        go_wp2_with (go_at_call 250; (with_reducible refine (HC.out _).mono ?_); rintro e wz ⟨rfl, rfl⟩)
        go_roundw
        case rel => exact ⟨k + 1, by omega, by rw [HV.out]; rfl, by go_num, trivial⟩
        case measure => simp [intOf]; omega
    · go_wp2
      go_ret
      have : k = ls.length := by omega
      exact ⟨ret_int (by rw [this]; rfl), rfl⟩
theorem fewest_any {a : Option Addr} {c : Nat} {ls : LL} {w : World} (hn : ls.length ≤ 70368744177664) (hrow : LeafRow w a ls) :
    Calls Tryz.prog 190 #[.slice a ls.length c] w fun e w' => e = .returned (.int .i64 (fewL ls (-1))) ∧ w = w' := by
  have C1 := hid (best_any (c := c) hn hrow)
  clear hrow
  go_enter Tryz.func190, Tryz.ntmps190
  go_wp2_with (go_at_call 249; (with_reducible refine C1.out.mono ?_); rintro e w1 ⟨rfl, rfl⟩)
  go_ret
  exact ⟨rfl, rfl⟩
end Go.Proofs.YtehagnbphamjhaaGreatDoor

/- The contract of the library at this program: the numbers, and a field a fact. Printed by the kit. -/
namespace Go.Proofs
open Go.Shelf
def Tryz.delLeaf_ren : Go.Shelf.Ren := ⟨fun | 45 => 350 | n => n, fun | 22 => 52 | 23 => 51 | 3 => 3 | 4 => 4 | 0 => 0 | n => n, fun | n => n⟩
theorem Tryz.delLeaf : Go.Proofs.SlLaysE.n45 Tryz.prog Tryz.delLeaf_ren := {
  mixed := by kernel_rfl
  f45 := ⟨Tryz.f350.name, by decide, Tryz.func350.trans (congrArg some (by kernel_rfl))⟩
  t0 := Tryz.underlying0
  a0 := Tryz.isAgg0
  z0 := Tryz.sizeOf0
  v0 := Tryz.zeroValue0
  t3 := Tryz.underlying3
  a3 := Tryz.isAgg3
  z3 := Tryz.sizeOf3
  v3 := Tryz.zeroValue3
  t4 := Tryz.underlying4
  a4 := Tryz.isAgg4
  z4 := Tryz.sizeOf4
  v4 := Tryz.zeroValue4
  t22 := Tryz.underlying52
  a22 := Tryz.isAgg52
  z22 := Tryz.sizeOf52
  v22 := Tryz.zeroValue52
  a23 := Tryz.isAgg51
  z23 := Tryz.sizeOf51 }
end Go.Proofs

namespace Go.Proofs.YtehagnbphamjhaaGreatDoor
open Go.RowKit
/-! ### leaves: an own row of slices, each an own row of processes, each in a block of its own -/
abbrev Sl := Option Addr × Nat × Nat
def encS (s : Sl) : Value := .slice s.1 s.2.1 s.2.2
def blkS (s : Sl) : Option Nat := s.1.map (·.block)
theorem own_encS (s : Sl) : (encS s).ownBlock = blkS s := by
  obtain ⟨a, n, c⟩ := s
  cases a <;> rfl
structure LLs (w : World) (base : Nat) (v : Value) (cs : List Sl) (ls : LL) : Prop where
  own : w.ownsRow base 51 1 v ls.length (cs.map encS)
  el : ∀ i (h : i < ls.length), ∃ s, cs[i]? = some s ∧ OwnP w base (encS s) ls[i]
  out : ∀ s ∈ cs, ∀ g, blkS s = some g → v.ownBlock ≠ some g
  apart : cs.Pairwise fun a b => ∀ g, blkS a = some g → blkS b ≠ some g
theorem LLs.len {w : World} {base : Nat} {v : Value} {cs : List Sl} {ls : LL} (h : LLs w base v cs ls) : cs.length = ls.length := by
  have := h.own.1
  simpa using this
theorem LLs.nil (w : World) (base : Nat) : LLs w base (.slice none 0 0) [] [] := ⟨World.ownsRow_nil _ _ _ _, fun i h => by simp at h, by simp, List.Pairwise.nil⟩
theorem LLs.toOwnLL {w : World} {base : Nat} {v : Value} {cs : List Sl} {ls : LL} (h : LLs w base v cs ls) : OwnLL w base v ls := by
  refine ⟨cs.map encS, h.own, fun i hi => ?_⟩
  obtain ⟨s, h1, h2⟩ := h.el i hi
  refine ⟨encS s, by rw [List.getElem?_map, h1]; rfl, h2, fun g hg => ?_⟩
  rw [own_encS] at hg
  exact h.out s (List.mem_of_getElem? h1) g hg
theorem LLs.row {w : World} {base : Nat} {v : Value} {cs : List Sl} {ls : LL} (h : LLs w base v cs ls) : ∃ a c, v = .slice a ls.length c ∧ LeafRow w a ls := h.toOwnLL.row
theorem LLs.blk {w : World} {base : Nat} {v : Value} {cs : List Sl} {ls : LL} (h : LLs w base v cs ls) {g : Nat} (hg : v.ownBlock = some g) : base ≤ g ∧ g < w.heap.size := h.toOwnLL.blk hg
theorem ownsRow_mut {G : Nat → Prop} {w w' : World} {base n k : Nat} {e : TypeId} {v : Value} {xs : List Value} (h : w.ownsRow base e k v n xs) (hm : Mut G w w') (hG : ∀ g, v.ownBlock = some g → ¬ G g) : w'.ownsRow base e k v n xs := by
  refine ⟨h.1, ?_⟩
  rcases h.2 with hn | ⟨g, cap, cur, rfl, hbb, hgg, rest⟩
  · exact .inl hn
  · exact .inr ⟨g, cap, cur, rfl, hbb, (hm.block g (Array.getElem?_eq_some_iff.1 hgg).1 (hG g rfl)).trans hgg, rest⟩
theorem LLs.mutN {G : Nat → Prop} {w w' : World} {base : Nat} {v : Value} {cs : List Sl} {ls : LL} (h : LLs w base v cs ls) (hm : Mut G w w') (hv : ∀ g, v.ownBlock = some g → ¬ G g) (hc : ∀ s ∈ cs, ∀ g, blkS s = some g → ¬ G g) : LLs w' base v cs ls :=
  ⟨ownsRow_mut h.own hm hv, fun i hi => by
    obtain ⟨s, h1, h2⟩ := h.el i hi
    exact ⟨s, h1, h2.mutN hm (fun g hg => hc s (List.mem_of_getElem? h1) g (by rw [← own_encS]; exact hg))⟩, h.out, h.apart⟩
theorem LLs.elB {w : World} {base : Nat} {v : Value} {cs : List Sl} {ls : LL} (h : LLs w base v cs ls) {s : Sl} (hs : s ∈ cs) {g : Nat} (hg : blkS s = some g) : base ≤ g ∧ g < w.heap.size := by
  obtain ⟨i, hi, e⟩ := List.mem_iff_getElem.1 hs
  obtain ⟨s', h1, h2⟩ := h.el i (by rw [← h.len]; exact hi)
  have : s' = s := by rw [List.getElem?_eq_getElem hi] at h1; cases h1; exact e
  subst this
  exact h2.blk (by rw [own_encS]; exact hg)
theorem LLs.mutT {G : Nat → Prop} {w w' : World} {base : Nat} {v : Value} {cs : List Sl} {ls : LL} (h : LLs w base v cs ls) (hm : Mut G w w') (hG : ∀ k, G k → k < base) : LLs w' base v cs ls :=
  h.mutN hm (fun g hg hk => by have := (h.blk hg).1; have := hG g hk; omega) (fun s hs g hg hk => by have := (h.elB hs hg).1; have := hG g hk; omega)
theorem LLs.ext {w w' : World} {base : Nat} {v : Value} {cs : List Sl} {ls : LL} (h : LLs w base v cs ls) (hb : Below w.heap.size w w') : LLs w' base v cs ls :=
  h.mutN (G := fun _ => False) (Mut.of_below hb) (fun _ _ e => e) (fun _ _ _ _ e => e)
theorem LLs.mono {w : World} {b b' : Nat} {v : Value} {cs : List Sl} {ls : LL} (h : LLs w b v cs ls) (hb : b' ≤ b) : LLs w b' v cs ls := by
  refine ⟨⟨h.own.1, ?_⟩, fun i hi => ?_, h.out, h.apart⟩
  · rcases h.own.2 with hn | ⟨g, cap, cur, rfl, hbb, rest⟩
    · exact .inl hn
    · exact .inr ⟨g, cap, cur, rfl, by omega, rest⟩
  · obtain ⟨s, h1, h2⟩ := h.el i hi
    exact ⟨s, h1, h2.mono2 hb⟩
/-- the k-th leaf -/
theorem LLs.get {w : World} {base : Nat} {v : Value} {cs : List Sl} {ls : LL} (h : LLs w base v cs ls) {k : Nat} (hk : k < ls.length) :
    ∃ g cap s, v = .slice (some ⟨g, 0, none⟩) ls.length cap ∧ ls.length ≤ cap ∧ base ≤ g ∧ g < w.heap.size ∧ cs[k]? = some s ∧ w.cell? ⟨g, k, none⟩ = some (encS s) ∧ w.frozen? ⟨g, k, none⟩ = false ∧ OwnP w base (encS s) ls[k] ∧ blkS s ≠ some g := by
  obtain ⟨s, h1, h2⟩ := h.el k hk
  have hcells := fun g => World.ownsRow.cells (g := g) h.own
  rcases h.own.2 with ⟨rfl, hn⟩ | ⟨g, cap, cur, rfl, hb, hg, hnc, hcm, hcs, htake⟩
  · omega
  · have hlt : g < w.heap.size := (Array.getElem?_eq_some_iff.1 hg).1
    refine ⟨g, cap, s, rfl, hnc, hb, hlt, h1, ?_, by simp [World.frozen?, hg], h2, fun e => h.out s (List.mem_of_getElem? h1) g e rfl⟩
    have := hcells g rfl k (encS s) (by rw [List.getElem?_map, h1]; rfl)
    rw [addr_add] at this
    simpa using this
/-- a leaf is put anew: its row lies in its old block, or in a new one -/
theorem LLs.put {w w1 : World} {base g k cap : Nat} {cs : List Sl} {ls : LL} {s s' : Sl} {l' : List Pid} (h : LLs w base (.slice (some ⟨g, 0, none⟩) ls.length cap) cs ls) (hk : k < ls.length) (hs : cs[k]? = some s) (hm : Mut (fun b => blkS s = some b) w w1) (hnew : OwnP w1 base (encS s') l') (hb : ∀ q, blkS s' = some q → blkS s = some q ∨ w.heap.size ≤ q) :
    LLs (w1.setCell ⟨g, k, none⟩ (encS s')) base (.slice (some ⟨g, 0, none⟩) ls.length cap) (cs.set k s') (ls.set k l') := by
  have hkc : k < cs.length := by rw [h.len]; exact hk
  have hsk : cs[k] = s := by rw [List.getElem?_eq_getElem hkc] at hs; cases hs; rfl
  have hsm : s ∈ cs := List.mem_of_getElem? hs
  have hgs : blkS s ≠ some g := fun e => h.out s hsm g e rfl
  have hglt := (h.blk (g := g) rfl).2
  have hset : Mut (fun b => b = g) w1 (w1.setCell ⟨g, k, none⟩ (encS s')) := mut1
  have hapart : ∀ i (hi : i < cs.length), i ≠ k → ∀ q, blkS cs[i] = some q → blkS s ≠ some q := by
    intro i hi hik q hq e
    rcases Nat.lt_or_gt_of_ne hik with hlt | hlt
    · have := List.pairwise_iff_getElem.1 h.apart i k hi hkc hlt q hq
      rw [hsk] at this; exact this e
    · have := List.pairwise_iff_getElem.1 h.apart k i hkc hi hlt q (by rw [hsk]; exact e)
      exact this hq
  have hapart' : ∀ i (hi : i < cs.length), i ≠ k → ∀ q, blkS cs[i] = some q → blkS s' ≠ some q := by
    intro i hi hik q hq e
    rcases hb q e with h1 | h1
    · exact hapart i hi hik q hq h1
    · have := (h.elB (List.getElem_mem hi) hq).2; omega
  have hown := ownsRow_mut h.own hm (fun q hq e => hgs (by simp [Value.ownBlock] at hq; rw [hq]; exact e))
  refine ⟨⟨by simp; exact h.len, ?_⟩, fun i hi => ?_, fun u hu q hq => ?_, ?_⟩
  · rcases hown.2 with ⟨e, -⟩ | ⟨g', cap', cur, e, hbb, hgg, hnc, hcm, hcs, htake⟩
    · cases e
    · cases e
      refine .inr ⟨g, cap, cur.setIfInBounds k (encS s'), by rw [List.length_set], hbb, ?_, by rw [List.length_set]; exact hnc, hcm, by simpa using hcs, ?_⟩
      · simp only [World.setCell, Array.getElem?_modify, if_pos, hgg, Option.map_some]
        rfl
      · rw [List.length_set, List.map_set, ← htake, Array.toList_setIfInBounds]
        rw [List.take_set]
  · have hi' : i < ls.length := by simpa using hi
    by_cases hik : i = k
    · subst hik
      refine ⟨s', by simp [hkc], ?_⟩
      rw [List.getElem_set_self]
      exact hnew.mutN hset (fun q hq e => by
        rw [own_encS] at hq
        rcases hb q hq with h1 | h1
        · have e : q = g := e
          exact hgs (by rw [h1, e])
        · have e : q = g := e
          omega)
    · obtain ⟨u, h1, h2⟩ := h.el i hi'
      refine ⟨u, by rw [List.getElem?_set_ne (Ne.symm hik)]; exact h1, ?_⟩
      rw [List.getElem_set_ne (Ne.symm hik)]
      have hic : i < cs.length := by rw [h.len]; exact hi'
      have hui : cs[i] = u := by rw [List.getElem?_eq_getElem hic] at h1; cases h1; rfl
      refine (h2.mutN hm (fun q hq e => ?_)).mutN hset (fun q hq e => ?_)
      · rw [own_encS, ← hui] at hq
        exact hapart i hic hik q hq e
      · rw [own_encS] at hq
        have e : q = g := e
        exact h.out u (List.mem_of_getElem? h1) q hq (by rw [e]; rfl)
  · rcases List.mem_or_eq_of_mem_set hu with hu | rfl
    · have := h.out u hu q hq
      simpa [Value.ownBlock] using this
    · intro e
      simp [Value.ownBlock] at e
      rcases hb q hq with h1 | h1
      · exact hgs (by rw [h1, e])
      · omega
  · rw [List.pairwise_iff_getElem]
    intro i j hi hj hij q hq e
    have hi' : i < cs.length := by simpa using hi
    have hj' : j < cs.length := by simpa using hj
    rw [List.getElem_set] at hq e
    by_cases h1 : k = i
    · subst h1
      rw [if_pos rfl] at hq
      rw [if_neg (by omega)] at e
      exact hapart' j hj' (by omega) q e hq
    · rw [if_neg h1] at hq
      by_cases h2 : k = j
      · subst h2
        rw [if_pos rfl] at e
        exact hapart' i hi' (by omega) q hq e
      · rw [if_neg h2] at e
        exact List.pairwise_iff_getElem.1 h.apart i j hi' hj' hij q hq e
end Go.Proofs.YtehagnbphamjhaaGreatDoor

namespace Go.Proofs.YtehagnbphamjhaaGreatDoor
open Go.RowKit
/-! ### leaves: append, delete -/
theorem run_appendLs {w : World} {base : Nat} {v : Value} {cs : List Sl} {ls : LL} {s : Sl} {l : List Pid} {b c : Nat} (h : LLs w base v cs ls) (h0 : w.cell? ⟨b, 0, none⟩ = some (encS s)) (hs : OwnP w base (encS s) l) (hv : ∀ g, blkS s = some g → v.ownBlock ≠ some g) (hc : ∀ u ∈ cs, ∀ g, blkS u = some g → blkS s ≠ some g)
    (hlen : ls.length + 1 ≤ 1099511627776) (hbase : base ≤ w.heap.size) (ty : TypeId) :
    ∃ v' w', (Builtin.append_ #[52, 52] ty #[v, .slice (some ⟨b, 0, none⟩) 1 c]).run Tryz.prog w = .ok v' w' ∧ LLs w' base v' (cs ++ [s]) (ls ++ [l]) ∧ w.grownBy w' v.ownBlock ∧ (v'.ownBlock = v.ownBlock ∨ v'.ownBlock = some w.heap.size) := by
  obtain ⟨i0, hi, hz0, hz1, hz2⟩ := info_parts infoPs
  obtain ⟨v', w', hrun, h2, h3, h4, h5⟩ := run_append_own_at (P := Tryz.prog) w base 52 ty 51 i0 _ 1 24 Tryz.underlying52 hi hz0 hz1 hz2 rfl (by decide) v ls.length (cs.map encS) h.own ⟨b, 0, none⟩ 1 c [encS s] rfl (fun j u hu => by
    have hj : j = 0 := by have := (List.getElem?_eq_some_iff.1 hu).1; simpa using this
    subst hj
    rw [addr_add]
    simp at hu; subst hu
    exact h0) (fun u hu => by simp at hu; subst hu; rfl) (by unfold maxLen; omega) (by omega) hbase
  have hcl := h.len
  have far : ∀ (u : Sl), (∀ g, blkS u = some g → g < w.heap.size) → (∀ g, blkS u = some g → v.ownBlock ≠ some g) → ∀ g, blkS u = some g → v'.ownBlock ≠ some g := by
    intro u hm hno g hg
    rcases h5 with h5 | h5
    · rw [h5]; exact hno g hg
    · rw [h5]
      have := hm g hg
      intro e2; simp at e2; omega
  have hsb : ∀ g, blkS s = some g → g < w.heap.size := fun g hg => (hs.blk (by rw [own_encS]; exact hg)).2
  refine ⟨v', w', hrun, ⟨?_, fun i hi => ?_, fun u hu => ?_, ?_⟩, h3, h5⟩
  · rw [List.length_append, List.map_append]; exact h2
  · by_cases hlt : i < ls.length
    · obtain ⟨u, g1, g2⟩ := h.el i hlt
      rw [List.getElem?_append_left (by omega), List.getElem_append_left hlt]
      exact ⟨u, g1, g2.grownN h3 (fun g hg => by rw [own_encS] at hg; exact h.out u (List.mem_of_getElem? g1) g hg)⟩
    · have hi' : i = ls.length := by simp at hi; omega
      subst hi'
      rw [List.getElem?_append_right (by omega), List.getElem_append_right (by omega)]
      simp only [hcl, Nat.sub_self, List.getElem?_cons_zero, List.getElem_cons_zero]
      exact ⟨s, rfl, hs.grownN h3 (fun g hg => by rw [own_encS] at hg; exact hv g hg)⟩
  · rcases List.mem_append.1 hu with hu | hu
    · exact far u (fun g hg => (h.elB hu hg).2) (h.out u hu)
    · rw [List.mem_singleton.1 hu]; exact far s hsb hv
  · rw [List.pairwise_append]
    refine ⟨h.apart, List.pairwise_singleton _ _, fun a ha b' hb' => ?_⟩
    rw [List.mem_singleton.1 hb']
    exact hc a ha
/-- 'append(l, x)' at the operation -/
theorem wpList_appendLs {w : World} {ops : Array Oper} {rest : List Oper} {o : Oper} {a : Act} {Q : Exit → Act → World → Prop} {sx x : Operand} {base : Nat} {v : Value} {cs : List Sl} {ls : LL} {s : Sl} {l : List Pid} {b c : Nat} (h : LLs w base v cs ls) (h0 : w.cell? ⟨b, 0, none⟩ = some (encS s)) (hs : OwnP w base (encS s) l) (hv : ∀ g, blkS s = some g → v.ownBlock ≠ some g) (hc : ∀ u ∈ cs, ∀ g, blkS u = some g → blkS s ≠ some g)
    (hlen : ls.length + 1 ≤ 1099511627776) (hbase : base ≤ w.heap.size)
    (hg : o.guard = none) (ho : o.op = .call { callee := .builtin .append, args := #[sx, x], argTypes := #[52, 52] }) (hsx : a.eval sx = v) (hx : a.eval x = .slice (some ⟨b, 0, none⟩) 1 c)
    (hk : ∀ v' w', LLs w' base v' (cs ++ [s]) (ls ++ [l]) → w.grownBy w' v.ownBlock → (v'.ownBlock = v.ownBlock ∨ v'.ownBlock = some w.heap.size) → wpList Tryz.prog ops Q rest (a.put o.dst v') w') : wpList Tryz.prog ops Q (o :: rest) a w := by
  obtain ⟨v', w', hr, h2, h3, h4⟩ := run_appendLs h h0 hs hv hc hlen hbase (c := c) o.type
  exact Lib.wpList_append_run w hg sx x 52 52 ho _ _ hsx hx v' w' hr (hk v' w' h2 h3 h4)
/-! slices.Delete -/
instance : Inhabited Sl := ⟨(none, 0, 0)⟩
theorem oneS : OneCell encS := fun _ => rfl
theorem zeroS (w : World) : (zeroValue 51).run Tryz.prog w = .ok (encS (none, 0, 0)) w := Tryz.zeroValue51 w
theorem put_list {g : Nat} {w : World} {q : Nat} {cur : Array Value} {e : TypeId} {D : Array Sl} (hg : w.heap[g]? = some (.cells cur e (0, 0))) : (Go.Sort.putRow encS (Go.Sort.ahead w q) g 0 D).heap[g]? = some (.cells (Go.Sort.putCells encS 0 D cur) e (0, 0)) := by
  simp [Go.Sort.putRow, Go.Sort.mapBlock, Go.Sort.ahead, Array.getElem?_modify, hg, Go.Sort.onCells]
theorem put_mut {g : Nat} {w : World} {q : Nat} {D : Array Sl} : Mut (fun b => b = g) w (Go.Sort.putRow encS (Go.Sort.ahead w q) g 0 D) := by
  refine ⟨rfl, rfl, rfl, by simp, fun k hk hne => ?_⟩
  have : g ≠ k := fun e => hne e.symm
  simp [Go.Sort.putRow, Go.Sort.mapBlock, Go.Sort.ahead, Array.getElem?_modify, this]
theorem take_putS (cur : Array Value) (D : Array Sl) (n : Nat) (h : D.size ≤ cur.size) (hn : n ≤ D.size) : (Go.Sort.putCells encS 0 D cur).toList.take n = (D.toList.take n).map encS := by
  apply List.ext_getElem?
  intro j
  by_cases hj : j < n
  · rw [List.getElem?_take_of_lt hj, Array.getElem?_toList, List.getElem?_map, List.getElem?_take_of_lt hj, Array.getElem?_toList]
    simp [Go.Sort.putCells, show j < D.size by omega, show j < cur.size by omega]
  · rw [List.getElem?_take_eq_none (by omega), List.getElem?_eq_none (by simp; omega)]
theorem holdsS {w : World} {base g cap : Nat} {cs : List Sl} {ls : LL} (h : LLs w base (.slice (some ⟨g, 0, none⟩) ls.length cap) cs ls) : Go.Sort.Holds encS w g 0 cs.toArray := by
  intro j hj
  have hj' : j < ls.length := by rw [← h.len]; simpa using hj
  obtain ⟨g', cap', s, e, -, -, -, h1, h2, h3, -, -⟩ := h.get hj'
  cases e
  have hjc : j < cs.length := by rw [h.len]; exact hj'
  have hs : cs.toArray[j]! = s := by
    rw [getElem!_pos cs.toArray j (by simpa using hjc)]
    rw [List.getElem?_eq_getElem hjc] at h1; cases h1; simp
  rw [Nat.zero_add, hs]
  exact ⟨h2, h3⟩
theorem delete_any {w : World} {base g cap k : Nat} {cs : List Sl} {ls : LL} {z : Int} (hz : z = (k : Int) + 1) (h : LLs w base (.slice (some ⟨g, 0, none⟩) ls.length cap) cs ls) (hk : k < ls.length) (hcap : ls.length ≤ cap) (hm : cap ≤ 9223372036854775807) :
    Calls Tryz.prog 350 #[.slice (some ⟨g, 0, none⟩) ls.length cap, .int .i64 k, .int .i64 z] w fun e w' => e = .returned (.slice (some ⟨g, 0, none⟩) (ls.eraseIdx k).length cap) ∧ LLs w' base (.slice (some ⟨g, 0, none⟩) (ls.eraseIdx k).length cap) (cs.eraseIdx k) (ls.eraseIdx k) ∧ Mut (fun b => b = g) w w' := by
  have hcl := h.len
  obtain ⟨i0, hi, hz0, hz1, hz2⟩ := info_parts infoPs
  have hcon := AnyE.slices_Delete Tryz.delLeaf encS oneS (none, 0, 0) zeroS i0 hi hz1 g 0 cap k (k + 1) cs.toArray w (holdsS h) (by simpa [hcl] using hcap) hm (by omega) (by simp; omega)
  change Calls Tryz.prog 350 _ _ _ at hcon
  have e1 : cs.toArray.size = ls.length := by simpa using hcl
  have e2 : ((k + 1 : Nat) : Int) = z := by omega
  have e3 : ls.length - (k + 1 - k) = (ls.eraseIdx k).length := by rw [List.length_eraseIdx]; simp [hk]
  rw [e1, e2, e3] at hcon
  refine hcon.mono ?_
  rintro e w' ⟨rfl, q, rfl⟩
  obtain ⟨D, hD⟩ : ∃ D, (cs.toArray.toList.take k ++ cs.toArray.toList.drop (k + 1) ++ List.replicate (k + 1 - k) ((none, 0, 0) : Sl)).toArray = D := ⟨_, rfl⟩
  rw [hD]
  have hDl : D.toList = cs.eraseIdx k ++ [(none, 0, 0)] := by
    rw [← hD, List.eraseIdx_eq_take_drop_succ]
    have : k + 1 - k = 1 := by omega
    rw [this]; simp
  have hDs : D.size = ls.length := by
    have : D.size = D.toList.length := by simp
    rw [this, hDl, List.length_append, List.length_eraseIdx]
    simp [hcl, hk]; omega
  have hel : (ls.eraseIdx k).length = ls.length - 1 := by rw [List.length_eraseIdx]; simp [hk]
  have hec : (cs.eraseIdx k).length = ls.length - 1 := by rw [List.length_eraseIdx]; simp [hk, hcl]
  have hmut : Mut (fun b => b = g) w (Go.Sort.putRow encS (Go.Sort.ahead w q) g 0 D) := put_mut
  refine ⟨rfl, ⟨⟨by simp [hel, hec], ?_⟩, fun i hi => ?_, fun u hu => h.out u (List.mem_of_mem_eraseIdx hu), ?_⟩, hmut⟩
  · rcases h.own.2 with ⟨e, -⟩ | ⟨g', cap', cur, e, hbb, hgg, hnc, hcm, hcs, htake⟩
    · cases e
    · cases e
      refine .inr ⟨g, cap, _, rfl, hbb, put_list hgg, by omega, hcm, by simp [Go.Sort.putCells, hcs], ?_⟩
      rw [take_putS cur D _ (by rw [hDs, hcs]; omega) (by rw [hDs]; omega), hDl, List.take_append_of_le_length (by omega), List.take_of_length_le (by omega)]
  · have hil : i < ls.length - 1 := by omega
    by_cases hik : i < k
    · obtain ⟨u, h1, h2⟩ := h.el i (by omega)
      refine ⟨u, by rw [List.getElem?_eraseIdx_of_lt hik]; exact h1, ?_⟩
      rw [List.getElem_eraseIdx_of_lt _ hik]
      exact h2.mutN hmut (fun p hp e => by
        rw [own_encS] at hp
        have e : p = g := e
        exact h.out u (List.mem_of_getElem? h1) p hp (by rw [e]; rfl))
    · obtain ⟨u, h1, h2⟩ := h.el (i + 1) (by omega)
      refine ⟨u, by rw [List.getElem?_eraseIdx_of_ge (by omega)]; exact h1, ?_⟩
      rw [List.getElem_eraseIdx_of_ge _ (by omega)]
      exact h2.mutN hmut (fun p hp e => by
        rw [own_encS] at hp
        have e : p = g := e
        exact h.out u (List.mem_of_getElem? h1) p hp (by rw [e]; rfl))
  · exact h.apart.sublist (List.eraseIdx_sublist cs k)
end Go.Proofs.YtehagnbphamjhaaGreatDoor

namespace Go.Proofs.YtehagnbphamjhaaGreatDoor
open Go.RowKit
/-! ### layout: part -/
theorem grown_mutS {w w' : World} {v : Value} (hg : w.grownBy w' v.ownBlock) : Mut (fun b => v.ownBlock = some b) w w' :=
  ⟨hg.os, hg.tape, hg.output, hg.size, fun k hk hf => hg.block k hk (fun e => hf e.symm)⟩
theorem Mut.frozen {F : Nat → Prop} {w w' : World} (h : Mut F w w') {p : Addr} (hp : p.block < w.heap.size) (hf : ¬ F p.block) : w'.frozen? p = w.frozen? p := by
  simp only [World.frozen?, h.block p.block hp hf]
/-- the blocks of leaves -/
def inLL (v : Value) (cs : List Sl) (b : Nat) : Prop := v.ownBlock = some b ∨ ∃ s ∈ cs, blkS s = some b
/-- what a step leaves: only the leaves' blocks are written, and the new leaves lie in theirs or in new ones -/
structure Keeps (w : World) (v : Value) (cs : List Sl) (w' : World) (v' : Value) (cs' : List Sl) : Prop where
  mt : Mut (inLL v cs) w w'
  blk : ∀ b, inLL v' cs' b → inLL v cs b ∨ w.heap.size ≤ b
theorem Keeps.refl (w : World) (v : Value) (cs : List Sl) : Keeps w v cs w v cs := ⟨Mut.refl _ _, fun _ h => .inl h⟩
theorem Keeps.trans {w w1 w2 : World} {v v1 v2 : Value} {cs cs1 cs2 : List Sl} (h1 : Keeps w v cs w1 v1 cs1) (h2 : Keeps w1 v1 cs1 w2 v2 cs2) : Keeps w v cs w2 v2 cs2 := by
  have hs := h1.mt.size
  refine ⟨⟨h2.mt.os.trans h1.mt.os, h2.mt.tape.trans h1.mt.tape, h2.mt.output.trans h1.mt.output, Nat.le_trans hs h2.mt.size, fun k hk hn => ?_⟩, fun b hb => ?_⟩
  · refine (h2.mt.block k (by omega) fun e => ?_).trans (h1.mt.block k hk hn)
    rcases h1.blk k e with e | e
    · exact hn e
    · omega
  · rcases h2.blk b hb with e | e
    · exact h1.blk b e
    · exact .inr (by omega)
theorem Keeps.ext {w w1 w2 : World} {v v1 : Value} {cs cs1 : List Sl} (h1 : Keeps w v cs w1 v1 cs1) (hb : Below w1.heap.size w1 w2) : Keeps w v cs w2 v1 cs1 := ⟨h1.mt.trans (Mut.of_below hb), h1.blk⟩
theorem LLs.inB {w : World} {base : Nat} {v : Value} {cs : List Sl} {ls : LL} (h : LLs w base v cs ls) {b : Nat} (hb : inLL v cs b) : base ≤ b ∧ b < w.heap.size := by
  rcases hb with e | ⟨s, hs, e⟩
  · exact h.blk e
  · exact h.elB hs e
theorem run_uptoP {a : Option Addr} {n c k : Nat} (h : k ≤ c) (W : World) : (Instr.slice 51 (.slice a n c) none (some (.int .i64 k)) none).run Tryz.prog W = .ok (.slice (if c = 0 then a else a.map (·.add (0 * 2))) (k - 0) (c - 0)) W := by
  have hs : ∀ W, (sizeOf 46).run Tryz.prog W = .ok 2 W := fun W => Tryz.sizeOf46 W
  simp [Instr.slice, run_underlying Tryz.underlying51, Instr.sliceBounds, run_sliceBound, hs, Result.andThen, h]
theorem run_fromP {a : Option Addr} {n c k : Nat} (h : k ≤ n) (W : World) : (Instr.slice 51 (.slice a n c) (some (.int .i64 k)) none none).run Tryz.prog W = .ok (.slice (if c = k then a else a.map (·.add (k * 2))) (n - k) (c - k)) W := by
  have hs : ∀ W, (sizeOf 46).run Tryz.prog W = .ok 2 W := fun W => Tryz.sizeOf46 W
  simp [Instr.slice, run_underlying Tryz.underlying51, Instr.sliceBounds, run_sliceBound, hs, Result.andThen, h]
theorem PidRow.from {w : World} {a : Option Addr} {xs : List Pid} (h : PidRow w a xs) {k c : Nat} (hc : xs.length ≤ c) : PidRow w (if c = k then a else a.map (·.add (k * 2))) (xs.drop k) := by
  by_cases hk : k < xs.length
  · rw [if_neg (by omega)]
    obtain ⟨b, off, rfl, hb, hcell⟩ := h.get (by omega)
    refine .inr ⟨b, off + k * 2, by simp [addr_add], hb, fun i hi => ?_⟩
    simp only [List.length_drop] at hi
    have := hcell (k + i) (by omega)
    rw [List.getElem_drop, show off + k * 2 + i * 2 = off + (k + i) * 2 by omega]
    exact this
  · rw [List.drop_eq_nil_of_le (by omega)]; exact .inl rfl
theorem PidRow.uptoC {w : World} {a : Option Addr} {xs : List Pid} (h : PidRow w a xs) (k c : Nat) : PidRow w (if c = 0 then a else a.map (·.add (0 * 2))) (xs.take k) := by
  have up : ∀ {a : Option Addr}, PidRow w a xs → PidRow w a (xs.take k) := by
    intro a h
    rcases h with rfl | ⟨b, off, rfl, hb, hcell⟩
    · exact .inl (by simp)
    · refine .inr ⟨b, off, rfl, hb, fun i hi => ?_⟩
      simp only [List.length_take] at hi
      have := hcell i (by omega)
      simpa using this
  split
  · exact up h
  · rcases h with rfl | ⟨b, off, rfl, hb, hcell⟩
    · exact .inl (by simp)
    · have e : (some (⟨b, off, none⟩ : Addr)).map (·.add (0 * 2)) = some ⟨b, off, none⟩ := by simp [addr_add]
      rw [e]; exact up (.inr ⟨b, off, rfl, hb, hcell⟩)
theorem OwnP.rowc {w : World} {base : Nat} {v : Value} {xs : List Pid} (h : OwnP w base v xs) : ∃ a c, v = .slice a xs.length c ∧ PidRow w a xs ∧ xs.length ≤ c := by
  obtain ⟨a, c, rfl, hr, -⟩ := h.row
  refine ⟨a, c, rfl, hr, ?_⟩
  rcases h.2 with ⟨h1, h2⟩ | ⟨g, cap, cur, h1, _, _, h2, _⟩
  · omega
  · injection h1 with _ _ h1; omega
/-- an own row as its three words -/
theorem OwnP.sl {w : World} {base : Nat} {v : Value} {xs : List Pid} (h : OwnP w base v xs) : ∃ a c, v = .slice a xs.length c ∧ v = encS (a, xs.length, c) ∧ PidRow w a xs ∧ xs.length ≤ c ∧ ∀ q, blkS (a, xs.length, c) = some q → base ≤ q ∧ q < w.heap.size := by
  obtain ⟨a, c, e, hr, hc⟩ := h.rowc
  refine ⟨a, c, e, e, hr, hc, fun q hq => ?_⟩
  have e2 : v.ownBlock = blkS (a, xs.length, c) := by rw [e]; exact own_encS (a, xs.length, c)
  exact h.blk (by rw [e2]; exact hq)
theorem run_appendPat {w : World} {base : Nat} {v : Value} {xs ys : List Pid} (hown : OwnP w base v xs) {a : Option Addr} {c : Nat} (hy : PidRow w a ys) (hlen : xs.length + ys.length ≤ 1099511627776) (hbase : base ≤ w.heap.size) (ty : TypeId) :
    ∃ v' w', (Builtin.append_ #[51, 51] ty #[v, .slice a ys.length c]).run Tryz.prog w = .ok v' w' ∧ OwnP w' base v' (xs ++ ys) ∧ w.grownBy w' v.ownBlock ∧ (v'.ownBlock = v.ownBlock ∨ v'.ownBlock = some w.heap.size) := by
  obtain ⟨i0, hi, hz0, hz1, hz2⟩ := info_parts info36
  rcases hy with rfl | ⟨b, off, rfl, hlt, hc⟩
  · refine ⟨v, w, ?_, by simpa using hown, ⟨rfl, rfl, rfl, Nat.le_refl _, fun _ _ _ => rfl⟩, .inl rfl⟩
    rcases hown.2 with ⟨rfl, hn⟩ | ⟨g, cap, cur, rfl, hb, hg, hnc, hcm, hcs, htake⟩
    · cases a <;> simp [Builtin.append_, run_underlying Tryz.underlying51, sizeOf, typeInfo, hi, Builtin.lenOf, Builtin.firstCells, loadCells, loadCellsFrom]
    · cases a <;> simp [Builtin.append_, run_underlying Tryz.underlying51, sizeOf, typeInfo, hi, Builtin.lenOf, Builtin.firstCells, loadCells, loadCellsFrom, hnc, storeCells]
  · obtain ⟨v', w', hr, h2, h3, h4, h5⟩ := run_append_own_at (P := Tryz.prog) w base 51 ty 46 i0 _ 2 8 Tryz.underlying51 hi hz0 hz1 hz2 rfl (by decide) v xs.length (pidCells xs) hown ⟨b, off, none⟩ ys.length c (pidCells ys) (pidCells_length ys) (PidRow.cells hc) (pidCells_one ys) (by unfold maxLen; omega) (by omega) hbase
    refine ⟨v', w', hr, ?_, h3, h5⟩
    unfold OwnP; rw [List.length_append, pidCells_append]; exact h2
theorem wpList_appendPatX {w : World} {ops : Array Oper} {rest : List Oper} {o : Oper} {a : Act} {Q : Exit → Act → World → Prop} {s x : Operand} {base : Nat} {v : Value} {xs ys : List Pid} (hown : OwnP w base v xs) {ad : Option Addr} {c n : Nat} (hy : PidRow w ad ys) (hn : Hid (ys.length = n))
    (hlen : xs.length + n ≤ 1099511627776) (hbase : base ≤ w.heap.size)
    (hg : o.guard = none) (ho : o.op = .call { callee := .builtin .append, args := #[s, x], argTypes := #[51, 51] }) (hs : a.eval s = v) (hx : a.eval x = .slice ad n c)
    (h : ∀ v' w', OwnP w' base v' (xs ++ ys) → w.grownBy w' v.ownBlock → (v'.ownBlock = v.ownBlock ∨ v'.ownBlock = some w.heap.size) → wpList Tryz.prog ops Q rest (a.put o.dst v') w') : wpList Tryz.prog ops Q (o :: rest) a w := by
  have hn := hn.out; subst hn
  obtain ⟨v', w', hr, h2, h3, h4⟩ := run_appendPat hown (c := c) hy hlen hbase o.type
  exact Lib.wpList_append_run w hg s x 51 51 ho _ _ hs hx v' w' hr (h v' w' h2 h3 h4)
theorem half_run (n : Nat) (h : n ≤ 70368744177664) : IntKind.i64.wrap (((n : Int) + 1).tdiv 2) = (((n + 1) / 2 : Nat) : Int) := by
  have e : ((n : Int) + 1).tdiv 2 = (((n + 1) / 2 : Nat) : Int) := by
    rw [Int.tdiv_eq_ediv_of_nonneg (by omega)]; omega
  rw [e, IntKind.wrap_i64] <;> omega
set_option maxRecDepth 100000 in
set_option maxHeartbeats 6400000 in
theorem part_any {w : World} {base g cap k : Nat} {cs : List Sl} {ls : LL} {N : Nat} (hN : Hid (ls.length = N)) (h : LLs w base (.slice (some ⟨g, 0, none⟩) N cap) cs ls) (hbase : base ≤ w.heap.size) (hk : k < N) (hl : (ls.getD k []).length ≤ 1000000) (hNl : N ≤ 1000000) :
    Calls Tryz.prog 256 #[.slice (some ⟨g, 0, none⟩) N cap, .int .i64 k] w fun e w' => ∃ v' cs', e = .returned v' ∧ LLs w' base v' cs' (partL ls k) ∧ Keeps w (.slice (some ⟨g, 0, none⟩) N cap) cs w' v' cs' := by
  have hN' := hN.out
  subst hN'
  obtain ⟨g', cap', s, e0, hcap, hbg, hgw, hcs, hcell, hfr, hown, hsg⟩ := h.get hk
  cases e0
  have hgd : ls.getD k [] = ls[k] := by simp [List.getD, hk]
  obtain ⟨l, hl'⟩ : ∃ l, ls[k] = l := ⟨_, rfl⟩
  rw [hgd, hl'] at hl
  rw [hl'] at hown
  obtain ⟨a, c, he, he2, hrow, hlc, hblk⟩ := hown.sl
  rw [he] at hcell
  have hsS : s = (a, l.length, c) := by
    obtain ⟨x, y, z⟩ := s
    have : Value.slice x y z = Value.slice a l.length c := he
    injection this with e1 e2 e3
    rw [e1, e2, e3]
  obtain ⟨n, hn⟩ : ∃ n, l.length = n := ⟨_, rfl⟩
  obtain ⟨q, hq⟩ : ∃ q, half l = q := ⟨_, rfl⟩
  have hqn : q = (n + 1) / 2 := by rw [← hq, ← hn]; rfl
  have hw2 := half_run n (by omega)
  rw [← hqn] at hw2
  have hw1 : IntKind.i64.wrap ((n : Int) + 1) = (n : Int) + 1 := by rw [IntKind.wrap_i64] <;> omega
  have h20 : ((2 : Int) == 0) = false := rfl
  rw [hn] at hcell hlc hsS
  obtain ⟨a1, ha1⟩ : ∃ a1, (if c = 0 then a else a.map (·.add (0 * 2))) = a1 := ⟨_, rfl⟩
  obtain ⟨a2, ha2⟩ : ∃ a2, (if c = q then a else a.map (·.add (q * 2))) = a2 := ⟨_, rfl⟩
  obtain ⟨n2, hn2⟩ : ∃ n2, n - q = n2 := ⟨_, rfl⟩
  obtain ⟨c2, hc2⟩ : ∃ c2, c - q = c2 := ⟨_, rfl⟩
  have hqle : q ≤ n := by omega
  have U1 : ∀ W, (Instr.slice 51 (.slice a n c) none (some (.int .i64 q)) none).run Tryz.prog W = .ok (.slice a1 q c) W := fun W => by rw [run_uptoP (by omega) W, ha1]; rfl
  have U2 : ∀ W, (Instr.slice 51 (.slice a n c) (some (.int .i64 q)) none none).run Tryz.prog W = .ok (.slice a2 n2 c2) W := fun W => by rw [run_fromP hqle W, ha2, hn2, hc2]
  have r1 : PidRow w a1 (l.take q) := by rw [← ha1]; exact hrow.uptoC q c
  have C1 := hid (clone_is (c := c) (hid (show (l.take q).length = q by rw [List.length_take]; omega)) (by omega) r1)
  have HROW := hid hrow
  have HH := hid h
  have HQ := hid hq
  have HL := hid hl'
  have HLN := hid hn
  have HS := hid hsS
  have HGW := hid hgw
  have HBG := hid hbg
  have HHW := hid (And.intro hqn hw2)
  have HCS := hid hcs
  have HSG := hid hsg
  have HCAP := hid hcap
  have HA2 := hid ha2
  have HN2 := hid hn2
  have HLC := hid hlc
  have HGD := hid hgd
  have HBLK := hid hblk
  clear hrow h hq hl' hn hsS hbg hqn hcs hsg hcap ha1 ha2 hn2 hc2 hlc r1 hgd he he2 hown hblk
  go_enter Tryz.func256, Tryz.ntmps256
  go_wp2_with fail
  (with_reducible refine C1.out.mono ?_)
  rintro e w2 ⟨v2, rfl, hown2, hb2⟩
  obtain ⟨b2, k2, e2, e2s, -, -, hblk2⟩ := hown2.sl
  have hl2 : (l.take q).length = q := by rw [List.length_take, HLN.out]; omega
  rw [hl2] at e2 e2s hblk2
  have hs2 : LLs (w2.setCell ⟨g, k, none⟩ (encS (b2, q, k2))) base (.slice (some ⟨g, 0, none⟩) ls.length cap) (cs.set k (b2, q, k2)) (ls.set k (l.take q)) :=
    HH.out.put hk HCS.out (Mut.of_below hb2) (by rw [← e2s]; exact hown2.mono2 hbase) (fun p hp => .inr (hblk2 p hp).1)
  subst e2
  obtain ⟨w3, hw3⟩ : ∃ w3, w2.setCell ⟨g, k, none⟩ (.slice b2 q k2) = w3 := ⟨_, rfl⟩
  have hs3 : LLs w3 base (.slice (some ⟨g, 0, none⟩) ls.length cap) (cs.set k (b2, q, k2)) (ls.set k (l.take q)) := by rw [← hw3]; exact hs2
  have hm23 : Mut (fun b => b = g) w2 w3 := by rw [← hw3]; exact mut1
  have hrow3 : PidRow w3 a l := (HROW.out.ext hb2).mutT hm23 (fun b off e _ hk => HSG.out (by have hk : b = g := hk; rw [HS.out, e, hk]; rfl))
  have r2 : PidRow w3 a2 (l.drop q) := by rw [← HA2.out]; exact hrow3.from (by rw [HLN.out]; exact HLC.out)
  have C2 := hid (clone_is (c := c2) (hid (show (l.drop q).length = n2 by rw [List.length_drop, HLN.out]; exact HN2.out)) (by have := HN2.out; have := HLN.out; omega) r2)
  have hcell2 : ∃ u, w2.cell? ⟨g, k, none⟩ = some u := ⟨_, (hb2.cell (by exact HGW.out)).trans hcell⟩
  obtain ⟨u2, hu2⟩ := hcell2
  have hfr2 : w2.frozen? ⟨g, k, none⟩ = false := (hb2.frozen (by exact HGW.out)).trans hfr
  have hm2 : Mut (fun b => b = g) w w3 := (Mut.of_below hb2).trans hm23
  have HK2 : Hid (∀ p, blkS (b2, q, k2) = some p → w.heap.size ≤ p) := hid fun p hp => (hblk2 p hp).1
  have HS3 := hid hs3
  have HM2 := hid hm2
  have HZ3 : Hid (w.heap.size ≤ w3.heap.size ∧ g < w3.heap.size) := hid ⟨hm2.size, by have := HGW.out; have := hm2.size; omega⟩
  have HB2 : Hid (∀ p, blkS (b2, q, k2) = some p → p < w3.heap.size) := hid fun p hp => by have := (hblk2 p hp).2; have := hm23.size; omega
  clear hs2 hs3 hm23 hrow3 r2 hb2 hown2 hm2 C1 e2s hblk2 HROW hcell hfr
  go_wp2_with fail
  (with_reducible refine C2.out.mono ?_)
  rintro e w4 ⟨v4, rfl, hown4, hb4⟩
  obtain ⟨b4, k4, e4, e4s, -, -, hblk4⟩ := hown4.sl
  have hl4 : (l.drop q).length = n2 := by rw [List.length_drop, HLN.out]; exact HN2.out
  rw [hl4] at e4 e4s hblk4
  subst e4
  have hq5 : Below w4.heap.size w4 (w4.alloc (.cells #[.slice b4 n2 k4] 51)) := (Below.refl _ _).alloc (Nat.le_refl _) _
  have hs5 := (HS3.out.ext hb4).ext hq5
  have ho5 : OwnP (w4.alloc (.cells #[.slice b4 n2 k4] 51)) base (encS (b4, n2, k4)) (l.drop q) := (hown4.ext hq5).mono2 (by have := HZ3.out; omega)
  have hc5 : (w4.alloc (.cells #[.slice b4 n2 k4] 51)).cell? ⟨w4.heap.size, 0, none⟩ = some (encS (b4, n2, k4)) := by simp [encS]
  have hv5 : ∀ p, blkS (b4, n2, k4) = some p → (Value.slice (some ⟨g, 0, none⟩) ls.length cap).ownBlock ≠ some p := fun p hp e => by
    have := (hblk4 p hp).1; have := HZ3.out.2; simp [Value.ownBlock] at e; omega
  have hu5 : ∀ u ∈ cs.set k (b2, q, k2), ∀ p, blkS u = some p → blkS (b4, n2, k4) ≠ some p := fun u hu p hp e => by
    have h1 := (hblk4 p e).1
    have h2 := (HS3.out.elB hu hp).2
    omega
  have HK4 : Hid (∀ p, blkS (b4, n2, k4) = some p → w.heap.size ≤ p) := hid fun p hp => by have := (hblk4 p hp).1; have := HZ3.out.1; omega
  have HO5 := hid ho5
  have HS5 := hid hs5
  have HC5 := hid hc5
  have HV5 := hid hv5
  have HU5 := hid hu5
  have HM4 := hid (HM2.out.trans (Mut.of_below (hb4.trans (hq5.mono hb4.size))))
  have HZ5 : Hid (base ≤ (w4.alloc (.cells #[.slice b4 n2 k4] 51)).heap.size) := hid (by have := HM4.out.size; omega)
  have HZ6 : Hid (w.heap.size ≤ (w4.alloc (.cells #[.slice b4 n2 k4] 51)).heap.size) := hid HM4.out.size
  clear hq5 hs5 ho5 hc5 hv5 hu5 hown4 hb4 e4s hblk4 hw3 hu2 hfr2
  go_wp2_with (at_builtin; go_loud (refine wpList_appendLs HS5.out HC5.out HO5.out HV5.out HU5.out (by simp; omega) HZ5.out rfl rfl (by simp [Act.eval, Act.put]; try rfl) rfl ?_; intro v6 w6 hls6 hg6 hat6; have hmg := (grown_mutS hg6).mono (G := fun b => b = g) (fun b _ e => by simp [Value.ownBlock] at e; exact e.symm); have HL6 := hid hls6; have HM6 := hid (HM4.out.trans hmg); have HAT6 := hid hat6; clear hls6 hg6 hat6 hmg))
  go_ret
  refine ⟨v6, cs.set k (b2, q, k2) ++ [(b4, n2, k4)], rfl, ?_, HM6.out.mono fun b _ e => .inl (by rw [e]; rfl), ?_⟩
  · unfold partL
    rw [HGD.out, HL.out, HQ.out]
    exact HL6.out
  · rintro b (hb | ⟨s', hs', hb⟩)
    · rcases HAT6.out with e | e
      · exact .inl (.inl (by rw [← e]; exact hb))
      · rw [hb] at e; cases e; exact .inr HZ6.out
    · rcases List.mem_append.1 hs' with hs' | hs'
      · rcases List.mem_or_eq_of_mem_set hs' with hs' | rfl
        · exact .inl (.inr ⟨s', hs', hb⟩)
        · exact .inr (HK2.out b hb)
      · rw [List.mem_singleton.1 hs'] at hb; exact .inr (HK4.out b hb)
end Go.Proofs.YtehagnbphamjhaaGreatDoor

namespace Go.Proofs.YtehagnbphamjhaaGreatDoor
open Go.RowKit
/-! ### layout: join -/
theorem PidRow.mutN {G : Nat → Prop} {w w' : World} {a : Option Addr} {xs : List Pid} (h : PidRow w a xs) (hm : Mut G w w') (hG : ∀ b off, a = some ⟨b, off, none⟩ → ¬ G b) : PidRow w' a xs :=
  h.mutT hm (fun b off e _ => hG b off e)
theorem lens_total (ls : LL) (l : List Pid) (h : l ∈ ls) : l.length ≤ total ls := by
  induction ls with
  | nil => cases h
  | cons x r ih =>
    rw [total_cons]
    rcases List.mem_cons.1 h with rfl | h
    · omega
    · have := ih h; omega
theorem total_erase : ∀ {ls : LL} {k : Nat} (h : k < ls.length), total (ls.eraseIdx k) + ls[k].length = total ls
  | x :: r, 0, _ => by rw [total_cons]; simp; omega
  | x :: r, k + 1, h => by
    have ih := total_erase (ls := r) (k := k) (by simpa using h)
    simp only [List.eraseIdx_cons_succ, total_cons, List.getElem_cons_succ]
    omega
set_option maxRecDepth 100000 in
set_option maxHeartbeats 6400000 in
theorem join_any {w : World} {base g cap k : Nat} {cs : List Sl} {ls : LL} {N : Nat} (hN : Hid (ls.length = N)) (h : LLs w base (.slice (some ⟨g, 0, none⟩) N cap) cs ls) (hbase : base ≤ w.heap.size) (hk : k < N) (h2 : 2 ≤ N) (hl : total ls ≤ 1000000) (hNl : N ≤ 1000000) (hm : cap ≤ 9223372036854775807) :
    Calls Tryz.prog 257 #[.slice (some ⟨g, 0, none⟩) N cap, .int .i64 k] w fun e w' => ∃ v' cs', e = .returned v' ∧ LLs w' base v' cs' (joinL ls k) ∧ Keeps w (.slice (some ⟨g, 0, none⟩) N cap) cs w' v' cs' := by
  have hN' := hN.out
  subst hN'
  obtain ⟨g', cap', s, e0, hcap, hbg, hgw, hcs, hcell, hfr, hown, hsg⟩ := h.get hk
  cases e0
  have hgd : ls.getD k [] = ls[k] := by simp [List.getD, hk]
  have htot := total_erase hk
  obtain ⟨l, hl'⟩ : ∃ l, ls[k] = l := ⟨_, rfl⟩
  rw [hl'] at hown hgd htot
  obtain ⟨a, c, he, he2, hrow, hlc, hblk⟩ := hown.sl
  rw [he] at hcell
  have hsa : ∀ b off, a = some ⟨b, off, none⟩ → b ≠ g := by
    intro b off e eb
    refine hsg ?_
    have : encS s = .slice a l.length c := he
    rw [← own_encS, this, e, eb]; rfl
  obtain ⟨n, hn⟩ : ∃ n, l.length = n := ⟨_, rfl⟩
  rw [hn] at hcell
  obtain ⟨z, hz⟩ : ∃ z, (k : Int) + 1 = z := ⟨_, rfl⟩
  have hw1 : IntKind.i64.wrap ((k : Int) + 1) = z := by rw [IntKind.wrap_i64] <;> omega
  have C1 := delete_any (z := z) hz.symm h hk hcap hm
  obtain ⟨D, hD⟩ : ∃ D, ls.eraseIdx k = D := ⟨_, rfl⟩
  obtain ⟨M, hM⟩ : ∃ M, D.length = M := ⟨_, rfl⟩
  have hDl : D.length = ls.length - 1 := by rw [← hD, List.length_eraseIdx]; simp [hk]
  rw [hD, hM] at C1
  rw [hD] at htot
  have h0D : 0 < D.length := by omega
  obtain ⟨j, hj, hfew⟩ := fewL_some h0D
  have C1 := hid C1
  have HROW := hid hrow
  have HL := hid hl'
  have HLN := hid hn
  have HGD := hid hgd
  have HD := hid hD
  have HM := hid hM
  have HJ := hid hj
  have HF := hid hfew
  have HTOT := hid (And.intro htot hl)
  have HZ0 := hid (And.intro hgw hbg)
  have HSA := hid hsa
  have HDL := hid hDl
  have hD6 : D.length ≤ 70368744177664 := by omega
  have HD6 := hid hD6
  clear hrow hl' hn hgd hD hM hj hfew htot hl hbg hsa hDl h0D he he2 hown hblk hsg hcs hfr hlc hD6 hcap hz
  go_enter Tryz.func257, Tryz.ntmps257
  go_wp2_with fail
  (with_reducible refine C1.out.mono ?_)
  rintro e w2 ⟨rfl, hs2, hm2⟩
  have hr2 : LeafRow w2 (some ⟨g, 0, none⟩) D := by
    obtain ⟨x, y, e, hr⟩ := (show LLs w2 base (.slice (some ⟨g, 0, none⟩) D.length cap) (cs.eraseIdx k) D by rw [HM.out]; exact hs2).row
    cases e; exact hr
  have C2 := fewest_any (c := cap) HD6.out hr2
  rw [HM.out, HF.out] at C2
  have hrow2 := HROW.out.mutN hm2 (fun b off e hb => HSA.out b off e hb)
  obtain ⟨g', cap', s2, e0, hcap2, hbg2, hgw2, hcs2, hcell2, hfr2, hown2, hsg2⟩ := (show LLs w2 base (.slice (some ⟨g, 0, none⟩) D.length cap) (cs.eraseIdx k) D by rw [HM.out]; exact hs2).get HJ.out
  cases e0
  obtain ⟨y, hy⟩ : ∃ y, D[j]'HJ.out = y := ⟨_, rfl⟩
  rw [hy] at hown2
  have hyl : y.length ≤ total D := by rw [← hy]; exact lens_total D _ (List.getElem_mem HJ.out)
  obtain ⟨a2, c2, he2, he22, hrow22, hlc2, hblk2⟩ := hown2.sl
  rw [he2] at hcell2
  obtain ⟨m2, hm22⟩ : ∃ m2, y.length = m2 := ⟨_, rfl⟩
  rw [hm22] at hcell2 he2
  rw [he2] at hown2
  have C2 := hid C2
  have HS2 := hid hs2
  have HM2 := hid hm2
  have HY := hid hy
  have HYL := hid (And.intro hm22 hyl)
  have HCS2 := hid hcs2
  have HE2 := hid he2
  have HB2 : Hid (base ≤ w2.heap.size) := hid (by have := hm2.size; omega)
  have HG2 := hid (And.intro hgw2 hbg2)
  have HSG2 := hid hsg2
  have HOWN2 := hid hown2
  have HROW2 := hid hrow2
  have HFR2 := hid hfr2
  have HCELL2 := hid hcell2
  have HLL : Hid (y.length + n ≤ 1099511627776) := hid (by have := HTOT.out; have := HLN.out; omega)
  clear hs2 hm2 hy hyl hm22 hcs2 he2 hgw2 hbg2 hsg2 hown2 hrow2 hfr2 hr2 hblk2 hrow22 hlc2 hcap2 C1 he22
  go_wp2_with fail
  (with_reducible refine C2.out.mono ?_)
  rintro e w3 ⟨rfl, rfl⟩
  clear C2
  have hcell3 := HCELL2.out
  have hjM : j < M := by rw [← HM.out]; exact HJ.out
  go_wp2_with (at_builtin; refine wpList_appendPatX HOWN2.out HROW2.out HLN HLL.out HB2.out rfl rfl (by simp [Act.eval, Act.put]; try rfl) rfl ?_; intro v6 w6 hown6 hg6 hat6; obtain ⟨a6, c6, e6, e6s, hr6, hl6, hblk6⟩ := hown6.sl; obtain ⟨m6, hm6⟩ : ∃ m6, (y ++ l).length = m6 := ⟨_, rfl⟩; rw [hm6] at e6 e6s; subst e6; have hmS := grown_mutS hg6; have hne6 : ¬ (Value.slice a2 m2 c2).ownBlock = some g := (fun e => HSG2.out (by rw [← own_encS, HE2.out]; exact e)); have hcc : w6.cell? ⟨g, j, none⟩ = some (.slice a2 m2 c2) := (hmS.cell (p := ⟨g, j, none⟩) HG2.out.1 hne6).trans HCELL2.out; have hff : w6.frozen? ⟨g, j, none⟩ = false := (hmS.frozen (p := ⟨g, j, none⟩) HG2.out.1 hne6).trans HFR2.out; have HOWN6 := hid hown6; have HMS := hid hmS; have HAT := hid hat6; have HE6 := hid e6s; clear hown6 hmS hat6 hg6 hr6 hl6 hblk6 hne6 e6s hm6 hcell3)
  go_ret
  have hput := (show LLs w2 base (.slice (some ⟨g, 0, none⟩) D.length cap) (cs.eraseIdx k) D by rw [HM.out]; exact HS2.out).put (s' := (a6, m6, c6)) (l' := y ++ l) HJ.out HCS2.out (w1 := w6) (HMS.out.mono fun b _ e => by rw [← own_encS, HE2.out]; exact e) HOWN6.out (fun q hq => by
    have hq : (Value.slice a6 m6 c6).ownBlock = some q := by rw [← hq]; exact own_encS (a6, m6, c6)
    rcases HAT.out with e | e
    · exact .inl (by rw [← own_encS, HE2.out, ← e]; exact hq)
    · refine .inr ?_
      rw [hq] at e; cases e; exact Nat.le_refl _)
  rw [HM.out] at hput
  have hs2m : s2 ∈ cs := List.mem_of_mem_eraseIdx (List.mem_of_getElem? HCS2.out)
  have hs2b : ∀ b, (Value.slice a2 m2 c2).ownBlock = some b → blkS s2 = some b := fun b e => by rw [← own_encS, HE2.out]; exact e
  refine ⟨_, (cs.eraseIdx k).set j (a6, m6, c6), rfl, ?_, ?_, ?_⟩
  · unfold joinL
    rw [HD.out, HF.out, Int.toNat_natCast, HGD.out]
    have : D.getD j [] = y := by rw [← HY.out]; simp [List.getD, HJ.out]
    rw [this]
    exact hput
  · exact ((HM2.out.mono fun b _ e => .inl (by have e : b = g := e; rw [e]; rfl)).trans (HMS.out.mono fun b _ e => .inr ⟨s2, hs2m, hs2b b e⟩)).trans (mut1.mono fun b _ e => .inl (by have e : b = g := e; rw [e]; rfl))
  · rintro b (hb | ⟨s', hs', hb⟩)
    · exact .inl (.inl hb)
    · rcases List.mem_or_eq_of_mem_set hs' with hs' | rfl
      · exact .inl (.inr ⟨s', List.mem_of_mem_eraseIdx hs', hb⟩)
      · have hb : (Value.slice a6 m6 c6).ownBlock = some b := by rw [← hb]; exact own_encS (a6, m6, c6)
        rcases HAT.out with e | e
        · exact .inl (.inr ⟨s2, hs2m, hs2b b (by rw [← e]; exact hb)⟩)
        · rw [hb] at e; cases e; exact .inr HM2.out.size
end Go.Proofs.YtehagnbphamjhaaGreatDoor

namespace Go.Proofs.YtehagnbphamjhaaGreatDoor
open Go.RowKit
/-! ### building a view, in plain words -/
def addL (ls : LL) (p : Pid) : LL := if fewL ls (-1) < 0 then ls ++ [[p]] else ls.set (fewL ls (-1)).toNat (ls.getD (fewL ls (-1)).toNat [] ++ [p])
def addAll (ls : LL) (come : List Pid) : LL := come.foldl addL ls
theorem few_cases (ls : LL) : (ls = [] ∧ fewL ls (-1) = -1) ∨ ∃ j : Nat, j < ls.length ∧ fewL ls (-1) = (j : Int) := by
  cases ls with
  | nil => exact .inl ⟨rfl, rfl⟩
  | cons l r => exact .inr (fewL_some (by simp))
theorem addL_perm (ls : LL) (p : Pid) : (addL ls p).flatten.Perm (ls.flatten ++ [p]) := by
  unfold addL
  rcases few_cases ls with ⟨rfl, h⟩ | ⟨j, hj, h⟩
  · rw [h, if_pos (by decide)]; simp
  · rw [h, if_neg (by omega), Int.toNat_natCast]
    obtain ⟨A, x, B, rfl, rfl, hx⟩ := split_at (d := ([] : List Pid)) hj
    rw [hx, set_mid]
    simp only [List.flatten_append, List.flatten_cons, List.append_assoc]
    exact List.Perm.append_left _ (List.Perm.append_left _ List.perm_append_comm)
theorem addL_full {ls : LL} (h : Full ls) (p : Pid) : Full (addL ls p) := by
  unfold addL
  rcases few_cases ls with ⟨rfl, e⟩ | ⟨j, hj, e⟩
  · rw [e, if_pos (by decide)]; intro l hl; simp at hl; subst hl; simp
  · rw [e, if_neg (by omega), Int.toNat_natCast]
    intro l hl
    rcases List.mem_or_eq_of_mem_set hl with hl | rfl
    · exact h l hl
    · simp
theorem addAll_ok : ∀ (come : List Pid) {ls : LL}, Full ls → Full (addAll ls come) ∧ (addAll ls come).flatten.Perm (ls.flatten ++ come)
  | [], ls, h => ⟨h, by simp [addAll]⟩
  | p :: r, ls, h => by
    obtain ⟨h1, h2⟩ := addAll_ok r (addL_full h p)
    refine ⟨h1, List.Perm.trans h2 ?_⟩
    have := (addL_perm ls p).append_right r
    simpa using this
def fitV (b : Bnd) (ls : LL) : LL := fitN b 200 ls
theorem fitV_ok {b : Bnd} (hb : bchk b = true) {ls : LL} (hf : Full ls) (ht : total ls ≤ 60) : Full (fitV b ls) ∧ (fitV b ls).flatten.Perm ls.flatten ∧ fitsL b (fitV b ls) = true :=
  fit_ok hb 200 ls hf (by have := phi_le (b := b) hf; omega)
def comeOk : List Int → List Pid → Bool
  | _, [] => true
  | S, p :: r => if p.1 ∈ S then false else comeOk (S ++ [p.1]) r
theorem comeOk_iff : ∀ {come : List Pid} {S : List Int}, comeOk S come = true ↔ (∀ p ∈ come, p.1 ∉ S) ∧ come.Pairwise fun p q => p.1 ≠ q.1
  | [], S => by simp [comeOk]
  | p :: r, S => by
    unfold comeOk
    by_cases h : p.1 ∈ S
    · rw [if_pos h]
      exact ⟨fun e => (by cases e), fun e => absurd h (e.1 p (List.mem_cons_self ..))⟩
    · rw [if_neg h, comeOk_iff]
      simp only [List.mem_append, not_or, List.mem_cons, forall_eq_or_imp, List.pairwise_cons, List.not_mem_nil, not_false_eq_true, and_true, or_false]
      constructor
      · rintro ⟨a, b⟩; exact ⟨⟨h, fun q hq => (a q hq).1⟩, fun q hq e => (a q hq).2 e.symm, b⟩
      · rintro ⟨⟨_, a⟩, c, b⟩; exact ⟨fun q hq => ⟨a q hq, fun e => c q hq e.symm⟩, b⟩
def mayAll (l : List Pid) : Bool := l.all mayB
def buildV (id : Int) (stay : List Pid) (ls : LL) (come : List Pid) (b : Bnd) : View × Int :=
  if comeOk (stay.map (·.1)) come = false then (zeroV, 9)
  else if (stay ++ come).length = 0 then (zeroV, 8)
  else if 24 < (stay ++ come).length then (zeroV, 3)
  else (⟨id, stay ++ come, ordR (stay ++ come) (fitV b (addAll ls come)), leadersL (stay ++ come) (heads (ordR (stay ++ come) (fitV b (addAll ls come))))⟩, 0)
def firstV (l : List Pid) (b : Bnd) : View × Int :=
  if bchk b = false ∨ mayAll l = false then (zeroV, 1) else buildV 1 [] [] l b
/-! ranks -/
theorem ris_pw {ms : List Pid} : ∀ {xs : List Pid} {z : Int}, -1 ≤ z → (∀ x ∈ xs, z < atIx ms x) → xs.Pairwise (fun p q => atIx ms p < atIx ms q) → risFrom (ranksL ms) z xs = true
  | [], _, _, _, _ => rfl
  | p :: r, z, hz, h, hp => by
    obtain ⟨h1, h2⟩ := List.pairwise_cons.1 hp
    have hpz := h p (List.mem_cons_self ..)
    unfold risFrom
    rw [look_ranksL]
    unfold rankO
    rw [if_neg (by omega)]
    simp only
    rw [if_neg (by omega)]
    exact ris_pw (by omega) h1 h2
theorem pw_self {ms : List Pid} (h : ms.Nodup) : ms.Pairwise (fun p q => atIx ms p < atIx ms q) := by
  rw [List.pairwise_iff_getElem]
  intro i j hi hj hij
  rw [atIx_nd h hi, atIx_nd h hj]; omega
theorem atIx_mem {ms : List Pid} (h : ms.Nodup) {p : Pid} (hp : p ∈ ms) : -1 < atIx ms p := by
  obtain ⟨i, hi, rfl⟩ := List.mem_iff_getElem.1 hp
  rw [atIx_nd h hi]; omega
theorem ris_sub {ms xs : List Pid} (h : ms.Nodup) (hs : xs.Sublist ms) : risFrom (ranksL ms) (-1) xs = true :=
  ris_pw (by omega) (fun _ hx => atIx_mem h (hs.subset hx)) ((pw_self h).sublist hs)
theorem count_one {l : List Pid} (h : l.Nodup) {a : Pid} (ha : a ∈ l) : l.count a = 1 := (count_iff h (fun _ hx => hx)).2 ⟨rfl, h⟩ a ha
theorem perm_of {a b : List Pid} (ha : a.Nodup) (hb : b.Nodup) (h : ∀ x, x ∈ a ↔ x ∈ b) : a.Perm b := by
  rw [List.perm_iff_count]; intro x
  by_cases hx : x ∈ a
  · rw [count_one ha hx, count_one hb ((h x).1 hx)]
  · rw [List.count_eq_zero.2 hx, List.count_eq_zero.2 (fun e => hx ((h x).2 e))]
theorem flat_map_perm {f : List Pid → List Pid} : ∀ {ls : LL}, (∀ l ∈ ls, (f l).Perm l) → (ls.map f).flatten.Perm ls.flatten
  | [], _ => List.Perm.refl _
  | l :: r, h => by
    simp only [List.map_cons, List.flatten_cons]
    exact (h l (List.mem_cons_self ..)).append (flat_map_perm fun x hx => h x (List.mem_cons_of_mem _ hx))
section
variable {ms : List Pid} {ls : LL}
theorem Parts.leaf_nd (h : Parts ms ls) {l : List Pid} (hl : l ∈ ls) : l.Nodup := (List.pairwise_flatten.1 (h.perm.nodup_iff.2 h.nd)).1 l hl
theorem Parts.leaf_sub (h : Parts ms ls) {l : List Pid} (hl : l ∈ ls) {p : Pid} (hp : p ∈ l) : p ∈ ms := h.perm.mem_iff.1 (List.mem_flatten.2 ⟨l, hl, hp⟩)
theorem Parts.common_perm (h : Parts ms ls) {l : List Pid} (hl : l ∈ ls) : (commonP ms l).Perm l :=
  perm_of (List.Pairwise.sublist List.filter_sublist h.nd) (h.leaf_nd hl) fun x => by
    unfold commonP
    rw [List.mem_filter]
    exact ⟨fun e => by simpa using e.2, fun e => ⟨h.leaf_sub hl e, by simpa using e⟩⟩
theorem Parts.ord_flat (h : Parts ms ls) : (ordR ms ls).flatten.Perm ms :=
  h.ord_perm.flatten.trans ((flat_map_perm fun _ hl => h.common_perm hl).trans h.perm)
theorem Parts.ord_mem (h : Parts ms ls) {c : List Pid} (hc : c ∈ ordR ms ls) : ∃ l ∈ ls, c = commonP ms l := by
  obtain ⟨l, hl, rfl⟩ := List.mem_map.1 (h.ord_perm.mem_iff.1 hc); exact ⟨l, hl, rfl⟩
theorem Parts.ord_full (h : Parts ms ls) : Full (ordR ms ls) := fun c hc e => by
  obtain ⟨l, hl, rfl⟩ := h.ord_mem hc
  have := h.head hl
  rw [e] at this
  cases this
theorem Parts.ord_parts (h : Parts ms ls) : Parts ms (ordR ms ls) := ⟨h.nd, h.ord_full, h.ord_flat⟩
theorem Parts.ord_strict (h : Parts ms ls) : (ordR ms ls).Pairwise fun a b => Go.Proofs.YtehagnbphamjhaaGreatDoor.hdIx ms a < Go.Proofs.YtehagnbphamjhaaGreatDoor.hdIx ms b := by
  have hk : ∀ i, ∀ a ∈ (ls.filter fun l => decide (keyL ms l = i)).map (commonP ms), Go.Proofs.YtehagnbphamjhaaGreatDoor.hdIx ms a = (i : Int) := by
    intro i a ha
    obtain ⟨l, hl, rfl⟩ := List.mem_map.1 ha
    obtain ⟨h1, h2⟩ := List.mem_filter.1 hl
    rw [h.hdIx h1]
    have : keyL ms l = i := by simpa using h2
    rw [this]
  unfold ordR
  rw [List.pairwise_flatMap]
  refine ⟨fun i _ => ?_, ?_⟩
  · rw [List.pairwise_map]
    refine List.Pairwise.imp_of_mem ?_ (h.keys.sublist List.filter_sublist)
    intro a b ha hb hab
    have e1 : keyL ms a = i := by simpa using (List.mem_filter.1 ha).2
    have e2 : keyL ms b = i := by simpa using (List.mem_filter.1 hb).2
    exact absurd (e1.trans e2.symm) hab
  · refine List.Pairwise.imp ?_ List.pairwise_lt_range
    intro i j hij a ha b hb
    rw [hk i a ha, hk j b hb]; omega
theorem heads_fm : ∀ ls : LL, heads ls = ls.filterMap List.head?
  | [] => rfl
  | l :: r => by cases l <;> simp [heads, heads_fm r, List.filterMap_cons]
theorem Parts.heads_pw (h : Parts ms ls) : (heads (ordR ms ls)).Pairwise fun p q => atIx ms p < atIx ms q := by
  rw [heads_fm, List.pairwise_filterMap]
  refine h.ord_strict.imp ?_
  intro a b hab p hp q hq
  unfold Go.Proofs.YtehagnbphamjhaaGreatDoor.hdIx at hab
  rw [List.headD_eq_head?_getD, hp, List.headD_eq_head?_getD, hq] at hab
  simpa using hab
theorem heads_mem {p : Pid} (h : p ∈ heads ls) : ∃ l ∈ ls, l.head? = some p := by rw [heads_fm, List.mem_filterMap] at h; exact h
theorem Parts.heads_sub (h : Parts ms ls) : ∀ p ∈ heads ls, p ∈ ms := fun p hp => by
  obtain ⟨l, hl, e⟩ := heads_mem hp
  exact h.leaf_sub hl (List.mem_of_head? e)
theorem Parts.heads_nd (h : Parts ms ls) : (heads (ordR ms ls)).Nodup := h.heads_pw.imp fun hlt e => by rw [e] at hlt; omega
end
/-! the leaders -/
theorem leadS_ok : ∀ (r : List Pid) {ms S : List Pid}, (∀ p ∈ r, p ∈ ms) → S.Nodup → (∀ p ∈ S, p ∈ ms) → (leadS r S).Nodup ∧ (∀ p ∈ leadS r S, p ∈ ms) ∧ (∀ p ∈ S, p ∈ leadS r S) ∧ (3 ≤ (leadS r S).length ∨ ∀ p ∈ r, p ∈ leadS r S)
  | [], ms, S, _, hn, hs => ⟨hn, hs, fun _ h => h, .inr (by simp)⟩
  | p :: r, ms, S, hr, hn, hs => by
    by_cases h3 : 3 ≤ S.length
    · rw [leadS_full _ h3]
      exact ⟨hn, hs, fun _ h => h, .inl h3⟩
    · have e0 : leadS (p :: r) S = leadS r (leadStep S p) := rfl
      rw [e0]
      by_cases hp : p ∈ S
      · have e : leadStep S p = S := by unfold leadStep; rw [if_neg h3, if_pos hp]
        rw [e]
        obtain ⟨a, b, c, d⟩ := leadS_ok r (fun q hq => hr q (List.mem_cons_of_mem _ hq)) hn hs
        refine ⟨a, b, c, d.imp id fun d q hq => ?_⟩
        rcases List.mem_cons.1 hq with rfl | hq
        · exact c _ hp
        · exact d q hq
      · have e : leadStep S p = S ++ [p] := by unfold leadStep; rw [if_neg h3, if_neg hp]
        rw [e]
        obtain ⟨a, b, c, d⟩ := leadS_ok (ms := ms) r (fun q hq => hr q (List.mem_cons_of_mem _ hq)) (S := S ++ [p]) (by
          rw [List.nodup_append]
          refine ⟨hn, by simp, fun x hx y hy e => ?_⟩
          rw [List.mem_singleton.1 hy] at e
          exact hp (e ▸ hx)) (fun q hq => by
          rcases List.mem_append.1 hq with hq | hq
          · exact hs q hq
          · rw [List.mem_singleton.1 hq]; exact hr p (List.mem_cons_self ..))
        refine ⟨a, b, fun q hq => c q (List.mem_append_left _ hq), d.imp id fun d q hq => ?_⟩
        rcases List.mem_cons.1 hq with rfl | hq
        · exact c _ (by simp)
        · exact d q hq
theorem leaders_len {ms hs : List Pid} (hn : ms.Nodup) (hh : hs.Nodup) (hsub : ∀ p ∈ hs, p ∈ ms) : min 3 ms.length ≤ (leadersL ms hs).length := by
  obtain ⟨a, b, -, d⟩ := leadS_ok ms (fun _ h => h) hh hsub
  have e : (leadersL ms hs).length = (leadS ms hs).length := by
    refine List.Perm.length_eq (perm_of (List.Pairwise.sublist List.filter_sublist hn) a fun x => ?_)
    unfold leadersL
    rw [List.mem_filter]
    exact ⟨fun e => by simpa using e.2, fun e => ⟨b x e, by simpa using e⟩⟩
  rw [e]
  rcases d with d | d
  · omega
  · have := nodup_len hn d; omega
/-- what is built may be -/
theorem built_check {id : Int} {ms : List Pid} {ls : LL} (h : Parts ms ls) (h1 : 1 ≤ id) (h2 : id ≤ 4611686018427387904) (hm : membersB ms = true) : checkB ⟨id, ms, ordR ms ls, leadersL ms (heads (ordR ms ls))⟩ = true := by
  have h0 : 0 < ms.length := by unfold membersB at hm; rw [memFrom_iff] at hm; exact hm.1.1
  rw [checkB_4 h1 h2 hm, chkFrom_iff]
  refine ⟨fun c hc => ⟨h.ord_full c hc, ?_⟩, ?_⟩
  · obtain ⟨l, hl, rfl⟩ := h.ord_mem hc
    exact ris_sub h.nd List.filter_sublist
  · unfold chkEnd
    have e1 : lens (ordR ms ls) = ms.length := by
      have e1 := lens_flatten (ordR ms ls)
      have e2 := h.ord_flat.length_eq
      exact e1.symm.trans e2
    simp only [List.nil_append, Nat.zero_add, Bool.and_eq_true, decide_eq_true_eq]
    refine ⟨e1, ?_, ?_, ?_, ?_⟩
    · rw [e1, ← h.ord_flat.length_eq, unionL_nodup]; exact h.ord_flat.nodup_iff.2 h.nd
    · exact ris_pw (by omega) (fun x hx => atIx_mem h.nd (h.ord_parts.heads_sub x hx)) h.heads_pw
    · intro e
      have := leaders_len h.nd h.heads_nd h.ord_parts.heads_sub
      rw [e] at this
      simp only [List.length_nil] at this
      omega
    · exact ris_sub h.nd List.filter_sublist
/-! fitting -/
/-! a view that may be -/
/-- what comes behind those who stay -/
theorem built_parts {stay come : List Pid} {ls : LL} (hp : Parts stay ls) (hi : stay.Pairwise fun p q => p.1 ≠ q.1) (hc : comeOk (stay.map (·.1)) come = true) : (stay ++ come).Pairwise (fun p q => p.1 ≠ q.1) ∧ Parts (stay ++ come) (addAll ls come) := by
  obtain ⟨c1, c2⟩ := comeOk_iff.1 hc
  have hids : (stay ++ come).Pairwise (fun p q => p.1 ≠ q.1) := by
    rw [List.pairwise_append]
    refine ⟨hi, c2, fun p hp q hq e => c1 q hq (List.mem_map.2 ⟨p, hp, e⟩)⟩
  obtain ⟨a1, a2⟩ := addAll_ok come hp.full
  exact ⟨hids, nodup_of_ids hids, a1, a2.trans (hp.perm.append_right come)⟩
structure BuiltOk (id : Int) (ms : List Pid) (b : Bnd) (V : View) : Prop where
  ex : ∃ ls, Parts ms ls ∧ fitsL b ls = true ∧ V = ⟨id, ms, ordR ms ls, leadersL ms (heads (ordR ms ls))⟩
  mem : membersB ms = true
theorem BuiltOk.check {id : Int} {ms : List Pid} {b : Bnd} {V : View} (h : BuiltOk id ms b V) (h1 : 1 ≤ id) (h2 : id ≤ 4611686018427387904) : checkB V = true := by
  obtain ⟨ls, hp, -, rfl⟩ := h.ex
  exact built_check hp h1 h2 h.mem
theorem BuiltOk.id {i : Int} {ms : List Pid} {b : Bnd} {V : View} (h : BuiltOk i ms b V) : V.id = i := by
  obtain ⟨ls, hp, -, rfl⟩ := h.ex; rfl
theorem BuiltOk.ms {i : Int} {ms : List Pid} {b : Bnd} {V : View} (h : BuiltOk i ms b V) : V.ms = ms := by
  obtain ⟨ls, hp, -, rfl⟩ := h.ex; rfl
end Go.Proofs.YtehagnbphamjhaaGreatDoor

namespace Go.Proofs.YtehagnbphamjhaaGreatDoor
open Go.RowKit
/-! ### layout: fit -/
theorem fitN_part {b : Bnd} {n : Nat} {ls : LL} {i : Nat} (h : greatL b ls = (i : Int)) : fitN b (n + 1) ls = fitN b n (partL ls i) := by
  show (if 0 ≤ greatL b ls then _ else _) = _
  rw [h, if_pos (by omega), Int.toNat_natCast]
theorem fitN_join {b : Bnd} {n : Nat} {ls : LL} {i : Nat} (hg : greatL b ls < 0) (h : smallL b ls = (i : Int)) : fitN b (n + 1) ls = fitN b n (joinL ls i) := by
  show (if 0 ≤ greatL b ls then _ else if 0 ≤ smallL b ls then _ else _) = _
  rw [if_neg (by omega), h, if_pos (by omega), Int.toNat_natCast]
theorem fitN_stop {b : Bnd} {n : Nat} {ls : LL} (hg : greatL b ls < 0) (h : smallL b ls < 0) : fitN b n ls = ls := by
  cases n with
  | zero => rfl
  | succ n =>
    show (if 0 ≤ greatL b ls then _ else if 0 ≤ smallL b ls then _ else _) = _
    rw [if_neg (by omega), if_neg (by omega)]
theorem perm_total {a b : LL} (h : a.flatten.Perm b.flatten) : total a = total b := by
  rw [← total_flat, ← total_flat]; exact h.length_eq
theorem getD_total (ls : LL) (i : Nat) : (ls.getD i []).length ≤ total ls := by
  by_cases h : i < ls.length
  · have : ls.getD i [] = ls[i] := by simp [List.getD, h]
    rw [this]; exact lens_total ls _ (List.getElem_mem h)
  · have : ls.getD i [] = [] := by simp [List.getD, List.getElem?_eq_none (by omega : ls.length ≤ i)]
    rw [this]; exact Nat.zero_le _
theorem great_ext {w0 : World} {U : ExtW w0} {b : Bnd} {a : Option Addr} {c n : Nat} {ls : LL} {G : Int} (hG : Hid (greatL b ls = G)) (hN : Hid (ls.length = n)) (hn : n ≤ 1000000) (hrow : LeafRow w0 a ls) :
    Calls Tryz.prog 254 #[.slice a n c, .agg #[.int .i64 b.least, .int .i64 b.most, .int .i64 b.tmo]] U.W fun e w' => e = .returned (.int .i64 G) ∧ ∃ U' : ExtW w0, w' = U'.W := by
  have hN := hN.out; subst hN
  refine (lgreat_any (b := b) (c := c) (by omega) (hrow.ext U.h)).mono ?_
  rintro e w' ⟨rfl, hb⟩
  exact ⟨by rw [hG.out], ⟨_, U.h.trans (hb.mono U.h.size)⟩, rfl⟩
theorem small_ext {w0 : World} {U : ExtW w0} {b : Bnd} {a : Option Addr} {c n : Nat} {ls : LL} {G : Int} (hG : Hid (smallL b ls = G)) (hN : Hid (ls.length = n)) (hn : n ≤ 1000000) (hrow : LeafRow w0 a ls) :
    Calls Tryz.prog 255 #[.slice a n c, .agg #[.int .i64 b.least, .int .i64 b.most, .int .i64 b.tmo]] U.W fun e w' => e = .returned (.int .i64 G) ∧ ∃ U' : ExtW w0, w' = U'.W := by
  have hN := hN.out; subst hN
  refine (lsmall_any (b := b) (c := c) (by omega) (hrow.ext U.h)).mono ?_
  rintro e w' ⟨rfl, hb⟩
  exact ⟨by rw [hG.out], ⟨_, U.h.trans (hb.mono U.h.size)⟩, rfl⟩
structure FitSt (b : Bnd) (W1 : World) (base : Nat) (v0 : Value) (cs0 : List Sl) (ls0 : LL) (n : Nat) (wr : World) (v : Value) (cs : List Sl) (ls : LL) : Prop where
  own : LLs wr base v cs ls
  full : Full ls
  tot : total ls ≤ 60
  ph : phi b ls ≤ n
  eq : fitN b 200 ls0 = fitN b n ls
  kp : Keeps W1 v0 cs0 wr v cs
theorem LLs.lit {w : World} {base : Nat} {v : Value} {cs : List Sl} {ls : LL} (h : LLs w base v cs ls) (h0 : 0 < ls.length) : ∃ g cap, v = .slice (some ⟨g, 0, none⟩) ls.length cap ∧ cap ≤ 9223372036854775807 := by
  rcases h.own.2 with ⟨-, hn⟩ | ⟨g, cap, cur, rfl, hb, hg, hnc, hcm, hcs, htake⟩
  · omega
  · exact ⟨g, cap, rfl, by unfold maxLen at hcm; omega⟩
set_option maxRecDepth 100000 in
set_option maxHeartbeats 6400000 in
theorem fit_any {w : World} {base : Nat} {b : Bnd} {a : Option Addr} {c : Nat} {cs : List Sl} {ls : LL} {N : Nat} (hN : Hid (ls.length = N)) (hb : bchk b = true) (h : LLs w base (.slice a N c) cs ls) (hf : Full ls) (ht : total ls ≤ 60) (hbase : base ≤ w.heap.size) :
    Calls Tryz.prog 192 #[.slice a N c, .agg #[.int .i64 b.least, .int .i64 b.most, .int .i64 b.tmo]] w fun e w' => ∃ v' cs', e = .returned v' ∧ LLs w' base v' cs' (fitV b ls) ∧ Keeps w (.slice a N c) cs w' v' cs' := by
  obtain ⟨W1, hW1⟩ : ∃ W1, w.alloc (.cells #[.int .i64 b.least, .int .i64 b.most, .int .i64 b.tmo] 60) = W1 := ⟨_, rfl⟩
  have hB1 : Below w.heap.size w W1 := by rw [← hW1]; exact (Below.refl _ _).alloc (Nat.le_refl _) _
  have hsz1 : w.heap.size < W1.heap.size := by rw [← hW1]; simp
  have hbx : BndBox W1 w.heap.size b := by rw [← hW1]; exact BndBox.made w
  have hno : ¬ inLL (.slice a N c) cs w.heap.size := fun e => by have := (h.inB e).2; omega
  have HNO := hid hno
  have HBX := hid hbx
  have HS : Hid (base ≤ W1.heap.size) := hid (by omega)
  have HSZ := hid hsz1
  have HBC := hid hb
  have HST : FitSt b W1 base (.slice a N c) cs ls 200 W1 (.slice a N c) cs ls := ⟨h.ext hB1, hf, ht, by have := phi_le (b := b) hf; omega, rfl, Keeps.refl _ _ _⟩
  have HB1 := hid hB1
  clear h hf ht hbase hbx hno hb hB1 hsz1
  go_enter Tryz.func192, Tryz.ntmps192
  go_wp2
  go_step3
  go_wp2
  go_step3
  go_wp2
  go_loopg [0] 200 (fun n v wr => ∃ cs' ls', FitSt b W1 base (.slice a N c) cs ls n wr v cs' ls')
  case atStart => exact ⟨cs, ls, HST⟩
  case round =>
    obtain ⟨cs', ls', S⟩ := hrel
    have hszr := S.kp.mt.size
    have hbr : base ≤ wr.heap.size := by have := HS.out; omega
    obtain ⟨a', c', hv, hrow⟩ := S.own.row
    obtain ⟨n', hn'⟩ : ∃ n', ls'.length = n' := ⟨_, rfl⟩
    have hl6 : n' ≤ 1000000 := by have := full_len S.full; have := S.tot; omega
    rw [hn'] at hv
    subst hv
    have z0 : wr.cell? ⟨w.heap.size, 0, none⟩ = some (.int .i64 b.least) := (S.kp.mt.cell (p := ⟨w.heap.size, 0, none⟩) HSZ.out HNO.out).trans HBX.out.c0
    have z1 : wr.cell? ⟨w.heap.size, 1, none⟩ = some (.int .i64 b.most) := (S.kp.mt.cell (p := ⟨w.heap.size, 1, none⟩) HSZ.out HNO.out).trans HBX.out.c1
    have z2 : wr.cell? ⟨w.heap.size, 2, none⟩ = some (.int .i64 b.tmo) := (S.kp.mt.cell (p := ⟨w.heap.size, 2, none⟩) HSZ.out HNO.out).trans HBX.out.c2
    have q0 := cell_extw z0
    have q1 := cell_extw z1
    have q2 := cell_extw z2
    have SH := hid S
    have HROW := hid hrow
    have HN' := hid hn'
    have HL6 := hid hl6
    have HBR := hid hbr
    obtain ⟨G, hG⟩ : ∃ G, greatL b ls' = G := ⟨_, rfl⟩
    obtain ⟨M, hM⟩ : ∃ M, smallL b ls' = M := ⟨_, rfl⟩
    have HG := hid hG
    have HM := hid hM
    clear hrow hn' hl6 hbr S z0 z1 z2 hszr hG hM
    by_cases hg0 : 0 ≤ G
    · obtain ⟨i, hi⟩ : ∃ i : Nat, G = (i : Int) := ⟨G.toNat, by omega⟩
      have hp := part_ok (b := b) HBC.out SH.out.full (by rw [HG.out]; exact hg0)
      rw [HG.out, hi, Int.toNat_natCast] at hp
      have hph := SH.out.ph
      obtain ⟨m, hm⟩ : ∃ m, gk = m + 1 := ⟨gk - 1, by omega⟩
      have t1 : decide ((0 : Int) ≤ G) = true := decide_eq_true hg0
      have t2 : decide (G ≥ 0) = true := decide_eq_true hg0
      have HP := hid hp
      have HI := hid hi
      have HMM := hid hm
      clear hp hi hg0 hph hm
      go_wp2
      refine wp_region_ext (Below.refl _ _) (by kernel_rfl) (by kernel_rfl) ?_
      repeat (go_big_quiet_step (first | (with_reducible exact great_ext HG HN' HL6.out HROW.out) | (with_reducible exact small_ext HM HN' HL6.out HROW.out)))
      refine wpQuiet_nil ?_
      rintro _ ⟨⟨w9, hb9⟩, rfl⟩
      have hown9 := SH.out.own.ext hb9
      obtain ⟨g, cap, he, hcap⟩ := SH.out.own.lit (by have := HP.out.2.2.2.1; omega)
      rw [HN'.out] at he
      have hlc := getD_total ls' i
      have C1 := hid (part_any (k := i) HN' (by rw [← he]; exact hown9) (by have := HBR.out; have := hb9.size; omega) (by have := HP.out.2.2.2.1; have := HN'.out; omega) (by have := SH.out.tot; omega) HL6.out)
      rw [← he, ← HI.out] at C1
      have HB9 := hid hb9
      clear hown9 he hlc hb9 hcap
      go_wp2_with fail
      (with_reducible refine C1.out.mono ?_)
      rintro e w2 ⟨v2, cs2, rfl, hs2, hk2⟩
      go_wp2
      go_roundg m
      case measure => have := HMM.out; omega
      case rel =>
        obtain ⟨p1, p2, p3, p4, p5⟩ := HP.out
        exact ⟨cs2, _, hs2, p2, by rw [perm_total p3]; exact SH.out.tot, by have := SH.out.ph; have := HMM.out; omega, by rw [SH.out.eq, HMM.out, fitN_part (HG.out.trans HI.out)], (SH.out.kp.ext HB9.out).trans hk2⟩
    have t1 : decide ((0 : Int) ≤ G) = false := decide_eq_false hg0
    have t2 : decide (G ≥ 0) = false := decide_eq_false hg0
    by_cases hm0 : 0 ≤ M
    · obtain ⟨i, hi⟩ : ∃ i : Nat, M = (i : Int) := ⟨M.toNat, by omega⟩
      have hp := join_ok (b := b) HBC.out SH.out.full (by rw [HM.out]; exact hm0)
      have h2 := small_two (b := b) (ls := ls') (by rw [HM.out]; exact hm0)
      rw [HM.out, hi, Int.toNat_natCast] at hp
      have hph := SH.out.ph
      obtain ⟨m, hm⟩ : ∃ m, gk = m + 1 := ⟨gk - 1, by omega⟩
      have t3 : decide ((0 : Int) ≤ M) = true := decide_eq_true hm0
      have t4 : decide (M ≥ 0) = true := decide_eq_true hm0
      have HP := hid hp
      have HI := hid hi
      have HMM := hid hm
      have HG0 := hid hg0
      have H2 := hid h2
      clear hp hi hg0 hph hm hm0 h2
      go_wp2
      refine wp_region_ext (Below.refl _ _) (by kernel_rfl) (by kernel_rfl) ?_
      repeat (go_big_quiet_step (first | (with_reducible exact great_ext HG HN' HL6.out HROW.out) | (with_reducible exact small_ext HM HN' HL6.out HROW.out)))
      refine wpQuiet_nil ?_
      rintro _ ⟨⟨w9, hb9⟩, rfl⟩
      have hown9 := SH.out.own.ext hb9
      obtain ⟨g, cap, he, hcap⟩ := SH.out.own.lit (by have := H2.out; omega)
      rw [HN'.out] at he
      have C1 := hid (join_any (k := i) HN' (by rw [← he]; exact hown9) (by have := HBR.out; have := hb9.size; omega) (by have := HP.out.2.2.2; have := HN'.out; omega) (by have := H2.out; have := HN'.out; omega) (by have := SH.out.tot; omega) HL6.out hcap)
      rw [← he, ← HI.out] at C1
      have HB9 := hid hb9
      clear hown9 he hb9 hcap
      go_wp2_with fail
      (with_reducible refine C1.out.mono ?_)
      rintro e w2 ⟨v2, cs2, rfl, hs2, hk2⟩
      go_wp2
      go_roundg m
      case measure => have := HMM.out; omega
      case rel =>
        obtain ⟨p1, p2, p3, p4⟩ := HP.out
        exact ⟨cs2, _, hs2, p2, by rw [perm_total p3]; exact SH.out.tot, by have := SH.out.ph; have := HMM.out; omega, by rw [SH.out.eq, HMM.out, fitN_join (by have := HG.out; have := HG0.out; omega) (HM.out.trans HI.out)], (SH.out.kp.ext HB9.out).trans hk2⟩
    · have t3 : decide ((0 : Int) ≤ M) = false := decide_eq_false hm0
      have t4 : decide (M ≥ 0) = false := decide_eq_false hm0
      have HG0 := hid hg0
      have HM0 := hid hm0
      clear hg0 hm0
      go_wp2
      refine wp_region_ext (Below.refl _ _) (by kernel_rfl) (by kernel_rfl) ?_
      repeat (go_big_quiet_step (first | (with_reducible exact great_ext HG HN' HL6.out HROW.out) | (with_reducible exact small_ext HM HN' HL6.out HROW.out)))
      refine wpQuiet_nil ?_
      rintro _ ⟨⟨w9, hb9⟩, rfl⟩
      have hown9 := SH.out.own.ext hb9
      have HB9 := hid hb9
      have HO9 := hid hown9
      clear hb9 hown9
      go_wp2
      try rw [Exit.noGoto_ret]
      go_ret
      refine ⟨_, cs', rfl, ?_, ?_⟩
      · have : fitV b ls = ls' := by
          unfold fitV
          rw [SH.out.eq, fitN_stop (by have := HG.out; have := HG0.out; omega) (by have := HM.out; have := HM0.out; omega)]
        rw [this]; exact HO9.out
      · have k1 := SH.out.kp.ext HB9.out
        refine ⟨(Mut.of_below HB1.out).trans k1.mt, fun q hq => (k1.blk q hq).imp id fun e => by have := HSZ.out; omega⟩
end Go.Proofs.YtehagnbphamjhaaGreatDoor

/- The contract of the library at this program: the numbers, and a field a fact. Printed by the kit. -/
namespace Go.Proofs
open Go.Shelf
def Tryz.sortLeaf_ren : Go.Shelf.Ren := ⟨fun | 6 => 252 | 15 => 66 | 14 => 346 | 28 => 96 | 29 => 97 | 20 => 424 | 21 => 425 | 22 => 426 | 23 => 427 | 24 => 428 | 25 => 429 | 26 => 430 | 27 => 431 | 46 => 476 | 47 => 126 | 48 => 127 | 49 => 477 | 50 => 478 | 57 => 487 | n => n, fun | 22 => 52 | 24 => 51 | 25 => 377 | 3 => 3 | 39 => 130 | 0 => 0 | 53 => 44 | 55 => 27 | 4 => 4 | 46 => 161 | 45 => 160 | 50 => 166 | 5 => 5 | 9 => 9 | 66 => 198 | 70 => 117 | 76 => 276 | 77 => 277 | n => n, fun | n => n⟩
theorem Tryz.sortLeaf : Go.Proofs.SlLaysF.n6 Tryz.prog Tryz.sortLeaf_ren := {
  mixed := by kernel_rfl
  f6 := ⟨Tryz.f252.name, by decide, Tryz.func252.trans (congrArg some (by kernel_rfl))⟩
  f14 := ⟨Tryz.f346.name, by decide, Tryz.func346.trans (congrArg some (by kernel_rfl))⟩
  f15 := Tryz.func66.trans (congrArg some (by kernel_rfl))
  f20 := ⟨Tryz.f424.name, by decide, Tryz.func424.trans (congrArg some (by kernel_rfl))⟩
  f21 := ⟨Tryz.f425.name, by decide, Tryz.func425.trans (congrArg some (by kernel_rfl))⟩
  f22 := ⟨Tryz.f426.name, by decide, Tryz.func426.trans (congrArg some (by kernel_rfl))⟩
  f23 := ⟨Tryz.f427.name, by decide, Tryz.func427.trans (congrArg some (by kernel_rfl))⟩
  f24 := ⟨Tryz.f428.name, by decide, Tryz.func428.trans (congrArg some (by kernel_rfl))⟩
  f25 := ⟨Tryz.f429.name, by decide, Tryz.func429.trans (congrArg some (by kernel_rfl))⟩
  f26 := ⟨Tryz.f430.name, by decide, Tryz.func430.trans (congrArg some (by kernel_rfl))⟩
  f27 := ⟨Tryz.f431.name, by decide, Tryz.func431.trans (congrArg some (by kernel_rfl))⟩
  f28 := Tryz.func96.trans (congrArg some (by kernel_rfl))
  f29 := Tryz.func97.trans (congrArg some (by kernel_rfl))
  f46 := ⟨Tryz.f476.name, by decide, Tryz.func476.trans (congrArg some (by kernel_rfl))⟩
  f47 := Tryz.func126.trans (congrArg some (by kernel_rfl))
  f48 := Tryz.func127.trans (congrArg some (by kernel_rfl))
  f49 := ⟨Tryz.f477.name, by decide, Tryz.func477.trans (congrArg some (by kernel_rfl))⟩
  f50 := ⟨Tryz.f478.name, by decide, Tryz.func478.trans (congrArg some (by kernel_rfl))⟩
  f57 := ⟨Tryz.f487.name, by decide, Tryz.func487.trans (congrArg some (by kernel_rfl))⟩
  t0 := Tryz.underlying0
  a0 := Tryz.isAgg0
  z0 := Tryz.sizeOf0
  v0 := Tryz.zeroValue0
  t3 := Tryz.underlying3
  a3 := Tryz.isAgg3
  z3 := Tryz.sizeOf3
  v3 := Tryz.zeroValue3
  t4 := Tryz.underlying4
  a4 := Tryz.isAgg4
  z4 := Tryz.sizeOf4
  v4 := Tryz.zeroValue4
  t5 := Tryz.underlying5
  a5 := Tryz.isAgg5
  z5 := Tryz.sizeOf5
  v5 := Tryz.zeroValue5
  t9 := Tryz.underlying9
  a9 := Tryz.isAgg9
  z9 := Tryz.sizeOf9
  v9 := Tryz.zeroValue9
  t22 := Tryz.underlying52
  a22 := Tryz.isAgg52
  z22 := Tryz.sizeOf52
  v22 := Tryz.zeroValue52
  a24 := Tryz.isAgg51
  z24 := Tryz.sizeOf51
  t25 := Tryz.underlying377
  a25 := Tryz.isAgg377
  z25 := Tryz.sizeOf377
  v25 := Tryz.zeroValue377
  t39 := Tryz.underlying130
  a39 := Tryz.isAgg130
  z39 := Tryz.sizeOf130
  v39 := Tryz.zeroValue130
  t45 := Tryz.underlying160
  a45 := Tryz.isAgg160
  z45 := Tryz.sizeOf160
  v45 := Tryz.zeroValue160
  t46 := Tryz.underlying161
  a46 := Tryz.isAgg161
  z46 := Tryz.sizeOf161
  v46 := Tryz.zeroValue161
  t50 := Tryz.underlying166
  a50 := Tryz.isAgg166
  z50 := Tryz.sizeOf166
  v50 := Tryz.zeroValue166
  t53 := Tryz.underlying44
  a53 := Tryz.isAgg44
  z53 := Tryz.sizeOf44
  v53 := Tryz.zeroValue44
  t55 := Tryz.underlying27
  a55 := Tryz.isAgg27
  z55 := Tryz.sizeOf27
  v55 := Tryz.zeroValue27
  t66 := Tryz.underlying198
  a66 := Tryz.isAgg198
  z66 := Tryz.sizeOf198
  v66 := Tryz.zeroValue198
  t70 := Tryz.underlying117
  a70 := Tryz.isAgg117
  z70 := Tryz.sizeOf117
  v70 := Tryz.zeroValue117
  t76 := Tryz.underlying276
  a76 := Tryz.isAgg276
  z76 := Tryz.sizeOf276
  v76 := Tryz.zeroValue276
  t77 := Tryz.underlying277
  a77 := Tryz.isAgg277
  z77 := Tryz.sizeOf277
  v77 := Tryz.zeroValue277 }
end Go.Proofs

namespace Go.Proofs.YtehagnbphamjhaaGreatDoor
open Go.RowKit
open Go.Sort (grow grow_grow grow_empty putRow putCells Holds SWO heap_grow_old mapBlock onCells)
/-! ### layout: leaves in the members' order -/
theorem Grew.drewN {w w' : World} (h : Grew w w') (n : Nat) : Grew w (w'.drewN n) := h.trans ⟨n, #[], by rw [grow_empty]⟩
set_option maxHeartbeats 400000 in
theorem index_grew (a : Option Addr) (c : Nat) (xs : List Pid) (id inc : Int) (w : World) (hn : xs.length ≤ 70368744177664) (hrow : PidRow w a xs) :
   Calls Tryz.prog 194 #[.slice a xs.length c, .agg #[.int .u16 id, .int .u32 inc]] w fun e w' => e = .returned (.int .i64 (atIx xs (id, inc))) ∧ Grew w w' := by
  go_enter Tryz.func194, Tryz.ntmps194
  go_wp2
  go_loopw [4, 8] (fun r i wr => r = .int .i64 0 ∧ ∃ k : Nat, k ≤ xs.length ∧ i = .int .i64 k ∧ Hid (atIx xs (id, inc) = atFrom (id, inc) (xs.drop k) k) ∧ Grew w wr ∧ wr.cell? ⟨w.heap.size, 0, none⟩ = some (.int .u16 id) ∧ wr.cell? ⟨w.heap.size, 1, none⟩ = some (.int .u32 inc)) (fun _ i _ => xs.length - (intOf i).toNat)
  case atStart => exact ⟨rfl, 0, Nat.zero_le _, rfl, rfl, (Grew.refl _).alloc _, by simp, by simp⟩
  case round =>
    obtain ⟨rfl, k, hk, rfl, ha, hb, c0, c1⟩ := hrel
    by_cases hlt : k < xs.length
    · obtain ⟨b, off, x, y, rfl, hx, d1, d2⟩ := hrow.at hb.below rfl hlt
      have HX := hid hx
      have HB := hid hb
      clear hx hrow hb
      have he := fun w => eql_pid id inc x y w
      go_wp2
      go_quiet (fail)
      all_goals go_wp2
      · have h := ‹id = x ∧ inc = y›
        go_ret
        exact ⟨ret_int (by rw [ha.out, atFrom_drop hlt, if_pos (by rw [← HX.out, h.1, h.2])]), HB.out.drewN _⟩
      · have h := ‹¬id = x ∨ ¬inc = y›
        go_roundw
        case rel => exact ⟨rfl, k + 1, by omega, by go_num, (ha.out.trans (by rw [atFrom_drop hlt, if_neg (by rw [← HX.out]; simp; omega)]) : _), HB.out.drewN _, by simpa using c0, by simpa using c1⟩
        case measure => simp [intOf]; omega
    · go_wp2
      go_ret
      exact ⟨ret_int (by rw [ha.out, atFrom_end (by omega)]), hb⟩
theorem atIx_bounds (ms : List Pid) (p : Pid) : -1 ≤ atIx ms p ∧ atIx ms p ≤ (ms.length : Int) := by
  have : ∀ (l : List Pid) (k : Nat), -1 ≤ atFrom p l k ∧ atFrom p l k ≤ ((k + l.length : Nat) : Int) := by
    intro l
    induction l with
    | nil => intro k; simp [atFrom] <;> omega
    | cons x r ih =>
      intro k
      unfold atFrom
      split
      · simp; omega
      · have := ih (k + 1)
        simp only [List.length_cons]
        omega
  have := this ms 0
  unfold atIx
  simpa using this
theorem PidRow.first {w : World} {a : Option Addr} {x y : Int} {r : List Pid} (h : PidRow w a ((x, y) :: r)) : ∃ b off, a = some ⟨b, off, none⟩ ∧ w.cell? ⟨b, off, none⟩ = some (.int .u16 x) ∧ w.cell? ⟨b, off + 1, none⟩ = some (.int .u32 y) := by
  obtain ⟨b, off, rfl, -, hc⟩ := h.get (by simp)
  have := hc 0 (by simp)
  exact ⟨b, off, rfl, by simpa using this.1, by simpa using this.2⟩
set_option maxRecDepth 100000 in
set_option maxHeartbeats 1600000 in
theorem ordCmp_any {ms : List Pid} {am : Option Addr} {cm g2 c d n k M : Nat} {a b : Option Addr} {l m : List Pid} {w : World} (hM : Hid (ms.length = M)) (hml : M ≤ 1000) (hm : PidRow w am ms) (h2 : w.cell? ⟨g2, 0, none⟩ = some (.slice am M cm)) (hl : PidRow w a l) (hn : l.length = n) (hl0 : l ≠ []) (hmr : PidRow w b m) (hk : m.length = k) (hm0 : m ≠ []) :
    Calls Tryz.prog 253 #[.slice a n c, .slice b k d, .pointer (some ⟨g2, 0, none⟩)] w fun e w' => e = .returned (.int .i64 (hdIx ms l - hdIx ms m)) ∧ Grew w w' := by
  cases l with
  | nil => exact absurd rfl hl0
  | cons p r =>
  cases m with
  | nil => exact absurd rfl hm0
  | cons q s =>
  obtain ⟨x, y⟩ := p
  obtain ⟨z, u⟩ := q
  obtain ⟨ba, oa, rfl, p1, p2⟩ := hl.first
  obtain ⟨bb, ob, rfl, p3, p4⟩ := hmr.first
  have f0 := cell_greww h2
  have f1 := cell_greww p1
  have f2 := cell_greww p2
  have f3 := cell_greww p3
  have f4 := cell_greww p4
  have t1 : decide (0 < n) = true := decide_eq_true (by rw [← hn]; simp)
  have t2 : decide ((0 : Int) < (n : Int)) = true := decide_eq_true (by rw [← hn]; simp)
  have t3 : decide (0 < k) = true := decide_eq_true (by rw [← hk]; simp)
  have t4 : decide ((0 : Int) < (k : Int)) = true := decide_eq_true (by rw [← hk]; simp)
  have t5 : 0 < n := by rw [← hn]; simp
  have t6 : 0 < k := by rw [← hk]; simp
  have e1 : hdIx ms ((x, y) :: r) = atIx ms (x, y) := rfl
  have e2 : hdIx ms ((z, u) :: s) = atIx ms (z, u) := rfl
  have b1 := atIx_bounds ms (x, y)
  have b2 := atIx_bounds ms (z, u)
  rw [hM.out] at b1 b2
  have n1 : ∀ U : GrewW w, Calls Tryz.prog 194 #[.slice am M cm, .agg #[.int .u16 x, .int .u32 y]] U.W fun e w' => e = .returned (.int .i64 (atIx ms (x, y))) ∧ ∃ U' : GrewW w, w' = U'.W := fun U => grew_of (by
    have := index_grew am cm ms x y U.W (by rw [hM.out]; omega) (hm.ext U.h.below)
    rw [hM.out] at this; exact this) rfl
  have n2 : ∀ U : GrewW w, Calls Tryz.prog 194 #[.slice am M cm, .agg #[.int .u16 z, .int .u32 u]] U.W fun e w' => e = .returned (.int .i64 (atIx ms (z, u))) ∧ ∃ U' : GrewW w, w' = U'.W := fun U => grew_of (by
    have := index_grew am cm ms z u U.W (by rw [hM.out]; omega) (hm.ext U.h.below)
    rw [hM.out] at this; exact this) rfl
  rw [e1, e2]
  clear e1 e2 hl hmr hn hk hl0 hm0 hm h2 p1 p2 p3 p4
  revert b1 b2 n1 n2
  generalize atIx ms (x, y) = A
  generalize atIx ms (z, u) = B
  intro b1 b2 n1 n2
  have hw : IntKind.i64.wrap (A - B) = A - B := by rw [IntKind.wrap_i64] <;> omega
  have N1 := hid n1
  have N2 := hid n2
  clear n1 n2 b1 b2 hml
  go_enter Tryz.func253, Tryz.ntmps253
  go_wp2
  refine wp_region_grew (w := w) (Grew.refl _) (by kernel_rfl) (by kernel_rfl) ?_
  repeat (go_big_quiet_step (first | (with_reducible exact N1.out _) | (with_reducible exact N2.out _)))
  refine wpQuiet_nil ?_
  rintro w9 ⟨⟨_, hb9⟩, rfl⟩
  go_wp2
  go_ret
  exact ⟨rfl, hb9⟩
/-! the sort of leaves -/
theorem take_putG {α : Type} [Inhabited α] (enc : α → Value) (cur : Array Value) (D : Array α) (n : Nat) (h : D.size ≤ cur.size) (hn : n ≤ D.size) : (putCells enc 0 D cur).toList.take n = (D.toList.take n).map enc := by
  apply List.ext_getElem?
  intro j
  by_cases hj : j < n
  · rw [List.getElem?_take_of_lt hj, Array.getElem?_toList, List.getElem?_map, List.getElem?_take_of_lt hj, Array.getElem?_toList]
    simp [putCells, show j < D.size by omega, show j < cur.size by omega]
  · rw [List.getElem?_take_eq_none (by omega), List.getElem?_eq_none (by simp; omega)]
theorem sortW_block {α : Type} [Inhabited α] {enc : α → Value} {g : Nat} {w : World} {q : Nat} {D : Array α} {os : Array Obj} {cur : Array Value} {e : TypeId} (hg : w.heap[g]? = some (.cells cur e (0, 0))) : (sortWorld enc w g 0 q D os).heap[g]? = some (.cells (putCells enc 0 D cur) e (0, 0)) := by
  have hlt : g < w.heap.size := (Array.getElem?_eq_some_iff.1 hg).1
  unfold sortWorld
  rw [heap_grow_old _ _ (by simpa [putRow, mapBlock, Go.Sort.ahead] using hlt)]
  simp [putRow, mapBlock, Go.Sort.ahead, Array.getElem?_modify, hg, onCells]
theorem sortW_mut {α : Type} [Inhabited α] {enc : α → Value} {g : Nat} {w : World} {q : Nat} {D : Array α} {os : Array Obj} : Mut (fun b => b = g) w (sortWorld enc w g 0 q D os) := by
  refine ⟨rfl, rfl, rfl, by simp [sortWorld, grow, putRow, mapBlock, Go.Sort.ahead], fun k hk hne => ?_⟩
  have : g ≠ k := fun e => hne e.symm
  unfold sortWorld
  rw [heap_grow_old _ _ (by simpa [putRow, mapBlock, Go.Sort.ahead] using hk)]
  simp [putRow, mapBlock, Go.Sort.ahead, Array.getElem?_modify, this]
theorem sortLeaf_any {W : World} {base gl g2 cap cm M : Nat} {am : Option Addr} {ms : List Pid} {cs : List Sl} {ls : LL} (h : LLs W base (.slice (some ⟨gl, 0, none⟩) ls.length cap) cs ls) (hfull : Full ls) (h0 : 0 < ls.length) (hl6 : ls.length ≤ 1000000)
    (hM : Hid (ms.length = M)) (hml : M ≤ 1000) (hm : PidRow W am ms) (hma : ∀ b off, am = some ⟨b, off, none⟩ → b ≠ gl) (h2 : W.cell? ⟨g2, 0, none⟩ = some (.slice am M cm)) (h2g : g2 ≠ gl)
    (hT : ∀ i j (hi : i < ls.length) (hj : j < ls.length), hdIx ms ls[i] = hdIx ms ls[j] → i = j) :
    Calls Tryz.prog 252 #[.slice (some ⟨gl, 0, none⟩) ls.length cap, .func (.func 253) #[] #[.pointer (some ⟨g2, 0, none⟩)]] W fun e w' => e = .returned (.tuple #[]) ∧ ∃ cs' ls', LLs w' base (.slice (some ⟨gl, 0, none⟩) ls.length cap) cs' ls' ∧ ls'.Perm ls ∧ ls'.Pairwise (fun a b => hdIx ms a ≤ hdIx ms b) ∧ Mut (fun b => b = gl) W w' ∧ ∀ s ∈ cs', s ∈ cs := by
  have hcl := h.len
  haveI : Inhabited (Fin ls.length) := ⟨⟨0, h0⟩⟩
  obtain ⟨enc, henc⟩ : ∃ enc : Fin ls.length → Value, enc = fun i => encS (cs[i.val]'(by rw [hcl]; exact i.isLt)) := ⟨_, rfl⟩
  obtain ⟨cf, hcf⟩ : ∃ cf : Fin ls.length → Fin ls.length → Int, cf = fun i j => hdIx ms ls[i] - hdIx ms ls[j] := ⟨_, rfl⟩
  have hone : OneCell enc := fun i => by rw [henc]; rfl
  have hlt : ∀ i j, ltOf cf i j = decide (hdIx ms ls[i] < hdIx ms ls[j]) := fun i j => by
    unfold ltOf; rw [hcf]; simp only [decide_eq_decide]; omega
  have hO : SWO (ltOf cf) := {
    irrefl := fun x => by rw [hlt]; simp
    trans := fun x y z h1 h2 => by rw [hlt] at *; simp at *; omega
    ntrans := fun x y z h1 h2 => by rw [hlt] at *; simp at *; omega }
  obtain ⟨d, hd⟩ : ∃ d : Array (Fin ls.length), d = (List.finRange ls.length).toArray := ⟨_, rfl⟩
  have hds : d.size = ls.length := by rw [hd]; simp
  have eg : ∀ args w, (callFunc 253 args).run Tryz.prog w = .ok (.enter 253 args) w := enters_of Tryz.func253 (by kernel_rfl) rfl
  have hcmp : CmpLays1 Tryz.prog 253 #[.pointer (some ⟨g2, 0, none⟩)] enc cf gl 0 d.size W := by
    intro m os dk _ x y
    have hmt : Mut (fun b => b = gl) W (sortWorld enc W gl 0 m dk os) := sortW_mut
    have hcx : x.val < cs.length := by rw [hcl]; exact x.isLt
    have hcy : y.val < cs.length := by rw [hcl]; exact y.isLt
    obtain ⟨s, s1, s2⟩ := h.el x.val x.isLt
    obtain ⟨t, t1, t2⟩ := h.el y.val y.isLt
    have es : cs[x.val] = s := by rw [List.getElem?_eq_getElem hcx] at s1; cases s1; rfl
    have et : cs[y.val] = t := by rw [List.getElem?_eq_getElem hcy] at t1; cases t1; rfl
    obtain ⟨a, c, e3, -, r3, -, -⟩ := s2.sl
    obtain ⟨b, c', e4, -, r4, -, -⟩ := t2.sl
    have far : ∀ (u : Sl) (a : Option Addr) (n c : Nat), u ∈ cs → encS u = .slice a n c → ∀ b off, a = some ⟨b, off, none⟩ → ¬ b = gl := by
      intro u a n c hu e b off ea eb
      refine h.out u hu b ?_ (by rw [eb]; rfl)
      rw [← own_encS, e, ea]; rfl
    have hx2 := r3.mutN hmt (far s _ _ _ (List.mem_of_getElem? s1) e3)
    have hy2 := r4.mutN hmt (far t _ _ _ (List.mem_of_getElem? t1) e4)
    have hm2 := hm.mutN hmt hma
    have hg2 := World.block_lt_of_cell? W _ h2
    have h22 := (hmt.cell (p := ⟨g2, 0, none⟩) hg2 h2g).trans h2
    have main := ordCmp_any (c := c) (d := c') hM hml hm2 h22 hx2 rfl (hfull _ (List.getElem_mem x.isLt)) hy2 rfl (hfull _ (List.getElem_mem y.isLt))
    have ea : (#[enc x, enc y] ++ #[.pointer (some ⟨g2, 0, none⟩)] : Array Value) = #[.slice a ls[x.val].length c, .slice b ls[y.val].length c', .pointer (some ⟨g2, 0, none⟩)] := by
      rw [henc]; simp only [es, et, e3, e4]; rfl
    rw [ea]
    refine main.mono ?_
    rintro e w' ⟨rfl, hb⟩
    exact ⟨by rw [hcf]; rfl, hb⟩
  have hH : Holds enc W gl 0 d := by
    intro j hj
    have hj' : j < ls.length := by omega
    obtain ⟨g', cap', s, e, -, -, -, h1, h2, h3, -, -⟩ := h.get hj'
    cases e
    have hjc : j < cs.length := by rw [hcl]; exact hj'
    have hs : cs[j] = s := by rw [List.getElem?_eq_getElem hjc] at h1; cases h1; rfl
    have hdj : d[j]! = ⟨j, hj'⟩ := by rw [getElem!_pos d j hj]; simp [hd]
    rw [Nat.zero_add, hdj, henc]
    simp only [hs]
    exact ⟨h2, h3⟩
  have hTT : ∀ x y, ltOf cf x y = false → ltOf cf y x = false → x = y := fun x y h1 h2 => by
    rw [hlt] at h1 h2
    simp at h1 h2
    exact Fin.ext (hT x.val y.val x.isLt y.isLt (Int.le_antisymm h2 h1))
  have hblk := (h.blk (g := gl) rfl).2
  have hcon := Any.slices_SortFunc_total Tryz.sortLeaf enc hone cf hO 253 #[.pointer (some ⟨g2, 0, none⟩)] gl 0 cap d W eg hcmp hH hblk (by omega) hTT
  change Calls Tryz.prog 252 _ _ _ at hcon
  rw [hds] at hcon
  refine hcon.mono ?_
  rintro e w' ⟨rfl, q, os, rfl⟩
  obtain ⟨σ, hσ⟩ : ∃ σ, d.toList.mergeSort (fun x y => !(ltOf cf) y x) = σ := ⟨_, rfl⟩
  rw [hσ]
  have hdl : d.toList = List.finRange ls.length := by rw [hd]
  have hperm : σ.Perm (List.finRange ls.length) := by rw [← hσ, hdl]; exact List.mergeSort_perm _ _
  have hpw : σ.Pairwise fun x y => hdIx ms ls[x] ≤ hdIx ms ls[y] := by
    have := List.pairwise_mergeSort (le := fun x y => !(ltOf cf) y x) (fun a b c h1 h2 => by rw [hlt] at *; simp at *; omega) (fun a b => by rw [hlt, hlt]; simp; omega) d.toList
    rw [hσ] at this
    refine this.imp ?_
    intro a b hab
    rw [hlt] at hab
    simpa using hab
  have hlen : σ.length = ls.length := by rw [hperm.length_eq]; simp
  have hne : σ.Pairwise fun x y => x ≠ y := hperm.nodup_iff.2 (List.nodup_finRange _)
  refine ⟨rfl, σ.map fun i => cs[i.val]'(by rw [hcl]; exact i.isLt), σ.map fun i => ls[i], ?_, ?_, ?_, sortW_mut, ?_⟩
  · have hmt : Mut (fun b => b = gl) W (sortWorld enc W gl 0 q σ.toArray os) := sortW_mut
    refine ⟨⟨by simp, ?_⟩, fun i hi => ?_, fun s hs => ?_, ?_⟩
    · rcases h.own.2 with ⟨e, -⟩ | ⟨g', cap', cur, e, hbb, hgg, hnc, hcm, hcs, htake⟩
      · cases e
      · cases e
        refine .inr ⟨gl, cap, _, by simp [hlen], hbb, sortW_block hgg, by simpa [hlen] using hnc, hcm, by simpa [putCells] using hcs, ?_⟩
        rw [take_putG enc cur σ.toArray _ (by simp [hlen]; omega) (by simp)]
        simp only [List.length_map]
        rw [List.take_of_length_le (by simp), henc, List.map_map]
        rfl
    · have hi' : i < σ.length := by simpa using hi
      obtain ⟨s, s1, s2⟩ := h.el σ[i].val σ[i].isLt
      have hcx : σ[i].val < cs.length := by rw [hcl]; exact σ[i].isLt
      refine ⟨s, by rw [List.getElem?_map, List.getElem?_eq_getElem hi', Option.map_some, ← s1, List.getElem?_eq_getElem hcx], ?_⟩
      simp only [List.getElem_map]
      exact s2.mutN hmt (fun g hg e => by
        rw [own_encS] at hg
        have e : g = gl := e
        exact h.out s (List.mem_of_getElem? s1) g hg (by rw [e]; rfl))
    · obtain ⟨i, -, rfl⟩ := List.mem_map.1 hs
      exact h.out _ (List.getElem_mem _)
    · rw [List.pairwise_map]
      refine hne.imp ?_
      intro i j hij g hg hg'
      have hci : i.val < cs.length := by rw [hcl]; exact i.isLt
      have hcj : j.val < cs.length := by rw [hcl]; exact j.isLt
      rcases Nat.lt_or_gt_of_ne (fun e => hij (Fin.ext e) : i.val ≠ j.val) with hlt | hlt
      · exact List.pairwise_iff_getElem.1 h.apart i.val j.val hci hcj hlt g hg hg'
      · exact List.pairwise_iff_getElem.1 h.apart j.val i.val hcj hci hlt g hg' hg
  · have : (List.finRange ls.length).map (fun i => ls[i]) = ls := by
      apply List.ext_getElem
      · simp
      · intro i h1 h2; simp
    exact (hperm.map _).trans (by rw [this])
  · rw [List.pairwise_map]; exact hpw
  · intro s hs
    obtain ⟨i, -, rfl⟩ := List.mem_map.1 hs
    exact List.getElem_mem _
/-! ordered -/
def mixL (ms : List Pid) (ls : LL) (k : Nat) : LL := (ls.take k).map (commonP ms) ++ ls.drop k
theorem mixL_len (ms : List Pid) (ls : LL) (k : Nat) : (mixL ms ls k).length = ls.length := by unfold mixL; simp; omega
theorem mixL_get {ms : List Pid} {ls : LL} {k : Nat} (h : k < ls.length) : (mixL ms ls k)[k]'(by rw [mixL_len]; exact h) = ls[k] := by
  unfold mixL
  rw [List.getElem_append_right (by simp; omega)]
  simp [show min k ls.length = k by omega]
theorem mixL_set {ms : List Pid} {ls : LL} {k : Nat} (h : k < ls.length) : (mixL ms ls k).set k (commonP ms ls[k]) = mixL ms ls (k + 1) := by
  unfold mixL
  rw [List.drop_eq_getElem_cons h]
  have hl : ((ls.take k).map (commonP ms)).length = k := by simp; omega
  have := set_mid ls[k] (commonP ms ls[k]) (ls.drop (k + 1)) ((ls.take k).map (commonP ms))
  rw [hl] at this
  rw [this, List.take_succ_eq_append_getElem h, List.map_append]
  simp only [List.map_cons, List.map_nil, List.append_assoc, List.cons_append, List.nil_append]
theorem common_n {ms l xs : List Pid} {am a : Option Addr} {cm c M n : Nat} {w : World} (hx : Hid (commonP ms l = xs)) (hM : Hid (ms.length = M)) (hml : M ≤ 1000) (hn : Hid (l.length = n)) (hnl : n ≤ 1000000) (hm : PidRow w am ms) (hl : PidRow w a l) :
    Calls Tryz.prog 251 #[.slice am M cm, .slice a n c] w fun e w' => ∃ v, e = .returned v ∧ OwnP w' w.heap.size v xs ∧ Below w.heap.size w w' := by
  have h1 := hM.out
  have h2 := hn.out
  subst h1; subst h2
  rw [← hx.out]
  exact common_any am cm ms a c l w (by omega) (by omega) hm hl
set_option maxRecDepth 100000 in
set_option maxHeartbeats 6400000 in
theorem ordered_any {w : World} {base g cap cm M N : Nat} {am : Option Addr} {ms : List Pid} {cs : List Sl} {ls : LL} (hp : Parts ms ls) (hN : Hid (ls.length = N)) (h : LLs w base (.slice (some ⟨g, 0, none⟩) N cap) cs ls) (hbase : base ≤ w.heap.size) (h0 : 0 < N)
    (hM : Hid (ms.length = M)) (hml : M ≤ 1000) (hm : PidRow w am ms) (hma : ∀ b off, am = some ⟨b, off, none⟩ → ¬ inLL (.slice (some ⟨g, 0, none⟩) N cap) cs b ∧ b < w.heap.size) :
    Calls Tryz.prog 191 #[.slice am M cm, .slice (some ⟨g, 0, none⟩) N cap] w fun e w' => ∃ cs', e = .returned (.slice (some ⟨g, 0, none⟩) N cap) ∧ LLs w' base (.slice (some ⟨g, 0, none⟩) N cap) cs' (ordR ms ls) ∧ Keeps w (.slice (some ⟨g, 0, none⟩) N cap) cs w' (.slice (some ⟨g, 0, none⟩) N cap) cs' := by
  obtain ⟨W1, hW1⟩ : ∃ W1, w.alloc (.cells #[.slice am M cm] 51) = W1 := ⟨_, rfl⟩
  have hB1 : Below w.heap.size w W1 := by rw [← hW1]; exact (Below.refl _ _).alloc (Nat.le_refl _) _
  have hsz1 : w.heap.size < W1.heap.size := by rw [← hW1]; simp
  have hbx : W1.cell? ⟨w.heap.size, 0, none⟩ = some (.slice am M cm) := by rw [← hW1]; simp
  have hno : ¬ inLL (.slice (some ⟨g, 0, none⟩) N cap) cs w.heap.size := fun e => by have := (h.inB e).2; omega
  have hN6 : N ≤ 1000 := by
    have := full_len hp.full
    have h2 := hp.perm.length_eq
    rw [total_flat] at h2
    have := hN.out; have := hM.out
    omega
  have hlens : ∀ l ∈ ls, l.length ≤ 1000 := fun l hl => by
    have := lens_total ls l hl
    have h2 := hp.perm.length_eq
    rw [total_flat] at h2
    have := hM.out
    omega
  have HS1 := hid (show LLs W1 base (.slice (some ⟨g, 0, none⟩) N cap) cs ls from h.ext hB1)
  have HM1 := hid (hm.ext hB1)
  have HMA : Hid (∀ b off, am = some ⟨b, off, none⟩ → ¬ inLL (.slice (some ⟨g, 0, none⟩) N cap) cs b) := hid fun b off e => (hma b off e).1
  have HMB : Hid (∀ b off, am = some ⟨b, off, none⟩ → b < W1.heap.size) := hid fun b off e => by have := (hma b off e).2; omega
  have HNO := hid hno
  have HBX := hid hbx
  have HS : Hid (base ≤ W1.heap.size) := hid (by omega)
  have HSZ := hid hsz1
  have HB1 := hid hB1
  have HP := hid hp
  have HLENS := hid hlens
  have HN6 := hid hN6
  have HML := hid hml
  clear h hp hm hma hbase hbx hno hB1 hsz1 hlens hml
  go_enter Tryz.func191, Tryz.ntmps191
  go_wp2
  go_loopw [9] (fun i wr => ∃ (k : Nat) (cs' : List Sl), i = .int .i64 k ∧ k ≤ N ∧ LLs wr base (.slice (some ⟨g, 0, none⟩) N cap) cs' (mixL ms ls k) ∧ Keeps W1 (.slice (some ⟨g, 0, none⟩) N cap) cs wr (.slice (some ⟨g, 0, none⟩) N cap) cs') (fun i _ => N - (intOf i).toNat)
  case atStart => exact ⟨0, cs, rfl, Nat.zero_le _, by simpa [mixL] using HS1.out, Keeps.refl _ _ _⟩
  case round =>
    obtain ⟨k, cs', rfl, hk, hown, hkp⟩ := hrel
    have hszr := hkp.mt.size
    have hmr : PidRow wr am ms := HM1.out.mutN hkp.mt (fun b off e => HMA.out b off e)
    have z0 : wr.cell? ⟨w.heap.size, 0, none⟩ = some (.slice am M cm) := (hkp.mt.cell (p := ⟨w.heap.size, 0, none⟩) HSZ.out HNO.out).trans HBX.out
    have hlm : (mixL ms ls k).length = N := by rw [mixL_len]; exact hN.out
    by_cases hlt : k < N
    · have hkl : k < ls.length := by rw [hN.out]; exact hlt
      have hkm : k < (mixL ms ls k).length := by rw [hlm]; exact hlt
      have hget := (show LLs wr base (.slice (some ⟨g, 0, none⟩) (mixL ms ls k).length cap) cs' (mixL ms ls k) by rw [hlm]; exact hown).get hkm
      obtain ⟨g', cap', s, e0, hcap, hbg, hgw, hcs, hcell, hfr, hownk, hsg⟩ := hget
      cases e0
      rw [mixL_get hkl] at hownk
      obtain ⟨l, hl⟩ : ∃ l, ls[k] = l := ⟨_, rfl⟩
      have hll := HLENS.out ls[k] (List.getElem_mem hkl)
      rw [hl] at hownk hll
      obtain ⟨a, c, he, he2, hrow, hlc, hblk⟩ := hownk.sl
      rw [he] at hcell
      obtain ⟨n, hn⟩ : ∃ n, l.length = n := ⟨_, rfl⟩
      obtain ⟨xs, hx⟩ : ∃ xs, commonP ms l = xs := ⟨_, rfl⟩
      rw [hn] at hcell hll
      have C1 := hid (common_n (cm := cm) (c := c) (hid hx) hM HML.out (hid hn) (by omega) hmr hrow)
      have HOWN := hid hown
      have HKP := hid hkp
      have HCS := hid hcs
      have HL := hid hl
      have HX := hid hx
      have HK := hid hkm
      have HLM := hid hlm
      have HKL := hid hkl
      have HGW := hid hgw
      have HSR : Hid (base ≤ wr.heap.size) := hid (by have := HS.out; omega)
      have HFR := hid hfr
      have HCELL := hid hcell
      clear hown hkp hcs hl hx hkm hlm hgw hbg hownk hsg he he2 hrow hlc hblk hn hmr hszr hll hcap
      go_wp2_with fail
      (with_reducible refine C1.out.mono ?_)
      rintro e w3 ⟨v3, rfl, hown3, hb3⟩
      obtain ⟨a3, c3, e3, e3s, -, -, hblk3⟩ := hown3.sl
      obtain ⟨n3, hn3⟩ : ∃ n3, xs.length = n3 := ⟨_, rfl⟩
      rw [hn3] at e3 e3s hblk3
      subst e3
      have hput := (show LLs wr base (.slice (some ⟨g, 0, none⟩) (mixL ms ls k).length cap) cs' (mixL ms ls k) by rw [HLM.out]; exact HOWN.out).put (s' := (a3, n3, c3)) (l' := xs) (w1 := w3) HK.out HCS.out (Mut.of_below hb3) (hown3.mono2 HSR.out) (fun q hq => .inr (hblk3 q hq).1)
      rw [HLM.out, ← HX.out, ← HL.out, mixL_set HKL.out] at hput
      have hcell3 : ∃ u, w3.cell? ⟨g, k, none⟩ = some u := ⟨_, (hb3.cell (by exact HGW.out)).trans HCELL.out⟩
      obtain ⟨u3, hu3⟩ := hcell3
      have hfr3 : w3.frozen? ⟨g, k, none⟩ = false := (hb3.frozen (by exact HGW.out)).trans HFR.out
      have hkp3 : Keeps W1 (.slice (some ⟨g, 0, none⟩) N cap) cs (w3.setCell ⟨g, k, none⟩ (.slice a3 n3 c3)) (.slice (some ⟨g, 0, none⟩) N cap) (cs'.set k (a3, n3, c3)) := by
        refine HKP.out.trans ⟨(Mut.of_below hb3).trans (mut1.mono fun b _ e => .inl (by have e : b = g := e; rw [e]; rfl)), ?_⟩
        rintro b (hb | ⟨s', hs', hb⟩)
        · exact .inl (.inl hb)
        · rcases List.mem_or_eq_of_mem_set hs' with hs' | rfl
          · exact .inl (.inr ⟨s', hs', hb⟩)
          · exact .inr (hblk3 b hb).1
      have HPUT := hid hput
      have HKP3 := hid hkp3
      clear hput hkp3 hown3 hb3 e3s hblk3 hn3 C1 z0 hfr hcell
      go_wp2
      go_roundw
      case rel => exact ⟨k + 1, _, by go_num, by omega, HPUT.out, HKP3.out⟩
      case measure => simp [intOf]; omega
    · have hkN : k = N := by omega
      subst hkN
      have hmap : mixL ms ls k = ls.map (commonP ms) := by unfold mixL; rw [← hN.out]; simp
      rw [hmap] at hown hlm
      have hfull : Full (ls.map (commonP ms)) := by
        intro c hc e
        obtain ⟨l, hl, rfl⟩ := List.mem_map.1 hc
        have := HP.out.head hl
        rw [e] at this; cases this
      have hT : ∀ i j (hi : i < (ls.map (commonP ms)).length) (hj : j < (ls.map (commonP ms)).length), hdIx ms (ls.map (commonP ms))[i] = hdIx ms (ls.map (commonP ms))[j] → i = j := by
        intro i j hi hj e
        have hi' : i < ls.length := by simpa using hi
        have hj' : j < ls.length := by simpa using hj
        rw [List.getElem_map, List.getElem_map, HP.out.hdIx (List.getElem_mem hi'), HP.out.hdIx (List.getElem_mem hj')] at e
        rcases Nat.lt_trichotomy i j with hlt | hlt | hlt
        · exact absurd (by omega) (List.pairwise_iff_getElem.1 HP.out.keys i j hi' hj' hlt)
        · exact hlt
        · exact absurd (by omega) (List.pairwise_iff_getElem.1 HP.out.keys j i hj' hi' hlt)
      have hgin : inLL (.slice (some ⟨g, 0, none⟩) k cap) cs g := .inl rfl
      have C1 := sortLeaf_any (cm := cm) (g2 := w.heap.size) (show LLs wr base (.slice (some ⟨g, 0, none⟩) (ls.map (commonP ms)).length cap) cs' (ls.map (commonP ms)) by rw [hlm]; exact hown) hfull (by rw [hlm]; exact h0) (by rw [hlm]; have := HN6.out; omega) hM HML.out hmr (fun b off e eb => HMA.out b off e (by rw [eb]; exact hgin)) z0 (fun e => HNO.out (by rw [e]; exact hgin)) hT
      rw [hlm] at C1
      have C1 := hid C1
      have HKP := hid hkp
      clear hown hkp hfull hT hmap hlm hszr hmr z0 hgin hk hlt
      go_wp2_with fail
      (with_reducible refine C1.out.mono ?_)
      rintro e w3 ⟨rfl, cs3, ls3, hs3, hp3, hpw3, hmt3, hsub3⟩
      have hord : ls3 = ordR ms ls := HP.out.ord_eq hp3 hpw3
      have HORD := hid hord
      have HS3 := hid hs3
      have HMT3 := hid hmt3
      have HSUB := hid hsub3
      clear hs3 hp3 hpw3 hmt3 hsub3 hord C1
      go_wp2
      go_ret
      refine ⟨cs3, rfl, by rw [← HORD.out]; exact HS3.out, ?_⟩
      have k2 : Keeps W1 (.slice (some ⟨g, 0, none⟩) k cap) cs w3 (.slice (some ⟨g, 0, none⟩) k cap) cs3 := by
        refine HKP.out.trans ⟨HMT3.out.mono fun b _ e => .inl (by rw [e]; rfl), ?_⟩
        rintro b (hb | ⟨s', hs', hb⟩)
        · exact .inl (.inl hb)
        · exact .inl (.inr ⟨s', HSUB.out s' hs', hb⟩)
      exact ⟨(Mut.of_below HB1.out).trans k2.mt, fun q hq => (k2.blk q hq).imp id fun e => by have := HSZ.out; omega⟩
end Go.Proofs.YtehagnbphamjhaaGreatDoor


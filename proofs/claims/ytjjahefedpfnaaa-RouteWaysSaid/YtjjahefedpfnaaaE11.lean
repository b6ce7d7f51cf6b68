import Derived.Test.YtjjahefedpfnaaaE8
import Derived.Test.YtjjahefedpfnaaaB3
namespace Go.Proofs.Ytjjahefedpfnaaa
open Go.RowKit
theorem unionL_app : ∀ (xs ys : List Pid) (L : List (Pid × Unit)), unionL L (xs ++ ys) = unionL (unionL L xs) ys
  | [], _, _ => rfl
  | p :: l, ys, L => by simp only [List.cons_append, unionL]; exact unionL_app l ys _
theorem flat_succ {ls : List (List Pid)} {k : Nat} (h : k < ls.length) {l : List Pid} (hl : l = ls[k]) : (ls.take (k + 1)).flatten = (ls.take k).flatten ++ l := by
  rw [List.take_succ_eq_append_getElem h, List.flatten_append, ← hl]; simp
theorem keys_del_mem {p q : Pid} {L : List (Pid × Unit)} (h : (keys L).Nodup) : q ∈ keys (del p L) ↔ q ∈ keys L ∧ q ≠ p := by
  rw [del_filter h]
  simp only [keys, List.mem_map, List.mem_filter]
  constructor
  · rintro ⟨x, ⟨hx, hn⟩, rfl⟩
    exact ⟨⟨x, hx, rfl⟩, by simpa using hn⟩
  · rintro ⟨⟨x, hx, rfl⟩, hn⟩
    exact ⟨x, ⟨hx, by simpa using hn⟩, rfl⟩
theorem keys_del_nodup {p : Pid} {L : List (Pid × Unit)} (h : (keys L).Nodup) : (keys (del p L)).Nodup := by
  rw [del_filter h]; exact h.sublist (List.Sublist.map _ (List.filter_sublist))
theorem union_nil_nodup (xs : List Pid) : (keys (unionL [] xs)).Nodup := union_keys_nodup xs [] (by simp [keys])
theorem others_common {V : View} {p : Pid} {Ls : List (List Pid)} : commonP V.ms (sortL (keys (del p (unionL [] Ls.flatten)))) = othersP V p Ls := by
  unfold commonP othersP
  apply List.filter_congr
  intro q _
  have : q ∈ sortL (keys (del p (unionL [] Ls.flatten))) ↔ q ∈ Ls.flatten ∧ q ≠ p := by
    rw [mem_sortL, keys_del_mem (union_nil_nodup _), mem_keys_union]; simp [keys]
  rw [Bool.eq_iff_iff]
  simp only [decide_eq_true_eq, Bool.and_eq_true, Bool.not_eq_true', decide_eq_false_iff_not]
  exact this
theorem list_ext {s r : Nat} {L : List (Pid × Unit)} {w : World} {X : List Pid} {N : Nat} (hS : SetIs w s r L) (hnd : (keys L).Nodup) (hok : ∀ p ∈ keys L, ok p) (hn : L.length ≤ 549755813888) (hX : Hid (sortL (keys L) = X)) (hN : Hid (X.length = N)) :
   Calls Try.prog 43 #[.pointer (some ⟨s, 0, none⟩)] w fun e w' => ∃ a c, e = .returned (.slice a N c) ∧ PidRow w' a X ∧ Below w.heap.size w w' := by
  refine (list_any s r L w hS hnd hok hn).mono ?_
  rintro e w' ⟨v, rfl, hown, hb⟩
  obtain ⟨a, c, rfl, hrow, -⟩ := hown.row
  rw [hX.out, hN.out] at *
  rw [hX.out] at hrow
  exact ⟨a, c, rfl, hrow, hb⟩
theorem common_len {a : Option Addr} {c n : Nat} {xs : List Pid} {b : Option Addr} {d m : Nat} {ys : List Pid} {w : World} (hn' : Hid (xs.length = n)) (hm' : Hid (ys.length = m)) (hn : xs.length ≤ 549755813888) (hm : ys.length ≤ 549755813888) (hx : PidRow w a xs) (hy : PidRow w b ys) :
   Calls Try.prog 30 #[.slice a n c, .slice b m d] w fun e w' => ∃ v, e = .returned v ∧ OwnP w' w.heap.size v (commonP xs ys) ∧ Below w.heap.size w w' := by
  rw [← hn'.out, ← hm'.out]; exact common_any a c xs b d ys w hn hm hx hy
structure FineL (Ls : List (List Pid)) : Prop where
  wf : ∀ l ∈ Ls, WfPids l
  len : Ls.length ≤ 549755813888
  sum : Ls.flatten.length ≤ 549755813888
  each : ∀ l ∈ Ls, l.length ≤ 549755813888

set_option maxRecDepth 100000 in
set_option maxHeartbeats 3200000 in
theorem others_any (V : View) (am al ad : Option Addr) (cm cl cd : Nat) (x y : Int) (a : Option Addr) (c : Nat) (Ls : List (List Pid)) (w : World) (hV : ViewR w am al ad V) (hf : Fine V) (hL : LeafRow w a Ls) (hfl : FineL Ls) :
    Calls Try.prog 80 #[viewV V am al ad cm cl cd, .agg #[.int .u16 x, .int .u32 y], .slice a Ls.length c] w fun e w' => ∃ v, e = .returned v ∧ OwnP w' w.heap.size v (othersP V (x, y) Ls) ∧ Below w.heap.size w w' := by
  have hB2 : Below w.heap.size w ((w.alloc (.cells (vcells V am al ad cm cl cd) 68)).alloc (.cells #[.int .u16 x, .int .u32 y] 32)) := ((Below.refl _ _).alloc (Nat.le_refl _) _).alloc (by simp) _
  have hp := Box2.made (w.alloc (.cells (vcells V am al ad cm cl cd) 68)) (v0 := .int .u16 x) (v1 := .int .u32 y) 32
  have hvb := (ViewBox.made (V := V) (am := am) (al := al) (ad := ad) (cm := cm) (cl := cl) (cd := cd) w).ext (B := w.heap.size + 1) ((Below.refl _ _).alloc (by simp) (.cells #[.int .u16 x, .int .u32 y] 32)) (by omega)
  have hz2 : ((w.alloc (.cells (vcells V am al ad cm cl cd) 68)).alloc (.cells #[.int .u16 x, .int .u32 y] 32)).heap.size = w.heap.size + 1 + 1 := by simp
  have hV2 := hV.ext hB2
  have hL2 := hL.ext hB2
  have HLEN := hid hfl.len
  have hlen := hfl.len
  have hms := hf.ms
  simp only [World.size_alloc] at hp
  obtain ⟨w2, hw2⟩ : ∃ w2, ((w.alloc (.cells (vcells V am al ad cm cl cd) 68)).alloc (.cells #[.int .u16 x, .int .u32 y] 32)) = w2 := ⟨_, rfl⟩
  rw [hw2] at hB2 hp hvb hz2 hV2 hL2
  have HZ := hid hz2
  clear hz2
  go_enter Try.func80, Try.ntmps80
  go_wp2_with (go_at_call 34; refine (new_is (n := 0) (ys := []) (hid rfl) (by simp) (.inl rfl)).mono ?_; rintro e w3 ⟨s, rm, rfl, hs, hr, hS, hb3⟩)
  clear hw2
  go_loopw [13] (fun i wr => ∃ k : Nat, k ≤ Ls.length ∧ i = .int .i64 k ∧ SetIs wr s rm (unionL [] (Ls.take k).flatten) ∧ Below w2.heap.size w2 wr) (fun i _ => Ls.length - (intOf i).toNat)
  case atStart => exact ⟨0, Nat.zero_le _, rfl, by simpa [unionL] using hS, hb3⟩
  case round =>
    obtain ⟨k, hk, rfl, hSr, hb⟩ := hrel
    have hsr := hb.size
    by_cases hlt : k < Ls.length
    · obtain ⟨b, off, ai, ci, l, rfl, hx, d1, d2⟩ := hL2.at hb rfl hlt
      have hlm : l ∈ Ls := by rw [hx]; exact List.getElem_mem _
      have hll := hfl.each l hlm
      have hfs : unionL (unionL [] (Ls.take k).flatten) l = unionL [] (Ls.take (k + 1)).flatten := by rw [flat_succ hlt hx, unionL_app]
      have HX := hid hx
      clear hx
      go_wp2_with (go_at_call 39; refine (union_is (hid rfl) rfl hfs (by omega) d2 hSr).mono ?_; rintro e w4 ⟨rfl, hS4, hm4⟩)
      go_roundw
      case rel => exact ⟨k + 1, by omega, by go_num, hS4, hb.trans (hm4.below hsr (fun k e => by subst e; exact hr))⟩
      case measure => simp [intOf]; omega
    · have htk : Ls.take k = Ls := List.take_of_length_le (by omega)
      rw [htk] at hSr
      have HTK := hid htk
      clear htk
      obtain ⟨bs, hbs⟩ : ∃ bs, (look (x, y) (unionL [] Ls.flatten)).isSome = bs := ⟨_, rfl⟩
      have z0 := cell_to hp.c0 hb
      have z1 := cell_to hp.c1 hb
      go_wp2_with (go_at_call 38; refine (drop_is s rm _ x y hbs _ hSr).mono ?_; rintro e w5 ⟨rfl, hS5, hm5⟩)
      have hb5 : Below w2.heap.size w2 w5 := hb.trans (hm5.below hsr (fun k e => by subst e; exact hr))
      obtain ⟨-, v1, -, -⟩ := hvb.ext hb5 (by have := HZ.out; omega)
      have hV5 := hV2.ext hb5
      have hnd := keys_del_nodup (p := (x, y)) (union_nil_nodup Ls.flatten)
      have hsub : ∀ q ∈ keys (del (x, y) (unionL [] Ls.flatten)), q ∈ Ls.flatten := fun q hq => by
        have := ((keys_del_mem (union_nil_nodup _)).1 hq).1
        rw [mem_keys_union] at this; simpa [keys] using this
      have hokk : ∀ q ∈ keys (del (x, y) (unionL [] Ls.flatten)), ok q := fun q hq => by
        obtain ⟨l, hl, hql⟩ := List.mem_flatten.1 (hsub q hq)
        exact hfl.wf l hl q hql
      have hnlen : (del (x, y) (unionL [] Ls.flatten)).length ≤ 549755813888 := by
        have h1 := nodup_len hnd hsub
        simp only [keys, List.length_map] at h1
        have := hfl.sum; omega
      obtain ⟨X, hX⟩ : ∃ X, sortL (keys (del (x, y) (unionL [] Ls.flatten))) = X := ⟨_, rfl⟩
      obtain ⟨N, hN⟩ : ∃ N, X.length = N := ⟨_, rfl⟩
      have hXN : X.length ≤ 549755813888 := by rw [← hX, sortL_length]; simpa [keys] using hnlen
      have HO : Hid (commonP V.ms X = othersP V (x, y) Ls) := hid (by rw [← hX]; exact others_common)
      have HX := hid hX
      have HN := hid hN
      have HS : Hid (∀ W, Below w5.heap.size w5 W → Below w5.heap.size w5 W ∧ W.cell? ⟨w.heap.size, 1, none⟩ = some (.slice am V.ms.length cm)) := hid fun W h => ⟨h, cell_to v1 h⟩
      have C1 : Hid (∀ W, Below w5.heap.size w5 W → Calls Try.prog 43 #[.pointer (some ⟨s, 0, none⟩)] W fun e w' => ∃ a c, e = .returned (.slice a N c) ∧ PidRow w' a X ∧ Below w5.heap.size w5 w') := hid fun W h => ((list_ext (hS5.ext h) hnd hokk hnlen HX HN).mono fun e w' ⟨a, c, h1, h2, h3⟩ => ⟨a, c, h1, h2, h.trans (h3.mono h.size)⟩)
      have C2 : Hid (∀ W aa cc, Below w5.heap.size w5 W → PidRow W aa X → Calls Try.prog 30 #[.slice am V.ms.length cm, .slice aa N cc] W fun e w' => ∃ v, e = .returned v ∧ OwnP w' w5.heap.size v (commonP V.ms X) ∧ Below w5.heap.size w5 w') := hid fun W aa cc h hr => ((common_len (hid rfl) HN hms hXN (hV5.ms.ext h) hr).mono fun e w' ⟨v, h1, h2, h3⟩ => ⟨v, h1, h2.mono h.size, h.trans (h3.mono h.size)⟩)
      have H0 : Below w5.heap.size w5 w5.drew := (Below.refl _ _).drew
      clear hX hN hXN hnd hsub hokk hnlen hbs v1 hV5 hV2 hL2 hS5 hSr z0 z1 hp hvb
      go_region_held3 (fun W => Below w5.heap.size w5 W ∧ W.cell? ⟨w.heap.size, 1, none⟩ = some (.slice am V.ms.length cm)) (first | exact HS.out _ H0 | exact HS.out _ (by assumption)) (first | ((go_at_call 43; refine (C1.out _ (by assumption)).mono ?_; rintro e w6 ⟨a6, c6, rfl, hrow6, hb6⟩)) | ((go_at_call 30; refine (C2.out _ _ _ (by assumption) (by assumption)).mono ?_; rintro e w7 ⟨v7, rfl, hown7, hb7⟩)))
      all_goals (
        go_wp2
        go_ret
        exact ⟨_, rfl, by rw [← HO.out]; exact hown7.mono (by have := hb5.size; have := hB2.size; omega), (hB2.trans (hb5.mono hB2.size)).trans (hb7.mono (by have := hb5.size; have := hB2.size; omega))⟩)
end Go.Proofs.Ytjjahefedpfnaaa

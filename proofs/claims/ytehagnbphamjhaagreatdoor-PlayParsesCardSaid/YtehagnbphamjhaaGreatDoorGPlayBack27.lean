/- Parts of the proof: BU E11 E12. -/
import Derived.Test.YtehagnbphamjhaaGreatDoorE10
namespace Go.Proofs.YtehagnbphamjhaaGreatDoor
open Go.RowKit
/-! ### sets: New and Union, answers by name -/
theorem mem_keys_union {p : Pid} {L : List (Pid × Unit)} {xs : List Pid} : p ∈ keys (unionL L xs) ↔ p ∈ keys L ∨ p ∈ xs := mem_unionL
theorem new_is {a : Option Addr} {c n : Nat} {ys : List Pid} {w : World} (h : Hid (n = ys.length)) (hn : ys.length ≤ 70368744177664) (hrow : PidRow w a ys) :
   Calls Tryz.prog 142 #[.slice a n c] w fun e w' => ∃ s r, e = .returned (.pointer (some ⟨s, 0, none⟩)) ∧ w.heap.size ≤ s ∧ w.heap.size ≤ r ∧ SetIs w' s r (unionL [] ys) ∧ Below w.heap.size w w' := by
  rw [h.out]; exact new_any a c ys w hn hrow
theorem union_is {s r : Nat} {L : List (Pid × Unit)} {a : Option Addr} {c n : Nat} {ys : List Pid} {w : World} {m : Int} {L' : List (Pid × Unit)} (h : Hid (n = ys.length)) (hm : ((unionN L ys : Nat) : Int) = m) (hL : unionL L ys = L') (hn : ys.length ≤ 70368744177664) (hrow : PidRow w a ys) (hS : SetIs w s r L) :
   Calls Tryz.prog 195 #[.pointer (some ⟨s, 0, none⟩), .slice a n c] w fun e w' => e = .returned (.int .i64 m) ∧ SetIs w' s r L' ∧ Mut (fun k => k = r) w w' := by
  have := union_any s r L a c ys w hn hrow hS
  rw [hm, hL, ← h.out] at this
  exact this
end Go.Proofs.YtehagnbphamjhaaGreatDoor

namespace Go.Proofs.YtehagnbphamjhaaGreatDoor
open Go.RowKit
theorem unionL_app : ∀ (xs ys : List Pid) (L : List (Pid × Unit)), unionL L (xs ++ ys) = unionL (unionL L xs) ys
  | [], _, _ => rfl
  | p :: l, ys, L => by simp only [List.cons_append, unionL]; exact unionL_app l ys _
theorem flat_succ {ls : List (List Pid)} {k : Nat} (h : k < ls.length) {l : List Pid} (hl : l = ls[k]) : (ls.take (k + 1)).flatten = (ls.take k).flatten ++ l := by
  rw [List.take_succ_eq_append_getElem h, List.flatten_append, ← hl]; simp
theorem keys_del_mem {p q : Pid} {L : List (Pid × Unit)} (h : (keys L).Nodup) : q ∈ keys (del p L) ↔ q ∈ keys L ∧ q ≠ p := by
  rw [del_filter h]
  simp only [keys, List.mem_map, List.mem_filter]
  constructor
  · rintro ⟨x, ⟨hx, hn⟩, rfl⟩
    exact ⟨⟨x, hx, rfl⟩, by simpa using hn⟩
  · rintro ⟨⟨x, hx, rfl⟩, hn⟩
    exact ⟨x, ⟨hx, by simpa using hn⟩, rfl⟩
theorem keys_del_nodup {p : Pid} {L : List (Pid × Unit)} (h : (keys L).Nodup) : (keys (del p L)).Nodup := by
  rw [del_filter h]; exact h.sublist (List.Sublist.map _ (List.filter_sublist))
theorem union_nil_nodup (xs : List Pid) : (keys (unionL [] xs)).Nodup := union_keys_nodup xs [] (by simp [keys])
theorem others_common {V : View} {p : Pid} {Ls : List (List Pid)} : commonP V.ms (sortL (keys (del p (unionL [] Ls.flatten)))) = othersP V p Ls := by
  unfold commonP othersP
  apply List.filter_congr
  intro q _
  have : q ∈ sortL (keys (del p (unionL [] Ls.flatten))) ↔ q ∈ Ls.flatten ∧ q ≠ p := by
    rw [mem_sortL, keys_del_mem (union_nil_nodup _), mem_keys_union]; simp [keys]
  rw [Bool.eq_iff_iff]
  simp only [decide_eq_true_eq, Bool.and_eq_true, Bool.not_eq_true', decide_eq_false_iff_not]
  exact this
theorem list_ext {s r : Nat} {L : List (Pid × Unit)} {w : World} {X : List Pid} {N : Nat} (hS : SetIs w s r L) (hnd : (keys L).Nodup) (hok : ∀ p ∈ keys L, ok p) (hn : L.length ≤ 549755813888) (hX : Hid (sortL (keys L) = X)) (hN : Hid (X.length = N)) :
   Calls Tryz.prog 260 #[.pointer (some ⟨s, 0, none⟩)] w fun e w' => ∃ a c, e = .returned (.slice a N c) ∧ PidRow w' a X ∧ Below w.heap.size w w' := by
  refine (list_any s r L w hS hnd hok hn).mono ?_
  rintro e w' ⟨v, rfl, hown, hb⟩
  obtain ⟨a, c, rfl, hrow, -⟩ := hown.row
  rw [hX.out, hN.out] at *
  rw [hX.out] at hrow
  exact ⟨a, c, rfl, hrow, hb⟩
theorem common_len {a : Option Addr} {c n : Nat} {xs : List Pid} {b : Option Addr} {d m : Nat} {ys : List Pid} {w : World} (hn' : Hid (xs.length = n)) (hm' : Hid (ys.length = m)) (hn : xs.length ≤ 549755813888) (hm : ys.length ≤ 549755813888) (hx : PidRow w a xs) (hy : PidRow w b ys) :
   Calls Tryz.prog 251 #[.slice a n c, .slice b m d] w fun e w' => ∃ v, e = .returned v ∧ OwnP w' w.heap.size v (commonP xs ys) ∧ Below w.heap.size w w' := by
  rw [← hn'.out, ← hm'.out]; exact common_any a c xs b d ys w hn hm hx hy
structure FineL (Ls : List (List Pid)) : Prop where
  wf : ∀ l ∈ Ls, WfPids l
  len : Ls.length ≤ 549755813888
  sum : Ls.flatten.length ≤ 549755813888
  each : ∀ l ∈ Ls, l.length ≤ 549755813888

set_option maxRecDepth 100000 in
set_option maxHeartbeats 3200000 in
theorem others_any (V : View) (am al ad : Option Addr) (cm cl cd : Nat) (x y : Int) (a : Option Addr) (c : Nat) (Ls : List (List Pid)) (w : World) (hV : ViewR w am al ad V) (hf : Fine V) (hL : LeafRow w a Ls) (hfl : FineL Ls) :
    Calls Tryz.prog 265 #[viewV V am al ad cm cl cd, .agg #[.int .u16 x, .int .u32 y], .slice a Ls.length c] w fun e w' => ∃ v, e = .returned v ∧ OwnP w' w.heap.size v (othersP V (x, y) Ls) ∧ Below w.heap.size w w' := by
  have hB2 : Below w.heap.size w ((w.alloc (.cells (vcells V am al ad cm cl cd) 54)).alloc (.cells #[.int .u16 x, .int .u32 y] 46)) := ((Below.refl _ _).alloc (Nat.le_refl _) _).alloc (by simp) _
  have hp := Box2.made (w.alloc (.cells (vcells V am al ad cm cl cd) 54)) (v0 := .int .u16 x) (v1 := .int .u32 y) 46
  have hvb := (ViewBox.made (V := V) (am := am) (al := al) (ad := ad) (cm := cm) (cl := cl) (cd := cd) w).ext (B := w.heap.size + 1) ((Below.refl _ _).alloc (by simp) (.cells #[.int .u16 x, .int .u32 y] 46)) (by omega)
  have hz2 : ((w.alloc (.cells (vcells V am al ad cm cl cd) 54)).alloc (.cells #[.int .u16 x, .int .u32 y] 46)).heap.size = w.heap.size + 1 + 1 := by simp
  have hV2 := hV.ext hB2
  have hL2 := hL.ext hB2
  have HLEN := hid hfl.len
  have hlen := hfl.len
  have hms := hf.ms
  simp only [World.size_alloc] at hp
  obtain ⟨w2, hw2⟩ : ∃ w2, ((w.alloc (.cells (vcells V am al ad cm cl cd) 54)).alloc (.cells #[.int .u16 x, .int .u32 y] 46)) = w2 := ⟨_, rfl⟩
  rw [hw2] at hB2 hp hvb hz2 hV2 hL2
  have HZ := hid hz2
  clear hz2
  go_enter Tryz.func265, Tryz.ntmps265
  go_wp2_with (go_at_call 142; refine (new_is (n := 0) (ys := []) (hid rfl) (by simp) (.inl rfl)).mono ?_; rintro e w3 ⟨s, rm, rfl, hs, hr, hS, hb3⟩)
  clear hw2
  go_loopw [13] (fun i wr => ∃ k : Nat, k ≤ Ls.length ∧ i = .int .i64 k ∧ SetIs wr s rm (unionL [] (Ls.take k).flatten) ∧ Below w2.heap.size w2 wr) (fun i _ => Ls.length - (intOf i).toNat)
  case atStart => exact ⟨0, Nat.zero_le _, rfl, by simpa [unionL] using hS, hb3⟩
  case round =>
    obtain ⟨k, hk, rfl, hSr, hb⟩ := hrel
    have hsr := hb.size
    by_cases hlt : k < Ls.length
    · obtain ⟨b, off, ai, ci, l, rfl, hx, d1, d2⟩ := hL2.at hb rfl hlt
      have hlm : l ∈ Ls := by rw [hx]; exact List.getElem_mem _
      have hll := hfl.each l hlm
      have hfs : unionL (unionL [] (Ls.take k).flatten) l = unionL [] (Ls.take (k + 1)).flatten := by rw [flat_succ hlt hx, unionL_app]
      have HX := hid hx
      clear hx
      go_wp2_with (go_at_call 195; refine (union_is (hid rfl) rfl hfs (by omega) d2 hSr).mono ?_; rintro e w4 ⟨rfl, hS4, hm4⟩)
      go_roundw
      case rel => exact ⟨k + 1, by omega, by go_num, hS4, hb.trans (hm4.below hsr (fun k e => by subst e; exact hr))⟩
      case measure => simp [intOf]; omega
    · have htk : Ls.take k = Ls := List.take_of_length_le (by omega)
      rw [htk] at hSr
      have HTK := hid htk
      clear htk
      obtain ⟨bs, hbs⟩ : ∃ bs, (look (x, y) (unionL [] Ls.flatten)).isSome = bs := ⟨_, rfl⟩
      have z0 := cell_to hp.c0 hb
      have z1 := cell_to hp.c1 hb
      go_wp2_with (go_at_call 267; refine (drop_is s rm _ x y hbs _ hSr).mono ?_; rintro e w5 ⟨rfl, hS5, hm5⟩)
      have hb5 : Below w2.heap.size w2 w5 := hb.trans (hm5.below hsr (fun k e => by subst e; exact hr))
      obtain ⟨-, v1, -, -⟩ := hvb.ext hb5 (by have := HZ.out; omega)
      have hV5 := hV2.ext hb5
      have hnd := keys_del_nodup (p := (x, y)) (union_nil_nodup Ls.flatten)
      have hsub : ∀ q ∈ keys (del (x, y) (unionL [] Ls.flatten)), q ∈ Ls.flatten := fun q hq => by
        have := ((keys_del_mem (union_nil_nodup _)).1 hq).1
        rw [mem_keys_union] at this; simpa [keys] using this
      have hokk : ∀ q ∈ keys (del (x, y) (unionL [] Ls.flatten)), ok q := fun q hq => by
        obtain ⟨l, hl, hql⟩ := List.mem_flatten.1 (hsub q hq)
        exact hfl.wf l hl q hql
      have hnlen : (del (x, y) (unionL [] Ls.flatten)).length ≤ 549755813888 := by
        have h1 := nodup_len hnd hsub
        simp only [keys, List.length_map] at h1
        have := hfl.sum; omega
      obtain ⟨X, hX⟩ : ∃ X, sortL (keys (del (x, y) (unionL [] Ls.flatten))) = X := ⟨_, rfl⟩
      obtain ⟨N, hN⟩ : ∃ N, X.length = N := ⟨_, rfl⟩
      have hXN : X.length ≤ 549755813888 := by rw [← hX, sortL_length]; simpa [keys] using hnlen
      have HO : Hid (commonP V.ms X = othersP V (x, y) Ls) := hid (by rw [← hX]; exact others_common)
      have HX := hid hX
      have HN := hid hN
      have HS : Hid (∀ W, Below w5.heap.size w5 W → Below w5.heap.size w5 W ∧ W.cell? ⟨w.heap.size, 1, none⟩ = some (.slice am V.ms.length cm)) := hid fun W h => ⟨h, cell_to v1 h⟩
      have C1 : Hid (∀ W, Below w5.heap.size w5 W → Calls Tryz.prog 260 #[.pointer (some ⟨s, 0, none⟩)] W fun e w' => ∃ a c, e = .returned (.slice a N c) ∧ PidRow w' a X ∧ Below w5.heap.size w5 w') := hid fun W h => ((list_ext (hS5.ext h) hnd hokk hnlen HX HN).mono fun e w' ⟨a, c, h1, h2, h3⟩ => ⟨a, c, h1, h2, h.trans (h3.mono h.size)⟩)
      have C2 : Hid (∀ W aa cc, Below w5.heap.size w5 W → PidRow W aa X → Calls Tryz.prog 251 #[.slice am V.ms.length cm, .slice aa N cc] W fun e w' => ∃ v, e = .returned v ∧ OwnP w' w5.heap.size v (commonP V.ms X) ∧ Below w5.heap.size w5 w') := hid fun W aa cc h hr => ((common_len (hid rfl) HN hms hXN (hV5.ms.ext h) hr).mono fun e w' ⟨v, h1, h2, h3⟩ => ⟨v, h1, h2.mono h.size, h.trans (h3.mono h.size)⟩)
      have H0 : Below w5.heap.size w5 w5.drew := (Below.refl _ _).drew
      clear hX hN hXN hnd hsub hokk hnlen hbs v1 hV5 hV2 hL2 hS5 hSr z0 z1 hp hvb
      go_region_held3 (fun W => Below w5.heap.size w5 W ∧ W.cell? ⟨w.heap.size, 1, none⟩ = some (.slice am V.ms.length cm)) (first | exact HS.out _ H0 | exact HS.out _ (by assumption)) (first | ((go_at_call 260; refine (C1.out _ (by assumption)).mono ?_; rintro e w6 ⟨a6, c6, rfl, hrow6, hb6⟩)) | ((go_at_call 251; refine (C2.out _ _ _ (by assumption) (by assumption)).mono ?_; rintro e w7 ⟨v7, rfl, hown7, hb7⟩)))
      all_goals (
        go_wp2
        go_ret
        exact ⟨_, rfl, by rw [← HO.out]; exact hown7.mono (by have := hb5.size; have := hB2.size; omega), (hB2.trans (hb5.mono hB2.size)).trans (hb7.mono (by have := hb5.size; have := hB2.size; omega))⟩)
end Go.Proofs.YtehagnbphamjhaaGreatDoor

namespace Go.Proofs.YtehagnbphamjhaaGreatDoor
open Go.RowKit
/-! ### lists of lists that the call owns -/
theorem info33 : (Tryz.prog.info? 51).map (fun i => (i.zero, i.size, i.bytes)) = some (some (.slice none 0 0), 1, 24) := by kernel_rfl
theorem PidRow.grown {w w' : World} {a : Option Addr} {l : List Pid} {row : Option Nat} (h : PidRow w a l) (hg : w.grownBy w' row) (hne : ∀ b off, a = some ⟨b, off, none⟩ → l ≠ [] → row ≠ some b) : PidRow w' a l := by
  rcases h with rfl | ⟨b, off, rfl, hlt, hc⟩
  · exact .inl rfl
  · by_cases hl : l = []
    · exact .inl hl
    · have hb := hg.block b hlt (fun e => hne b off rfl hl e.symm)
      refine .inr ⟨b, off, rfl, by have := hg.size; omega, fun i hi => ?_⟩
      obtain ⟨h1, h2⟩ := hc i hi
      exact ⟨(World.cell?_of_block (w := w) hb).trans h1, (World.cell?_of_block (w := w) hb).trans h2⟩
def Elem (w : World) (row : Option Nat) (u : Option Value) (l : List Pid) : Prop := ∃ ai ci, u = some (.slice ai l.length ci) ∧ PidRow w ai l ∧ ∀ b off, ai = some ⟨b, off, none⟩ → l ≠ [] → row ≠ some b
def OwnL (w : World) (base : Nat) (v : Value) (Ls : List (List Pid)) : Prop := ∃ cells : List Value, w.ownsRow base 51 1 v Ls.length cells ∧ ∀ i (h : i < Ls.length), Elem w v.ownBlock cells[i]? Ls[i]
theorem OwnL.nil (w : World) (base : Nat) : OwnL w base (.slice none 0 0) [] := ⟨[], World.ownsRow_nil _ _ _ _, fun i h => by simp at h⟩
theorem OwnL.ext {w w' : World} {base : Nat} {v : Value} {Ls : List (List Pid)} (h : OwnL w base v Ls) (hb : Below w.heap.size w w') : OwnL w' base v Ls := by
  obtain ⟨cells, ho, he⟩ := h
  refine ⟨cells, ⟨ho.1, ?_⟩, fun i hi => ?_⟩
  · rcases ho.2 with hn | ⟨g, cap, cur, rfl, hbb, hgg, rest⟩
    · exact .inl hn
    · exact .inr ⟨g, cap, cur, rfl, hbb, (hb.block g (Array.getElem?_eq_some_iff.1 hgg).1).trans hgg, rest⟩
  · obtain ⟨ai, ci, h1, h2, h3⟩ := he i hi
    exact ⟨ai, ci, h1, h2.ext hb, h3⟩
theorem OwnL.alloc {w : World} {base : Nat} {v : Value} {Ls : List (List Pid)} (h : OwnL w base v Ls) (o : Obj) : OwnL (w.alloc o) base v Ls := h.ext ((Below.refl _ _).alloc (Nat.le_refl _) _)
theorem OwnL.row {w : World} {base : Nat} {v : Value} {Ls : List (List Pid)} (h : OwnL w base v Ls) : ∃ a c, v = .slice a Ls.length c ∧ LeafRow w a Ls := by
  obtain ⟨cells, ho, he⟩ := h
  have hcells := fun g => World.ownsRow.cells (g := g) ho
  rcases ho.2 with ⟨rfl, hn⟩ | ⟨g, cap, cur, rfl, hb, hg, hnc, hcm, hcs, htake⟩
  · exact ⟨none, 0, by rw [hn], .inl (List.length_eq_zero_iff.1 hn)⟩
  · refine ⟨_, cap, rfl, .inr ⟨g, 0, rfl, (Array.getElem?_eq_some_iff.1 hg).1, fun i hi => ?_⟩⟩
    obtain ⟨ai, ci, h1, h2, _⟩ := he i hi
    have := hcells g rfl i _ h1
    rw [addr_add] at this
    exact ⟨ai, ci, this, h2⟩
theorem OwnL.made (w : World) {a : Option Addr} {l : List Pid} {n c : Nat} {base : Nat} (hn : n = l.length) (hr : PidRow w a l) (hb : base ≤ w.heap.size) :
    OwnL (w.alloc (.cells #[.slice a n c] 51)) base (.slice (some ⟨w.heap.size, 0, none⟩) 1 1) [l] := by
  subst hn
  refine ⟨[.slice a l.length c], ⟨rfl, .inr ⟨w.heap.size, 1, #[.slice a l.length c], rfl, hb, heap_alloc_new w _, Nat.le_refl _, by unfold maxLen; omega, rfl, rfl⟩⟩, fun i hi => ?_⟩
  have hi' : i = 0 := by simpa using hi
  subst hi'
  refine ⟨a, c, rfl, hr.alloc _, fun b off e hl => ?_⟩
  rcases hr with h | ⟨b', off', e', hlt, _⟩
  · exact absurd h hl
  · rw [e] at e'; cases e'
    simp [Value.ownBlock]; omega
/-- 'append(l, x)' at the operation -/
theorem wpList_appendL {w : World} {ops : Array Oper} {rest : List Oper} {o : Oper} {act : Go.Act} {Q : Exit → Go.Act → World → Prop} {s x : Operand} {base : Nat} {v : Value} {Ls : List (List Pid)} {l : List Pid} (hown : OwnL w base v Ls) {b c n cx : Nat} {ax : Option Addr}
    (h0 : w.cell? ⟨b, 0, none⟩ = some (.slice ax n cx)) (hn : n = l.length) (hr : PidRow w ax l) (hne : ∀ b off, ax = some ⟨b, off, none⟩ → l ≠ [] → v.ownBlock ≠ some b)
    (hlen : Ls.length + 1 ≤ 1099511627776) (hbase : base ≤ w.heap.size)
    (hg : o.guard = none) (ho : o.op = .call { callee := .builtin .append, args := #[s, x], argTypes := #[52, 52] }) (hs : act.eval s = v) (hx : act.eval x = .slice (some ⟨b, 0, none⟩) 1 c)
    (h : ∀ v' w', OwnL w' base v' (Ls ++ [l]) → w.grownBy w' v.ownBlock → wpList Tryz.prog ops Q rest (act.put o.dst v') w') : wpList Tryz.prog ops Q (o :: rest) act w := by
  subst hn
  obtain ⟨i0, hi, hz0, hz1, hz2⟩ := info_parts info33
  obtain ⟨cells, hoc, he⟩ := hown
  obtain ⟨v', w', hrun, h2, h3, h4, h5⟩ := run_append_own_at (P := Tryz.prog) w base 52 o.type 51 i0 _ 1 24 Tryz.underlying52 hi hz0 hz1 hz2 rfl (by decide) v Ls.length cells hoc ⟨b, 0, none⟩ 1 c [.slice ax l.length cx] rfl (fun j u hu => by
    have hj : j = 0 := by have := (List.getElem?_eq_some_iff.1 hu).1; simpa using this
    subst hj
    rw [addr_add]
    simp at hu; subst hu
    exact h0) (fun u hu => by simp at hu; subst hu; rfl) (by unfold maxLen; omega) (by omega) hbase
  have hcl : cells.length = Ls.length := by simpa using hoc.1
  have far : ∀ (ai : Option Addr) (m : List Pid), PidRow w ai m → (∀ b off, ai = some ⟨b, off, none⟩ → m ≠ [] → v.ownBlock ≠ some b) → ∀ b off, ai = some ⟨b, off, none⟩ → m ≠ [] → v'.ownBlock ≠ some b := by
    intro ai m hm hno b off e hml
    rcases h5 with h5 | h5
    · rw [h5]; exact hno b off e hml
    · rw [h5]
      rcases hm with hm | ⟨b', off', e', hlt, _⟩
      · exact absurd hm hml
      · rw [e] at e'; cases e'
        intro e2; simp at e2; omega
  refine Lib.wpList_append_run w hg s x 52 52 ho _ _ hs hx v' w' hrun (h v' w' ⟨cells ++ [.slice ax l.length cx], ?_, fun i hi => ?_⟩ h3)
  · rw [List.length_append]; exact h2
  · by_cases hlt : i < Ls.length
    · obtain ⟨ai, ci, g1, g2, g3⟩ := he i hlt
      rw [List.getElem?_append_left (by omega), List.getElem_append_left hlt]
      exact ⟨ai, ci, g1, g2.grown h3 g3, far ai _ g2 g3⟩
    · have hi' : i = Ls.length := by simp at hi; omega
      subst hi'
      rw [List.getElem?_append_right (by omega), List.getElem_append_right (by omega)]
      simp only [hcl, Nat.sub_self, List.getElem?_cons_zero, List.getElem_cons_zero]
      exact ⟨ax, cx, rfl, hr.grown h3 hne, far ax l hr hne⟩

/-! ### a view, a rumor and a process, boxed -/
structure Frm (w : World) (n : Nat) (V : View) (am al ad : Option Addr) (cm cl cd : Nat) (r : Nat → Int) (x y : Int) : Prop where
  vb : ViewBox w n V am al ad cm cl cd
  rb : RumBox w (n + 1) r
  c0 : w.cell? ⟨n + 1 + 1, 0, none⟩ = some (.int .u16 x)
  c1 : w.cell? ⟨n + 1 + 1, 1, none⟩ = some (.int .u32 y)
theorem Frm.ext {w w' : World} {n : Nat} {V : View} {am al ad : Option Addr} {cm cl cd : Nat} {r : Nat → Int} {x y : Int} (h : Frm w n V am al ad cm cl cd r x y) (hb : Below w.heap.size w w') : Frm w' n V am al ad cm cl cd r x y :=
  ⟨h.vb.ext hb h.vb.lt, h.rb.ext hb (by have := World.block_lt_of_cell? w _ h.c0; simp only at this; omega), cell_to h.c0 hb, cell_to h.c1 hb⟩
theorem Frm.made (w : World) (V : View) (am al ad : Option Addr) (cm cl cd : Nat) (r : Nat → Int) (x y : Int) :
    Frm (((w.alloc (.cells (vcells V am al ad cm cl cd) 54)).alloc (.cells (RL r).toArray 230)).alloc (.cells #[.int .u16 x, .int .u32 y] 46)) w.heap.size V am al ad cm cl cd r x y := by
  have hp2 := Box2.made ((w.alloc (.cells (vcells V am al ad cm cl cd) 54)).alloc (.cells (RL r).toArray 230)) (v0 := .int .u16 x) (v1 := .int .u32 y) 46
  have hR3 := (RumBox.madeV (w.alloc (.cells (vcells V am al ad cm cl cd) 54)) r).ext (B := w.heap.size + 1 + 1) ((Below.refl _ _).alloc (by simp) (.cells #[.int .u16 x, .int .u32 y] 46)) (by simp)
  simp only [World.size_alloc] at hp2 hR3
  exact ⟨((ViewBox.made (V := V) (am := am) (al := al) (ad := ad) (cm := cm) (cl := cl) (cd := cd) w).ext (B := w.heap.size + 1) ((Below.refl _ _).alloc (by simp) (.cells (RL r).toArray 230)) (by omega)).ext (B := w.heap.size + 1) ((Below.refl _ _).alloc (by simp) (.cells #[.int .u16 x, .int .u32 y] 46)) (by omega), hR3, hp2.c0, hp2.c1⟩
structure Small (V : View) : Prop where
  wf : WfView V
  ls : ∀ l ∈ V.ls, l.length ≤ 64
  ds : V.ds.length ≤ 64
  ms : V.ms.length ≤ 64
  nl : V.ls.length ≤ 64
theorem Small.fine {V : View} (h : Small V) : Fine V := ⟨h.wf, fun l hl => by have := h.ls l hl; omega, by have := h.ds; omega, by have := h.ms; omega, by have := h.nl; omega⟩
theorem leafP_in {V : View} {p : Pid} : leafP V p = [] ∨ leafP V p ∈ V.ls := by
  unfold leafP
  split
  · exact .inl rfl
  · rw [List.getD_eq_getElem?_getD]
    cases h : V.ls[(leafIx V.ls p).toNat]? with
    | none => exact .inl rfl
    | some l => exact .inr (List.mem_of_getElem? h)
theorem leafP_wf {V : View} {p : Pid} (h : Small V) : WfPids (leafP V p) := by
  rcases leafP_in (V := V) (p := p) with e | e
  · rw [e]; intro q hq; cases hq
  · exact h.wf.ls _ e
theorem leafP_len {V : View} {p : Pid} (h : Small V) : (leafP V p).length ≤ 64 := by
  rcases leafP_in (V := V) (p := p) with e | e
  · rw [e]; simp
  · exact h.ls _ e
theorem others_len {V : View} {p : Pid} {L : List (List Pid)} : (othersP V p L).length ≤ V.ms.length := List.length_filter_le _ _
theorem peers_len {V : View} {p : Pid} : (peersP V p).length ≤ V.ms.length := by
  unfold peersP; split
  · exact others_len
  · simp
/-- lists that are small -/
def FewL (Ls : List (List Pid)) : Prop := Ls.length ≤ 3 ∧ ∀ l ∈ Ls, WfPids l ∧ l.length ≤ 64
theorem flat_bound : ∀ {Ls : List (List Pid)}, (∀ l ∈ Ls, l.length ≤ 64) → Ls.flatten.length ≤ Ls.length * 64
  | [], _ => by simp
  | l :: Ls, h => by
    have := flat_bound (Ls := Ls) (fun x hx => h x (List.mem_cons_of_mem _ hx))
    have := h l (List.mem_cons_self ..)
    simp only [List.flatten_cons, List.length_append, List.length_cons]; omega
theorem FewL.fine {Ls : List (List Pid)} (h : FewL Ls) : FineL Ls :=
  ⟨fun l hl => (h.2 l hl).1, by have := h.1; omega, by have := flat_bound (fun l hl => (h.2 l hl).2); have := h.1; omega, fun l hl => by have := (h.2 l hl).2; omega⟩

/-! ### the walks -/
theorem leafP_neg {V : View} {p : Pid} (h : leafIx V.ls p < 0) : leafP V p = [] := by unfold leafP; rw [if_pos h]
theorem leafP_get {V : View} {p : Pid} {k : Nat} (h : leafIx V.ls p = (k : Int)) (hk : k < V.ls.length) : leafP V p = V.ls[k] := by
  unfold leafP; rw [h, if_neg (by omega)]; simp [hk]
theorem leafIx_bound {ls : List (List Pid)} {p : Pid} {k : Nat} : ∀ {j : Nat}, leafFrom p ls j = (k : Int) → j ≤ k ∧ k < j + ls.length := by
  induction ls with
  | nil => intro j h; simp [leafFrom] at h <;> omega
  | cons l r ih =>
    intro j h
    simp only [leafFrom] at h
    split at h
    · simp <;> omega
    · have := ih h; simp; omega
set_option maxRecDepth 100000 in
set_option maxHeartbeats 1600000 in
theorem leafL_any (V : View) (am al ad : Option Addr) (cm cl cd : Nat) (x y : Int) (w0 w : World) (hV0 : ViewR w0 am al ad V) (hb0 : Below w0.heap.size w0 w) (hf : Fine V) :
    Calls Tryz.prog 264 #[viewV V am al ad cm cl cd, .agg #[.int .u16 x, .int .u32 y]] w fun e w' => ∃ a c, e = .returned (.slice a (leafP V (x, y)).length c) ∧ PidRow w0 a (leafP V (x, y)) ∧ Below w.heap.size w w' := by
  have hV := hV0.ext hb0
  have hB2 : Below w.heap.size w ((w.alloc (.cells (vcells V am al ad cm cl cd) 54)).alloc (.cells #[.int .u16 x, .int .u32 y] 46)) := ((Below.refl _ _).alloc (Nat.le_refl _) _).alloc (by simp) _
  have hvb := (ViewBox.made (V := V) (am := am) (al := al) (ad := ad) (cm := cm) (cl := cl) (cd := cd) w).ext (B := w.heap.size + 1) ((Below.refl _ _).alloc (by simp) (.cells #[.int .u16 x, .int .u32 y] 46)) (by omega)
  have hz2 : w.heap.size < ((w.alloc (.cells (vcells V am al ad cm cl cd) 54)).alloc (.cells #[.int .u16 x, .int .u32 y] 46)).heap.size := by simp; omega
  have hV2 := hV.ext hB2
  have hnl := hf.nl
  obtain ⟨X, hX⟩ : ∃ X, leafP V (x, y) = X := ⟨_, rfl⟩
  obtain ⟨N, hN⟩ : ∃ N, X.length = N := ⟨_, rfl⟩
  rw [hX, hN]
  have HN := hid hN
  obtain ⟨A, hA⟩ : ∃ A, leafIx V.ls (x, y) = A := ⟨_, rfl⟩
  have HA := hid hA
  by_cases hneg : A < 0
  · have hneg' : decide (0 ≤ A) = false := by simp; omega
    have HX : Hid (X = []) := hid (by rw [← hX]; exact leafP_neg (by omega))
    clear hX hN hA
    go_enter Tryz.func264, Tryz.ntmps264
    go_wp2_with (go_at_call 324; refine (leafA_is HA hV2).mono ?_; rintro e w3 ⟨rfl, hb3⟩)
    go_ret
    exact ⟨none, 0, by rw [← HN.out, HX.out]; rfl, .inl HX.out, hB2.trans (hb3.mono hB2.size)⟩
  · have hneg' : decide (0 ≤ A) = true := by simp; omega
    obtain ⟨k, rfl⟩ := Int.eq_ofNat_of_zero_le (by omega : 0 ≤ A)
    have hk : k < V.ls.length := by have := leafIx_bound (j := 0) hA; omega
    obtain ⟨b, off, ai, ci, l, e1, hx, d1, d2⟩ := hV0.ls.at (Below.refl _ _) rfl hk
    subst e1
    have HX : Hid (l = X) := hid (by rw [← hX, leafP_get hA hk, hx])
    have hlN : l.length = N := by rw [HX.out]; exact hN
    rw [hlN] at d1
    have d13 := cell_to (cell_to d1 hb0) hB2
    clear hX hN hA hx hlN
    go_enter Tryz.func264, Tryz.ntmps264
    go_wp2_with (go_at_call 324; refine (leafA_is HA hV2).mono ?_; rintro e w3 ⟨rfl, hb3⟩; obtain ⟨x0, x1, x2, x3⟩ := hvb.ext hb3 hz2; have d14 := cell_to d13 hb3)
    go_ret
    exact ⟨ai, ci, rfl, by rw [← HX.out]; exact d2, hB2.trans (hb3.mono hB2.size)⟩
theorem OwnL.lt {w : World} {base : Nat} {v : Value} {Ls : List (List Pid)} (h : OwnL w base v Ls) {g : Nat} (hg : v.ownBlock = some g) : base ≤ g ∧ g < w.heap.size := by
  obtain ⟨cells, ho, _⟩ := h
  exact World.ownsRow.lt ho g hg
theorem OwnL.rowN {w : World} {base : Nat} {v : Value} {Ls : List (List Pid)} (h : OwnL w base v Ls) {n : Nat} (hn : Ls.length = n) : ∃ a c, v = .slice a n c ∧ LeafRow w a Ls := by
  subst hn; exact h.row
/-- a row of the caller's is not what the call owns -/
theorem OwnL.far {w w0 : World} {base : Nat} {v : Value} {Ls : List (List Pid)} (h : OwnL w base v Ls) {a : Option Addr} {l : List Pid} (hr : PidRow w0 a l) (hb : w0.heap.size ≤ base) : ∀ b off, a = some ⟨b, off, none⟩ → l ≠ [] → v.ownBlock ≠ some b := fun b off e hl e2 => by
  have := (h.lt e2).1
  rcases hr with hr | ⟨b', off', e', hlt, _⟩
  · exact hl hr
  · rw [e] at e'; cases e'; omega
theorem others_is {V : View} {am al ad : Option Addr} {cm cl cd : Nat} {x y : Int} {a : Option Addr} {c n : Nat} {Ls : List (List Pid)} {w : World} (hn : Hid (Ls.length = n)) (hV : ViewR w am al ad V) (hf : Fine V) (hL : LeafRow w a Ls) (hfl : FewL Ls) :
    Calls Tryz.prog 265 #[viewV V am al ad cm cl cd, .agg #[.int .u16 x, .int .u32 y], .slice a n c] w fun e w' => ∃ v, e = .returned v ∧ OwnP w' w.heap.size v (othersP V (x, y) Ls) ∧ Below w.heap.size w w' := by
  rw [← hn.out]; exact others_any V am al ad cm cl cd x y a c Ls w hV hf hL hfl.fine
end Go.Proofs.YtehagnbphamjhaaGreatDoor


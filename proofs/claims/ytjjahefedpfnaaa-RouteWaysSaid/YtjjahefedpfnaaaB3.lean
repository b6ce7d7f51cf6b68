import Derived.Test.YtjjahefedpfnaaaB1
import Derived.Test.YtjjahefedpfnaaaH2
namespace Go.Proofs.Ytjjahefedpfnaaa
open Go.RowKit
theorem del_eq {α β : Type} [DecidableEq α] {x : α} : ∀ {L : List (α × β)} {i j : Nat} {v : β}, lookI x L i = some (j, v) → del x L = L.eraseIdx (j - i)
  | [], _, _, _, h => by simp [lookI] at h
  | p :: l, i, j, v, h => by
    simp only [lookI] at h
    split at h
    · next hx =>
      simp only [Option.some.injEq, Prod.mk.injEq] at h
      obtain ⟨rfl, _⟩ := h
      simp [del, hx]
    · next hx =>
      have h1 := lookI_some h
      have e : j - i = (j - (i + 1)) + 1 := by omega
      rw [e]
      simp only [del, if_neg hx, List.eraseIdx_cons_succ, del_eq h]
theorem del_none {α β : Type} [DecidableEq α] {x : α} : ∀ {L : List (α × β)} {i : Nat}, lookI x L i = none → del x L = L
  | [], _, _ => rfl
  | p :: l, i, h => by
    simp only [lookI] at h
    split at h
    · simp at h
    · next hx => simp [del, if_neg hx, del_none h]
theorem map_eraseIdx' {α β : Type} (f : α → β) : ∀ (l : List α) (j : Nat), (l.eraseIdx j).map f = (l.map f).eraseIdx j
  | [], _ => rfl
  | _ :: _, 0 => rfl
  | a :: l, j + 1 => by simp [map_eraseIdx' f l j]
theorem MapIs.delete {α β : Type} [DecidableEq α] {ke : α → Value} {ve : β → Value} {P : Program} {K : TypeId} {w : World} {r : Nat} {L : List (α × β)} (h : MapIs w r ke ve L) (kk : KeyOk P K ke) {t e : TypeId} (ht : P.underlying t = some (.map K e)) (x : α) :
    ∃ w', (∀ ty, (Builtin.delete_ #[t, K] ty #[.map (some r), ke x]).run P w = .ok (.tuple #[]) w') ∧ MapIs w' r ke ve (del x L) ∧ But r w w' := by
  obtain ⟨es, clock, hb, he, hbn⟩ := h
  have hf := find_run (w := w) kk he x
  cases hq : lookI x L 0 with
  | none =>
    rw [hq] at hf
    refine ⟨{ w with heap := w.heap.setIfInBounds r (.map es clock) }, fun ty => by simp [Builtin.delete_, run_underlying ht, MapKept.run_getObj_map hb, kk.check, hf, MapKept.run_setObj_map _ hb, Result.andThen], ⟨_, _, (MapKept.heap_set hb).1, by rw [del_none hq]; exact he, hbn⟩, But.of_set _ _ _⟩
  | some q =>
    obtain ⟨j, u⟩ := q
    rw [hq] at hf
    have hlen : es.toList.length = L.length := by simpa using congrArg List.length he
    have hj : j < es.size := by have := (lookI_some hq).2.1; simp at hlen; omega
    refine ⟨{ w with heap := w.heap.setIfInBounds r (.map (es.eraseIdxIfInBounds j) clock) }, fun ty => by simp [Builtin.delete_, run_underlying ht, MapKept.run_getObj_map hb, kk.check, hf, MapKept.run_setObj_map _ hb, Result.andThen], ⟨_, _, (MapKept.heap_set hb).1, ?_, ?_⟩, But.of_set _ _ _⟩
    · rw [del_eq hq, Nat.sub_zero]
      have : (es.eraseIdxIfInBounds j).toList = es.toList.eraseIdx j := by simp [Array.eraseIdxIfInBounds, hj, Array.toList_eraseIdx]
      rw [this, map_eraseIdx', he, map_eraseIdx']
    · have : (es.eraseIdxIfInBounds j).toList = es.toList.eraseIdx j := by simp [Array.eraseIdxIfInBounds, hj, Array.toList_eraseIdx]
      have hs : (es.toList.eraseIdx j).Sublist es.toList := List.eraseIdx_sublist _ _
      exact ⟨by rw [this]; exact hbn.1.sublist (hs.map _), fun e he' => hbn.2 e (hs.subset (by rw [← this]; exact he'))⟩
theorem del_filter {x : Pid} : ∀ {L : List (Pid × Unit)}, (keys L).Nodup → del x L = L.filter fun q => !decide (q.1 = x)
  | [], _ => rfl
  | p :: l, h => by
    obtain ⟨h1, h2⟩ := List.nodup_cons.1 h
    by_cases hx : x = p.1
    · have hall : l.filter (fun q => !decide (q.1 = x)) = l := List.filter_eq_self.2 fun q hq => by
        have : q.1 ≠ x := fun e => h1 (by show p.1 ∈ _; rw [← hx, ← e]; exact List.mem_map_of_mem (f := fun x : Pid × Unit => x.1) hq)
        simp [this]
      simp only [del, if_pos hx, List.filter_cons]
      rw [if_neg (by simp [hx]), hall]
    · simp only [del, if_neg hx, List.filter_cons]
      rw [if_pos (by simp [Ne.symm hx]), del_filter h2]

set_option maxRecDepth 100000 in
set_option maxHeartbeats 800000 in
theorem drop_is (s r : Nat) (L : List (Pid × Unit)) (x y : Int) {bs : Bool} (hl : (look (x, y) L).isSome = bs) (w : World) (hS : SetIs w s r L) :
   Calls Try.prog 38 #[.pointer (some ⟨s, 0, none⟩), .agg #[.int .u16 x, .int .u32 y]] w fun e w' => e = .returned (.bool bs) ∧ SetIs w' s r (del (x, y) L) ∧ Mut (fun k => k = r) w w' := by
  have hS1 := hS.alloc (.cells #[.int .u16 x, .int .u32 y] 32)
  have hB1 : Below w.heap.size w (w.alloc (.cells #[.int .u16 x, .int .u32 y] 32)) := (Below.refl _ _).alloc (Nat.le_refl _) _
  have hsr : s ≠ r := fun e => by
    have h1 := hS.box
    obtain ⟨es, cl, h2, _⟩ := hS.map
    subst e
    simp [World.cell?, h2] at h1
  have hrl := hS.map.lt
  have HS := hid hl
  cases bs with
  | false =>
    have hd : del (x, y) L = L := by
      cases hq : lookI (x, y) L 0 with
      | none => exact del_none hq
      | some q => have := lookI_look (x, y) L 0; rw [hq] at this; rw [← this] at hl; simp at hl
    have HD := hid hd
    clear hl hd
    go_enter Try.func38, Try.ntmps38
    go_wp2_with (go_at_call 44; refine (has_any _ _ _ _ _ _ _ hS1 HS).mono ?_; rintro e w3 ⟨rfl, hb3⟩)
    go_ret
    exact ⟨rfl, by rw [HD.out]; exact hS1.ext hb3, Mut.of_below (hB1.trans (hb3.mono hB1.size))⟩
  | true =>
    clear hl
    go_enter Try.func38, Try.ntmps38
    go_wp2_with (go_at_call 44; refine (has_any _ _ _ _ _ _ _ hS1 HS).mono ?_; rintro e w3 ⟨rfl, hb3⟩)
    have hS3 := (hS1.ext hb3).drew
    obtain ⟨w2, hrun, hM2, hbut⟩ := hS3.map.delete keyPid Try.underlying91 (x, y)
    have hs3 := hb3.size
    simp at hs3
    have b0 : (w.alloc (.cells #[.int .u16 x, .int .u32 y] 32)).cell? ⟨w.heap.size, 0, none⟩ = some (.int .u16 x) := by simp
    have b1 : (w.alloc (.cells #[.int .u16 x, .int .u32 y] 32)).cell? ⟨w.heap.size, 1, none⟩ = some (.int .u32 y) := by simp
    have e0 : w3.drew.cell? ⟨w.heap.size, 0, none⟩ = some (.int .u16 x) := cell_to b0 hb3.drew
    have e1 : w3.drew.cell? ⟨w.heap.size, 1, none⟩ = some (.int .u32 y) := cell_to b1 hb3.drew
    clear b0 b1
    have e2 := hS3.box
    have k0 := (hbut.cell (p := ⟨w.heap.size, 0, none⟩) (by simp; omega)).trans e0
    have k1 := (hbut.cell (p := ⟨w.heap.size, 1, none⟩) (by simp; omega)).trans e1
    have k2 := (hbut.cell (p := ⟨s, 0, none⟩) (by exact hsr)).trans e2
    go_region_held3 (fun W => W.cell? ⟨s, 0, none⟩ = some (.map (some r)) ∧ W.cell? ⟨w.heap.size, 0, none⟩ = some (.int .u16 x) ∧ W.cell? ⟨w.heap.size, 1, none⟩ = some (.int .u32 y)) (first | exact ⟨e2, e0, e1⟩ | exact ⟨k2, k0, k1⟩) (fail)
    go_wp2
    go_ret
    exact ⟨rfl, ⟨k2, hM2⟩, (Mut.of_below (hB1.trans (hb3.mono hB1.size)).drew).trans (Mut.of_but hbut rfl)⟩
theorem SetIs.mut {F : Nat → Prop} {w w' : World} {s r : Nat} {L : List (Pid × Unit)} (h : SetIs w s r L) (hm : Mut F w w') (hs : ¬ F s) (hr : ¬ F r) : SetIs w' s r L :=
  ⟨(hm.cell (by exact h.lt) (by exact hs)).trans h.box, h.map.same (hm.block r h.map.lt hr)⟩

/-- what Keep leaves, the list having been gone through so far that 'todo' is left -/
def keepMid (L : List (Pid × Unit)) (xs todo : List Pid) : List (Pid × Unit) := L.filter fun q => decide (q.1 ∈ xs) || decide (q.1 ∈ todo)
def keepL (L : List (Pid × Unit)) (xs : List Pid) : List (Pid × Unit) := L.filter fun q => decide (q.1 ∈ xs)
theorem keepMid_all {L : List (Pid × Unit)} {xs l : List Pid} (h : ∀ p ∈ keys L, p ∈ l) : keepMid L xs l = L :=
  List.filter_eq_self.2 fun q hq => by simp [h q.1 (List.mem_map_of_mem (f := fun x : Pid × Unit => x.1) hq)]
theorem keepMid_nil (L : List (Pid × Unit)) (xs : List Pid) : keepMid L xs [] = keepL L xs := by unfold keepMid keepL; simp
theorem keepMid_in {L : List (Pid × Unit)} {xs t : List Pid} {p : Pid} (h : p ∈ xs) : keepMid L xs (p :: t) = keepMid L xs t := by
  unfold keepMid
  apply List.filter_congr
  intro q _
  by_cases hq : q.1 = p
  · simp [hq, h]
  · simp [hq]
theorem keepMid_nodup {L : List (Pid × Unit)} {xs t : List Pid} (h : (keys L).Nodup) : (keys (keepMid L xs t)).Nodup := h.sublist (List.Sublist.map _ List.filter_sublist)
theorem keepMid_out {L : List (Pid × Unit)} {xs t : List Pid} {p : Pid} (hn : (keys L).Nodup) (h : p ∉ xs) (ht : p ∉ t) : del p (keepMid L xs (p :: t)) = keepMid L xs t := by
  rw [del_filter (keepMid_nodup hn)]
  unfold keepMid
  rw [List.filter_filter]
  apply List.filter_congr
  intro q _
  by_cases hq : q.1 = p
  · simp [hq, h, ht]
  · simp [hq]
theorem keepMid_len {L : List (Pid × Unit)} {xs t : List Pid} {p : Pid} (hn : (keys L).Nodup) (h : p ∉ xs) (ht : p ∉ t) (hp : p ∈ keys L) : (keepMid L xs (p :: t)).length = (keepMid L xs t).length + 1 := by
  have hin : p ∈ keys (keepMid L xs (p :: t)) := by
    obtain ⟨q, hq, rfl⟩ := List.mem_map.1 hp
    exact List.mem_map.2 ⟨q, List.mem_filter.2 ⟨hq, by simp⟩, rfl⟩
  have hq : (look p (keepMid L xs (p :: t))).isSome = true := by rw [look_isSome]; exact hin
  rw [← keepMid_out hn h ht]
  cases hl : lookI p (keepMid L xs (p :: t)) 0 with
  | none => have := lookI_look p (keepMid L xs (p :: t)) 0; rw [hl] at this; rw [← this] at hq; simp at hq
  | some v =>
    obtain ⟨j, u⟩ := v
    have h1 := (lookI_some hl).2.1
    rw [del_eq hl, List.length_eraseIdx_of_lt h1]
    omega

set_option maxRecDepth 100000 in
set_option maxHeartbeats 1600000 in
theorem keep_any (s r : Nat) (L : List (Pid × Unit)) (a : Option Addr) (c : Nat) (xs : List Pid) (w : World) (hS : SetIs w s r L) (hnd : (keys L).Nodup) (hok : ∀ p ∈ keys L, ok p) (hn : L.length ≤ 549755813888) (hm : xs.length ≤ 549755813888) (hrow : PidRow w a xs) :
   Calls Try.prog 40 #[.pointer (some ⟨s, 0, none⟩), .slice a xs.length c] w fun e w' => e = .returned (.int .i64 ((L.length : Int) - (keepL L xs).length)) ∧ SetIs w' s r (keepL L xs) ∧ Mut (fun k => k = r) w w' := by
  have hsl := hS.lt
  have hrl := hS.map.lt
  have hlk : (keys L).length = L.length := by simp [keys]
  obtain ⟨l0, hl0⟩ : ∃ l, sortL (keys L) = l := ⟨_, rfl⟩
  have hl0n : l0.Nodup := by rw [← hl0]; exact (sortL_perm_self _).symm.nodup hnd
  have hl0m : ∀ p, p ∈ l0 ↔ p ∈ keys L := fun p => by rw [← hl0]; exact mem_sortL
  have hl0l : l0.length = L.length := by rw [← hl0, sortL_length, hlk]
  have hl0b : l0.length ≤ 549755813888 := by omega
  have HL0 := hid hl0
  have HND := hid hnd
  have HOK := hid hok
  have HLN := hid hl0n
  have HLM := hid hl0m
  have HLL := hid hl0l
  clear hl0 hnd hok hl0n hl0m hl0l hlk
  go_enter Try.func40, Try.ntmps40
  go_wp2_with (first
    | (go_at_call 34; refine (new_any _ _ xs _ (by omega) hrow).mono ?_; rintro e w1 ⟨s2, r2, rfl, hs2, hr2, hS2, hb1⟩)
    | (go_at_call 43; refine (list_any _ _ _ _ (hS.ext hb1) HND.out HOK.out hn).mono ?_; rintro e w2 ⟨v, rfl, hown, hb2⟩; rw [HL0.out] at hown; obtain ⟨la, lc, rfl, hlrow, hlb⟩ := hown.row))
  have hS2' := (hS.ext hb1).ext hb2
  have hT2' := hS2.ext hb2
  have hz1 := hb1.size
  have hz2 := hb2.size
  have hB2 : Below w.heap.size w w2 := hb1.trans (hb2.mono hz1)
  have hs2l := hT2'.lt
  have hr2l := hT2'.map.lt
  go_loopw [6, 14] (fun n i wr => ∃ (k m : Nat), k ≤ l0.length ∧ i = .int .i64 k ∧ n = .int .i64 m ∧ m ≤ k ∧ Hid ((keepMid L xs (l0.drop k)).length + m = L.length) ∧ SetIs wr s r (keepMid L xs (l0.drop k)) ∧ Mut (fun k => k = r) w2 wr) (fun _ i _ => l0.length - (intOf i).toNat)
  case atStart => exact ⟨0, 0, Nat.zero_le _, rfl, rfl, Nat.le_refl _, hid (by rw [List.drop_zero, keepMid_all (fun p hp => (HLM.out p).2 hp)]; omega), by rw [List.drop_zero, keepMid_all (fun p hp => (HLM.out p).2 hp)]; exact hS2', Mut.refl _ _⟩
  case round =>
    obtain ⟨k, m, hk, rfl, rfl, hmk, hM, hSk, hmut⟩ := hrel
    have hz := hmut.size
    have hTr := hT2'.mut hmut (by omega) (by omega)
    by_cases hlt : k < l0.length
    · have hlrow' := hlrow.mut hmut (fun b off ha _ => by have := hlb b off ha; omega)
      obtain ⟨pb, po, x, y, rfl, hpx, d1, d2⟩ := hlrow'.at (Below.refl _ _) rfl hlt
      have hdk : l0.drop k = (x, y) :: l0.drop (k + 1) := by rw [List.drop_eq_getElem_cons hlt, ← hpx]
      have hnt : (x, y) ∉ l0.drop (k + 1) := by
        have := HLN.out.sublist (List.drop_sublist k l0)
        rw [hdk] at this
        exact (List.nodup_cons.1 this).1
      have hinL : (x, y) ∈ keys L := (HLM.out _).1 (by rw [hpx]; exact List.getElem_mem _)
      have hmem : (look (x, y) (unionL [] xs)).isSome = decide ((x, y) ∈ xs) := by rw [Bool.eq_iff_iff, isSome_union]; simp
      rw [hdk] at hSk hM
      have hB1 : Below wr.heap.size wr (wr.alloc (.cells #[.int .u16 x, .int .u32 y] 32)) := (Below.refl _ _).alloc (Nat.le_refl _) _
      cases hin : decide ((x, y) ∈ xs)
      · have hnx : (x, y) ∉ xs := of_decide_eq_false hin
        rw [hin] at hmem
        have HMEM := hid hmem
        have HOUT := hid (keepMid_out (t := l0.drop (k + 1)) HND.out hnx hnt)
        have HLEN := hid (keepMid_len (t := l0.drop (k + 1)) HND.out hnx hnt hinL)
        have hlk : (look (x, y) (keepMid L xs ((x, y) :: l0.drop (k + 1)))).isSome = true := by
          rw [look_isSome]
          obtain ⟨q, hq, hqe⟩ := List.mem_map.1 hinL
          exact List.mem_map.2 ⟨q, List.mem_filter.2 ⟨hq, by simp [hqe]⟩, hqe⟩
        have HLK := hid hlk
        clear hmem hin hnx hlk hpx hdk hnt hinL
        go_wp2_with (first
          | (go_at_call 44; refine (has_any _ _ _ _ _ _ _ (hTr.alloc _) HMEM).mono ?_; rintro e w3 ⟨rfl, hb3⟩; have p0 := cell_to (show (wr.alloc (.cells #[.int .u16 x, .int .u32 y] 32)).cell? ⟨wr.heap.size, 0, none⟩ = some (.int .u16 x) by simp) hb3; have p1 := cell_to (show (wr.alloc (.cells #[.int .u16 x, .int .u32 y] 32)).cell? ⟨wr.heap.size, 1, none⟩ = some (.int .u32 y) by simp) hb3)
          | (go_at_call 38; refine (drop_is _ _ _ _ _ HLK.out _ ((hSk.alloc _).ext hb3)).mono ?_; rintro e w4 ⟨rfl, hS4, hm4⟩))
        have hm3 : Mut (fun k => k = r) w2 w4 := (hmut.trans (Mut.of_below (hB1.trans (hb3.mono hB1.size)))).trans hm4
        go_roundw
        case rel => exact ⟨k + 1, m + 1, by omega, by go_num, by go_num, by omega, hid (by have := HLEN.out; have := hM.out; omega), by rw [← HOUT.out]; exact hS4, hm3⟩
        case measure => simp [intOf]; omega
      · have hix : (x, y) ∈ xs := of_decide_eq_true hin
        rw [hin] at hmem
        have HMEM := hid hmem
        have HIN := hid (keepMid_in (L := L) (t := l0.drop (k + 1)) hix)
        clear hmem hin hix hpx hdk hnt hinL
        go_wp2_with (go_at_call 44; refine (has_any _ _ _ _ _ _ _ (hTr.alloc _) HMEM).mono ?_; rintro e w3 ⟨rfl, hb3⟩)
        go_roundw
        case rel => exact ⟨k + 1, m, by omega, by go_num, rfl, by omega, hid (by have := hM.out; rw [HIN.out] at this; exact this), by rw [← HIN.out]; exact (hSk.alloc _).ext hb3, hmut.trans (Mut.of_below (hB1.trans (hb3.mono hB1.size)))⟩
        case measure => simp [intOf]; omega
    · rw [List.drop_eq_nil_of_le (by omega), keepMid_nil] at hSk hM
      have hMe : Hid ((m : Int) = (L.length : Int) - (keepL L xs).length) := hid (by have := hM.out; omega)
      go_wp2
      go_ret
      exact ⟨ret_int hMe.out, hSk, (Mut.of_below hB2).trans hmut⟩
end Go.Proofs.Ytjjahefedpfnaaa

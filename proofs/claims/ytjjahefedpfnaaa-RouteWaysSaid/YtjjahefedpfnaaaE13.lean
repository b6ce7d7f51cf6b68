import Derived.Test.YtjjahefedpfnaaaE12
namespace Go.Proofs.Ytjjahefedpfnaaa
open Go.RowKit
theorem speakers_drop {S : Pid → Bool} {ls : List (List Pid)} {k : Nat} (h : k < ls.length) {l : List Pid} (hl : l = ls[k]) : (ls.drop k).filterMap (firstP S) = match firstP S l with | none => (ls.drop (k + 1)).filterMap (firstP S) | some q => q :: (ls.drop (k + 1)).filterMap (firstP S) := by
  rw [List.drop_eq_getElem_cons h, ← hl, List.filterMap_cons]
  cases firstP S l <;> rfl
set_option maxRecDepth 100000 in
set_option maxHeartbeats 3200000 in
theorem speakers_any (r : Nat → Int) (V : View) (am al ad : Option Addr) (cm cl cd : Nat) (w : World) (hV : ViewR w am al ad V) (hf : Fine V) :
    Calls Try.prog 78 #[viewV V am al ad cm cl cd, .agg (RL r).toArray] w fun e w' => ∃ v, e = .returned v ∧ OwnP w' w.heap.size v (speakersP V (hasRu r)) ∧ Below w.heap.size w w' := by
  have hB2 : Below w.heap.size w ((w.alloc (.cells (vcells V am al ad cm cl cd) 68)).alloc (.cells (RL r).toArray 70)) := ((Below.refl _ _).alloc (Nat.le_refl _) _).alloc (by simp) _
  have hvb := (ViewBox.made (V := V) (am := am) (al := al) (ad := ad) (cm := cm) (cl := cl) (cd := cd) w).ext (B := w.heap.size + 1) ((Below.refl _ _).alloc (by simp) (.cells (RL r).toArray 70)) (by omega)
  have hR2 := RumBox.madeV (w.alloc (.cells (vcells V am al ad cm cl cd) 68)) r
  have hz2 : ((w.alloc (.cells (vcells V am al ad cm cl cd) 68)).alloc (.cells (RL r).toArray 70)).heap.size = w.heap.size + 1 + 1 := by simp
  have hV2 := hV.ext hB2
  have hnl := hf.nl
  have HF := hid hf
  simp only [World.size_alloc] at hR2
  go_enter Try.func78, Try.ntmps78
  go_wp2
  generalize hw2 : (w.alloc (.cells (vcells V am al ad cm cl cd) 68)).alloc (.cells (RL r).toArray 70) = w2 at hB2 hR2 hvb hV2 hz2 ⊢
  clear hw2
  have HZ := hid hz2
  clear hz2
  go_loopw [5, 12] (fun v i wr => ∃ (k : Nat) (got : List Pid), k ≤ V.ls.length ∧ i = .int .i64 k ∧ got.length ≤ k ∧ Hid (speakersP V (hasRu r) = got ++ (V.ls.drop k).filterMap (firstP (hasRu r))) ∧ OwnP wr w2.heap.size v got ∧ Below w2.heap.size w2 wr) (fun _ i _ => V.ls.length - (intOf i).toNat)
  case atStart => exact ⟨0, [], Nat.zero_le _, rfl, Nat.le_refl _, rfl, OwnP.nil _ _, Below.refl _ _⟩
  case round =>
    obtain ⟨k, got, hk, rfl, hg, hM, hown, hb⟩ := hrel
    have hs0 := hb.size
    by_cases hlt : k < V.ls.length
    · have hsd := speakers_drop (S := hasRu r) hlt rfl
      have hsp := speakP_at (S := hasRu r) hlt rfl
      obtain ⟨x0, x1, x2, x3⟩ := hvb.ext hb (by have := HZ.out; omega)
      have hRr := hR2.ext hb (by have := HZ.out; omega)
      have hVr := hV2.ext hb
      cases hfp : firstP (hasRu r) V.ls[k] with
      | none =>
        rw [hfp] at hsd hsp
        have HSD := hid hsd
        have HSP := hid hsp
        clear hsd hsp hfp
        go_wp2_with (first
          | (refine wpList_loadRw hRr (by rfl) rfl rfl ?_)
          | (go_at_call 52; refine (speaker_none HSP hVr HF.out).mono ?_; rintro e w3 ⟨rfl, hb3⟩))
        have hz3 := hb3.size
        go_roundw
        case rel => exact ⟨k + 1, got, by omega, by go_num, by omega, hid (hM.out.trans (by rw [HSD.out])), (hown.ext hb3).alloc _, (hb.trans (hb3.mono hs0)).alloc (by omega) _⟩
        case measure => simp [intOf]; omega
      | some q =>
        obtain ⟨u, v⟩ := q
        rw [hfp] at hsd hsp
        have HSD := hid hsd
        have HSP := hid hsp
        clear hsd hsp hfp
        go_wp2_with (first
          | (refine wpList_loadRw hRr (by rfl) rfl rfl ?_)
          | (go_at_call 52; refine (speaker_some HSP hVr HF.out).mono ?_; rintro e w3 ⟨rfl, hb3⟩; have hone : PidRow ((w3.alloc (.cells #[.int .u16 u, .int .u32 v] 32)).alloc (.cells #[.int .u16 u, .int .u32 v] 32)) (some ⟨w3.heap.size + 1, 0, none⟩) [(u, v)] := PidRow.one' _ (by simp) u v)
          | (at_builtin; refine wpList_appendP (((hown.ext hb3).alloc _).alloc _) hone ?cb ?cz rfl rfl rfl rfl ?_; rotate_right; intro v4 w4 hown4 hg4 hnil4))
        case cb => simp; omega
        case cz => have := hb3.size; simp; omega
        have hz3 := hb3.size
        have hB3 := hb.trans (hb3.mono hs0)
        have hB4 : Below w2.heap.size w2 w4 := ((hB3.alloc hB3.size _).alloc (by simp; omega) _).grown hg4 (by simp; omega) (fun g hg => (World.ownsRow.lt hown g hg).1)
        go_roundw
        case rel => exact ⟨k + 1, got ++ [(u, v)], by omega, by go_num, by simp; omega, hid (hM.out.trans (by rw [HSD.out]; simp)), hown4, hB4⟩
        case measure => simp [intOf]; omega
    · have hend : Hid (speakersP V (hasRu r) = got) := by
        have := hM.out
        rw [List.drop_eq_nil_of_le (by omega)] at this
        rw [Hid, this]; simp
      go_wp2
      go_ret
      exact ⟨_, rfl, by rw [hend.out]; exact hown.mono (by have := HZ.out; omega), hB2.trans (hb.mono (by have := HZ.out; omega))⟩
end Go.Proofs.Ytjjahefedpfnaaa

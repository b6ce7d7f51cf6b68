/- Parts of the proof: OQ Z3 OR OX NE K7 K0 K8 KA K9 KB KC A2 A4 A6 A7 H1 NF0 KD KE KF. -/
import Derived.Lib.Builder
import Derived.Lib.AppendStr
import Derived.Lib.OthersKept
import Derived.Lib.FrozenHead
import Derived.Shelf.Spec.TrailingZeros
import Derived.RangeFuncNested
import Derived.RangeFuncBound
import Derived.RangeFuncCalls
import Derived.RangeFuncLeaves
import Derived.Shelf.Abstract
import Derived.Shelf.RegionOpen
import Derived.OwnWalkIn
import Derived.TacticsInMore
import Derived.LoopNIn
import Derived.LoopIn
import Derived.RegionIn
import Derived.Sort.MapsRangeIn
import Derived.Laws.ShiftsVar
import Derived.Test.YtehagnbphamjhaaGreatDoorOP
namespace Go.Proofs.YtehagnbphamjhaaGreatDoor
open Go.RowKit
/-! ### play: Parse -/
def stepH (s : StepD) : List Value × List Nat := ([.int .i64 s.kind, .int .i64 s.a, .int .i64 s.b], s.data)
theorem infoStepI : (Tryz.prog.info? 62).map (fun i => (i.zero, i.size, i.bytes)) = some (some (.agg #[.int .i64 0, .int .i64 0, .int .i64 0, .slice none 0 0]), 4, 48) := by kernel_rfl
theorem cells4_new (W : World) (t : TypeId) (x0 x1 x2 x3 : Value) : ∀ j u, [x0, x1, x2, x3][j]? = some u → (W.alloc (.cells #[x0, x1, x2, x3] t)).cell? ⟨W.heap.size, j, none⟩ = some u := fun j u hj => by
  match j, hj with
  | 0, hj => simp at hj; subst hj; simp
  | 1, hj => simp at hj; subst hj; simp
  | 2, hj => simp at hj; subst hj; simp
  | 3, hj => simp at hj; subst hj; simp
  | j + 4, hj => simp at hj
/-- an own row of steps is a row of steps -/
theorem steps_row {w : World} {base : Nat} {N : Nat → Prop} {v : Value} {xs : List (List Value)} {l : List StepD} (h : OwnK w base 62 4 v xs) (he : ElsAt w N xs (l.map stepH)) (hk : ∀ s ∈ l, (-9223372036854775808 ≤ s.kind ∧ s.kind ≤ 9223372036854775807) ∧ StepOk s) :
    ∃ a c, v = .slice a l.length c ∧ l.length ≤ c ∧ StepRow w a l := by
  have hlen : xs.length = l.length := by rw [he.1, List.length_map]
  by_cases h0 : l = []
  · obtain ⟨a, c, e, hc⟩ := h.sli
    exact ⟨a, c, by rw [e, hlen], by omega, .inl h0⟩
  · have hl : 0 < l.length := List.length_pos_iff.2 h0
    obtain ⟨a, c, e, hc⟩ := h.sli
    obtain ⟨g, c2, e2, -, hg, -⟩ := h.at (i := 0) (x := xs[0]'(by omega)) (List.getElem?_eq_getElem _)
    rw [e] at e2
    injection e2 with ea eb ec
    subst ea
    refine ⟨_, c, by rw [e, hlen], by omega, .inr ⟨g, 0, rfl, hg, fun i hi => ?_⟩⟩
    obtain ⟨u, hu, hit⟩ := he.2 i (by rw [List.length_map]; exact hi)
    obtain ⟨ai, ci, rfl, hrow, -⟩ := hit
    obtain ⟨g3, c3, e3, -, -, hcell⟩ := h.at hu
    rw [e] at e3
    injection e3 with ea3 _ _
    injection ea3 with ea3
    injection ea3 with ea3 _
    subst ea3
    have hs : (l.map stepH)[i]'(by rw [List.length_map]; exact hi) = stepH l[i] := by simp
    rw [hs] at hcell hrow
    have hm : l[i] ∈ l := List.getElem_mem _
    refine ⟨ai, ci, fun j w hw => ?_, (hk _ hm).1, (hk _ hm).2, hrow⟩
    rw [Nat.zero_add]
    refine hcell j w ?_
    exact hw
def ParseRes (w' : World) (e : Ending) (r : List StepD × Nat) : Prop := ∃ a c, e = .returned (.tuple #[.slice a r.1.length c, .int .i64 r.2]) ∧ StepRow w' a r.1 ∧ r.1.length ≤ c
theorem ParseRes.err {w' : World} {r : List StepD × Nat} {n : Nat} (h : r = ([], n)) : ParseRes w' (.returned (.tuple #[.slice none 0 0, .int .i64 n])) r := by
  subst h
  exact ⟨none, 0, rfl, .inl rfl, Nat.le_refl _⟩
theorem stepP_kind {t : Str} {s : StepD} (h : stepP t = some s) : (-9223372036854775808 ≤ s.kind ∧ s.kind ≤ 9223372036854775807) ∧ StepOk s := by
  have hi := stepP_some h
  obtain ⟨x, -, hx, hxk, -⟩ := isStep_parts hi
  have h2 := (shapes_ok x hx).2.2.2.2.2.2
  exact ⟨⟨by omega, by omega⟩, hi.1⟩
/-- the steps of some lines, and of more -/
theorem split_two {c : UInt8} : ∀ (n : Nat) {s : Str}, s.length ≤ n → ∀ k, k ≤ (Lib.split s [c]).length → (∀ t ∈ (Lib.split s [c]).take k, 1 ≤ t.length) → 2 * k ≤ s.length + 1
  | 0, s, h, k, hk, ht => by
    have : s = [] := List.eq_nil_of_length_eq_zero (by omega)
    subst this
    rw [splc_no (by simp)] at hk ht
    cases k with
    | zero => omega
    | succ k => have := ht [] (by simp); simp at this
  | n + 1, s, h, k, hk, ht => by
    rcases splc_cases c s with ⟨-, hs⟩ | ⟨a, b, -, e, hs⟩
    · rw [hs] at hk ht
      cases k with
      | zero => omega
      | succ k => have h1 := ht s (by simp); simp at hk; omega
    · rw [hs] at hk ht
      have hl : s.length = a.length + (b.length + 1) := by rw [e]; simp
      cases k with
      | zero => omega
      | succ k =>
        have h1 := ht a (by simp)
        have h2 := split_two (c := c) n (s := b) (by omega) k (by simpa using hk) (fun t h => ht t (by simp [h]))
        omega
theorem stepP_len {t : Str} {s : StepD} (h : stepP t = some s) : 1 ≤ t.length := by
  obtain ⟨x, -, -, -, e, -⟩ := isStep_parts (stepP_some h)
  rw [e]; unfold lineS; simp; omega
theorem mapO_drop {α β : Type} (f : α → Option β) {l : List α} {k : Nat} {x : α} (h : l[k]? = some x) : mapO f (l.drop k) = match f x with | none => none | some y => (mapO f (l.drop (k + 1))).map (y :: ·) := by
  have hk := (List.getElem?_eq_some_iff.1 h).1
  have e : l[k] = x := by rw [List.getElem?_eq_getElem hk] at h; exact Option.some.inj h
  rw [List.drop_eq_getElem_cons hk, e, mapO]
  cases f x <;> rfl
set_option maxRecDepth 100000 in
set_option maxHeartbeats 12800000 in
theorem parse_anyS {s : Str} {w : World} (hs : s.length ≤ 1100000) (he : EnvP w) :
    Calls Tryz.prog 16 #[.string ⟨s.toArray⟩] w fun e w' => ParseRes w' e (parseS s) ∧ Below w.heap.size w w' := by
  obtain ⟨r, hr⟩ : ∃ r, parseS s = r := ⟨_, rfl⟩
  rw [hr]
  have HR := hid hr
  clear hr
  by_cases h0 : s = []
  · subst h0
    have HE : Hid (r = ([], 0)) := hid (by rw [← HR.out]; rfl)
    go_enter Tryz.func16, Tryz.ntmps16
    go_wp2_with fail
    refine bodyPost_ret (v := .tuple #[.slice none 0 0, .int .i64 0]) (by simp [results, Tryz.results16, go_sem]) rfl ⟨ParseRes.err HE.out, Below.refl _ _⟩
  · have u1 : (s == []) = false := by simpa using h0
    have u2 : s.isEmpty = false := by simpa using h0
    obtain ⟨hs10, hhs⟩ : ∃ h, Lib.hasSuffix s [10] = h := ⟨_, rfl⟩
    have C1 := hid (cutsufP_any s 10 (by omega) w)
    rw [hhs] at C1
    cases hs10
    · have HE : Hid (r = ([], 5)) := hid (by rw [← HR.out]; unfold parseS; rw [if_neg h0, if_neg (by rw [hhs]; decide)])
      clear h0 hhs
      go_enter Tryz.func16, Tryz.ntmps16
      go_wp2_with fail
      refine C1.out.mono ?_
      rintro e w2 ⟨rfl, rfl⟩
      go_wp2_with fail
      refine bodyPost_ret (v := .tuple #[.slice none 0 0, .int .i64 5]) (by simp [results, Tryz.results16, go_sem]) rfl ⟨ParseRes.err HE.out, Below.refl _ _⟩
    · obtain ⟨body, hbody⟩ : ∃ b, Lib.trimSuffix s [10] = b := ⟨_, rfl⟩
      rw [hbody] at C1
      have hbl : body.length ≤ s.length := by
        rw [← hbody]; unfold Lib.trimSuffix; split <;> simp
      obtain ⟨L, hL⟩ : ∃ L, Lib.split body [10] = L := ⟨_, rfl⟩
      have HE : Hid (r = endS (mapO stepP L)) := hid (by rw [← HR.out]; unfold parseS; rw [if_neg h0, if_pos hhs, hbody, hL])
      obtain ⟨hl1, hl2⟩ := split_lens (c := 10) body.length (s := body) (Nat.le_refl _)
      have C2 := hid (splitP_any body 10 (by omega) w he)
      rw [hL] at hl1 hl2 C2
      obtain ⟨n, hn⟩ : ∃ n, L.length = n := ⟨_, rfl⟩
      rw [hn] at C2 hl2
      have HN := hid hn
      have HTWO : Hid (∀ k, k ≤ n → (∀ t ∈ L.take k, 1 ≤ t.length) → 2 * k ≤ 1100001) := hid fun k hk ht => by
        have := split_two (c := 10) body.length (s := body) (Nat.le_refl _) k (by rw [hL, hn]; exact hk) (by rw [hL]; exact ht)
        omega
      have HLE : Hid (∀ t ∈ L, t.length ≤ 2000000) := hid fun t ht => by have := hl1 t ht; omega
      have HNL : Hid (n ≤ 2000001) := hid (by omega)
      have HV := hid he
      clear h0 hhs hbody hbl hL hl1 hl2 hn he hs
      go_enter Tryz.func16, Tryz.ntmps16
      go_wp2_with fail
      refine C1.out.mono ?_
      rintro e w2 ⟨rfl, rfl⟩
      clear C1
      go_wp2_with fail
      refine C2.out.mono ?_
      rintro e w3 ⟨rfl, hrow, hb3⟩
      obtain ⟨sb, hsb⟩ : ∃ sb, w2.heap.size = sb := ⟨_, rfl⟩
      have HB3 := hid hb3
      have HR3 := hid hrow
      rw [hsb] at HR3
      have HV3 := hid (HV.out.ext hb3)
      clear hrow hb3 C2 HV
      rw [hsb]
      obtain ⟨i0, hi, hz0, hz1, hz2⟩ := info_parts infoStepI
      go_wp2_with fail
      go_loopw [6, 23] (fun v iv wr => ∃ (k : Nat) (out : List StepD) (xs : List (List Value)), iv = .int .i64 k ∧ k ≤ n ∧ Hid (out.length = k) ∧ Hid (r = endS ((mapO stepP (L.drop k)).map (out ++ ·))) ∧ Hid (OwnK wr w3.heap.size 62 4 v xs) ∧ Hid (ElsAt wr (fun b => v.ownBlock = some b) xs (out.map stepH)) ∧ Hid (∀ s ∈ out, (-9223372036854775808 ≤ s.kind ∧ s.kind ≤ 9223372036854775807) ∧ StepOk s) ∧ Hid (∀ t ∈ L.take k, 1 ≤ t.length) ∧ Hid (Below w3.heap.size w3 wr)) (fun _ iv _ => n - (intOf iv).toNat)
      case atStart => exact ⟨0, [], [], rfl, Nat.zero_le _, hid rfl, hid (by rw [HE.out, List.drop_zero]; cases mapO stepP L <;> rfl), hid (OwnK.nil _ _ _ _), hid (ElsAt.nil _ _), hid (by simp), hid (by simp), hid (Below.refl _ _)⟩
      case round =>
        obtain ⟨k, out, xs, rfl, hk, hol, hf, how, hel, hok, htk, hbw⟩ := hrel
        by_cases hlt : k < n
        · obtain ⟨t, ht⟩ : ∃ t, L[k]? = some t := ⟨L[k]'(by rw [HN.out]; exact hlt), List.getElem?_eq_getElem _⟩
          have e0 : wr.cell? ⟨sb, k, none⟩ = some (.string ⟨t.toArray⟩) := cell_toB (HR3.out.get ht) hbw.out
          have hf2 : r = endS ((match stepP t with | none => none | some y => (mapO stepP (L.drop (k + 1))).map (y :: ·)).map (out ++ ·)) := by
            rw [hf.out, mapO_drop stepP ht]
            cases stepP t <;> rfl
          have C3 := hid (step_any (s := t) (w := wr) (HLE.out t (List.mem_of_getElem? ht)) (HV3.out.ext hbw.out))
          obtain ⟨r3, hr3⟩ : ∃ r3, stepP t = r3 := ⟨_, rfl⟩
          rw [hr3] at hf2 C3
          have HTT := hid ht
          have HR3P := hid hr3
          have HF2 := hid hf2
          clear ht hr3 hf2 hf
          go_wp2_with fail
          refine C3.out.mono ?_
          rintro e w4 ⟨hres, hb4⟩
          have HB4 := hid (hbw.out.trans (hb4.mono hbw.out.size))
          rcases r3 with _ | st
          · have hres : e = .returned (.tuple #[.agg #[.int .i64 0, .int .i64 0, .int .i64 0, .slice none 0 0], .bool false]) := hres
            subst hres
            have HRE : Hid (r = ([], 5)) := hid (by rw [HF2.out]; rfl)
            clear HF2 hb4 C3 e0
            go_wp2_with fail
            refine bodyPost_ret (v := .tuple #[.slice none 0 0, .int .i64 5]) (by simp [results, Tryz.results16, go_sem]) rfl ⟨ParseRes.err HRE.out, ?_⟩
            exact (HB3.out.trans (HB4.out.mono HB3.out.size)).alloc (HB3.out.trans (HB4.out.mono HB3.out.size)).size _
          · obtain ⟨sa, sc, rfl, hsr, hsa⟩ := hres
            obtain ⟨kd, av, bv, data⟩ := st
            simp only at hsr
            obtain ⟨dn, hdn⟩ : ∃ dn, data.length = dn := ⟨_, rfl⟩
            rw [hdn]
            obtain ⟨W5, hW5⟩ : ∃ W5, w4.alloc (.cells #[.int .i64 kd, .int .i64 av, .int .i64 bv, .slice sa dn sc] 62) = W5 := ⟨_, rfl⟩
            have hb5 : Below w4.heap.size w4 W5 := by rw [← hW5]; exact (Below.refl _ _).alloc (Nat.le_refl _) _
            have hx5 : Bx4 W5 w4.heap.size (.int .i64 kd) (.int .i64 av) (.int .i64 bv) (.slice sa dn sc) := by rw [← hW5]; exact Bx4.made _ _ _ _ _ _
            have HB5 := hid (HB4.out.trans (hb5.mono HB4.out.size))
            have hb45 : Below wr.heap.size wr W5 := hb4.trans (hb5.mono hb4.size)
            have HO5 := hid (how.out.ext hb45)
            have HEL5 := hid (hel.out.mut (Mut.of_below (F := fun _ => False) hb45) fun _ _ e => e.elim)
            have HIT : Hid (ItemAt W5 (fun b => u6.ownBlock = some b) (.slice sa dn sc) data) := hid (by
              refine ⟨sa, sc, by rw [hdn], hsr.ext hb5, (stepP_kind HR3P.out).2.d, fun b off e => ⟨?_, fun hb => ?_⟩⟩
              · have := (hsa b off e).2; have := hb5.size; omega
              · have h1 := (hsa b off e).1
                have h2 := (how.out.blk hb).2
                omega)
            have HST := hid (stepP_kind HR3P.out)
            have HT1 := hid (stepP_len HR3P.out)
            have y0 := hx5.c0
            have y1 := hx5.c1
            have y2 := hx5.c2
            have y3 := hx5.c3
            have hkb : k ≤ 2000001 := by have := HNL.out; omega
            have HXL : Hid (xs.length + 1 ≤ 1000000) := hid (by
              have h1 := hel.out.1
              rw [List.length_map, hol.out] at h1
              have h2 := HTWO.out k hk htk.out
              omega)
            have HF3 : Hid (r = endS ((mapO stepP (L.drop (k + 1))).map ((out ++ [⟨kd, av, bv, data⟩]) ++ ·))) := hid (by rw [HF2.out]; cases mapO stepP (L.drop (k + 1)) <;> simp)
            clear hb4 hb5 hb45 hx5 hsr hsa hdn C3 e0 HB4 how hel HF2
            go_upto_region 11 with fail
            clear hW5
            go_wp2_with (at_builtin; refine wpList_appendEP (el := [.int .i64 kd, .int .i64 av, .int .i64 bv, .slice sa dn sc]) (b := W5.heap.size) Tryz.underlying28 hi hz0 hz1 hz2 rfl (by decide) (by decide) (HO5.out.ext ((Below.refl _ _).alloc (Nat.le_refl _) _)) rfl (fun u hu => by simp at hu; rcases hu with rfl | rfl | rfl | rfl <;> rfl) (cells4_new _ _ _ _ _ _) HXL.out (by have := HB5.out.size; simp; omega) rfl rfl rfl rfl ?_; intro v6 w6 hown6 hm6 hn6)
            have hmw : Mut (fun g => u6.ownBlock = some g) W5 w6 := (Mut.of_below ((Below.refl _ _).alloc (Nat.le_refl _) _)).trans (hm6.mono fun k _ e => e)
            have HEL6 : Hid (ElsAt w6 (fun b => v6.ownBlock = some b) (xs ++ [[.int .i64 kd, .int .i64 av, .int .i64 bv, .slice sa dn sc]]) ((out ++ [(⟨kd, av, bv, data⟩ : StepD)]).map stepH)) := hid (by
              have h0 := (HEL5.out.snoc (q := [.int .i64 kd, .int .i64 av, .int .i64 bv]) HIT.out).grow (N' := fun b => u6.ownBlock = some b ∨ W5.heap.size ≤ b) fun b h => h
              have h1 := h0.mut hmw fun b _ e => .inl e
              have h2 := h1.grow (N' := fun b => v6.ownBlock = some b) fun b hb => .inl ((hn6 b hb).imp id fun h => by simp at h; omega)
              rw [List.map_append]
              exact h2)
            have HB6 : Hid (Below w3.heap.size w3 w6) := hid (HB5.out.trans (hmw.below HB5.out.size fun b e => (HO5.out.blk e).1))
            have HO6 := hid hown6
            have HOK6 : Hid (∀ s ∈ out ++ [(⟨kd, av, bv, data⟩ : StepD)], (-9223372036854775808 ≤ s.kind ∧ s.kind ≤ 9223372036854775807) ∧ StepOk s) := hid fun s hs => by
              rcases List.mem_append.1 hs with hs | hs
              · exact hok.out s hs
              · rw [List.mem_singleton.1 hs]; exact HST.out
            have HTK6 : Hid (∀ t ∈ L.take (k + 1), 1 ≤ t.length) := hid fun t' ht' => by
              rw [List.take_add_one] at ht'
              rcases List.mem_append.1 ht' with h | h
              · exact htk.out t' h
              · rw [HTT.out] at h; simp at h; rw [h]; exact HT1.out
            clear hm6 hn6 hown6 hmw y0 y1 y2 y3
            go_wp2_with fail
            go_roundw
            case rel => exact ⟨k + 1, out ++ [⟨kd, av, bv, data⟩], _, by go_num, by omega, hid (by have := hol.out; simp; omega), HF3, HO6, HEL6, HOK6, HTK6, HB6⟩
            case measure => simp [intOf]; omega
        · have hd : L.drop k = [] := List.drop_eq_nil_of_le (by rw [HN.out]; omega)
          have HRO : Hid (r = endS (some out)) := hid (by rw [hf.out, hd]; simp [mapO])
          have HBF := hid (HB3.out.trans (hbw.out.mono HB3.out.size))
          obtain ⟨a9, c9, rfl, hc9, hrow9⟩ := steps_row how.out hel.out hok.out
          have HRW := hid hrow9
          have HC9 := hid hc9
          have hol9 := hol.out
          rw [hol9]
          by_cases hbig : 4096 < k
          · have HRE : Hid (r = ([], 3)) := hid (by rw [HRO.out]; unfold endS; simp only []; rw [if_pos (by omega)])
            clear hd hf hrow9 hc9 hol9
            go_wp2_with fail
            refine bodyPost_ret (v := .tuple #[.slice none 0 0, .int .i64 3]) (by simp [results, Tryz.results16, go_sem]) rfl ⟨ParseRes.err HRE.out, HBF.out⟩
          · have HRE : Hid (r = (out, 0)) := hid (by rw [HRO.out]; unfold endS; simp only []; rw [if_neg (by omega)])
            clear hd hf hrow9 hc9 hol9
            go_wp2_with fail
            refine bodyPost_ret (v := .tuple #[.slice a9 k c9, .int .i64 0]) (by simp [results, Tryz.results16, go_sem]) rfl ⟨?_, HBF.out⟩
            rw [HRE.out]
            exact ⟨a9, c9, by rw [hol.out]; rfl, HRW.out, HC9.out⟩
end Go.Proofs.YtehagnbphamjhaaGreatDoor

namespace Go.Proofs.YtehagnbphamjhaaGreatDoor
open Go.RowKit
/-! ### strings.Builder -/
/-- the builder at block b holds the text s; its own rows lie from B on -/
abbrev BldU (B b : Nat) (s : Str) (w : World) : Prop := Lib.BuilderAt 65 5 B b (.pointer (some ⟨b, 0, none⟩)) (Lib.byteCells s) w
abbrev Bld (B b : Nat) (s : Str) (w : World) : Prop := Lib.IsBuilder 65 5 B b (Lib.byteCells s) w
theorem bldSize : (Tryz.prog.info? 65).map (·.size) = some 2 := by kernel_rfl
theorem bldLies : liesAt Tryz.prog Tryz.prog.depth 65 (2 / Tryz.prog.cellsOf 65) 0 65 1 = true := by kernel_rfl
theorem bldNe : (65 : Nat) ≠ 5 := by decide
set_option maxHeartbeats 1600000 in
set_option maxRecDepth 100000 in
theorem bcheck_used (b : Nat) (w : World) (h0 : w.cell? ⟨b, 0, none⟩ = some (.pointer (some ⟨b, 0, none⟩))) :
    Calls Tryz.prog 48 #[.pointer (some ⟨b, 0, none⟩)] w fun e w' => e = .returned (.tuple #[]) ∧ w' = w := by
  obtain ⟨j, hj, _⟩ := Option.map_eq_some_iff.1 bldSize
  go_enter Tryz.func48, Tryz.ntmps48
  go_wp2
  rw [Lib.run_neq_ptr_same w _ Tryz.underlying63 hj]
  go_wp2
  go_end0
  exact ⟨rfl, rfl⟩
set_option maxHeartbeats 1600000 in
set_option maxRecDepth 100000 in
theorem bcheck_fresh (b : Nat) (w : World) (h0 : w.cell? ⟨b, 0, none⟩ = some (.pointer none)) (hsh : w.shape? b = some (65, 2)) (hfz : w.frozen? ⟨b, 0, none⟩ = false) :
    Calls Tryz.prog 48 #[.pointer (some ⟨b, 0, none⟩)] w fun e w' => e = .returned (.tuple #[]) ∧ w' = w.setCell ⟨b, 0, none⟩ (.pointer (some ⟨b, 0, none⟩)) := by
  obtain ⟨j, hj, hjs⟩ := Option.map_eq_some_iff.1 bldSize
  go_enter Tryz.func48, Tryz.ntmps48
  go_wp2
  rw [Lib.run_to_unsafe w ⟨b, 0, none⟩ Tryz.underlying63 Tryz.underlying152 hj (by rw [hjs]; decide) hsh (Nat.zero_lt_succ 1)]
  simp only [Result.andThen]
  rw [Oper.upon_value]
  go_wp2
  rw [run_callFunc_extern Tryz.func76 (by kernel_rfl) (by kernel_rfl) (by kernel_rfl) (e := Extern.AbiNoEscape.same) (by kernel_rfl)]
  rw [Lib.run_noEscape]
  simp only [Result.andThen]
  rw [Oper.upon_value]
  go_wp2
  rw [Lib.run_from_unsafe w ⟨b, 0, none⟩ Tryz.underlying152 Tryz.underlying63 hj hsh bldLies]
  simp only [Result.andThen]
  rw [Oper.upon_value]
  go_wp2
  go_end0
  exact ⟨rfl, rfl⟩
theorem bcheck_any (B b : Nat) (s : Str) (w : World) (h : Bld B b s w) :
    Calls Tryz.prog 48 #[.pointer (some ⟨b, 0, none⟩)] w fun e w' => e = .returned (.tuple #[]) ∧ BldU B b s w' ∧ Below B w w' ∧ Lib.OthersKept 5 (some b) w w' := by
  rcases h with h | h
  · refine (bcheck_fresh b w h.cell0 h.shape h.frozen0).mono ?_
    rintro e w' ⟨rfl, rfl⟩
    exact ⟨rfl, h.used _, (Below.refl B w).setCell (p := ⟨b, 0, none⟩) h.1 _, (Lib.OthersKept.refl _ _ w).setCell ⟨b, 0, none⟩ rfl _⟩
  · refine (bcheck_used b w h.cell0).mono ?_
    rintro e w' ⟨rfl, rfl⟩
    exact ⟨rfl, h, Below.refl B _, Lib.OthersKept.refl _ _ _⟩
set_option maxHeartbeats 2000000 in
set_option maxRecDepth 100000 in
theorem bws_any (B b : Nat) (s t : Str) (w : World) (h : Bld B b s w) (hlen : s.length + t.length ≤ 100000000) (hBw : B ≤ w.heap.size) :
    Calls Tryz.prog 23 #[.pointer (some ⟨b, 0, none⟩), .string ⟨t.toArray⟩] w fun e w' => e = .returned (.tuple #[.int .i64 t.length, .nilIface]) ∧ BldU B b (s ++ t) w' ∧ Below B w w' ∧ Lib.OthersKept 5 (some b) w w' := by
  obtain ⟨i0, hi, hz0, hz1, hz2⟩ := info_parts infoB
  have hz : (⟨t.toArray⟩ : ByteArray).size = t.length := by show t.toArray.size = _; simp
  have CC := bcheck_any B b s w h
  go_enter Tryz.func23, Tryz.ntmps23
  go_wp2_with (go_at_call 48; refine CC.mono ?_)
  rintro e w1 ⟨rfl, h1, hb1, hk1⟩
  obtain ⟨hB, v, hbk, hown, hne⟩ := h1
  rw [Lib.byteCells_length] at hown
  have c0 : w1.cell? ⟨b, 0, none⟩ = some (.pointer (some ⟨b, 0, none⟩)) := by rw [Lib.cell_of_heap hbk]; rfl
  have c1 : w1.cell? ⟨b, 1, none⟩ = some v := by rw [Lib.cell_of_heap hbk]; rfl
  go_wp2_with (at_builtin; refine Lib.wpList_append_own_string _ rfl _ _ 55 9 rfl B 5 i0 Tryz.underlying55 Tryz.underlying9 hi hz0 hz1 hz2 _ _ _ rfl hown ⟨t.toArray⟩ rfl ?c3 ?c4 ?c5 ?_)
  case c3 => unfold maxLen; rw [hz]; omega
  case c4 => rw [hz]; omega
  case c5 => have := hb1.size; omega
  intro v' w2 hown' hgrow _
  have hlt : b < w1.heap.size := by
    rcases Nat.lt_or_ge b w1.heap.size with h' | h'
    · exact h'
    · simp [Array.getElem?_eq_none h'] at hbk
  have hb2 : w2.heap[b]? = some (.cells #[.pointer (some ⟨b, 0, none⟩), v] 65 (0, 0)) := by
    rw [hgrow.block b hlt (fun e => hne e.symm)]
    exact hbk
  have d0 : w2.cell? ⟨b, 0, none⟩ = some (.pointer (some ⟨b, 0, none⟩)) := by rw [Lib.cell_of_heap hb2]; rfl
  have d1 : w2.cell? ⟨b, 1, none⟩ = some v := by rw [Lib.cell_of_heap hb2]; rfl
  have f1 : w2.frozen? ⟨b, 1, none⟩ = false := Lib.frozen_of_heap hb2 1
  obtain ⟨ao, n', cap, rfl⟩ : ∃ ao n' cap, v' = .slice ao n' cap := by
    rcases hown'.2 with ⟨hv, _⟩ | ⟨g, cap, cur, hv, _⟩
    · exact ⟨_, _, _, hv⟩
    · exact ⟨_, _, _, hv⟩
  go_wp2
  refine bodyPost_ret (v := .tuple #[.int .i64 t.length, .nilIface]) (by simp [results, Tryz.results23, go_sem]) rfl ⟨rfl, ?_, ?_, ?_⟩
  · refine Lib.BuilderAt.put (T := 65) (e := 5) hB hb2 (bs' := Lib.byteCells (s ++ t)) ?_ bldNe
    rw [Lib.byteCells_length, List.length_append, Lib.byteCells_append, ← Lib.strCells_toArray t, ← hz]
    exact hown'
  · exact (hb1.grown hgrow (by have := hb1.size; omega) (fun k hk => (hown.lt k hk).1)).setCell (p := ⟨b, 1, none⟩) hB _
  · exact (hk1.grown hgrow (Lib.ownsRowF_kind (World.ownsRowF_of hown))).setCell ⟨b, 1, none⟩ rfl _
theorem bst_extra : Builder.Extra Tryz.prog Tryz.bst_ren where
  sizeBuilder := by kernel_rfl
  liesBuilder := by kernel_rfl
  t5 := Tryz.underlying5
  a5 := Tryz.isAgg5
  z5 := Tryz.sizeOf5
  v5 := Tryz.zeroValue5
  infoByte := by kernel_rfl
  cellsByte := by kernel_rfl
  sizeByte := by kernel_rfl
  neB5 := by decide
theorem bst_any (B b : Nat) (s : Str) (w : World) (h : Bld B b s w) (hBw : B ≤ w.heap.size) :
    Calls Tryz.prog 26 #[.pointer (some ⟨b, 0, none⟩)] w fun e w' => e = .returned (.string ⟨s.toArray⟩) ∧ Below B w w' :=
  Any.Builder_String_any Tryz.bst bst_extra B b s w h hBw
end Go.Proofs.YtehagnbphamjhaaGreatDoor

namespace Go.Proofs.YtehagnbphamjhaaGreatDoor
open Go.RowKit
/-! ### play: Print -/
theorem BldU.extP {B b : Nat} {s : Str} {w w' : World} (h : BldU B b s w) (hb : Below w.heap.size w w') : BldU B b s w' := by
  obtain ⟨hB, v, hbk, hown, hne⟩ := h
  refine ⟨hB, v, (hb.block b (Array.getElem?_eq_some_iff.1 hbk).1).trans hbk, ⟨hown.1, ?_⟩, hne⟩
  rcases hown.2 with hn | ⟨g, cap, cur, rfl, hbb, hgg, rest⟩
  · exact .inl hn
  · exact .inr ⟨g, cap, cur, rfl, hbb, (hb.block g (Array.getElem?_eq_some_iff.1 hgg).1).trans hgg, rest⟩
theorem BldF.extP {B b : Nat} {p : Value} {bs : List Value} {w w' : World} (h : Lib.BuilderAt 65 5 B b p bs w) (hb : Below w.heap.size w w') : Lib.BuilderAt 65 5 B b p bs w' := by
  obtain ⟨hB, v, hbk, hown, hne⟩ := h
  refine ⟨hB, v, (hb.block b (Array.getElem?_eq_some_iff.1 hbk).1).trans hbk, ⟨hown.1, ?_⟩, hne⟩
  rcases hown.2 with hn | ⟨g, cap, cur, rfl, hbb, hgg, rest⟩
  · exact .inl hn
  · exact .inr ⟨g, cap, cur, rfl, hbb, (hb.block g (Array.getElem?_eq_some_iff.1 hgg).1).trans hgg, rest⟩
theorem Bld.extP {B b : Nat} {s : Str} {w w' : World} (h : Bld B b s w) (hb : Below w.heap.size w w') : Bld B b s w' :=
  h.elim (fun h => .inl (BldF.extP h hb)) (fun h => .inr (BldF.extP h hb))
theorem Bld.fresh (w : World) : Bld w.heap.size w.heap.size [] (w.alloc (.cells #[.pointer none, .slice none 0 0] 65)) := by
  left
  exact ⟨Nat.le_refl _, .slice none 0 0, by simpa using heap_alloc_new w _, World.ownsRow_nil _ _ _ _, by simp [Value.ownBlock]⟩
theorem line_len {s : StepD} {t : Str} (hok : StepOk s) (h : lineP s = some t) : t.length ≤ 60 + 2 * s.data.length := by
  unfold lineP at h
  split at h
  · cases h
  · rename_i x hx
    split at h
    · cases h
    · have e := Option.some.inj h
      have h1 := (shapes_ok x (shapeK_some hx).1).2.2.2.1
      have h2 := itoa_len s.a hok.a1 hok.a2
      have h3 := itoa_len s.b hok.b1 hok.b2
      have h4 := hexP_len s.data
      rw [← e]
      unfold lineS
      cases x.two <;> cases x.bytes <;> simp <;> omega
def PrintV (r : Str × Nat) : Value := .tuple #[.string ⟨r.1.toArray⟩, .int .i64 r.2]
end Go.Proofs.YtehagnbphamjhaaGreatDoor

namespace Go.Proofs.YtehagnbphamjhaaGreatDoor
open Go.RowKit
/-! ### SameSteps, of two rows that are the same -/
theorem cell_extO {w : World} {p : Addr} {v : Value} (h : w.cell? p = some v) : ∀ U : ExtW w, U.W.cell? p = some v := fun U => by
  rw [U.h.cell (World.block_lt_of_cell? w _ h)]; exact h
set_option maxRecDepth 100000 in
set_option maxHeartbeats 3200000 in
theorem sameSteps_true {w : World} {a b : Option Addr} {c d n : Nat} {xs : List StepD} (hn : Hid (xs.length = n)) (h1 : StepRow w a xs) (h2 : StepRow w b xs) (hnl : n ≤ 70368744177664) :
    Calls Tryz.prog 13 #[.slice a n c, .slice b n d] w fun e w' => e = .returned (.bool true) ∧ Below w.heap.size w w' := by
  have H1 := hid h1
  have H2 := hid h2
  clear h1 h2
  go_enter Tryz.func13, Tryz.ntmps13
  go_wp2
  go_loopw [4, 5] (fun rs kv wr => rs = .bool false ∧ ∃ k : Nat, k ≤ n ∧ kv = .int .i64 k ∧ Below w.heap.size w wr) (fun _ kv _ => n - (intOf kv).toNat)
  case atStart => exact ⟨rfl, 0, Nat.zero_le _, rfl, Below.refl _ _⟩
  case round =>
    obtain ⟨rfl, k, hk, rfl, hb⟩ := hrel
    by_cases hkt : k < n
    · have hp : k < xs.length := by rw [hn.out]; exact hkt
      obtain ⟨s, hs⟩ : ∃ s, xs[k] = s := ⟨_, rfl⟩
      obtain ⟨b1, o1, a1, c1, rfl, l1, r0, r1, r2, r3, R1⟩ := (H1.out.ext hb).cells hp hs
      obtain ⟨b2, o2, a2, c2, rfl, l2, s0, s1, s2, s3, R2⟩ := (H2.out.ext hb).cells hp hs
      obtain ⟨kd, ka, kb, dt⟩ := s
      obtain ⟨m, hm⟩ : ∃ m, dt.length = m := ⟨_, rfl⟩
      try simp only at r0 r1 r2 r3 s0 s1 s2 s3
      rw [hm] at r3 s3
      obtain ⟨S, hS⟩ : ∃ S, strOfNums (numsB dt) = S := ⟨_, rfl⟩
      have v1 : ∀ U : ExtW wr, (convert 55 9 (.slice a1 m c1)).run Tryz.prog U.W = .ok (.string S) U.W := fun U => by rw [← hS]; exact run_conv_byte hm (R1.row.ext U.h)
      have v2 : ∀ U : ExtW wr, (convert 55 9 (.slice a2 m c2)).run Tryz.prog U.W = .ok (.string S) U.W := fun U => by rw [← hS]; exact run_conv_byte hm (R2.row.ext U.h)
      have r0 := cell_extO r0
      have r1 := cell_extO r1
      have r2 := cell_extO r2
      have r3 := cell_extO r3
      have s0 := cell_extO s0
      have s1 := cell_extO s1
      have s2 := cell_extO s2
      have s3 := cell_extO s3
      clear R1 R2 hm hS hs l1 l2 hp
      go_wp2_with fail
      refine wp_region_ext (w := wr) (Below.refl _ _) (by kernel_rfl) (by kernel_rfl) ?_
      try simp only [List.append_eq, List.cons_append, List.nil_append]
      repeat (go_big_quiet_step (fail))
      refine wpQuiet_nil ?_
      rintro _ ⟨⟨w9, hb9⟩, rfl⟩
      have HB := hid (hb.trans (hb9.mono hb.size))
      clear hb9 hb r0 r1 r2 r3 s0 s1 s2 s3 v1 v2
      go_wp2_with fail
      refine ⟨⟨rfl, k + 1, by omega, by go_num, HB.out⟩, ?_⟩
      simp [intOf]; omega
    · go_wp2_with fail
      go_ret
      exact ⟨rfl, hb⟩
end Go.Proofs.YtehagnbphamjhaaGreatDoor

namespace Go.Proofs.YtehagnbphamjhaaGreatDoor
open Go.RowKit
/-! ### stab.Report of nothing; elect.Stop; tell -/
theorem zero27 (w : World) : (zeroValue 27).run Tryz.prog w = .ok (.int .u64 0) w := by kernel_rfl
theorem MapIs.none64 {w : World} {m : Nat} (h : MapIs w m pidV n64 []) (x y : Int) : (Instr.lookup 300 (.map (some m)) (.agg #[.int .u16 x, .int .u32 y]) false).run Tryz.prog w = .ok (.int .u64 0) w := by
  have := h.lookup_no keyPid Tryz.underlying300 (zero27 w) (x, y)
  exact this
theorem stabReport0 {V : View} {i : Nat} {A : VAd} {w : World} {b m1 m2 : Nat} (hi : V.id = (i : Int)) (hB : BoxL w b 393 (vcl V i A ++ [.map (some m1), .map (some m2)])) (hV : ViewR w A.am A.al A.ad V) (hM : MapIs w m1 pidV n64 []) (x y : Int) (hp : (x, y) ∈ V.ms) :
    Calls Tryz.prog 203 #[.pointer (some ⟨b, 0, none⟩), .agg #[.int .u16 x, .int .u32 y], .int .u64 0] w fun e w' => e = .returned (.bool false) ∧ Below w.heap.size w w' := by
  obtain ⟨am, al, ad, cm, cl, cd⟩ := A
  obtain ⟨n1, e1⟩ : ∃ q, V.ms.length = q := ⟨_, rfl⟩
  obtain ⟨n2, e2⟩ : ∃ q, V.ls.length = q := ⟨_, rfl⟩
  obtain ⟨n3, e3⟩ : ∃ q, V.ds.length = q := ⟨_, rfl⟩
  have hB : BoxL w b 393 [.int .u64 i, .slice am n1 cm, .slice al n2 cl, .slice ad n3 cd, .map (some m1), .map (some m2)] := by
    have := hB; unfold vcl at this; rw [e1, e2, e3] at this; exact this
  obtain ⟨W1, hW1⟩ : ∃ W1, w.alloc (.cells #[.int .u16 x, .int .u32 y] 46) = W1 := ⟨_, rfl⟩
  have hb1 : Below w.heap.size w W1 := by rw [← hW1]; exact (Below.refl _ _).alloc (Nat.le_refl _) _
  have k0 : W1.cell? ⟨w.heap.size, 0, none⟩ = some (.int .u16 x) := by rw [← hW1]; simp
  have k1 : W1.cell? ⟨w.heap.size, 1, none⟩ = some (.int .u32 y) := by rw [← hW1]; simp
  have hB1 := hB.ext hb1
  have hM1 := hM.ext hb1
  have hV1 := hV.ext hb1
  have c0 := hB1.cell (j := 0) rfl
  have c1 := hB1.cell (j := 1) rfl
  have c2 := hB1.cell (j := 2) rfl
  have c3 := hB1.cell (j := 3) rfl
  have c4 := hB1.cell (j := 4) rfl
  have hq : decide ((x, y) ∈ V.ms) = true := decide_eq_true hp
  have CH : Hid (∀ W, Below W1.heap.size W1 W → Calls Tryz.prog 104 #[.agg #[.int .u64 i, .slice am n1 cm, .slice al n2 cl, .slice ad n3 cd], .agg #[.int .u16 x, .int .u32 y]] W fun e w' => e = .returned (.bool true) ∧ Below W1.heap.size W1 w') := hid fun W h => by
    have := hasView_any V am al ad cm cl cd x y W (hV1.ext h)
    rw [hq, e1, e2, e3, hi] at this
    exact this.mono fun e w' ⟨h1, h2⟩ => ⟨h1, h.trans (h2.mono h.size)⟩
  have HL : Hid (∀ W, Below W1.heap.size W1 W → (Instr.lookup 300 (.map (some m1)) (.agg #[.int .u16 x, .int .u32 y]) false).run Tryz.prog W = .ok (.int .u64 0) W) := hid fun W h => (hM1.ext h).none64 x y
  have HS : Hid (∀ W, Below W1.heap.size W1 W → Below W1.heap.size W1 W ∧ W.cell? ⟨w.heap.size, 0, none⟩ = some (.int .u16 x) ∧ W.cell? ⟨w.heap.size, 1, none⟩ = some (.int .u32 y) ∧ W.cell? ⟨b, 0, none⟩ = some (.int .u64 i) ∧ W.cell? ⟨b, 1, none⟩ = some (.slice am n1 cm) ∧ W.cell? ⟨b, 2, none⟩ = some (.slice al n2 cl) ∧ W.cell? ⟨b, 3, none⟩ = some (.slice ad n3 cd) ∧ W.cell? ⟨b, 4, none⟩ = some (.map (some m1)) ∧ (Instr.lookup 300 (.map (some m1)) (.agg #[.int .u16 x, .int .u32 y]) false).run Tryz.prog W = .ok (.int .u64 0) W) := hid fun W h => ⟨h, cell_toB k0 h, cell_toB k1 h, cell_toB c0 h, cell_toB c1 h, cell_toB c2 h, cell_toB c3 h, cell_toB c4 h, HL.out W h⟩
  have H0 : Below W1.heap.size W1 W1.drew := (Below.refl _ _).drew
  have HB1 := hid hb1
  clear hB hB1 hM hM1 hV hV1 e1 e2 e3 hi c0 c1 c2 c3 c4 k0 k1 hb1 hq HL hp
  go_enter Tryz.func203, Tryz.ntmps203
  go_wp2_with fail
  clear hW1
  (
    go_region_held3 (fun W => Below W1.heap.size W1 W ∧ W.cell? ⟨w.heap.size, 0, none⟩ = some (.int .u16 x) ∧ W.cell? ⟨w.heap.size, 1, none⟩ = some (.int .u32 y) ∧ W.cell? ⟨b, 0, none⟩ = some (.int .u64 i) ∧ W.cell? ⟨b, 1, none⟩ = some (.slice am n1 cm) ∧ W.cell? ⟨b, 2, none⟩ = some (.slice al n2 cl) ∧ W.cell? ⟨b, 3, none⟩ = some (.slice ad n3 cd) ∧ W.cell? ⟨b, 4, none⟩ = some (.map (some m1)) ∧ (Instr.lookup 300 (.map (some m1)) (.agg #[.int .u16 x, .int .u32 y]) false).run Tryz.prog W = .ok (.int .u64 0) W) (first | exact HS.out _ H0 | exact HS.out _ (by assumption)) (first | ((go_at_call 104; refine (CH.out _ (by first | exact H0 | assumption)).mono ?_; rintro e w6 ⟨rfl, hb6⟩))))
  all_goals (
    go_wp2
    go_ret
    exact ⟨rfl, HB1.out.trans (hb6.mono HB1.out.size)⟩)
theorem electStop_any {w : World} {b : Nat} {v0 v1 v2 v3 v4 v5 v6 v7 v8 v9 v10 v11 v12 v13 : Value} (hB : BoxL w b 312 [v0, v1, v2, v3, v4, v5, v6, v7, v8, v9, v10, v11, v12, v13]) :
    Calls Tryz.prog 204 #[.pointer (some ⟨b, 0, none⟩)] w fun e w' => e = .returned (.tuple #[]) ∧ Mut (fun k => k = b) w w' ∧ BoxL w' b 312 [v0, v1, v2, v3, v4, .int .i64 0, v6, v7, v8, v9, v10, .pointer none, v12, v13] := by
  have c5 := hB.cell (j := 5) rfl
  have c11 := hB.cell (j := 11) rfl
  have fz := hB.frozen
  have HB := hid hB
  clear hB
  go_enter Tryz.func204, Tryz.ntmps204
  go_wp2
  exact bodyPost_end (results_none rfl _ _ _) rfl ⟨rfl, mut_set (G := fun k => k = b) (mut_set (G := fun k => k = b) (Mut.refl _ _) b _ _ rfl) b _ _ rfl, (HB.out.set (j := 5) (v := .int .i64 0)).set (j := 11) (v := .pointer none)⟩
end Go.Proofs.YtehagnbphamjhaaGreatDoor

namespace Go.Proofs.YtehagnbphamjhaaGreatDoor
open Go.RowKit
/-! ### window: Due -/
theorem SndIs.less {w : World} {N N' : Nat → Prop} {s : Nat} {wv : Value} {us : List Value} {d : SndD} (h : SndIs w N s wv us d) (hs : N' s) (hw : ∀ g, wv.ownBlock = some g → N' g) (h2 : ∀ b, N' b → N b ∨ w.heap.size ≤ b) : SndIs w N' s wv us d :=
  ⟨h.box, h.row, h.it.grow h2, hs, fun g e => ⟨hw g e, (h.nw g e).2⟩, h.b0, h.b2, h.b3, h.b4, h.b5, h.bl⟩
theorem Mut.transG {F G : Nat → Prop} {a b c : World} (h : Mut F a b) (k : Mut G b c) (hG : ∀ i, i < a.heap.size → G i → F i) : Mut F a c :=
  ⟨k.os.trans h.os, k.tape.trans h.tape, k.output.trans h.output, Nat.le_trans h.size k.size, fun i hi hf => (k.block i (Nat.lt_of_lt_of_le hi h.size) fun e => hf (hG i hi e)).trans (h.block i hi hf)⟩
end Go.Proofs.YtehagnbphamjhaaGreatDoor

namespace Go.Proofs.YtehagnbphamjhaaGreatDoor
open Go.RowKit
/-! ### delete (as in B3) -/
theorem del_eq {α β : Type} [DecidableEq α] {x : α} : ∀ {L : List (α × β)} {i j : Nat} {v : β}, lookI x L i = some (j, v) → del x L = L.eraseIdx (j - i)
  | [], _, _, _, h => by simp [lookI] at h
  | p :: l, i, j, v, h => by
    simp only [lookI] at h
    split at h
    · next hx =>
      simp only [Option.some.injEq, Prod.mk.injEq] at h
      obtain ⟨rfl, _⟩ := h
      simp [del, hx]
    · next hx =>
      have h1 := lookI_some h
      have e : j - i = (j - (i + 1)) + 1 := by omega
      rw [e]
      simp only [del, if_neg hx, List.eraseIdx_cons_succ, del_eq h]
theorem del_none {α β : Type} [DecidableEq α] {x : α} : ∀ {L : List (α × β)} {i : Nat}, lookI x L i = none → del x L = L
  | [], _, _ => rfl
  | p :: l, i, h => by
    simp only [lookI] at h
    split at h
    · simp at h
    · next hx => simp [del, if_neg hx, del_none h]
theorem map_eraseIdx' {α β : Type} (f : α → β) : ∀ (l : List α) (j : Nat), (l.eraseIdx j).map f = (l.map f).eraseIdx j
  | [], _ => rfl
  | _ :: _, 0 => rfl
  | a :: l, j + 1 => by simp [map_eraseIdx' f l j]
theorem MapIs.delete {α β : Type} [DecidableEq α] {ke : α → Value} {ve : β → Value} {P : Program} {K : TypeId} {w : World} {r : Nat} {L : List (α × β)} (h : MapIs w r ke ve L) (kk : KeyOk P K ke) {t e : TypeId} (ht : P.underlying t = some (.map K e)) (x : α) :
    ∃ w', (∀ ty, (Builtin.delete_ #[t, K] ty #[.map (some r), ke x]).run P w = .ok (.tuple #[]) w') ∧ MapIs w' r ke ve (del x L) ∧ But r w w' := by
  obtain ⟨es, clock, hb, he, hbn⟩ := h
  have hf := find_run (w := w) kk he x
  cases hq : lookI x L 0 with
  | none =>
    rw [hq] at hf
    refine ⟨{ w with heap := w.heap.setIfInBounds r (.map es clock) }, fun ty => by simp [Builtin.delete_, run_underlying ht, MapKept.run_getObj_map hb, kk.check, hf, MapKept.run_setObj_map _ hb, Result.andThen], ⟨_, _, (MapKept.heap_set hb).1, by rw [del_none hq]; exact he, hbn⟩, But.of_set _ _ _⟩
  | some q =>
    obtain ⟨j, u⟩ := q
    rw [hq] at hf
    have hlen : es.toList.length = L.length := by simpa using congrArg List.length he
    have hj : j < es.size := by have := (lookI_some hq).2.1; simp at hlen; omega
    refine ⟨{ w with heap := w.heap.setIfInBounds r (.map (es.eraseIdxIfInBounds j) clock) }, fun ty => by simp [Builtin.delete_, run_underlying ht, MapKept.run_getObj_map hb, kk.check, hf, MapKept.run_setObj_map _ hb, Result.andThen], ⟨_, _, (MapKept.heap_set hb).1, ?_, ?_⟩, But.of_set _ _ _⟩
    · rw [del_eq hq, Nat.sub_zero]
      have : (es.eraseIdxIfInBounds j).toList = es.toList.eraseIdx j := by simp [Array.eraseIdxIfInBounds, hj, Array.toList_eraseIdx]
      rw [this, map_eraseIdx', he, map_eraseIdx']
    · have : (es.eraseIdxIfInBounds j).toList = es.toList.eraseIdx j := by simp [Array.eraseIdxIfInBounds, hj, Array.toList_eraseIdx]
      have hs : (es.toList.eraseIdx j).Sublist es.toList := List.eraseIdx_sublist _ _
      exact ⟨by rw [this]; exact hbn.1.sublist (hs.map _), fun e he' => hbn.2 e (hs.subset (by rw [← this]; exact he'))⟩
end Go.Proofs.YtehagnbphamjhaaGreatDoor

namespace Go.Proofs.YtehagnbphamjhaaGreatDoor
open Go.RowKit
open Go.Instr Go.MapKept
/-! ### a link in the heap -/
abbrev ke64 : Nat → Value := fun x => .int .u64 (x : Int)
/-- four cells that may be written -/
structure Box4 (w : World) (b : Nat) (v0 v1 v2 v3 : Value) : Prop where
  c0 : w.cell? ⟨b, 0, none⟩ = some v0
  c1 : w.cell? ⟨b, 1, none⟩ = some v1
  c2 : w.cell? ⟨b, 2, none⟩ = some v2
  c3 : w.cell? ⟨b, 3, none⟩ = some v3
  f : ∀ j, w.frozen? ⟨b, j, none⟩ = false
section
variable {w w' : World} {b : Nat} {v0 v1 v2 v3 : Value}
theorem Box4.lt (h : Box4 w b v0 v1 v2 v3) : b < w.heap.size := World.block_lt_of_cell? w _ h.c0
theorem Box4.mut {G : Nat → Prop} (h : Box4 w b v0 v1 v2 v3) (hm : Mut G w w') (hG : ¬ G b) : Box4 w' b v0 v1 v2 v3 :=
  ⟨(hm.cell h.lt hG).trans h.c0, (hm.cell h.lt hG).trans h.c1, (hm.cell h.lt hG).trans h.c2, (hm.cell h.lt hG).trans h.c3, fun j => (World.frozen?_of_block (w := w) (a := ⟨b, j, none⟩) (hm.block b h.lt hG)).trans (h.f j)⟩
theorem Box4.made (w : World) (t : TypeId) (v0 v1 v2 v3 : Value) : Box4 (w.alloc (.cells #[v0, v1, v2, v3] t)) w.heap.size v0 v1 v2 v3 := ⟨by simp, by simp, by simp, by simp, fun j => by simp⟩
theorem Box4.set1 (h : Box4 w b v0 v1 v2 v3) (u : Value) : Box4 (w.setCell ⟨b, 1, none⟩ u) b v0 u v2 v3 :=
  ⟨by rw [cellOff (by omega)]; exact h.c0, World.cell?_setCell_same _ _ _ h.c1, by rw [cellOff (by omega)]; exact h.c2, by rw [cellOff (by omega)]; exact h.c3, fun j => by simp [h.f j]⟩
theorem Box4.set3 (h : Box4 w b v0 v1 v2 v3) (u : Value) : Box4 (w.setCell ⟨b, 3, none⟩ u) b v0 v1 v2 u :=
  ⟨by rw [cellOff (by omega)]; exact h.c0, by rw [cellOff (by omega)]; exact h.c1, by rw [cellOff (by omega)]; exact h.c2, World.cell?_setCell_same _ _ _ h.c3, fun j => by simp [h.f j]⟩
end
/-- what a link holds -/
structure LnkD where
  snd : SndD
  upto : Nat
  held : List (Nat × List Nat)
  owes : Bool
/-- where its parts lie -/
structure LnkP where
  lb : Nat
  sb : Nat
  hm : Nat
  wv : Value
def fpL (p : LnkP) (b : Nat) : Prop := b = p.lb ∨ b = p.sb ∨ b = p.hm ∨ p.wv.ownBlock = some b
def HeldL (w : World) (N : Nat → Prop) : List (Nat × Value) → List (Nat × List Nat) → Prop
  | [], [] => True
  | (q, u) :: l, (q', b) :: m => q = q' ∧ ItemAt w N u b ∧ HeldL w N l m
  | _, _ => False
theorem HeldL.mono {w w' : World} {N N' : Nat → Prop} (h : ∀ u b, ItemAt w N u b → ItemAt w' N' u b) : ∀ {l : List (Nat × Value)} {m : List (Nat × List Nat)}, HeldL w N l m → HeldL w' N' l m
  | [], [], _ => trivial
  | (q, u) :: l, (q', b) :: m, hl => ⟨hl.1, h u b hl.2.1, HeldL.mono h hl.2.2⟩
  | [], _ :: _, hl => hl.elim
  | _ :: _, [], hl => hl.elim
theorem HeldL.look {w : World} {N : Nat → Prop} (x : Nat) : ∀ {l : List (Nat × Value)} {m : List (Nat × List Nat)}, HeldL w N l m → (look x l = none ∧ look x m = none) ∨ ∃ u b, look x l = some u ∧ look x m = some b ∧ ItemAt w N u b
  | [], [], _ => .inl ⟨rfl, rfl⟩
  | (q, u) :: l, (q', b) :: m, hl => by
    obtain ⟨e, h1, h2⟩ := hl
    subst e
    simp only [Proofs.YtehagnbphamjhaaGreatDoor.look]
    by_cases hx : x = q
    · exact .inr ⟨u, b, by rw [if_pos hx], by rw [if_pos hx], h1⟩
    · rw [if_neg hx, if_neg hx]; exact HeldL.look x h2
  | [], _ :: _, hl => hl.elim
  | _ :: _, [], hl => hl.elim
theorem HeldL.del {w : World} {N : Nat → Prop} (x : Nat) : ∀ {l : List (Nat × Value)} {m : List (Nat × List Nat)}, HeldL w N l m → HeldL w N (del x l) (del x m)
  | [], [], _ => trivial
  | (q, u) :: l, (q', b) :: m, hl => by
    obtain ⟨e, h1, h2⟩ := hl
    subst e
    simp only [Proofs.YtehagnbphamjhaaGreatDoor.del]
    by_cases hx : x = q
    · rw [if_pos hx, if_pos hx]; exact h2
    · rw [if_neg hx, if_neg hx]; exact ⟨rfl, h1, HeldL.del x h2⟩
  | [], _ :: _, hl => hl.elim
  | _ :: _, [], hl => hl.elim
theorem HeldL.ins {w : World} {N : Nat → Prop} (x : Nat) {v : Value} {c : List Nat} (hv : ItemAt w N v c) : ∀ {l : List (Nat × Value)} {m : List (Nat × List Nat)}, HeldL w N l m → HeldL w N (ins x v l) (ins x c m)
  | [], [], _ => ⟨rfl, hv, trivial⟩
  | (q, u) :: l, (q', b) :: m, hl => by
    obtain ⟨e, h1, h2⟩ := hl
    subst e
    simp only [Proofs.YtehagnbphamjhaaGreatDoor.ins]
    by_cases hx : x = q
    · rw [if_pos hx, if_pos hx]; exact ⟨rfl, hv, h2⟩
    · rw [if_neg hx, if_neg hx]; exact ⟨rfl, h1, HeldL.ins x hv h2⟩
  | [], _ :: _, hl => hl.elim
  | _ :: _, [], hl => hl.elim
/-- what is held: the map's values are texts that stay -/
def HeldIs (w : World) (N : Nat → Prop) (hm : Nat) (held : List (Nat × List Nat)) : Prop :=
  ∃ hvs : List (Nat × Value), MapIs w hm ke64 (fun v => v) hvs ∧ HeldL w N hvs held
theorem HeldIs.mut {w w' : World} {N G : Nat → Prop} {hm : Nat} {held : List (Nat × List Nat)} (h : HeldIs w N hm held) (hmu : Mut G w w') (hG : ∀ b, b < w.heap.size → G b → N b) (hf : ¬ G hm) : HeldIs w' N hm held := by
  obtain ⟨hvs, h1, h2⟩ := h
  exact ⟨hvs, h1.same (hmu.block _ h1.lt hf), h2.mono fun u b e => e.mut hmu hG⟩
theorem HeldIs.grow {w : World} {N N' : Nat → Prop} {hm : Nat} {held : List (Nat × List Nat)} (h : HeldIs w N hm held) (hN : ∀ b, N' b → N b ∨ w.heap.size ≤ b) : HeldIs w N' hm held := by
  obtain ⟨hvs, h1, h2⟩ := h
  exact ⟨hvs, h1, h2.mono fun u b e => e.grow hN⟩
structure LnkIs (w : World) (N : Nat → Prop) (p : LnkP) (d : LnkD) : Prop where
  box : Box4 w p.lb (.pointer (some ⟨p.sb, 0, none⟩)) (.int .u64 d.upto) (.map (some p.hm)) (.bool d.owes)
  snd : ∃ us, SndIs w N p.sb p.wv us d.snd
  held : HeldIs w N p.hm d.held
  hlt : p.hm < w.heap.size
  nl : N p.lb
  nh : N p.hm
  d1 : p.lb ≠ p.sb
  d2 : p.lb ≠ p.hm
  d3 : p.sb ≠ p.hm
  d4 : ∀ g, p.wv.ownBlock = some g → g ≠ p.lb ∧ g ≠ p.hm
  u0 : d.upto < 18446744073709551616
section
variable {w w' : World} {N N' G : Nat → Prop} {p : LnkP} {d : LnkD}
theorem LnkIs.ns (h : LnkIs w N p d) : N p.sb := by obtain ⟨us, hs⟩ := h.snd; exact hs.ns
theorem LnkIs.nw (h : LnkIs w N p d) : ∀ g, p.wv.ownBlock = some g → N g ∧ g ≠ p.sb := by obtain ⟨us, hs⟩ := h.snd; exact hs.nw
theorem LnkIs.fp (h : LnkIs w N p d) : ∀ b, fpL p b → N b := fun b e => by
  rcases e with e | e | e | e
  · rw [e]; exact h.nl
  · rw [e]; exact h.ns
  · rw [e]; exact h.nh
  · exact (h.nw b e).1
theorem LnkIs.fplt (h : LnkIs w N p d) : ∀ b, fpL p b → b < w.heap.size := fun b e => by
  obtain ⟨us, hs⟩ := h.snd
  rcases e with e | e | e | e
  · rw [e]; exact h.box.lt
  · rw [e]; exact hs.box.lt
  · rw [e]; exact h.hlt
  · exact (hs.row.blk e).2
theorem LnkIs.mut (h : LnkIs w N p d) (hm : Mut G w w') (hG : ∀ b, b < w.heap.size → G b → N b) (hf : ∀ b, fpL p b → ¬ G b) : LnkIs w' N p d := by
  obtain ⟨us, hs⟩ := h.snd
  refine ⟨h.box.mut hm (hf _ (.inl rfl)), ⟨us, hs.mut hm hG fun b e => hf b (e.elim (fun e => .inr (.inl e)) fun e => .inr (.inr (.inr e)))⟩, h.held.mut hm hG (hf _ (.inr (.inr (.inl rfl)))), ?_, h.nl, h.nh, h.d1, h.d2, h.d3, h.d4, h.u0⟩
  have := h.hlt; have := hm.size; omega
theorem LnkIs.ext (h : LnkIs w N p d) (hb : Below w.heap.size w w') : LnkIs w' N p d :=
  h.mut (Mut.of_below (F := fun _ => False) hb) (fun _ _ e => e.elim) fun _ _ e => e
theorem LnkIs.less (h : LnkIs w N p d) (hf : ∀ b, fpL p b → N' b) (hN : ∀ b, N' b → N b ∨ w.heap.size ≤ b) : LnkIs w N' p d := by
  obtain ⟨us, hs⟩ := h.snd
  exact ⟨h.box, ⟨us, hs.less (hf _ (.inr (.inl rfl))) (fun g e => hf _ (.inr (.inr (.inr e)))) hN⟩, h.held.grow hN, h.hlt, hf _ (.inl rfl), hf _ (.inr (.inr (.inl rfl))), h.d1, h.d2, h.d3, h.d4, h.u0⟩
/-- a call that wrote nothing but the sender's blocks -/
theorem LnkIs.sent {wv' : Value} {us' : List Value} {sd : SndD} (h : LnkIs w N p d) (hm : Mut (fpS p.sb p.wv) w w') (hNN : ∀ b, N b → N' b) (hN : ∀ b, N' b → N b ∨ w.heap.size ≤ b) (hs : SndIs w' N' p.sb wv' us' sd) (hnew : ∀ g, wv'.ownBlock = some g → p.wv.ownBlock = some g ∨ w.heap.size ≤ g) : LnkIs w' N' { p with wv := wv' } { d with snd := sd } := by
  have n1 : ∀ b, fpS p.sb p.wv b → b ≠ p.lb ∧ b ≠ p.hm := fun b e => by
    rcases e with e | e
    · rw [e]; exact ⟨fun e => h.d1 e.symm, h.d3⟩
    · exact h.d4 b e
  have hG : ∀ b, b < w.heap.size → fpS p.sb p.wv b → N' b := fun b _ e => hNN b (h.fp b (e.elim (fun e => .inr (.inl e)) fun e => .inr (.inr (.inr e))))
  refine ⟨h.box.mut hm fun e => (n1 _ e).1 rfl, ⟨us', hs⟩, (h.held.grow hN).mut hm hG fun e => (n1 _ e).2 rfl, ?_, hNN _ h.nl, hNN _ h.nh, h.d1, h.d2, h.d3, fun g e => ?_, h.u0⟩
  · exact Nat.lt_of_lt_of_le h.hlt hm.size
  · rcases hnew g e with e | e
    · exact h.d4 g e
    · have h1 := h.box.lt
      have h2 := h.hlt
      exact ⟨fun e2 => absurd (show g = p.lb from e2) (by omega), fun e2 => absurd (show g = p.hm from e2) (by omega)⟩
end
end Go.Proofs.YtehagnbphamjhaaGreatDoor

namespace Go.Proofs.YtehagnbphamjhaaGreatDoor
open Go.RowKit Go.Shelf
attribute [local go_sem] Oper.semAt_some
/-! ### maps.Keys of the links, collected -/
abbrev ptrV : Nat → Value := fun b => .pointer (some ⟨b, 0, none⟩)
theorem grownBy_below {w w' : World} (h : Below w.heap.size w w') : w.grownBy w' none := ⟨h.os, h.tape, h.output, h.size, fun k hk _ => h.block k hk⟩
theorem grownBy_but {w w' : World} {t : Nat} (h : But t w w') : w.grownBy w' (some t) := ⟨h.os, h.tape, h.output, by rw [h.size]; exact Nat.le_refl _, fun k _ hne => h.block k fun e => hne (by rw [e])⟩
theorem RangeIs.walks {α β : Type} {ke : α → Value} {ve : β → Value} {r t : Nat} {L left : List (α × β)} {w w' : World} (h : RangeIs w r t ke ve L left) (hk : KeepsWalks w w') : RangeIs w' r t ke ve L left := by
  obtain ⟨es, clock, since, seen, h1, h2, h3, h4, h5⟩ := h
  exact ⟨es, clock, since, seen, hk.same _ _ h1 rfl, h2, h3, hk.same _ _ h4 rfl, h5⟩
theorem RangeIs.iter {α β : Type} {ke : α → Value} {ve : β → Value} {r t : Nat} {L left : List (α × β)} {w : World} (h : RangeIs w r t ke ve L left) : ∃ o : Obj, w.heap[t]? = some o ∧ o.isWalk = true := by
  obtain ⟨es, clock, since, seen, -, -, -, h4, -⟩ := h
  exact ⟨_, h4, rfl⟩
section
variable {α β : Type} [DecidableEq α] {ke : α → Value} {ve : β → Value} {F : Fence} {n : Nat} {P : Program} {K : TypeId} {w : World} {r t : Nat} {L left : List (α × β)} {ops : Array Oper} {rest : List Oper} {o : Oper} {a : Act} {Q : Exit → Act → World → Prop}
theorem wpListIn_range_is (hM : MapIs w r ke ve L) {ty K e : TypeId} (ht : P.underlying ty = some (.map K e)) {m : Operand} (hg : o.guard = none) (hop : o.op = Op.range ty m) (hm : a.eval m = .map (some r))
    (hK : ∀ w', RangeIs w' r w.heap.size ke ve L L → Below w.heap.size w w' → wpListIn F n P ops Q rest (a.put o.dst (.pointer (some ⟨w.heap.size, 0, none⟩))) w') : wpListIn F n P ops Q (o :: rest) a w := by
  refine wpListIn_plain hg fun K' hK' => ?_
  obtain ⟨w', hrun, r1, r2⟩ := hM.range ht
  unfold Oper.wpIn
  refine ⟨by simp [Oper.about, hop], ?_⟩
  rw [Oper.semAt_plain F _ _ (by rw [hop]; intro c hc'; cases hc')]
  simp [execOp, hop, hm, hrun, Result.andThen]
  exact hK' _ _ (hK w' r1 r2)
theorem wpListIn_next_is (h : RangeIs w r t ke ve L left) {it : Operand} (hg : o.guard = none) (hop : o.op = Op.next it false) (hit : a.eval it = .pointer (some ⟨t, 0, none⟩))
    (hDone : Hid (left = []) → wpListIn F n P ops Q rest (a.put o.dst (.tuple #[.bool false])) w)
    (hMore : ∀ (p : α × β) (s u : List (α × β)) (w' : World), Hid (left = s ++ p :: u) → RangeIs w' r t ke ve L (s ++ u) → But t w w' → (Instr.entry (.pointer (some ⟨t, 0, none⟩))).run P w' = .ok (.tuple #[ke p.1, ve p.2]) w' →
      wpListIn F n P ops Q rest (a.put o.dst (.tuple #[.bool true, ke p.1, ve p.2])) w') : wpListIn F n P ops Q (o :: rest) a w := by
  refine wpListIn_plain hg fun K' hK' => ?_
  unfold Oper.wpIn
  refine ⟨by simp [Oper.about, hop], ?_⟩
  rw [Oper.semAt_plain F _ _ (by rw [hop]; intro c hc'; cases hc')]
  rcases h.next (P := P) o.type with ⟨hl, hrun⟩ | ⟨p, s, u, w', hl, hrun, hR, hB, hE⟩
  · simp [execOp, hop, hit, hrun, Result.andThen]
    exact hK' _ _ (hDone hl)
  · simp [execOp, hop, hit, hrun, Result.andThen]
    exact hK' _ _ (hMore p s u w' hl hR hB hE)
end
set_option maxRecDepth 100000 in
set_option maxHeartbeats 4000000 in
theorem keys1_in (F : Fence) (n : Nat) (hf : F.fn 435) (hro : F.round = none) (hn : 1 ≤ n) (l Bm r : Nat) (L : List (Pid × Nat)) (J Jx : List Pid → World → Prop)
    (hY : ∀ pre x W, J pre W → pre.length < L.length → YieldAt F (n - 1) Tryz.prog l #[pidV x] W fun e W' => (e = .returned (.bool true) ∧ J (pre ++ [x]) W' ∧ KeepsWalks W W') ∨ (e = .returned (.bool false) ∧ Jx (pre ++ [x]) W'))
    (W : World) (hJ : AbidesFrom W.heap.size J) (hm : W.cell? ⟨Bm, 0, none⟩ = some (.map (some r))) (hM : MapIs W r pidV ptrV L) (h0 : J [] W) :
    CallsIn F n Tryz.prog 435 #[.func (.yield l) #[] #[], .pointer (some ⟨Bm, 0, none⟩)] W fun e W' => (∃ v, e = .returned v) ∧ ((∃ xs : List Pid, xs.Perm (L.map (·.1)) ∧ J xs W') ∨ (∃ pre, True ∧ Jx pre W')) := by
  refine callsIn_of_wp Tryz.func435 rfl hf ?_ hro
  simp only [Tryz.ntmps435, List.size_toArray, List.length_cons, List.length_nil, Nat.reduceAdd, Nat.reduceSub, Array.replicate_succ, Array.replicate_zero, List.push_toArray, List.append_toArray, List.nil_append, List.cons_append]
  gi_wp2_with (first
    | (gi_at_range; refine wpListIn_range_is hM Tryz.underlying287 rfl rfl rfl ?_; intro w0 hR0 hb0)
    | gi_in)
  go_frame
  gi_loopw [3] (fun _ wr => ∃ (got : List Pid) (left : List (Pid × Nat)), RangeIs wr r W.heap.size pidV ptrV L left ∧ Hid ((got ++ left.map (·.1)).Perm (L.map (·.1))) ∧ got.length + left.length = L.length ∧ J got wr) (fun _ wr => wr.rangeLeft r W.heap.size)
  case atStart =>
    exact ⟨[], L, hR0, hid (List.Perm.refl _), by simp, hJ [] W w0 none h0 (grownBy_below hb0) (fun r e => by cases e)⟩
  case round =>
    obtain ⟨got, left, hR, hP, hlen, hJs⟩ := hrel
    have HLEN := hid hlen
    have HLM := hid hR.left_eq
    clear hlen
    gi_wp2_with (first
      | (gi_at_next; refine wpListIn_next_is hR rfl rfl rfl ?_ ?_)
      | gi_in)
    · intro hl
      gi_wp2
      go_end0
      exact ⟨⟨_, rfl⟩, .inl ⟨got, by have := hP.out; rw [hl.out] at this; simpa using this, hJs⟩⟩
    · intro x y u0 s1 s2 w1 hl hR1 hbut hen
      have hJ2 : J got w1 := hJ got wr w1 (some W.heap.size) hJs (grownBy_but hbut) (fun r e => by cases e; exact ⟨Nat.le_refl _, hR.iter⟩)
      obtain ⟨w2, hw2⟩ : ∃ w2, w1.alloc (.cells #[.int .u16 x, .int .u32 y] 46) = w2 := ⟨_, rfl⟩
      have hJ3 : J got w2 := by rw [← hw2]; exact hJ got w1 _ none hJ2 (World.grownBy_alloc w1 _ none) (fun r e => by cases e)
      have hR2 : RangeIs w2 r W.heap.size pidV ptrV L (s1 ++ s2) := by rw [← hw2]; exact hR1.ext ((Below.refl _ _).alloc (Nat.le_refl _) _)
      have hc0 : w2.cell? ⟨w1.heap.size, 0, none⟩ = some (.int .u16 x) := by rw [← hw2]; simp
      have hc1 : w2.cell? ⟨w1.heap.size, 1, none⟩ = some (.int .u32 y) := by rw [← hw2]; simp
      have HL := hid hl
      have HLT2 : Hid ((got ++ [(x, y)]).length + (s1 ++ s2).length = L.length) := hid (by
        have h1 := HLEN.out
        have e : left.length = s1.length + (s2.length + 1) := by rw [hl.out]; simp
        simp; omega)
      have hlt : got.length < L.length := by
        have h1 := HLEN.out
        have e : left.length = s1.length + (s2.length + 1) := by rw [hl.out]; simp
        omega
      obtain ⟨fn, tmps, assign, body, hy, hRd⟩ := hY got (x, y) w2 hJ3 hlt
      gi_wp2
      refine hRd.mono ?_
      rintro e W3 (⟨rfl, hJ4, hk4⟩ | ⟨rfl, hJx4⟩)
      · gi_wp2
        have hR4 := hR2.walks hk4
        have HL4 := hid hR4.left_eq
        go_roundw
        case rel => exact ⟨got ++ [(x, y)], s1 ++ s2, hR4, hid ((List.Perm.trans (by rw [HL.out, List.append_assoc]; simp only [List.map_append, List.map_cons]; exact List.Perm.append_left _ (by simpa using List.perm_middle.symm)) hP.out)), HLT2.out, hJ4⟩
        case measure => rw [HL4.out, HLM.out, HL.out]; simp
      · gi_wp2
        refine bodyPost_ret (results_none rfl _ _ _) rfl ?_
        exact ⟨⟨_, rfl⟩, .inr ⟨got ++ [(x, y)], trivial, hJx4⟩⟩
theorem keys_stops (F : Fence) (n : Nat) (hf : F.fn 435) (hro : F.round = none) (hn : 1 ≤ n) (Bm r : Nat) (L : List (Pid × Nat)) (w : World) (hB : Bm < w.heap.size) (hm : w.cell? ⟨Bm, 0, none⟩ = some (.map (some r))) (hM : MapIs w r pidV ptrV L) :
    SeqStopsK F n Tryz.prog 435 #[.pointer (some ⟨Bm, 0, none⟩)] (fun x : Pid => #[pidV x]) KeepsWalks (fun xs => xs.Perm (L.map (·.1))) (fun _ => True) L.length w := fun l J Jx W hW hJ _ hY h0 =>
  keys1_in F n hf hro hn l Bm r L J Jx hY W hJ ((hW.cell (p := ⟨Bm, 0, none⟩) hB).trans hm) (hM.ext hW) h0
theorem keysOf_any (r : Nat) (w : World) : Calls Tryz.prog 361 #[.map (some r)] w fun e w' => e = .returned (.func (.func 435) #[] #[.pointer (some ⟨w.heap.size, 0, none⟩)]) ∧ w' = w.alloc (.cells #[.map (some r)] 287) := by
  go_enter Tryz.func361, Tryz.ntmps361
  go_wp2
  go_ret
  exact ⟨rfl, rfl⟩
/-- a process's box -/
def Boxed2 (W : World) (B : Nat) (x : Pid) : Prop := W.heap[B]? = some (.cells #[.int .u16 x.1, .int .u32 x.2] 46 (0, 0))
theorem Boxed2.cells {W : World} {B : Nat} {x : Pid} (h : Boxed2 W B x) : W.cell? ⟨B, 0, none⟩ = some (.int .u16 x.1) ∧ W.cell? ⟨B, 1, none⟩ = some (.int .u32 x.2) := by
  constructor <;> simp [World.cell?, show W.heap[B]? = _ from h]
theorem boxed2_own (B : Nat) (x : Pid) : Own (fun (_ : Unit) W => Boxed2 W B x) := fun _ W W' row hs hg hr => by
  have e := grownBy_keeps_cells hg hr hs rfl
  exact e.trans hs
theorem cells_two_new (W : World) (x y : Int) : ∀ j u, [Value.int .u16 x, Value.int .u32 y][j]? = some u → (W.alloc (.cells #[.int .u16 x, .int .u32 y] 46)).cell? ((⟨W.heap.size, 0, none⟩ : Addr).add j) = some u := fun j u hj => by
  rw [addr_add, Nat.zero_add]
  match j, hj with
  | 0, hj => simp at hj; subst hj; simp
  | 1, hj => simp at hj; subst hj; simp
  | j + 2, hj => simp at hj
set_option maxRecDepth 100000 in
set_option maxHeartbeats 8000000 in
theorem appendSeq_in (F : Fence) (n : Nat) (h58 : F.fn 172) (hf : F.fn 435) (hro : F.round = none) (hn : 3 ≤ n) (Bm r : Nat) (L : List (Pid × Nat)) (w : World) (hB : Bm < w.heap.size) (hm : w.cell? ⟨Bm, 0, none⟩ = some (.map (some r))) (hM : MapIs w r pidV ptrV L) (hL : L.length ≤ 1000000) :
    CallsIn F n Tryz.prog 172 #[.slice none 0 0, .func (.func 435) #[] #[.pointer (some ⟨Bm, 0, none⟩)]] w fun e w' => ∃ v xs, e = .returned v ∧ OwnP w' w.heap.size v xs ∧ xs.Perm (L.map (·.1)) ∧ Below w.heap.size w w' := by
  have h1 : 1 ≤ n := by omega
  obtain ⟨i0, hi, hz0, hz1, hz2⟩ := info_parts info36
  refine callsIn_of_wp_marks Tryz.func172 rfl h58 ?_ hro
  simp only [Tryz.ntmps172, List.size_toArray, List.length_cons, List.length_nil, Nat.reduceAdd, Nat.reduceSub, Array.replicate_succ, Array.replicate_zero, List.push_toArray, List.append_toArray, List.nil_append, List.cons_append]
  gi_wp2
  have bB := Boxed.new w 51 (.slice none 0 0)
  obtain ⟨W0, hW0⟩ : ∃ W0, w.alloc (.cells #[.slice none 0 0] 51) = W0 := ⟨_, rfl⟩
  have hB0 : Below w.heap.size w W0 := by rw [← hW0]; exact (Below.refl _ w).alloc (Nat.le_refl _) _
  have hsz : W0.heap.size = w.heap.size + 1 := by rw [← hW0]; simp
  rw [hW0] at bB ⊢
  clear hW0
  refine wpIn_rangeFunc_ownH hro h1 (gf := 435) (lb := #[.pointer (some ⟨Bm, 0, none⟩)]) rfl hf (enters_of Tryz.func435 (by kernel_rfl) rfl)
    (keys_stops F (n - 1) hf hro (by omega) Bm r L W0 (by omega) ((hB0.cell (by exact hB)).trans hm) (hM.ext hB0)) walksK_t walksK_b (Below.refl _ _) (fun _ => rfl)
    (fun pre W => (∃ v, Boxed W w.heap.size 51 v ∧ W.ownsRow w.heap.size 46 2 v pre.length (pidCells pre) ∧ True) ∧ Below w.heap.size w W)
    (fun _ _ _ => False)
    (OwnFrom.and (Own.from (holdsRow_own w.heap.size w.heap.size 51 46 2 (fun pre : List Pid => pre.length) (fun pre => pidCells pre) (fun _ _ => True)) _) (ownFrom_below (Nat.le_refl _) (by omega)))
    (fun _ _ _ _ _ hs _ _ => hs)
    ⟨⟨_, bB, World.ownsRow_nil _ _ _ _, trivial⟩, hB0⟩
    (fun x a' W => ∃ Bx, w.heap.size < Bx ∧ Boxed2 W Bx x ∧ a' = { tmps := #[.slice none 0 0, .func (.func 435) #[] #[.pointer (some ⟨Bm, 0, none⟩)], .pointer (some ⟨w.heap.size, 0, none⟩), undef, .slice none 0 0, .pointer (some ⟨Bx, 0, none⟩), .func (.func 435) #[] #[.pointer (some ⟨Bm, 0, none⟩)], pidV x, undef, undef, undef, undef, undef], defers := [] })
    (fun x a' _ X Y row hs hg hr => by obtain ⟨Bx, h1, h2, h3⟩ := hs; exact ⟨Bx, h1, boxed2_own Bx x () X Y row h2 hg (fun r e => (hr r e).2), h3⟩)
    ?assign ?body ?done ?stop
  case assign =>
    rintro l pre ⟨x, y⟩ W K ⟨⟨v, bv, hr, -⟩, hB1⟩ hK
    gi_wp2
    refine hK _ _ ((KeepsOthers.alloc _ _).from _) (KeepsWalks.alloc _ _) ⟨⟨v, bv.alloc _, hr.alloc _, trivial⟩, hB1.alloc hB1.size _⟩ ⟨W.heap.size, by have := bv.lt; omega, World.alloc_heap_new W _, rfl⟩
  case body =>
    rintro l pre ⟨x, y⟩ a' W hl ⟨rr, hrr⟩ ⟨⟨v, bv, hrow, -⟩, hB1⟩ ⟨Bx, hBx, bX, rfl⟩ hlt
    have cv := bv.cell
    have fv := bv.frozen
    obtain ⟨cx, cy⟩ := bX.cells
    have hbz := hB1.size
    gi_wp2_with (first
      | (gi_at_builtin; refine wpListIn_append_own _ rfl _ _ 51 rfl w.heap.size 46 i0 _ 2 8 Tryz.underlying51 hi hz0 hz1 hz2 rfl (by decide) _ _ _ rfl (hrow.alloc _) ⟨W.heap.size, 0, none⟩ 1 1 [.int .u16 x, .int .u32 y] rfl rfl (cells_two_new W x y) (fun u hu => by simp at hu; rcases hu with rfl | rfl <;> rfl) (by unfold maxLen; omega) (by omega) (by simp; omega) ?_; intro v' w1 hown' hgrow _; obtain ⟨g', cap', rfl⟩ := ownsRow_succ hown'; obtain ⟨hv1, hv2, hr2, hk2, hb2⟩ := bv.appended (by decide) hrow hbz (Nat.le_refl _) hown' hgrow; have hc1 := hv1.cell; have hf1 := hv1.frozen)
      | gi_in)
    have hr3 : (w1.setCell ⟨w.heap.size, 0, none⟩ (.slice (some ⟨g', 0, none⟩) (pre.length + 1) cap')).ownsRow w.heap.size 46 2 (.slice (some ⟨g', 0, none⟩) (pre.length + 1) cap') (pre ++ [(x, y)]).length (pidCells (pre ++ [(x, y)])) := by
      rw [pidCells_append, List.length_append]; exact hr2
    exact ⟨hk2.from _, hk2.walks, ⟨_, hv2, hr3⟩, hB1.trans hb2⟩
  case done =>
    rintro D xs W hD hP ⟨⟨v, bv, hrow, -⟩, hB1⟩ hK
    have cv := bv.cell
    gi_wp2
    refine ⟨by simp, .inl ⟨_, _, rfl, run_takeDeferred hK, ?_⟩⟩
    exact ⟨_, results_tmp rfl _ _ _, v, xs, rfl, ownsRow_putObj hrow _ hK rfl, hP, hB1.trans (belowK_b (w := w) (Nat.le_refl _) W D _ _ (by omega) hK rfl rfl)⟩
  case stop =>
    rintro D c pre W _ _ h _
    exact h.elim
end Go.Proofs.YtehagnbphamjhaaGreatDoor

namespace Go.Proofs.YtehagnbphamjhaaGreatDoor
open Go.RowKit
/-! ### link: Take -/
def takeGo : Nat → Nat → List (Nat × List Nat) → List (List Nat) × Nat × List (Nat × List Nat)
  | 0, u, H => ([], u, H)
  | f + 1, u, H => match look (u + 1) H with
    | none => ([], u, H)
    | some b => (b :: (takeGo f (u + 1) (del (u + 1) H)).1, (takeGo f (u + 1) (del (u + 1) H)).2)
def takeNo (d : LnkD) (q : Nat) : Prop := (look q d.held).isSome = true ∨ q ≤ d.upto ∨ 16 < q - d.upto
instance (d : LnkD) (q : Nat) : Decidable (takeNo d q) := by unfold takeNo; infer_instance
theorem LnkIs.upto {w : World} {N : Nat → Prop} {p : LnkP} {d : LnkD} (h : LnkIs w N p d) (u : Nat) (hu : u < 18446744073709551616) : LnkIs (w.setCell ⟨p.lb, 1, none⟩ (.int .u64 u)) N p { d with upto := u } ∧ Mut (fun b => b = p.lb) w (w.setCell ⟨p.lb, 1, none⟩ (.int .u64 u)) := by
  have hm : Mut (fun b => b = p.lb) w (w.setCell ⟨p.lb, 1, none⟩ (.int .u64 u)) := mut1
  obtain ⟨us, hs⟩ := h.snd
  refine ⟨⟨h.box.set1 _, ⟨us, hs.mut hm (fun b _ e => by rw [show b = p.lb from e]; exact h.nl) fun b e e2 => ?_⟩, h.held.mut hm (fun b _ e => by rw [show b = p.lb from e]; exact h.nl) fun e => h.d2 e.symm, by simp; exact h.hlt, h.nl, h.nh, h.d1, h.d2, h.d3, h.d4, hu⟩, hm⟩
  have e2 : b = p.lb := e2
  rcases e with e | e
  · exact h.d1 (e2.symm.trans e)
  · exact (h.d4 b e).1 e2
/-- the map of what is held was changed -/
theorem LnkIs.hold {w w' : World} {N : Nat → Prop} {p : LnkP} {d : LnkD} {held : List (Nat × List Nat)} (h : LnkIs w N p d) (hb : But p.hm w w') (hh : HeldIs w' N p.hm held) : LnkIs w' N p { d with held := held } := by
  have hm : Mut (fun b => b = p.hm) w w' := Mut.of_but hb rfl
  obtain ⟨us, hs⟩ := h.snd
  refine ⟨h.box.mut hm h.d2, ⟨us, hs.mut hm (fun b _ e => by rw [show b = p.hm from e]; exact h.nh) fun b e e2 => ?_⟩, hh, by rw [hb.size]; exact h.hlt, h.nl, h.nh, h.d1, h.d2, h.d3, h.d4, h.u0⟩
  have e2 : b = p.hm := e2
  rcases e with e | e
  · exact h.d3 (e.symm.trans e2)
  · exact (h.d4 b e).2 e2
/-- the loop of Take under way -/
structure TakeI (w wx wr : World) (N : Nat → Prop) (p : LnkP) (d : LnkD) (F : Nat) (T : List (List Nat) × Nat × List (Nat × List Nat)) (v : Value) (us : List Value) (ls : List (List Nat)) (u : Nat) (H : List (Nat × List Nat)) (f : Nat) : Prop where
  row : RowO wr wx.heap.size v us
  it : ItemsAt wr (fun b => N b ∨ wx.heap.size ≤ b) us ls
  is : LnkIs wr (fun b => N b ∨ wx.heap.size ≤ b) p { d with owes := true, upto := u, held := H }
  mt : Mut (fpL p) wx wr
  eq : T = (ls ++ (takeGo f u H).1, (takeGo f u H).2)
  fl : f + us.length = F
  hf : H.length < f
  ub : u + H.length ≤ 4611686018427387905
  fb : F ≤ 1000000
theorem TakeI.ext {w wx wr wr' : World} {N : Nat → Prop} {p : LnkP} {d : LnkD} {F : Nat} {T : List (List Nat) × Nat × List (Nat × List Nat)} {v : Value} {us : List Value} {ls : List (List Nat)} {u : Nat} {H : List (Nat × List Nat)} {f : Nat} (h : TakeI w wx wr N p d F T v us ls u H f) (hb : Below wr.heap.size wr wr') : TakeI w wx wr' N p d F T v us ls u H f :=
  ⟨h.row.ext hb, h.it.mut (Mut.of_below (F := fun _ => False) hb) (fun _ _ e => e.elim), h.is.ext hb, h.mt.trans (Mut.of_below hb), h.eq, h.fl, h.hf, h.ub, h.fb⟩
end Go.Proofs.YtehagnbphamjhaaGreatDoor

namespace Go.Proofs.YtehagnbphamjhaaGreatDoor
open Go.RowKit
/-! ### the hub in the heap -/
theorem collect_any (Bm r : Nat) (L : List (Pid × Nat)) (w : World) (hB : Bm < w.heap.size) (hm : w.cell? ⟨Bm, 0, none⟩ = some (.map (some r))) (hM : MapIs w r pidV ptrV L) (hL : L.length ≤ 1000000) :
    Calls Tryz.prog 113 #[.func (.func 435) #[] #[.pointer (some ⟨Bm, 0, none⟩)]] w fun e w' => ∃ v xs, e = .returned v ∧ OwnP w' w.heap.size v xs ∧ xs.Perm (L.map (·.1)) ∧ Below w.heap.size w w' := by
  have CA : Calls Tryz.prog 172 #[.slice none 0 0, .func (.func 435) #[] #[.pointer (some ⟨Bm, 0, none⟩)]] w fun e w' => ∃ v xs, e = .returned v ∧ OwnP w' w.heap.size v xs ∧ xs.Perm (L.map (·.1)) ∧ Below w.heap.size w w' :=
    callsIn_wide.1 (appendSeq_in Fence.wide 3 trivial trivial rfl (Nat.le_refl _) Bm r L w hB hm hM hL)
  go_enter Tryz.func113, Tryz.ntmps113
  go_wp2_with (go_at_call 172; refine CA.mono ?_; rintro e w1 ⟨v, xs, rfl, h1, h2, h3⟩)
  go_ret
  exact ⟨_, xs, rfl, h1, h2, h3⟩
structure HubX where
  p : Pid
  k : LnkP
  d : LnkD
def fpH (h r : Nat) (L : List HubX) (b : Nat) : Prop := b = h ∨ b = r ∨ ∃ x ∈ L, fpL x.k b
structure HubIs (w : World) (N : Nat → Prop) (h r : Nat) (sf : Pid) (L : List HubX) : Prop where
  c0 : w.cell? ⟨h, 0, none⟩ = some (.int .u16 sf.1)
  c1 : w.cell? ⟨h, 1, none⟩ = some (.int .u32 sf.2)
  c2 : w.cell? ⟨h, 2, none⟩ = some (.map (some r))
  hn : N h
  rn : N r
  hr : h ≠ r
  map : MapIs w r pidV ptrV (L.map fun x => (x.p, x.k.lb))
  lnk : ∀ x ∈ L, LnkIs w N x.k x.d
  out : ∀ x ∈ L, ∀ b, fpL x.k b → b ≠ h ∧ b ≠ r
  dis : L.Pairwise fun x y => ∀ b, fpL x.k b → ¬ fpL y.k b
  nd : (L.map (·.p)).Nodup
  lim : L.length ≤ 48
  oks : ∀ x ∈ L, ok x.p
section
variable {w w' : World} {N N' G : Nat → Prop} {h r : Nat} {sf : Pid} {L : List HubX}
theorem HubIs.lt (H : HubIs w N h r sf L) : h < w.heap.size := World.block_lt_of_cell? w _ H.c0
theorem HubIs.fp (H : HubIs w N h r sf L) : ∀ b, fpH h r L b → N b := fun b e => by
  rcases e with e | e | ⟨x, hx, e⟩
  · rw [e]; exact H.hn
  · rw [e]; exact H.rn
  · exact (H.lnk x hx).fp b e
theorem HubIs.fplt (H : HubIs w N h r sf L) : ∀ b, fpH h r L b → b < w.heap.size := fun b e => by
  rcases e with e | e | ⟨x, hx, e⟩
  · rw [e]; exact H.lt
  · rw [e]; exact H.map.lt
  · exact (H.lnk x hx).fplt b e
theorem HubIs.mut (H : HubIs w N h r sf L) (hm : Mut G w w') (hG : ∀ b, b < w.heap.size → G b → N b) (hf : ∀ b, fpH h r L b → ¬ G b) : HubIs w' N h r sf L :=
  ⟨(hm.cell (by exact H.lt) (hf _ (.inl rfl))).trans H.c0, (hm.cell (by exact H.lt) (hf _ (.inl rfl))).trans H.c1, (hm.cell (by exact H.lt) (hf _ (.inl rfl))).trans H.c2, H.hn, H.rn, H.hr, H.map.same (hm.block _ H.map.lt (hf _ (.inr (.inl rfl)))), fun x hx => (H.lnk x hx).mut hm hG fun b e => hf b (.inr (.inr ⟨x, hx, e⟩)), H.out, H.dis, H.nd, H.lim, H.oks⟩
theorem HubIs.ext (H : HubIs w N h r sf L) (hb : Below w.heap.size w w') : HubIs w' N h r sf L :=
  H.mut (Mut.of_below (F := fun _ => False) hb) (fun _ _ e => e.elim) fun _ _ e => e
theorem HubIs.less (H : HubIs w N h r sf L) (hf : ∀ b, fpH h r L b → N' b) (hN : ∀ b, N' b → N b ∨ w.heap.size ≤ b) : HubIs w N' h r sf L :=
  ⟨H.c0, H.c1, H.c2, hf _ (.inl rfl), hf _ (.inr (.inl rfl)), H.hr, H.map, fun x hx => (H.lnk x hx).less (fun b e => hf b (.inr (.inr ⟨x, hx, e⟩))) hN, H.out, H.dis, H.nd, H.lim, H.oks⟩
/-- one link was turned -/
theorem HubIs.turn {A B : List HubX} {x : HubX} {k : LnkP} {d : LnkD} (H : HubIs w N h r sf (A ++ x :: B)) (hm : Mut (fpL x.k) w w') (hNN : ∀ b, N b → N' b) (hN : ∀ b, N' b → N b ∨ w.heap.size ≤ b) (hl : LnkIs w' N' k d) (hlb : k.lb = x.k.lb) (hfk : ∀ b, fpL k b → fpL x.k b ∨ w.heap.size ≤ b) : HubIs w' N' h r sf (A ++ ⟨x.p, k, d⟩ :: B) := by
  have hx : x ∈ A ++ x :: B := by simp
  have hfx := (H.lnk x hx).fp
  have hho := fun b e => H.out x hx b e
  have hd := List.pairwise_append.1 H.dis
  have hd2 := List.pairwise_cons.1 hd.2.1
  have hoth : ∀ y, y ∈ A ∨ y ∈ B → ∀ b, fpL y.k b → ¬ fpL x.k b := fun y hy b e e2 => by
    rcases hy with hy | hy
    · exact hd.2.2 y hy x (by simp) b e e2
    · exact hd2.1 y hy b e2 e
  have hmem : ∀ y, y ∈ A ∨ y ∈ B → y ∈ A ++ x :: B := fun y hy => by
    rcases hy with hy | hy
    · simp [hy]
    · simp [hy]
  have hsplit : ∀ y, y ∈ A ++ (⟨x.p, k, d⟩ : HubX) :: B → y = ⟨x.p, k, d⟩ ∨ (y ∈ A ∨ y ∈ B) := fun y hy => by
    simp only [List.mem_append, List.mem_cons] at hy
    rcases hy with hy | hy | hy
    · exact .inr (.inl hy)
    · exact .inl hy
    · exact .inr (.inr hy)
  have hG : ∀ b, b < w.heap.size → fpL x.k b → N' b := fun b _ e => hNN b (hfx b e)
  have hnew : ∀ y, y ∈ A ∨ y ∈ B → ∀ b, fpL y.k b → ¬ fpL k b := fun y hy b e e2 => by
    rcases hfk b e2 with e3 | e3
    · exact hoth y hy b e e3
    · have := (H.lnk y (hmem y hy)).fplt b e; omega
  have hhr : ∀ b, b = h ∨ b = r → ¬ fpL x.k b := fun b e e2 => by
    rcases e with e | e
    · exact (hho b e2).1 e
    · exact (hho b e2).2 e
  have hlt := H.lt
  have hrt := H.map.lt
  refine ⟨(hm.cell (by exact hlt) (hhr h (.inl rfl))).trans H.c0, (hm.cell (by exact hlt) (hhr h (.inl rfl))).trans H.c1, (hm.cell (by exact hlt) (hhr h (.inl rfl))).trans H.c2, hNN _ H.hn, hNN _ H.rn, H.hr, ?_, fun y hy => ?_, fun y hy b e => ?_, ?_, ?_, by have := H.lim; simpa using this, fun y hy => ?_⟩
  · have := H.map.same (hm.block _ hrt (hhr r (.inr rfl)))
    simpa [hlb] using this
  · rcases hsplit y hy with rfl | hy
    · exact hl
    · have hly := (H.lnk y (hmem y hy)).less (N' := N') (fun b e => hNN b ((H.lnk y (hmem y hy)).fp b e)) hN
      exact hly.mut hm hG (hoth y hy)
  · rcases hsplit y hy with rfl | hy
    · rcases hfk b e with e | e
      · exact hho b e
      · exact ⟨by omega, by omega⟩
    · exact H.out y (hmem y hy) b e
  · refine List.pairwise_append.2 ⟨hd.1, List.pairwise_cons.2 ⟨fun y hy b e e2 => hnew y (.inr hy) b e2 e, hd2.2⟩, fun y hy z hz b e e2 => ?_⟩
    rcases List.mem_cons.1 hz with rfl | hz
    · exact hnew y (.inl hy) b e e2
    · exact hd.2.2 y hy z (by simp [hz]) b e e2
  · have := H.nd; simpa using this
  · rcases hsplit y hy with rfl | hy
    · exact H.oks x hx
    · exact H.oks y (hmem y hy)
/-- a link was added -/
theorem HubIs.add {p : Pid} {k : LnkP} {d : LnkD} (H : HubIs w N h r sf L) (hl : LnkIs w N k d) (hfk : ∀ b, fpL k b → ¬ fpH h r L b) (hp : p ∉ L.map (·.p)) (hok : ok p) (hlen : L.length < 48)
    (hM : MapIs w' r pidV ptrV (L.map (fun x => (x.p, x.k.lb)) ++ [(p, k.lb)])) (hb : But r w w') : HubIs w' N h r sf (L ++ [⟨p, k, d⟩]) := by
  have hm : Mut (fun b => b = r) w w' := Mut.of_but hb rfl
  have hG : ∀ b, b < w.heap.size → b = r → N b := fun b _ e => by rw [e]; exact H.rn
  have hsplit : ∀ y, y ∈ L ++ [(⟨p, k, d⟩ : HubX)] → y ∈ L ∨ y = ⟨p, k, d⟩ := fun y hy => by simpa using hy
  refine ⟨(hb.cell (by exact H.hr)).trans H.c0, (hb.cell (by exact H.hr)).trans H.c1, (hb.cell (by exact H.hr)).trans H.c2, H.hn, H.rn, H.hr, by simpa using hM, fun y hy => ?_, fun y hy b e => ?_, ?_, ?_, by simp; omega, fun y hy => ?_⟩
  · rcases hsplit y hy with hy | rfl
    · exact (H.lnk y hy).mut hm hG fun b e e2 => (H.out y hy b e).2 e2
    · exact hl.mut hm hG fun b e e2 => hfk b e (.inr (.inl e2))
  · rcases hsplit y hy with hy | rfl
    · exact H.out y hy b e
    · exact ⟨fun e2 => hfk b e (.inl e2), fun e2 => hfk b e (.inr (.inl e2))⟩
  · refine List.pairwise_append.2 ⟨H.dis, by simp, fun y hy z hz b e e2 => ?_⟩
    rw [List.mem_singleton.1 hz] at e2
    exact hfk b e2 (.inr (.inr ⟨y, hy, e⟩))
  · rw [List.map_append, List.nodup_append]
    refine ⟨H.nd, by simp, fun a ha b hb e => ?_⟩
    simp at hb
    rw [e, hb] at ha
    exact hp ha
  · rcases hsplit y hy with hy | rfl
    · exact H.oks y hy
    · exact hok
/-- what a call of a hub leaves -/
structure HubR (w w' : World) (N N' : Nat → Prop) (h r : Nat) (sf : Pid) (L L' : List HubX) : Prop where
  is : HubIs w' N' h r sf L'
  up : ∀ b, N b → N' b
  nw : ∀ b, N' b → N b ∨ w.heap.size ≤ b
  lt : ∀ b, N' b → b < w'.heap.size
  mt : Mut (fpH h r L) w w'
  fq : ∀ b, fpH h r L' b → fpH h r L b ∨ w.heap.size ≤ b
theorem HubR.same (H : HubIs w N h r sf L) (hlt : ∀ b, N b → b < w.heap.size) (hb : Below w.heap.size w w') : HubR w w' N N h r sf L L :=
  ⟨H.ext hb, fun _ e => e, fun _ e => .inl e, fun b e => Nat.lt_of_lt_of_le (hlt b e) hb.size, Mut.of_below hb, fun _ e => .inl e⟩
theorem HubR.trans {w3 : World} {N3 : Nat → Prop} {L' L3 : List HubX} (A : HubR w w' N N' h r sf L L') (B : HubR w' w3 N' N3 h r sf L' L3) : HubR w w3 N N3 h r sf L L3 :=
  have hz := A.mt.size
  ⟨B.is, fun b e => B.up b (A.up b e), fun b e => (B.nw b e).elim (fun e => A.nw b e) fun e => .inr (by omega), B.lt,
   A.mt.transG B.mt fun b hb e => (A.fq b e).elim id fun e => (by omega),
   fun b e => (B.fq b e).elim (fun e => A.fq b e) fun e => .inr (by omega)⟩
end
end Go.Proofs.YtehagnbphamjhaaGreatDoor

namespace Go.Proofs.YtehagnbphamjhaaGreatDoor
open Go.RowKit
/-! ### the hub's functions -/
theorem HubIs.made (w : World) (p : Pid) (N : Nat → Prop) (t : TypeId) : HubIs ((w.alloc (.map #[] 0)).alloc (.cells #[.int .u16 p.1, .int .u32 p.2, .map (some w.heap.size)] t)) (fun b => N b ∨ fpH (w.heap.size + 1) w.heap.size [] b) (w.heap.size + 1) w.heap.size p [] :=
  ⟨by simp, by simp, by simp, .inr (.inl rfl), .inr (.inr (.inl rfl)), by omega, (MapIs.made w).alloc _, fun x h => (by cases h), fun x h => (by cases h), List.Pairwise.nil, List.nodup_nil, by simp, fun x h => (by cases h)⟩
theorem hnew_any (p : Pid) (w : World) (N : Nat → Prop) : Calls Tryz.prog 140 #[.agg #[.int .u16 p.1, .int .u32 p.2]] w fun e w' => ∃ h r, e = .returned (.pointer (some ⟨h, 0, none⟩)) ∧ Below w.heap.size w w' ∧ HubIs w' (fun b => N b ∨ fpH h r [] b) h r p [] ∧ w.heap.size ≤ h ∧ w.heap.size ≤ r := by
  have hmm := @run_makeMap Tryz.prog
  obtain ⟨x, y⟩ := p
  go_enter Tryz.func140, Tryz.ntmps140
  go_wp2_with fail
  go_ret
  have hm := HubIs.made (w.alloc (.cells #[.int .u16 x, .int .u32 y] 46)) (x, y) N 289
  simp only [World.size_alloc] at hm ⊢
  exact ⟨_, _, rfl, (((Below.refl _ _).alloc (Nat.le_refl _) _).alloc (by simp) _).alloc (by simp; omega) _, hm, by omega, by omega⟩
end Go.Proofs.YtehagnbphamjhaaGreatDoor

namespace Go.Proofs.YtehagnbphamjhaaGreatDoor
open Go.RowKit
theorem isSome_union {p : Pid} {l : List Pid} : (look p (unionL [] l)).isSome = true ↔ p ∈ l := by
  rw [look_isSome, mem_unionL]; simp [keys]

end Go.Proofs.YtehagnbphamjhaaGreatDoor

namespace Go.Proofs.YtehagnbphamjhaaGreatDoor
open Go.RowKit
theorem two_cell {w : World} {b : Nat} {u v x y : Value} (h0 : w.cell? ⟨b, 0, none⟩ = some u) (h1 : w.cell? ⟨b, 1, none⟩ = some v) :
    ((w.setCell ⟨b, 0, none⟩ x).setCell ⟨b, 1, none⟩ y).cell? ⟨b, 0, none⟩ = some x ∧ ((w.setCell ⟨b, 0, none⟩ x).setCell ⟨b, 1, none⟩ y).cell? ⟨b, 1, none⟩ = some y := by
  constructor
  · rw [World.cell?_setCell_other _ _ _ _ (by simp)]
    exact World.cell?_setCell_same _ _ _ h0
  · refine World.cell?_setCell_same _ _ _ (u := v) ?_
    rw [World.cell?_setCell_other _ _ _ _ (by simp)]
    exact h1
end Go.Proofs.YtehagnbphamjhaaGreatDoor

namespace Go.Proofs.YtehagnbphamjhaaGreatDoor
open Go.RowKit
/-- n bits of f from place k on, as a number -/
def hor (f : Nat → Bool) : Nat → Nat → Nat
  | _, 0 => 0
  | k, n + 1 => 2 * hor f (k + 1) n + (f k).toNat
end Go.Proofs.YtehagnbphamjhaaGreatDoor

namespace Go.Proofs.YtehagnbphamjhaaGreatDoor
open Go.RowKit
theorem off2 {w : World} {b q j : Nat} {x : Value} (hc : j ≠ q) : (w.setCell ⟨b, q, none⟩ x).cell? ⟨b, j, none⟩ = w.cell? ⟨b, j, none⟩ :=
  World.cell?_setCell_other _ _ _ _ (by intro e; injection e with e1 e2; exact hc e2.symm)

end Go.Proofs.YtehagnbphamjhaaGreatDoor

namespace Go.Proofs.YtehagnbphamjhaaGreatDoor
open Go.RowKit

/-- the watch behind a pointer: its box at block s holds the timeout and the map in block r -/
structure WatchIs (w : World) (s r : Nat) (T : Int) (L : List (Pid × Int)) : Prop where
  c0 : w.cell? ⟨s, 0, none⟩ = some (.int .i64 T)
  c1 : w.cell? ⟨s, 1, none⟩ = some (.map (some r))
  f1 : w.frozen? ⟨s, 1, none⟩ = false
  map : MapIs w r pidV eI L
theorem WatchIs.lt {w : World} {s r : Nat} {T : Int} {L : List (Pid × Int)} (h : WatchIs w s r T L) : s < w.heap.size := World.block_lt_of_cell? w _ h.c0
theorem WatchIs.ext {w w' : World} {s r : Nat} {T : Int} {L : List (Pid × Int)} (h : WatchIs w s r T L) (hb : Below w.heap.size w w') : WatchIs w' s r T L :=
  ⟨by rw [hb.cell (by exact h.lt)]; exact h.c0, by rw [hb.cell (by exact h.lt)]; exact h.c1, by rw [hb.frozen (by exact h.lt)]; exact h.f1, h.map.ext hb⟩
theorem WatchIs.alloc {w : World} {s r : Nat} {T : Int} {L : List (Pid × Int)} (h : WatchIs w s r T L) (o : Obj) : WatchIs (w.alloc o) s r T L := h.ext ((Below.refl _ _).alloc (Nat.le_refl _) _)
theorem WatchIs.drew {w : World} {s r : Nat} {T : Int} {L : List (Pid × Int)} (h : WatchIs w s r T L) : WatchIs w.drew s r T L := h.ext (Below.refl _ _).drew
theorem WatchIs.ne {w : World} {s r : Nat} {T : Int} {L : List (Pid × Int)} (h : WatchIs w s r T L) : s ≠ r := fun e => by
  have h1 := h.c0
  obtain ⟨es, cl, h2, _⟩ := h.map
  subst e
  simp [World.cell?, h2] at h1
theorem WatchIs.mut {F : Nat → Prop} {w w' : World} {s r : Nat} {T : Int} {L : List (Pid × Int)} (h : WatchIs w s r T L) (hm : Mut F w w') (hs : ¬ F s) (hr : ¬ F r) : WatchIs w' s r T L :=
  ⟨(hm.cell (by exact h.lt) (by exact hs)).trans h.c0, (hm.cell (by exact h.lt) (by exact hs)).trans h.c1, (World.frozen?_of_block (w := w) (hm.block s h.lt hs)).trans h.f1, h.map.same (hm.block r h.map.lt hr)⟩
theorem WatchIs.but {w w' : World} {s r t : Nat} {T : Int} {L : List (Pid × Int)} (h : WatchIs w s r T L) (hb : But t w w') (hs : s ≠ t) (hr : r ≠ t) : WatchIs w' s r T L :=
  h.mut (F := fun k => k = t) (Mut.of_but hb rfl) hs hr

section
variable (x y : Int) (a : Option Addr) (c : Nat) (xs : List Pid) (w : World)
end

section
variable (s r : Nat) (T : Int) (L : List (Pid × Int)) (x y : Int) (w : World)
end
theorem newWatch_any (t : Int) (w : World) : Calls Tryz.prog 141 #[.int .i64 t] w fun e w' => ∃ s r, e = .returned (.pointer (some ⟨s, 0, none⟩)) ∧ w.heap.size ≤ s ∧ w.heap.size ≤ r ∧ WatchIs w' s r (max t 1) [] ∧ Below w.heap.size w w' := by
  have hmm := @run_makeMap Tryz.prog
  go_enter Tryz.func141, Tryz.ntmps141
  go_wp2
  go_ret
  exact ⟨_, _, rfl, by omega, Nat.le_refl _, ⟨by simp, by simp, by simp, (MapIs.made w).alloc _⟩, ((Below.refl _ _).alloc (Nat.le_refl _) _).alloc (by simp) _⟩
/-- Follow -/
def followL (L : List (Pid × Int)) : List (Pid × Int) → List Pid → List (Pid × Int)
  | M, [] => M
  | M, p :: r => followL L (ins p ((look p L).getD 0) M) r
theorem followL_drop {L M : List (Pid × Int)} {xs : List Pid} {k : Nat} (h : k < xs.length) {x y : Int} (hx : (x, y) = xs[k]) :
    followL L M (xs.drop k) = followL L (ins (x, y) ((look (x, y) L).getD 0) M) (xs.drop (k + 1)) := by
  rw [List.drop_eq_getElem_cons h, ← hx]; rfl
set_option maxRecDepth 100000 in
set_option maxHeartbeats 1600000 in
theorem follow_any (s r : Nat) (T : Int) (L : List (Pid × Int)) (a : Option Addr) (c : Nat) (xs : List Pid) (w : World) (hn : xs.length ≤ 70368744177664) (hrow : PidRow w a xs) (hW : WatchIs w s r T L) :
   Calls Tryz.prog 205 #[.pointer (some ⟨s, 0, none⟩), .slice a xs.length c] w fun e w' => ∃ r', e = .returned (.tuple #[]) ∧ w.heap.size ≤ r' ∧ WatchIs w' s r' T (followL L [] xs) ∧ Mut (fun k => k = s) w w' := by
  have hmm := @run_makeMap Tryz.prog
  have hsl := hW.lt
  go_enter Tryz.func205, Tryz.ntmps205
  go_wp2
  go_loopw [12] (fun i wr => ∃ (k : Nat) (M : List (Pid × Int)), k ≤ xs.length ∧ i = .int .i64 k ∧ Hid (followL L [] xs = followL L M (xs.drop k)) ∧ MapIs wr w.heap.size pidV eI M ∧ Below w.heap.size w wr) (fun i _ => xs.length - (intOf i).toNat)
  case atStart => exact ⟨0, [], Nat.zero_le _, rfl, rfl, MapIs.made _, (Below.refl _ _).alloc (Nat.le_refl _) _⟩
  case round =>
    obtain ⟨k, M, hk, rfl, hL, hM, hb⟩ := hrel
    have hs1 := hM.lt
    have hWr := hW.ext hb
    by_cases hlt : k < xs.length
    · obtain ⟨b, off, x, y, rfl, hx, d1, d2⟩ := hrow.at hb rfl hlt
      have hL1 := followL_drop (L := L) (M := M) hlt hx
      obtain ⟨n, hn0⟩ : ∃ n, (look (x, y) L).getD 0 = n := ⟨_, rfl⟩
      rw [hn0] at hL1
      have hlk : ∀ W, WatchIs W s r T L → (Instr.lookup 290 (.map (some r)) (.agg #[.int .u16 x, .int .u32 y]) false).run Tryz.prog W = .ok (.int .i64 n) W := fun W h => by
        have := h.map.lookup_no keyPid Tryz.underlying290 (zero3 W) (x, y)
        rw [look_int, hn0] at this
        exact this
      have hbx : ∀ W, WatchIs W s r T L → W.cell? ⟨s, 1, none⟩ = some (.map (some r)) := fun W h => h.c1
      have HL1 := hid hL1
      clear hx hrow hL1 hn0
      have hB1 : Below w.heap.size w (wr.alloc (.cells #[.int .u16 x, .int .u32 y] 46)) := hb.alloc hb.size _
      have hW1 := hWr.alloc (.cells #[.int .u16 x, .int .u32 y] 46)
      obtain ⟨w2, hrun, hM2, hbut⟩ := (hM.alloc (.cells #[.int .u16 x, .int .u32 y] 46)).ext (Below.refl _ _).drew |>.update keyPid Tryz.underlying290 (x, y) n
      have e0 : (wr.alloc (.cells #[.int .u16 x, .int .u32 y] 46)).drew.cell? ⟨wr.heap.size, 0, none⟩ = some (.int .u16 x) := by simp
      have e1 : (wr.alloc (.cells #[.int .u16 x, .int .u32 y] 46)).drew.cell? ⟨wr.heap.size, 1, none⟩ = some (.int .u32 y) := by simp
      have c0 : w2.cell? ⟨wr.heap.size, 0, none⟩ = some (.int .u16 x) := (hbut.cell (by simp; omega)).trans e0
      have c1 : w2.cell? ⟨wr.heap.size, 1, none⟩ = some (.int .u32 y) := (hbut.cell (by simp; omega)).trans e1
      have hW2 : WatchIs w2 s r T L := hW1.drew.but hbut (by omega) (by have := hW.map.lt; omega)
      have hB2 : Below w.heap.size w w2 := But.below' hB1.drew hbut (Nat.le_refl _)
      go_wp2
      go_region_held3 (fun W => WatchIs W s r T L ∧ W.cell? ⟨wr.heap.size, 0, none⟩ = some (.int .u16 x) ∧ W.cell? ⟨wr.heap.size, 1, none⟩ = some (.int .u32 y)) (first | exact ⟨hW1.drew, e0, e1⟩ | exact ⟨hW2, c0, c1⟩) (fail)
      go_wp2
      go_roundw
      case rel => exact ⟨k + 1, _, by omega, by go_num, hL.out.trans HL1.out, hM2, hB2⟩
      case measure => simp [intOf]; omega
    · have hend : Hid (followL L [] xs = M) := by
        have := hL.out
        rw [List.drop_eq_nil_of_le (by omega)] at this
        exact this
      obtain ⟨g0, g1, g2, -⟩ := hWr
      go_wp2
      have hbs : But s wr (wr.setCell ⟨s, 1, none⟩ (.map (some w.heap.size))) := ⟨rfl, rfl, rfl, by simp, fun k hk => Below.heap_setCell _ _ _ _ hk⟩
      refine bodyPost_end (results_none rfl _ _ _) rfl ⟨_, rfl, Nat.le_refl _, ⟨?_, ?_, ?_, ?_⟩, (Mut.of_below hb).trans (Mut.of_but hbs rfl)⟩
      · rw [off2 (by omega)]; exact g0
      · exact World.cell?_setCell_same _ _ _ g1
      · simp [g2]
      · rw [hend.out]; exact hM.setCell (by simp; omega) _
end Go.Proofs.YtehagnbphamjhaaGreatDoor

namespace Go.Proofs.YtehagnbphamjhaaGreatDoor
open Go.RowKit
/-! ### a blank process -/
theorem MapIs.ne_cell {α β : Type} [DecidableEq α] {ke : α → Value} {ve : β → Value} {L : List (α × β)} {w : World} {r s j : Nat} {v : Value} (h : MapIs w r ke ve L) (hc : w.cell? ⟨s, j, none⟩ = some v) : s ≠ r := by
  rintro rfl
  obtain ⟨es, clock, hb, -, -⟩ := h
  simp [World.cell?, hb] at hc
/-- the cells of a process -/
def nodeC (x y l m t place : Int) (seeds : Value) (ticks : Int) (hub : Nat) (grp : List Value) (led st ac pr : Value) (wat : Nat) (rum : List Value) (stable : Int) (held asked : Nat) (joins : Value) (leaves : Nat) (leaving : Bool) (beats events : Value) : List Value :=
  [.int .u16 x, .int .u32 y, .int .i64 l, .int .i64 m, .int .i64 t, .int .i64 place, seeds, .int .i64 ticks, .pointer (some ⟨hub, 0, none⟩)] ++ grp ++ [led, st, ac, pr, .pointer (some ⟨wat, 0, none⟩)] ++ rum ++ [.int .u64 stable, .map (some held), .map (some asked), joins, .pointer (some ⟨leaves, 0, none⟩), .bool leaving, beats, events]
def grp0 : List Value := [.int .u64 0, .slice none 0 0, .slice none 0 0, .slice none 0 0, .int .u64 0, .slice none 0 0, .pointer none, .pointer none, .pointer none, .pointer none, .bool false]
def rum0 : List Value := List.replicate 16 (.int .u32 0)
structure BlankR (w w' : World) (x y l m t : Int) (nb h r wb wr sb sr m1 m2 : Nat) : Prop where
  box : BoxL w' nb 233 (nodeC x y l m t 0 (.slice none 0 0) 0 h grp0 (.pointer none) (.pointer none) (.pointer none) (.pointer none) wb rum0 0 m1 m2 (.slice none 0 0) sb false (.slice none 0 0) (.slice none 0 0))
  below : Below w.heap.size w w'
  fresh : ∀ q ∈ [nb, h, r, wb, wr, sb, sr, m1, m2], w.heap.size ≤ q
  apart : [nb, h, r, wb, wr, sb, sr, m1, m2].Nodup
  hub : HubIs w' (fpH h r []) h r (x, y) []
  watch : WatchIs w' wb wr (max t 1) []
  set : SetIs w' sb sr []
  map1 : ∀ {α β : Type} [DecidableEq α] (ke : α → Value) (ve : β → Value), MapIs w' m1 ke ve ([] : List (α × β))
  map2 : ∀ {α β : Type} [DecidableEq α] (ke : α → Value) (ve : β → Value), MapIs w' m2 ke ve ([] : List (α × β))
theorem blank_of {w w' W1 : World} {x y l m t : Int} {nb h r wb wr sb sr m1 m2 : Nat} {e : Ending} (HB : Hid (Below w.heap.size w W1)) (he : e = .returned (.pointer (some ⟨nb, 0, none⟩)))
    (box : BoxL w' nb 233 (nodeC x y l m t 0 (.slice none 0 0) 0 h grp0 (.pointer none) (.pointer none) (.pointer none) (.pointer none) wb rum0 0 m1 m2 (.slice none 0 0) sb false (.slice none 0 0) (.slice none 0 0)))
    (below : Below W1.heap.size W1 w') (fresh : ∀ q ∈ [nb, h, r, wb, wr, sb, sr, m1, m2], W1.heap.size ≤ q) (apart : [nb, h, r, wb, wr, sb, sr, m1, m2].Nodup)
    (hub : HubIs w' (fpH h r []) h r (x, y) []) (watch : WatchIs w' wb wr (max t 1) []) (set : SetIs w' sb sr [])
    (map1 : ∀ {α β : Type} [DecidableEq α] (ke : α → Value) (ve : β → Value), MapIs w' m1 ke ve ([] : List (α × β))) (map2 : ∀ {α β : Type} [DecidableEq α] (ke : α → Value) (ve : β → Value), MapIs w' m2 ke ve ([] : List (α × β))) :
    ∃ nb h r wb wr sb sr m1 m2, e = .returned (.pointer (some ⟨nb, 0, none⟩)) ∧ BlankR w w' x y l m t nb h r wb wr sb sr m1 m2 :=
  ⟨nb, h, r, wb, wr, sb, sr, m1, m2, he, ⟨box, HB.out.trans (below.mono HB.out.size), fun q hq => Nat.le_trans HB.out.size (fresh q hq), apart, hub, watch, set, map1, map2⟩⟩
end Go.Proofs.YtehagnbphamjhaaGreatDoor

namespace Go.Proofs.YtehagnbphamjhaaGreatDoor
open Go.RowKit
/-! ### hub: link -/
abbrev HubD := List (Pid × LnkD)
def hubD (L : List HubX) : HubD := L.map fun x => (x.p, x.d)
end Go.Proofs.YtehagnbphamjhaaGreatDoor

namespace Go.Proofs.YtehagnbphamjhaaGreatDoor
open Go.RowKit
/-! ### hub: Send, Waits -/
/-- a sender was put to use -/
theorem HubR.sent {w w' : World} {N : Nat → Prop} {h r : Nat} {sf : Pid} {A B : List HubX} {x : HubX} {sd : SndD} {wv' : Value} (H : HubIs w N h r sf (A ++ x :: B)) (hN : ∀ b, N b → b < w.heap.size) (hP : PutR w w' N x.k.sb x.k.wv sd wv') :
    HubR w w' N (fun b => N b ∨ wv'.ownBlock = some b) h r sf (A ++ x :: B) (A ++ ⟨x.p, { x.k with wv := wv' }, { x.d with snd := sd }⟩ :: B) := by
  obtain ⟨us', hs⟩ := hP.is
  have hx := H.lnk x (by simp)
  have hz := hP.mt.size
  have hN2 : ∀ b, (N b ∨ wv'.ownBlock = some b) → N b ∨ w.heap.size ≤ b := fun b e => by
    rcases e with e | e
    · exact .inl e
    · rcases hP.new b e with e | e
      · exact .inl (hx.nw b e).1
      · exact .inr e
  have hl := hx.sent hP.mt (fun b e => .inl e) hN2 hs hP.new
  have hmt : Mut (fpL x.k) w w' := hP.mt.mono fun b _ e => e.elim (fun e => .inr (.inl e)) fun e => .inr (.inr (.inr e))
  have hfk : ∀ b, fpL { x.k with wv := wv' } b → fpL x.k b ∨ w.heap.size ≤ b := fun b e => by
    rcases e with e | e | e | e
    · exact .inl (.inl e)
    · exact .inl (.inr (.inl e))
    · exact .inl (.inr (.inr (.inl e)))
    · exact (hP.new b e).imp (fun e => .inr (.inr (.inr e))) id
  refine ⟨H.turn hmt (fun b e => .inl e) hN2 hl rfl hfk, fun b e => .inl e, hN2, fun b e => ?_, hmt.mono fun b _ e => .inr (.inr ⟨x, by simp, e⟩), fun b e => ?_⟩
  · rcases e with e | e
    · have := hN b e; omega
    · exact (hs.row.blk e).2
  · rcases e with e | e | ⟨y, hy, e⟩
    · exact .inl (.inl e)
    · exact .inl (.inr (.inl e))
    · simp only [List.mem_append, List.mem_cons] at hy
      rcases hy with hy | rfl | hy
      · exact .inl (.inr (.inr ⟨y, by simp [hy], e⟩))
      · exact (hfk b e).imp (fun e => .inr (.inr ⟨x, by simp, e⟩)) id
      · exact .inl (.inr (.inr ⟨y, by simp [hy], e⟩))
end Go.Proofs.YtehagnbphamjhaaGreatDoor

namespace Go.Proofs.YtehagnbphamjhaaGreatDoor
open Go.RowKit
/-! ### hub: Peers, Waits, Drop, Tick -/
def peersR (H : HubD) : List Pid := sortL (H.map (·.1))
set_option maxRecDepth 100000 in
set_option maxHeartbeats 1600000 in
theorem hpeers_any {w : World} {N : Nat → Prop} {h r : Nat} {sf : Pid} {L : List HubX} (H : HubIs w N h r sf L) :
    Calls Tryz.prog 273 #[.pointer (some ⟨h, 0, none⟩)] w fun e w' => ∃ v, e = .returned v ∧ OwnP w' w.heap.size v (peersR (hubD L)) ∧ Below w.heap.size w w' := by
  have c2 := H.c2
  have HH := hid H
  have HM : Hid (∀ w2, Below w.heap.size w w2 → ∀ Bm, w2.cell? ⟨Bm, 0, none⟩ = some (.map (some r)) → Bm < w2.heap.size → Calls Tryz.prog 113 #[.func (.func 435) #[] #[.pointer (some ⟨Bm, 0, none⟩)]] w2 fun e w' => ∃ v xs, e = .returned v ∧ OwnP w' w2.heap.size v xs ∧ xs.Perm (L.map (·.p)) ∧ Below w2.heap.size w2 w') := hid fun w2 hb Bm hm hlt => by
    have := collect_any Bm r _ w2 hlt hm (H.ext hb).map (by have := H.lim; simp; omega)
    have e : ((L.map fun x => (x.p, x.k.lb)).map (·.1)) = L.map (·.p) := by rw [List.map_map]; rfl
    rw [e] at this
    exact this
  have hl := H.lim
  have hnd := H.nd
  have hoks := H.oks
  have hS : Hid (∀ xs : List Pid, xs.Perm (L.map (·.p)) → sortP xs = peersR (hubD L) ∧ xs.length ≤ 48 ∧ ∀ p ∈ xs, ok p) := hid fun xs hp => by
    have hn : xs.Nodup := hp.symm.nodup hnd
    have ho : ∀ p ∈ xs, ok p := fun p hpx => by
      obtain ⟨z, hz, rfl⟩ := List.mem_map.1 (hp.mem_iff.1 hpx)
      exact hoks z hz
    refine ⟨?_, by have := hp.length_eq; simp at this; omega, ho⟩
    rw [sortP_nodup hn]
    have e : (hubD L).map (·.1) = L.map (·.p) := by simp [hubD]
    unfold peersR
    rw [e]
    exact sortL_perm hp ho
  clear H hl hnd hoks
  go_enter Tryz.func273, Tryz.ntmps273
  go_wp2_with fail
  refine (keysOf_any r w).mono ?_
  rintro e w1 ⟨rfl, hw1⟩
  have hb1 : Below w.heap.size w w1 := by rw [hw1]; exact (Below.refl _ _).alloc (Nat.le_refl _) _
  have hc1 : w1.cell? ⟨w.heap.size, 0, none⟩ = some (.map (some r)) := by rw [hw1]; simp
  have hz1 : w.heap.size < w1.heap.size := by rw [hw1]; simp
  clear hw1
  have HB1 := hid hb1
  have CC := hid (HM.out w1 hb1 _ hc1 hz1)
  clear hc1 hb1 HM
  go_wp2_with fail
  refine CC.out.mono ?_
  rintro e w2 ⟨v, xs, rfl, hown, hp, hb2⟩
  obtain ⟨a, c, rfl, hrow, -⟩ := hown.row
  obtain ⟨hs1, hs2, hs3⟩ := hS.out xs hp
  have CS := hid (sort_any a c xs w2 (by omega) hrow hs3)
  rw [hs1] at CS
  have HB2 := hid hb2
  clear hrow hown hp hs1 hs2 hs3 hb2 CC
  go_wp2_with fail
  refine CS.out.mono ?_
  rintro e w3 ⟨v3, rfl, hown3, hb3⟩
  go_wp2_with fail
  go_ret
  have hbw := HB1.out.trans (HB2.out.mono HB1.out.size)
  exact ⟨_, rfl, hown3.mono hbw.size, hbw.trans (hb3.mono hbw.size)⟩
/-- a link was let go -/
theorem HubIs.drop {w w' : World} {N : Nat → Prop} {h r : Nat} {sf : Pid} {A B : List HubX} {z : HubX} (H : HubIs w N h r sf (A ++ z :: B)) (hb : But r w w') (hM : MapIs w' r pidV ptrV ((A ++ B).map fun x => (x.p, x.k.lb))) : HubIs w' N h r sf (A ++ B) := by
  have hm : Mut (fun b => b = r) w w' := Mut.of_but hb rfl
  have hG : ∀ b, b < w.heap.size → b = r → N b := fun b _ e => by rw [e]; exact H.rn
  have hmem : ∀ y, y ∈ A ++ B → y ∈ A ++ z :: B := fun y hy => by
    rcases List.mem_append.1 hy with hy | hy
    · simp [hy]
    · simp [hy]
  have hsub : (A ++ B).Sublist (A ++ z :: B) := List.Sublist.append (List.Sublist.refl _) (List.sublist_cons_self _ _)
  exact ⟨(hb.cell (by exact H.hr)).trans H.c0, (hb.cell (by exact H.hr)).trans H.c1, (hb.cell (by exact H.hr)).trans H.c2, H.hn, H.rn, H.hr, hM, fun y hy => (H.lnk y (hmem y hy)).mut hm hG fun b e e2 => (H.out y (hmem y hy) b e).2 e2, fun y hy => H.out y (hmem y hy), H.dis.sublist hsub, H.nd.sublist (hsub.map _), Nat.le_trans hsub.length_le H.lim, fun y hy => H.oks y (hmem y hy)⟩
end Go.Proofs.YtehagnbphamjhaaGreatDoor


/- Parts of the proof: X101. -/
import Derived.Test.YtehagnbphamjhaaGreatDoorGPlayBack32
namespace Go.Proofs.YtehagnbphamjhaaGreatDoor
open Go.RowKit
/-! ### layout: comers, may, leaders -/
def insAll : List (Int × Unit) → List Pid → List (Int × Unit)
  | S, [] => S
  | S, p :: r => insAll (ins p.1 () S) r
theorem insAll_drop {S : List (Int × Unit)} {xs : List Pid} {k : Nat} (h : k < xs.length) {x y : Int} (hx : (x, y) = xs[k]) : insAll S (xs.drop k) = insAll (ins x () S) (xs.drop (k + 1)) := by
  rw [List.drop_eq_getElem_cons h, ← hx]; rfl
def comeM : List (Int × Unit) → List Pid → Int
  | _, [] => 0
  | S, p :: r => if (look p.1 S).isSome = true then 9 else comeM (ins p.1 () S) r
theorem comeM_drop {S : List (Int × Unit)} {xs : List Pid} {k : Nat} (h : k < xs.length) {x y : Int} (hx : (x, y) = xs[k]) : comeM S (xs.drop k) = if (look x S).isSome = true then 9 else comeM (ins x () S) (xs.drop (k + 1)) := by
  rw [List.drop_eq_getElem_cons h, ← hx]; rfl
theorem keys_ins {S : List (Int × Unit)} {x p : Int} : p ∈ keys (ins x () S) ↔ p = x ∨ p ∈ keys S := by
  rw [← look_isSome, look_ins, ← look_isSome]
  by_cases h : p = x <;> simp [h]
theorem keys_insAll : ∀ {xs : List Pid} {S : List (Int × Unit)} {p : Int}, p ∈ keys (insAll S xs) ↔ p ∈ keys S ∨ p ∈ xs.map (·.1)
  | [], S, p => by simp [insAll]
  | q :: r, S, p => by
    unfold insAll
    rw [keys_insAll, keys_ins]
    simp only [List.map_cons, List.mem_cons]
    constructor
    · rintro ((h | h) | h)
      · exact .inr (.inl h)
      · exact .inl h
      · exact .inr (.inr h)
    · rintro (h | h | h)
      · exact .inl (.inr h)
      · exact .inl (.inl h)
      · exact .inr h
theorem comeM_eq : ∀ {come : List Pid} {S : List (Int × Unit)} {T : List Int}, (∀ x, x ∈ keys S ↔ x ∈ T) → comeM S come = if comeOk T come = true then 0 else 9
  | [], S, T, _ => by simp [comeM, comeOk]
  | p :: r, S, T, h => by
    unfold comeM comeOk
    by_cases hp : p.1 ∈ T
    · rw [if_pos (look_isSome.2 ((h _).2 hp)), if_pos hp, if_neg (by simp)]
    · rw [if_neg (fun e => hp ((h _).1 (look_isSome.1 e))), if_neg hp]
      refine comeM_eq fun x => ?_
      rw [keys_ins, h]
      simp only [List.mem_append, List.mem_singleton]
      exact or_comm
theorem comeM_is (stay come : List Pid) : comeM (insAll [] stay) come = if comeOk (stay.map (·.1)) come = true then 0 else 9 :=
  comeM_eq fun x => by rw [keys_insAll]; simp [keys]
set_option maxRecDepth 100000 in
set_option maxHeartbeats 1600000 in
theorem comers_any {a b : Option Addr} {c d n m : Nat} {xs ys : List Pid} {w : World} {R : Int} (hR : Hid ((if comeOk (xs.map (·.1)) ys = true then 0 else 9) = R)) (hn' : Hid (xs.length = n)) (hm' : Hid (ys.length = m)) (hn : n ≤ 70368744177664) (hm : m ≤ 70368744177664) (hx : PidRow w a xs) (hy : PidRow w b ys) :
    Calls Tryz.prog 188 #[.slice a n c, .slice b m d] w fun e w' => e = .returned (.int .i64 R) ∧ Below w.heap.size w w' := by
  have h1 := hn'.out
  have h2 := hm'.out
  subst h1; subst h2
  have hmm := @run_makeMap Tryz.prog
  have HC := hid ((comeM_is xs ys).trans hR.out)
  clear hR
  go_enter Tryz.func188, Tryz.ntmps188
  go_wp2
  go_loopw [15] (fun i wr => ∃ (k : Nat) (S : List (Int × Unit)), k ≤ xs.length ∧ i = .int .i64 k ∧ Hid (insAll [] xs = insAll S (xs.drop k)) ∧ Below w.heap.size w wr ∧ MapIs wr w.heap.size e16 eU S) (fun i _ => xs.length - (intOf i).toNat)
  case atStart => exact ⟨0, [], Nat.zero_le _, rfl, rfl, (Below.refl _ _).alloc (Nat.le_refl _) _, MapIs.made _⟩
  case round =>
    obtain ⟨k, S, hk, rfl, ha, hb, hM⟩ := hrel
    by_cases hlt : k < xs.length
    · obtain ⟨b', off, x, y, rfl, hx', d1, d2⟩ := hx.at hb rfl hlt
      have HD := hid (insAll_drop (S := S) hlt hx')
      clear hx' hx hy
      have hB1 : Below w.heap.size w (wr.alloc (.cells #[.int .u16 x, .int .u32 y] 46)) := hb.alloc hb.size _
      go_wp2_with (at_mapUpdate; refine wpList_mapUpdate_is key16_116 Tryz.underlying371 (hM.alloc _) x () rfl rfl rfl rfl rfl ?_; intro w2 hM2 hbut)
      go_roundw
      case rel => exact ⟨k + 1, _, by omega, by go_num, (ha.out.trans HD.out : _), hB1.trans (hbut.below (Nat.le_refl _)), hM2⟩
      case measure => simp [intOf]; omega
    · have ha2 := ha.out
      rw [List.drop_eq_nil_of_le (by omega)] at ha2
      have ha3 : insAll [] xs = S := ha2
      rw [ha3] at HC
      have HB := hid hb
      clear ha ha2 ha3 hb
      go_wp2
      go_loopw [4, 26] (fun r i wr => r = .int .i64 0 ∧ ∃ (k : Nat) (S' : List (Int × Unit)), k ≤ ys.length ∧ i = .int .i64 k ∧ Hid (comeM S ys = comeM S' (ys.drop k)) ∧ Below w.heap.size w wr ∧ MapIs wr w.heap.size e16 eU S') (fun _ i _ => ys.length - (intOf i).toNat)
      case atStart => exact ⟨rfl, 0, S, Nat.zero_le _, rfl, rfl, HB.out, hM⟩
      case round =>
        obtain ⟨rfl, k, S', hk, rfl, ha, hb, hM'⟩ := hrel
        by_cases hlt : k < ys.length
        · obtain ⟨b', off, x, y, rfl, hy', d1, d2⟩ := hy.at hb rfl hlt
          have HD := hid (comeM_drop (S := S') hlt hy')
          clear hy' hx hy hM
          rename World => wz
          have hB1 : Below w.heap.size w (wz.alloc (.cells #[.int .u16 x, .int .u32 y] 46)) := hb.alloc hb.size _
          have hB2 : Below w.heap.size w ((wz.alloc (.cells #[.int .u16 x, .int .u32 y] 46)).alloc (.cells #[] 263)) := hB1.alloc hB1.size _
          cases hs : (look x S').isSome
          · have HS := hid hs
            clear hs
            go_wp2_with (first
              | (at_lookup; refine wpList_lookup_is key16_116 Tryz.underlying371 (.agg #[]) zero106 (hM'.alloc _) x _ (look_unit _ _) HS rfl rfl rfl rfl ?_)
              | (at_mapUpdate; refine wpList_mapUpdate_is key16_116 Tryz.underlying371 ((hM'.alloc _).alloc _) x () rfl rfl rfl rfl rfl ?_; intro w2 hM2 hbut))
            go_roundw
            case rel => exact ⟨rfl, k + 1, _, by omega, by go_num, (ha.out.trans (by rw [HD.out, HS.out]; rfl) : _), hB2.trans (hbut.below (Nat.le_refl _)), hM2⟩
            case measure => simp [intOf]; omega
          · have HS := hid hs
            clear hs
            go_wp2_with (first
              | (at_lookup; refine wpList_lookup_is key16_116 Tryz.underlying371 (.agg #[]) zero106 (hM'.alloc _) x _ (look_unit _ _) HS rfl rfl rfl rfl ?_))
            go_ret
            exact ⟨ret_int (by rw [← HC.out, ha.out, HD.out, HS.out]; rfl), hB2⟩
        · have ha2 := ha.out
          rw [List.drop_eq_nil_of_le (by omega)] at ha2
          have HA := hid ha2
          clear ha2
          go_wp2
          go_ret
          exact ⟨ret_int (by rw [← HC.out, HA.out]; rfl), hb⟩
/-! may -/
def notMayFrom : List Pid → Nat → Int
  | [], _ => -1
  | p :: r, k => if mayB p = true then notMayFrom r (k + 1) else (k : Int)
theorem notMay_drop {xs : List Pid} {k : Nat} (h : k < xs.length) {x y : Int} (hx : (x, y) = xs[k]) : notMayFrom (xs.drop k) k = if mayB (x, y) = true then notMayFrom (xs.drop (k + 1)) (k + 1) else (k : Int) := by
  rw [List.drop_eq_getElem_cons h, ← hx]; rfl
theorem notMay_is : ∀ (xs : List Pid) (k : Nat), decide (0 ≤ notMayFrom xs k) = !mayAll xs
  | [], k => rfl
  | p :: r, k => by
    have ih := notMay_is r (k + 1)
    have e : mayAll (p :: r) = (mayB p && mayAll r) := rfl
    unfold notMayFrom
    rw [e]
    cases hp : mayB p
    · rw [if_neg (by simp)]; simp <;> omega
    · rw [if_pos rfl, ih]; simp
theorem notMay1_any {x y : Int} {w : World} {r : Bool} (h : Hid (mayB (x, y) = r)) :
    Calls Tryz.prog 186 #[.agg #[.int .u16 x, .int .u32 y]] w fun e w' => e = .returned (.bool (!r)) ∧ Below w.heap.size w w' := by
  have hB : Below w.heap.size w (w.alloc (.cells #[.int .u16 x, .int .u32 y] 46)) := (Below.refl _ _).alloc (Nat.le_refl _) _
  go_enter Tryz.func186, Tryz.ntmps186
  go_wp2_with (go_at_call 187; refine (may_is h).mono ?_; rintro e w1 ⟨rfl, hb1⟩)
  go_ret
  exact ⟨rfl, hB.trans (hb1.mono hB.size)⟩
set_option maxRecDepth 100000 in
set_option maxHeartbeats 800000 in
theorem ixMay_any {a : Option Addr} {c : Nat} {xs : List Pid} {w : World} (hn : xs.length ≤ 70368744177664) (hrow : PidRow w a xs) :
    Calls Tryz.prog 247 #[.slice a xs.length c, .func (.func 186) #[] #[]] w fun e w' => e = .returned (.int .i64 (notMayFrom xs 0)) ∧ Below w.heap.size w w' := by
  go_enter Tryz.func247, Tryz.ntmps247
  go_wp2
  go_loopw [4, 8] (fun r i wr => r = .int .i64 0 ∧ ∃ k : Nat, k ≤ xs.length ∧ i = .int .i64 k ∧ Hid (notMayFrom xs 0 = notMayFrom (xs.drop k) k) ∧ Below w.heap.size w wr) (fun _ i _ => xs.length - (intOf i).toNat)
  case atStart => exact ⟨rfl, 0, Nat.zero_le _, rfl, rfl, Below.refl _ _⟩
  case round =>
    obtain ⟨rfl, k, hk, rfl, ha, hb⟩ := hrel
    by_cases hlt : k < xs.length
    · obtain ⟨bb, off, x, y, rfl, hx, d1, d2⟩ := hrow.at hb rfl hlt
      have HD := hid (notMay_drop hlt hx)
      obtain ⟨r, hr⟩ : ∃ r, mayB (x, y) = r := ⟨_, rfl⟩
      have HR := hid hr
      clear hx hrow hr
      cases r
      case true =>
        go_wp2_with (go_at_call 186; (with_reducible refine (notMay1_any HR).mono ?_); rintro e w1 ⟨rfl, hb1⟩)
        go_roundw
        case rel => exact ⟨rfl, k + 1, by omega, by go_num, (ha.out.trans (by rw [HD.out, HR.out]; rfl) : _), hb.trans (hb1.mono hb.size)⟩
        case measure => simp [intOf]; omega
      case false =>
        go_wp2_with (go_at_call 186; (with_reducible refine (notMay1_any HR).mono ?_); rintro e w1 ⟨rfl, hb1⟩)
        go_ret
        exact ⟨ret_int (by rw [ha.out, HD.out, HR.out]; rfl), hb.trans (hb1.mono hb.size)⟩
    · have ha2 := ha.out
      rw [List.drop_eq_nil_of_le (by omega)] at ha2
      have HA := hid ha2
      clear ha2 ha
      go_wp2
      go_ret
      exact ⟨ret_int (by rw [HA.out]; rfl), hb⟩
theorem lmay_any {a : Option Addr} {c n : Nat} {xs : List Pid} {w : World} {r : Bool} (hr : Hid (mayAll xs = r)) (hN : Hid (xs.length = n)) (hn : n ≤ 70368744177664) (hrow : PidRow w a xs) :
    Calls Tryz.prog 137 #[.slice a n c] w fun e w' => e = .returned (.bool r) ∧ Below w.heap.size w w' := by
  have hN := hN.out
  subst hN
  have hz := notMay_is xs 0
  have C1 : Hid (Calls Tryz.prog 185 #[.slice a xs.length c, .func (.func 186) #[] #[]] w fun e w' => e = .returned (.bool (!r)) ∧ Below w.heap.size w w') := by
    have C0 := ixMay_any (c := c) hn hrow
    rw [hr.out] at hz
    obtain ⟨z, hzz⟩ : ∃ z, notMayFrom xs 0 = z := ⟨_, rfl⟩
    rw [hzz] at hz C0
    have t2 : decide (z ≥ 0) = !r := hz
    have C0 := hid C0
    clear hrow hr hzz
    show Calls _ _ _ _ _
    go_enter Tryz.func185, Tryz.ntmps185
    go_wp2_with (go_at_call 247; (with_reducible refine C0.out.mono ?_); rintro e w1 ⟨rfl, hb1⟩)
    go_ret
    exact ⟨ret_bool (by first | exact hz | rfl | simp), hb1⟩
  clear hz hr hrow
  cases r
  all_goals
    go_enter Tryz.func137, Tryz.ntmps137
    go_wp2_with (go_at_call 185; (with_reducible refine C1.out.mono ?_); rintro e w1 ⟨rfl, hb1⟩)
    go_ret
    exact ⟨rfl, hb1⟩
/-! leaders -/
theorem heads_take_succ {ls : LL} {k : Nat} (h : k < ls.length) {p : Pid} {r : List Pid} (hl : p :: r = ls[k]) : heads (ls.take (k + 1)) = heads (ls.take k) ++ [p] := by
  rw [heads_fm, heads_fm, List.take_succ_eq_append_getElem h, List.filterMap_append, ← hl]
  rfl
theorem keys_add1 {p : Pid} {L : List (Pid × Unit)} : keys (add1 p L) = if p ∈ keys L then keys L else keys L ++ [p] := by
  by_cases h : p ∈ keys L
  · rw [if_pos h, add1_of_mem h]
  · rw [if_neg h, add1_of_not h]; simp [keys]
theorem leadS_drop {ms S : List Pid} {k : Nat} (h : k < ms.length) {p : Pid} (hp : p = ms[k]) : leadS (ms.drop k) S = leadS (ms.drop (k + 1)) (leadStep S p) := by
  rw [List.drop_eq_getElem_cons h, ← hp]; rfl
theorem leaders_end {w w1 : World} {s r M cm : Nat} {am : Option Addr} {ms S : List Pid} {L : List (Pid × Unit)} (hS : SetIs w1 s r L) (hk : keys L = leadS ms S) (hn : (leadS ms S).Nodup) (hok : ∀ p ∈ leadS ms S, ok p) (hl : (leadS ms S).length ≤ 1000) :
    Calls Tryz.prog 260 #[.pointer (some ⟨s, 0, none⟩)] w1 fun e w' => ∃ v, e = .returned v ∧ OwnP w' w1.heap.size v (sortL (leadS ms S)) ∧ Below w1.heap.size w1 w' := by
  have h5 : (keys L).length = L.length := by simp [keys]
  rw [hk] at h5
  have := list_any s r L w1 hS (by rw [hk]; exact hn) (by rw [hk]; exact hok) (by omega)
  rw [hk] at this
  exact this
set_option maxRecDepth 100000 in
set_option maxHeartbeats 3200000 in
theorem leaders_any {w : World} {am al : Option Addr} {cm cl M N : Nat} {ms : List Pid} {ls : LL} (hM : Hid (ms.length = M)) (hml : M ≤ 1000) (hN : Hid (ls.length = N)) (hnl : N ≤ 1000) (hm : PidRow w am ms) (hl : LeafRow w al ls) (hfull : Full ls) (hhd : (heads ls).Nodup) (hsub : ∀ p ∈ heads ls, p ∈ ms) (hnd : ms.Nodup) (hok : ∀ p ∈ ms, ok p) :
    Calls Tryz.prog 193 #[.slice am M cm, .slice al N cl] w fun e w' => ∃ v, e = .returned v ∧ OwnP w' w.heap.size v (leadersL ms (heads ls)) ∧ Below w.heap.size w w' := by
  have h1 := hM.out
  have h2 := hN.out
  subst h1; subst h2
  obtain ⟨q1, q2, q3, q4⟩ := leadS_ok ms (fun _ h => h) hhd hsub
  have q5 : (leadS ms (heads ls)).length ≤ 1000 := by have := nodup_len q1 q2; omega
  have QQ := hid (And.intro q1 (And.intro (fun p hp => hok p (q2 p hp)) q5))
  have HHD := hid hhd
  have hgoal : commonP ms (sortL (leadS ms (heads ls))) = leadersL ms (heads ls) := by
    unfold commonP leadersL
    refine List.filter_congr fun x _ => ?_
    rw [decide_eq_decide]; exact mem_sortL
  have HGOAL := hid hgoal
  have hsl : (sortL (leadS ms (heads ls))).length ≤ 1000 := by rw [sortL_length]; exact q5
  have HSL := hid hsl
  have HFULL := hid hfull
  clear hM hN hfull hhd hsub hnd hok q1 q2 q3 q4 q5 hgoal hsl
  go_enter Tryz.func193, Tryz.ntmps193
  go_wp2_with (go_at_call 142; refine (new_any none 0 [] _ (by simp) (.inl rfl)).mono ?_; rintro e w1 ⟨s, r, rfl, hs, hr, hS1, hb1⟩)
  go_loopw [13] (fun i wr => ∃ (k : Nat) (L : List (Pid × Unit)), k ≤ ls.length ∧ i = .int .i64 k ∧ SetIs wr s r L ∧ Hid (keys L = heads (ls.take k)) ∧ Below w.heap.size w wr) (fun i _ => ls.length - (intOf i).toNat)
  case atStart => exact ⟨0, _, Nat.zero_le _, rfl, hS1, rfl, hb1⟩
  case round =>
    obtain ⟨k, L, hk, rfl, hS, hK, hb⟩ := hrel
    by_cases hlt : k < ls.length
    · obtain ⟨bb, off, ai, ci, l, rfl, hx, d1, d2⟩ := hl.at hb rfl hlt
      have hne : l ≠ [] := by rw [hx]; exact HFULL.out _ (List.getElem_mem hlt)
      cases l with
      | nil => exact absurd rfl hne
      | cons p r' =>
      obtain ⟨x, y⟩ := p
      obtain ⟨b2, o2, rfl, p1, p2⟩ := d2.first
      obtain ⟨n, hn⟩ : ∃ n, ((x, y) :: r' : List Pid).length = n := ⟨_, rfl⟩
      rw [hn] at d1
      have t1 : decide (0 < n) = true := decide_eq_true (by rw [← hn]; simp)
      have t2 : decide ((0 : Int) < (n : Int)) = true := decide_eq_true (by rw [← hn]; simp)
      have t3 : 0 < n := by rw [← hn]; simp
      have hsucc := heads_take_succ hlt hx
      have hnot : (x, y) ∉ keys L := by
        rw [hK.out]
        intro hm
        have hnd : (heads (ls.take (k + 1))).Nodup := by
          rw [heads_fm]
          have := HHD.out
          rw [heads_fm] at this
          exact this.sublist ((List.take_sublist _ _).filterMap _)
        rw [hsucc, List.nodup_append] at hnd
        exact hnd.2.2 _ hm _ (by simp) rfl
      have HK1 : Hid (keys (add1 (x, y) L) = heads (ls.take (k + 1))) := hid (by rw [keys_add1, if_neg hnot, hK.out, hsucc])
      clear hx hne hn hsucc hnot d2
      go_wp2_with (go_at_call 258; (with_reducible refine (add_any _ _ _ _ _ _ hS).mono ?_); rintro e w2 ⟨rfl, hS2, hm2⟩)
      go_roundw
      case rel => exact ⟨k + 1, _, by omega, by go_num, hS2, HK1, hb.trans (hm2.below hb.size (fun j e => by rw [e]; exact hr))⟩
      case measure => simp [intOf]; omega
    · have hK2 := hK.out
      rw [List.take_of_length_le (by omega)] at hK2
      have HK := hid hK2
      have HB := hid hb
      have HS := hid hS
      clear hK hK2 hb hS
      go_wp2
      go_loopw [25] (fun i wr => ∃ (k : Nat) (L : List (Pid × Unit)), k ≤ ms.length ∧ i = .int .i64 k ∧ SetIs wr s r L ∧ Hid (leadS ms (heads ls) = leadS (ms.drop k) (keys L)) ∧ Below w.heap.size w wr) (fun i _ => ms.length - (intOf i).toNat)
      case atStart => exact ⟨0, L, Nat.zero_le _, rfl, HS.out, hid (by rw [HK.out]; rfl), HB.out⟩
      case round =>
        obtain ⟨k, L', hk, rfl, hS, hK, hb⟩ := hrel
        have hlen : (keys L').length = L'.length := by simp [keys]
        by_cases hlt : k < ms.length
        · obtain ⟨bb, off, x, y, rfl, hx, d1, d2⟩ := hm.at hb rfl hlt
          have hd := leadS_drop (S := keys L') hlt hx
          rename World => wz
          have hB1 : Below w.heap.size w (wz.alloc (.cells #[.int .u16 x, .int .u32 y] 46)) := hb.alloc hb.size _
          have hS1' := hS.alloc (.cells #[.int .u16 x, .int .u32 y] 46)
          by_cases h3 : 3 ≤ L'.length
          · have u1 : decide ((L'.length : Int) ≥ 3) = true := decide_eq_true (by omega)
            have u2 : decide ((3 : Int) ≤ (L'.length : Int)) = true := decide_eq_true (by omega)
            have u3 : decide (3 ≤ L'.length) = true := decide_eq_true h3
            have hfin : keys L' = leadS ms (heads ls) := by rw [hK.out, leadS_full _ (by omega)]
            have C1 := hid (leaders_end (w := w) (cm := 0) (am := none) (M := 0) hS1' hfin QQ.out.1 QQ.out.2.1 QQ.out.2.2)
            have HM1 := hid (hm.ext hB1)
            have HB1 := hid hB1
            clear hx hd hK hfin hlen h3 hS hb hB1 hm
            go_wp2_with (first
              | (go_at_call 259; (with_reducible refine (len_any _ _ _ _ hS1').mono ?_); rintro e w2 ⟨rfl, rfl⟩)
              | (go_at_call 260; (with_reducible refine C1.out.mono ?_); rintro e w3 ⟨v3, rfl, hown3, hb3⟩; obtain ⟨a3, c3, rfl, hr3, -⟩ := hown3.row)
              | (go_at_call 251; refine (common_any _ _ ms _ _ _ _ (by omega) (by have := HSL.out; omega) (HM1.out.ext hb3) hr3).mono ?_; rintro e w4 ⟨v4, rfl, hown4, hb4⟩))
            go_ret
            have hB3 := HB1.out.trans (hb3.mono HB1.out.size)
            exact ⟨v4, rfl, by rw [HGOAL.out] at hown4; exact hown4.mono2 hB3.size, hB3.trans (hb4.mono hB3.size)⟩
          · have u1 : decide ((L'.length : Int) ≥ 3) = false := decide_eq_false (by omega)
            have u2 : decide ((3 : Int) ≤ (L'.length : Int)) = false := decide_eq_false (by omega)
            have u3 : decide (3 ≤ L'.length) = false := decide_eq_false h3
            have HK2 : Hid (leadS ms (heads ls) = leadS (ms.drop (k + 1)) (keys (add1 (x, y) L'))) := hid (by
              rw [hK.out, hd]
              unfold leadStep
              rw [if_neg (by omega), keys_add1])
            have HB1 := hid hB1
            clear hx hd hK hlen h3 hS hb hB1 hm
            go_wp2_with (first
              | (go_at_call 259; (with_reducible refine (len_any _ _ _ _ hS1').mono ?_); rintro e w2 ⟨rfl, rfl⟩)
              | (go_at_call 258; (with_reducible refine (add_any _ _ _ _ _ _ hS1').mono ?_); rintro e w3 ⟨rfl, hS3, hm3⟩))
            go_roundw
            case rel => exact ⟨k + 1, _, by omega, by go_num, hS3, HK2, HB1.out.trans (hm3.below HB1.out.size (fun j e => by rw [e]; exact hr))⟩
            case measure => simp [intOf]; omega
        · have hK2 := hK.out
          rw [List.drop_eq_nil_of_le (by omega)] at hK2
          have hfin : keys L' = leadS ms (heads ls) := hK2.symm
          have C1 := hid (leaders_end (w := w) (cm := 0) (am := none) (M := 0) hS hfin QQ.out.1 QQ.out.2.1 QQ.out.2.2)
          rename World => wz
          have HM1 := hid (hm.ext hb)
          have HB1 := hid hb
          clear hK hK2 hfin hS hb hm
          go_wp2_with (first
            | (go_at_call 260; (with_reducible refine C1.out.mono ?_); rintro e w3 ⟨v3, rfl, hown3, hb3⟩; obtain ⟨a3, c3, rfl, hr3, -⟩ := hown3.row)
            | (go_at_call 251; refine (common_any _ _ ms _ _ _ _ (by omega) (by have := HSL.out; omega) (HM1.out.ext hb3) hr3).mono ?_; rintro e w4 ⟨v4, rfl, hown4, hb4⟩))
          go_ret
          have hB3 := HB1.out.trans (hb3.mono HB1.out.size)
          exact ⟨v4, rfl, by rw [HGOAL.out] at hown4; exact hown4.mono2 hB3.size, hB3.trans (hb4.mono hB3.size)⟩
end Go.Proofs.YtehagnbphamjhaaGreatDoor


import Derived.Test.YtjjahefedpfnaaaEA
namespace Go.Proofs.Ytjjahefedpfnaaa
open Go.RowKit
theorem mask_is {V : View} {am al ad : Option Addr} {cm cl cd : Nat} {a : Option Addr} {c n : Nat} {xs : List Pid} {w : World} {m1 m2 : Nat} (h : Hid (maskL V.ms (0, 0) xs = (m1, m2))) (hn : Hid (xs.length = n)) (hl : n ≤ 70368744177664) (hV : ViewR w am al ad V) (hrow : PidRow w a xs) :
    Calls Try.prog 90 #[viewV V am al ad cm cl cd, .slice a n c] w fun e w' => e = .returned (.agg #[.int .u64 m1, .int .u64 m2]) ∧ Below w.heap.size w w' := by
  have := mask_any V am al ad cm cl cd a c xs w hV (by rw [hn.out]; exact hl) hrow
  rw [h.out, hn.out] at this; exact this
theorem or_is {a b c d m n : Nat} {w : World} (h : Hid (orM (a, b) (c, d) = (m, n))) (hM : mok (a, b)) (hN : mok (c, d)) :
    Calls Try.prog 91 #[.agg #[.int .u64 a, .int .u64 b], .agg #[.int .u64 c, .int .u64 d]] w fun e w' => e = .returned (.agg #[.int .u64 m, .int .u64 n]) ∧ Below w.heap.size w w' := by
  have := or_any a b c d w hM hN
  have e := h.out
  unfold orM at e
  cases e
  exact this
theorem list_own {s r : Nat} {L : List (Pid × Unit)} {w : World} {X : List Pid} (hS : SetIs w s r L) (hnd : (keys L).Nodup) (hok : ∀ p ∈ keys L, ok p) (hn : L.length ≤ 549755813888) (hX : Hid (sortL (keys L) = X)) :
   Calls Try.prog 43 #[.pointer (some ⟨s, 0, none⟩)] w fun e w' => ∃ v, e = .returned v ∧ OwnP w' w.heap.size v X ∧ Below w.heap.size w w' := by
  have := list_any s r L w hS hnd hok hn
  rw [hX.out] at this; exact this
def newF (V : View) (S : Pid → Bool) (l : List Pid) : List Pid := sortL (keys (unionL [] (nextF V S l)))
theorem newF_like {V : View} {S : Pid → Bool} {l : List Pid} : Like (newF V S l) (nextF V S l) := fun q => by
  unfold newF
  rw [mem_sortL, mem_keys_union]; simp [keys]
theorem nextF_sub {V : View} {S : Pid → Bool} {l : List Pid} : ∀ q ∈ nextF V S l, q ∈ V.ms := fun q hq => by
  obtain ⟨p, _, h⟩ := List.mem_flatMap.1 hq
  exact others_sub q h
theorem newF_sub {V : View} {S : Pid → Bool} {l : List Pid} : ∀ q ∈ newF V S l, q ∈ V.ms := fun q hq => nextF_sub q ((newF_like q).1 hq)
theorem flatMap_len {f : Pid → List Pid} {n : Nat} (h : ∀ p, (f p).length ≤ n) : ∀ (l : List Pid), (l.flatMap f).length ≤ l.length * n
  | [] => by simp
  | p :: l => by
    have := flatMap_len h l
    have := h p
    rw [List.flatMap_cons, List.length_append, List.length_cons, Nat.add_mul]; omega
theorem nextF_len {V : View} {S : Pid → Bool} {l : List Pid} (h : Small V) : (nextF V S l).length ≤ l.length * 64 := flatMap_len (fun _ => downP_len h) l
theorem newF_keys {V : View} {S : Pid → Bool} {l : List Pid} (h : Small V) : (unionL [] (nextF V S l)).length ≤ 64 := by
  have h1 := nodup_len (union_nil_nodup (nextF V S l)) (m := V.ms) (fun q hq => nextF_sub (S := S) (l := l) q (by rw [mem_keys_union] at hq; simpa [keys] using hq))
  have := h.ms
  simp only [keys, List.length_map] at h1; omega
theorem newF_len {V : View} {S : Pid → Bool} {l : List Pid} (h : Small V) : (newF V S l).length ≤ 64 := by
  unfold newF; rw [sortL_length]; simpa [keys] using newF_keys h
theorem newF_ok {V : View} {S : Pid → Bool} {l : List Pid} (h : Small V) : ∀ q ∈ keys (unionL [] (nextF V S l)), ok q := fun q hq =>
  h.wf.ms q (nextF_sub (S := S) (l := l) q (by rw [mem_keys_union] at hq; simpa [keys] using hq))
theorem reachM_in {V : View} {S : Pid → Bool} {p : Pid} {k : Int} (h : p ∈ V.ms) : reachM V S p k = maskL V.ms (0, 0) (allS V S (stepsN k) [p]) := by unfold reachM; rw [if_pos h]
theorem reachM_out {V : View} {S : Pid → Bool} {p : Pid} {k : Int} (h : p ∉ V.ms) : reachM V S p k = (0, 0) := by unfold reachM; rw [if_neg h]
theorem maskL_pair {ms xs : List Pid} {a b : Nat} (h : maskL ms (0, 0) xs = (a, b)) : mok (a, b) := by rw [← h]; exact maskL_ok mok0
theorem mask_in {ms got : List Pid} {p : Pid} {a b : Nat} (hp : p ∈ ms) (hg : p ∈ got) (hl : ms.length ≤ 128) (h : maskL ms (0, 0) got = (a, b)) : (a, b) ≠ (0, 0) := fun e => by
  have h1 := mask_some hp hl
  have e2 : maskL ms (0, 0) got = orM (maskL ms (0, 0) [p]) (maskL ms (0, 0) got) := by
    rw [← maskL_app]
    exact maskL_same fun q _ => ⟨fun h => List.mem_append.2 (.inr h), fun h => (List.mem_append.1 h).elim (fun h => by rw [List.mem_singleton.1 h]; exact hg) id⟩
  rw [h, e] at e2
  obtain ⟨⟨c, d⟩, hcd⟩ : ∃ q, maskL ms (0, 0) [p] = q := ⟨_, rfl⟩
  rw [hcd] at e2 h1
  unfold orM at e2
  simp only [Nat.or_zero, Prod.mk.injEq] at e2
  exact h1 (by rw [← e2.1, ← e2.2])
end Go.Proofs.Ytjjahefedpfnaaa
namespace Go.Proofs.Ytjjahefedpfnaaa
open Go.RowKit
theorem take_snocP' {l : List Pid} {k : Nat} (h : k < l.length) {p : Pid} (hp : p = l[k]) : l.take (k + 1) = l.take k ++ [p] := by
  rw [List.take_succ_eq_append_getElem h, hp]
theorem ViewR.alloc {w : World} {am al ad : Option Addr} {V : View} (h : ViewR w am al ad V) (o : Obj) : ViewR (w.alloc o) am al ad V := h.ext ((Below.refl _ _).alloc (Nat.le_refl _) _)
theorem wpList_appendN' {w : World} {ops : Array Oper} {rest : List Oper} {o : Oper} {a : Go.Act} {Q : Exit → Go.Act → World → Prop} {s x : Operand} {base : Nat} {v : Value} {xs ys : List Pid} (hown : OwnP w base v xs) {ad : Option Addr} {c n : Nat} (hy : PidRow w ad ys) (hn : Hid (ys.length = n))
    (hlen : xs.length + n ≤ 1099511627776) (hbase : base ≤ w.heap.size)
    (hg : o.guard = none) (ho : o.op = .call { callee := .builtin .append, args := #[s, x], argTypes := #[33, 33] }) (hs : a.eval s = v) (hx : a.eval x = .slice ad n c)
    (h : ∀ v' w', OwnP w' base v' (xs ++ ys) → w.grownBy w' v.ownBlock → wpList Try.prog ops Q rest (a.put o.dst v') w') : wpList Try.prog ops Q (o :: rest) a w := by
  have hn := hn.out; subst hn
  exact wpList_appendP hown hy hlen hbase hg ho hs hx (fun v' w' h1 h2 _ => h v' w' h1 h2)
set_option maxRecDepth 100000 in
set_option maxHeartbeats 4000000 in
theorem reach_any (r : Nat → Int) (V : View) (am al ad : Option Addr) (cm cl cd : Nat) (x y : Int) (k : Int) (w : World) (hV : ViewR w am al ad V) (hs : Small V) (hk : -9223372036854775808 ≤ k ∧ k ≤ 9223372036854775807) (m1 m2 : Nat) (hM : Hid (reachM V (hasRu r) (x, y) k = (m1, m2))) :
    Calls Try.prog 64 #[viewV V am al ad cm cl cd, .agg (RL r).toArray, .agg #[.int .u16 x, .int .u32 y], .int .i64 k] w fun e w' => e = .returned (.agg #[.int .u64 m1, .int .u64 m2]) ∧ Below w.heap.size w w' := by
  have hf := hs.fine
  have hB3 : Below w.heap.size w ((((w.alloc (.cells (vcells V am al ad cm cl cd) 68)).alloc (.cells (RL r).toArray 70)).alloc (.cells #[.int .u16 x, .int .u32 y] 32)).alloc (.cells #[.int .u64 0, .int .u64 0] 83)) := ((((Below.refl _ _).alloc (Nat.le_refl _) _).alloc (by simp) _).alloc (by simp; omega) _).alloc (by simp; omega) _
  have F3 := (Frm.made w V am al ad cm cl cd r x y).ext ((Below.refl _ _).alloc (Nat.le_refl _) (.cells #[.int .u64 0, .int .u64 0] 83))
  have hbx := Box2.made (((w.alloc (.cells (vcells V am al ad cm cl cd) 68)).alloc (.cells (RL r).toArray 70)).alloc (.cells #[.int .u16 x, .int .u32 y] 32)) (v0 := .int .u64 0) (v1 := .int .u64 0) 83
  simp only [World.size_alloc] at hbx
  have hV3 := hV.ext hB3
  obtain ⟨w3, hw3⟩ : ∃ w3, ((((w.alloc (.cells (vcells V am al ad cm cl cd) 68)).alloc (.cells (RL r).toArray 70)).alloc (.cells #[.int .u16 x, .int .u32 y] 32)).alloc (.cells #[.int .u64 0, .int .u64 0] 83)) = w3 := ⟨_, rfl⟩
  rw [hw3] at hB3 F3 hV3 hbx
  obtain ⟨K, hK⟩ : ∃ K, min k 4 = K := ⟨_, rfl⟩
  obtain ⟨n, hn⟩ : ∃ n, stepsN k = n := ⟨_, rfl⟩
  have hKn : K ≤ 4 ∧ K.toNat = n := by unfold stepsN at hn; omega
  have hn4 : n ≤ 4 := by omega
  have hK4 := hKn.1
  have HKn := hid hKn.2
  have HMIN : Hid (min k 4 = K) := hid hK
  clear hKn
  obtain ⟨⟨a0, b0⟩, hab0⟩ : ∃ q, maskL V.ms (0, 0) [(x, y)] = q := ⟨_, rfl⟩
  have HAB0 := hid hab0
  have HF : Hid (∀ W, Below w3.heap.size w3 W → Frm W w.heap.size V am al ad cm cl cd r x y) := hid fun W h => F3.ext h
  have HVV : Hid (∀ W, Below w3.heap.size w3 W → ViewR W am al ad V) := hid fun W h => hV3.ext h
  have HBX : Hid (∀ W, Below w3.heap.size w3 W → Box2 W (w.heap.size + 1 + 1 + 1) (.int .u64 0) (.int .u64 0)) := hid fun W h => hbx.ext h
  have HB3 := hid hB3
  have hb34 : Below w3.heap.size w3 (w3.alloc (.cells #[.int .u16 x, .int .u32 y] 32)) := (Below.refl _ _).alloc (Nat.le_refl _) _
  have hone : PidRow (w3.alloc (.cells #[.int .u16 x, .int .u32 y] 32)) (some ⟨w3.heap.size, 0, none⟩) [(x, y)] := PidRow.one _ x y
  have hV4 := HVV.out _ hb34
  obtain ⟨a20, a21, a22, a23⟩ := F3.vb
  have c20 := F3.c0
  have c21 := F3.c1
  have hms := hs.ms
  by_cases hmem : (x, y) ∈ V.ms
  · have HM2 : Hid (maskL V.ms (0, 0) (allS V (hasRu r) n [(x, y)]) = (m1, m2)) := hid (by rw [← hM.out, reachM_in hmem, hn])
    have HMEM := hid hmem
    clear hmem hn hK
    obtain ⟨T, hT⟩ : ∃ T, allS V (hasRu r) n [(x, y)] = T := ⟨_, rfl⟩
    have HS0 : Hid (Still V (hasRu r) T n [(x, y)] [(x, y)]) := hid (by rw [← hT]; exact still_begin)
    rw [hT] at HM2
    clear hT hab0
    have CM : Hid (∀ cm cl cd, Calls Try.prog 90 #[viewV V am al ad cm cl cd, .slice (some ⟨w3.heap.size, 0, none⟩) 1 1] (w3.alloc (.cells #[.int .u16 x, .int .u32 y] 32)) fun e w' => e = .returned (.agg #[.int .u64 a0, .int .u64 b0]) ∧ Below (w3.alloc (.cells #[.int .u16 x, .int .u32 y] 32)).heap.size (w3.alloc (.cells #[.int .u16 x, .int .u32 y] 32)) w') := hid fun cm cl cd => mask_is (n := 1) HAB0 (hid rfl) (by decide) hV4 hone
    go_enter Try.func64, Try.ntmps64
    go_wp2_with ((go_at_call 90; refine (CM.out cm cl cd).mono ?_; rintro e w4 ⟨rfl, hb4⟩; have z0 := cell_to c20 (hb34.trans (hb4.mono hb34.size)); have z1 := cell_to c21 (hb34.trans (hb4.mono hb34.size)); have hq4 : Below w4.heap.size w4 (w4.alloc (.cells #[.int .u64 a0, .int .u64 b0] 83)) := (Below.refl _ _).alloc (Nat.le_refl _) _; have z2 := cell_to z0 hq4; have z3 := cell_to z1 hq4))
    have hb45 : Below w4.heap.size w4 (w4.alloc (.cells #[.int .u64 a0, .int .u64 b0] 83)) := (Below.refl _ _).alloc (Nat.le_refl _) _
    have hb56 : Below w4.heap.size w4 ((w4.alloc (.cells #[.int .u64 a0, .int .u64 b0] 83)).alloc (.cells #[.int .u16 x, .int .u32 y] 32)) := hb45.alloc (by simp) _
    have hb05 := (hb34.trans (hb4.mono hb34.size)).trans (hb56.mono (hb34.trans (hb4.mono hb34.size)).size)
    have hbm := (Box2.made w4 (v0 := .int .u64 a0) (v1 := .int .u64 b0) 83).ext ((Below.refl _ _).alloc (Nat.le_refl _) (.cells #[.int .u16 x, .int .u32 y] 32))
    have hown5 : OwnP ((w4.alloc (.cells #[.int .u64 a0, .int .u64 b0] 83)).alloc (.cells #[.int .u16 x, .int .u32 y] 32)) (w4.heap.size + 1) (.slice (some ⟨w4.heap.size + 1, 0, none⟩) 1 1) [(x, y)] := by
      have := OwnP.made1 (w4.alloc (.cells #[.int .u64 a0, .int .u64 b0] 83)) x y (base := w4.heap.size + 1) (by simp)
      simpa using this
    have hg9 : w3.heap.size < w4.heap.size := by have := hb4.size; simp at this; omega
    have hg5 : w4.heap.size + 1 < ((w4.alloc (.cells #[.int .u64 a0, .int .u64 b0] 83)).alloc (.cells #[.int .u16 x, .int .u32 y] 32)).heap.size := by simp
    clear a20 a21 a22 a23 c20 c21 z0 z1 z2 z3 hq4 hb4 hb45 hb56 hb34 hone hV4 hw3
    generalize ((w4.alloc (.cells #[.int .u64 a0, .int .u64 b0] 83)).alloc (.cells #[.int .u16 x, .int .u32 y] 32)) = w5 at hb05 hbm hown5 hg5 ⊢
    generalize w4.heap.size = g9 at hbm hown5 hg9 hg5 ⊢
    go_loopw [10, 11] (fun v i wr => ∃ (j : Nat) (got front : List Pid) (a b : Nat), j ≤ n ∧ i = .int .i64 j ∧ Hid (Still V (hasRu r) T (n - j) got front) ∧ Hid (maskL V.ms (0, 0) got = (a, b)) ∧ Hid ((x, y) ∈ got) ∧ Hid (∀ q ∈ front, q ∈ V.ms) ∧ Hid (front.length ≤ 64) ∧ OwnP wr (g9 + 1) v front ∧ Box2 wr g9 (.int .u64 a) (.int .u64 b) ∧ Below g9 w5 wr) (fun _ i _ => n - (intOf i).toNat)
    case atStart => exact ⟨0, [(x, y)], [(x, y)], a0, b0, Nat.zero_le _, rfl, HS0, HAB0, hid (by simp), hid (by intro q hq; rw [List.mem_singleton.1 hq]; exact HMEM.out), hid (by simp), hown5, hbm, Below.refl _ _⟩
    case round =>
      obtain ⟨j, got, front, a, b, hj, rfl, hST, hAB, hin, hfm, hfl, hown, hbo, hb⟩ := hrel
      have hbw := hb05.trans (hb.mono (by omega))
      have FR := HF.out _ hbw
      have VR := HVV.out _ hbw
      have hne := fun W => neq_mask (a : Int) (b : Int) 0 0 W
      obtain ⟨y0, y1, y2, y3⟩ := id hbo
      obtain ⟨av, cv, rfl, hrow, hbase⟩ := hown.row
      obtain ⟨N, hN⟩ : ∃ N, front.length = N := ⟨_, rfl⟩
      rw [hN] at hown hfl ⊢
      have HN := hid hN
      clear hN
      by_cases hlt : j < n
      · have hlt' : decide ((j : Int) < K) = true := by have := HKn.out; simp; omega
        have hnz : decide (((a : Int), (b : Int)) = (0, 0)) = false := by
          have := mask_in HMEM.out hin.out (by omega) hAB.out
          simp only [ne_eq, Prod.mk.injEq] at this
          simp only [decide_eq_false_iff_not, Prod.mk.injEq]; omega
        rw [hnz] at hne
        simp only [Bool.not_false] at hne
        clear hnz
        have hmin := HMIN.out
        go_wp2
        have hsr := hb.size
        obtain ⟨wo, rfl⟩ : ∃ wo : World, wo = wr := ⟨_, rfl⟩
        have HROW := hid hrow
        have HOWN := hid hown
        have HBO := hid hbo
        have HBASE := hid hbase
        clear hrow hown hbo hbase y0 y1 y2 y3
        go_loopw [12, 34] (fun s i wx => ∃ q : Nat, q ≤ N ∧ i = .int .i64 q ∧ OwnP wx wo.heap.size s ((front.take q).flatMap (downP V (hasRu r))) ∧ Below wo.heap.size wo wx) (fun _ i _ => N - (intOf i).toNat)
        case atStart => exact ⟨0, Nat.zero_le _, rfl, by simpa using OwnP.nil _ _, Below.refl _ _⟩
        case round =>
          obtain ⟨q, hq, rfl, hownx, hbx⟩ := hrel
          have hsx := hbx.size
          have hbwx := hbw.trans (hbx.mono hbw.size)
          have FX := HF.out _ hbwx
          have VX := HVV.out _ hbwx
          have hfl64 := hfl.out
          have hfln : (((front.take q).flatMap (downP V (hasRu r)))).length ≤ q * 64 := Nat.le_trans (flatMap_len (fun _ => downP_len hs) _) (Nat.mul_le_mul_right 64 (by simp; omega))
          by_cases hqlt : q < N
          · have hq' : decide (q < N) = true := by simpa using hqlt
            have hqf : q < front.length := by rw [HN.out]; exact hqlt
            obtain ⟨pb, po, u, v, hab, hpx, d1, d2⟩ := (HROW.out.ext hbx).at (Below.refl _ _) rfl hqf
            subst hab
            obtain ⟨D, hD⟩ : ∃ D, downP V (hasRu r) (u, v) = D := ⟨_, rfl⟩
            obtain ⟨ND, hND⟩ : ∃ ND, D.length = ND := ⟨_, rfl⟩
            have hDl : ND ≤ 64 := by rw [← hND, ← hD]; exact downP_len hs
            have HTS : Hid ((front.take (q + 1)).flatMap (downP V (hasRu r)) = (front.take q).flatMap (downP V (hasRu r)) ++ D) := hid (by rw [take_snocP' hqf hpx, List.flatMap_append]; simp [hD])
            have HD := hid hD
            have HND := hid hND
            obtain ⟨B, hB⟩ : ∃ B, (front.take q).flatMap (downP V (hasRu r)) = B := ⟨_, rfl⟩
            rw [hB] at hownx HTS hfln
            have hBl : B.length ≤ 10000 := by omega
            have hqa : Below wr.heap.size wr (wr.alloc (.cells #[.int .u16 u, .int .u32 v] 32)) := (Below.refl _ _).alloc (Nat.le_refl _) _
            obtain ⟨s0, s1, s2, s3⟩ := (FX.ext hqa).vb
            have hRa := (FX.ext hqa).rb
            have hpair : PtrTo (wr.alloc (.cells #[.int .u16 u, .int .u32 v] 32)) wr.heap.size (.int .u16 u) (.int .u32 v) := ⟨by simp, by simp⟩
            clear hD hND hpx hB
            go_wp2_with (first
              | (refine wpList_loadRw hRa (by rfl) rfl rfl ?_)
              | (go_at_call 49; refine (down_is HD HND (VX.alloc _) hs).mono ?_; rintro e9 w9 ⟨a9, c9, rfl, hrow9, hb9⟩)
              | (at_builtin; refine wpList_appendN' ((hownx.alloc _).ext hb9) hrow9 HND ?cb ?cz rfl rfl rfl rfl ?_; rotate_right; intro v4 w4 hown4 hg4))
            case cb => omega
            case cz => have := hb9.size; simp at this; omega
            have hz9 := hb9.size
            simp at hz9
            have hB4 : Below wo.heap.size wo w4 := ((hbx.alloc hsx _).trans (hb9.mono (by simp; omega))).grown hg4 (by omega) (fun g hg => (World.ownsRow.lt hownx g hg).1)
            go_roundw
            case rel => exact ⟨q + 1, by omega, by go_num, by rw [HTS.out]; exact hown4, hB4⟩
            case measure => simp [intOf]; omega
          · have hq' : decide (q < N) = false := by simpa using hqlt
            have hft : front.take q = front := List.take_of_length_le (by rw [HN.out]; omega)
            rw [hft] at hownx hfln
            have HNF : Hid (front.flatMap (downP V (hasRu r)) = nextF V (hasRu r) front) := hid rfl
            rw [HNF.out] at hownx hfln
            obtain ⟨NX, hNX⟩ : ∃ NX, nextF V (hasRu r) front = NX := ⟨_, rfl⟩
            obtain ⟨FX', hFX⟩ : ∃ X, newF V (hasRu r) front = X := ⟨_, rfl⟩
            have hst2 : Hid (Still V (hasRu r) T (n - (j + 1)) (got ++ FX') FX') := hid (by
              have h2 := hST.out
              rw [show n - j = (n - (j + 1)) + 1 by omega] at h2
              exact still_step h2 (by rw [← hFX]; exact newF_like))
            have hfm2 : Hid (∀ q ∈ FX', q ∈ V.ms) := hid (by rw [← hFX]; exact newF_sub)
            have hfl2 : FX'.length ≤ 64 := by rw [← hFX]; exact newF_len hs
            obtain ⟨⟨c, d⟩, hcd⟩ : ∃ p, maskL V.ms (0, 0) FX' = p := ⟨_, rfl⟩
            obtain ⟨⟨a', b'⟩, hor⟩ : ∃ p, orM (a, b) (c, d) = p := ⟨_, rfl⟩
            have hab2 : Hid (maskL V.ms (0, 0) (got ++ FX') = (a', b')) := hid (by rw [maskL_app, hAB.out, hcd, hor])
            have hkeys := newF_keys (S := hasRu r) (l := front) hs
            have hkok := newF_ok (S := hasRu r) (l := front) hs
            have hknd := union_nil_nodup (nextF V (hasRu r) front)
            have HFX : Hid (sortL (keys (unionL [] NX)) = FX') := hid (by rw [← hNX]; exact hFX)
            have hmM := maskL_pair hAB.out
            have hmN := maskL_pair hcd
            obtain ⟨NF, hNF⟩ : ∃ NF, FX'.length = NF := ⟨_, rfl⟩
            rw [hNX] at hownx hfln hkeys hkok hknd
            obtain ⟨ax, cx, rfl, hrowx, -⟩ := hownx.row
            obtain ⟨NN, hNN⟩ : ∃ NN, NX.length = NN := ⟨_, rfl⟩
            have hNl : NN ≤ 10000 := by rw [← hNN]; omega
            rw [hNN]
            have HNN := hid hNN
            have HNNe : Hid (NN = NX.length) := hid hNN.symm
            have HCD := hid hcd
            have HOR := hid hor
            have HNF2 := hid hNF
            have hNFl : NF ≤ 64 := by rw [← hNF]; exact hfl2
            have HKO := hid hkok
            clear hNX hFX hcd hor hNF hNN hft hkok HNF
            go_wp2_with (first
              | (go_at_call 34; refine (new_is HNNe (by omega) hrowx).mono ?_; rintro e9 w9 ⟨sb, sr, rfl, hs1, hs2, hS9, hb9⟩)
              | (go_at_call 43; refine (list_own hS9 hknd HKO.out (by omega) HFX).mono ?_; rintro e10 w10 ⟨v10, rfl, hown10, hb10⟩))
            obtain ⟨a10, c10, rfl, hrow10, -⟩ := hown10.row
            rw [HNF2.out] at hown10 ⊢
            have hB10 := hbx.trans ((hb9.trans (hb10.mono hb9.size)).mono hsx)
            have hs10 := hB10.size
            have hbw10 := hbw.trans (hB10.mono hbw.size)
            have HV10 := hid (HVV.out _ hbw10)
            have HF10 := hid (HF.out _ hbw10)
            have HBM := hid (HBO.out.ext hB10)
            have hHB : Hid (∀ W, Below w10.heap.size w10 W → Box2 W g9 (.int .u64 a) (.int .u64 b)) := hid fun W h => HBM.out.ext h
            have hHF : Hid (∀ W, Below w10.heap.size w10 W → ViewBox W w.heap.size V am al ad cm cl cd) := hid fun W h => (HF10.out.ext h).vb
            have C1 : Hid (∀ W, Below w10.heap.size w10 W → Calls Try.prog 90 #[.agg #[.int .u64 V.id, .slice am V.ms.length cm, .slice al V.ls.length cl, .slice ad V.ds.length cd], .slice a10 NF c10] W fun e w' => e = .returned (.agg #[.int .u64 c, .int .u64 d]) ∧ Below w10.heap.size w10 w') := hid fun W h => (mask_is HCD HNF2 (by omega) (HV10.out.ext h) (hrow10.ext h)).mono (by rintro e w' ⟨rfl, h2⟩; exact ⟨rfl, h.trans (h2.mono h.size)⟩)
            have C2 : Hid (∀ W, Below w10.heap.size w10 W → Calls Try.prog 91 #[.agg #[.int .u64 a, .int .u64 b], .agg #[.int .u64 c, .int .u64 d]] W fun e w' => e = .returned (.agg #[.int .u64 a', .int .u64 b']) ∧ Below w10.heap.size w10 w') := hid fun W h => (or_is HOR hmM hmN).mono (by rintro e w' ⟨rfl, h2⟩; exact ⟨rfl, h.trans (h2.mono h.size)⟩)
            have H0 : Below w10.heap.size w10 w10.drew := (Below.refl _ _).drew
            obtain ⟨y0, y1, y2, y3⟩ := hHB.out _ H0
            obtain ⟨v0, v1, v2, v3⟩ := hHF.out _ H0
            have HOWN10 := hid hown10
            have hgs : g9 + 1 ≤ w9.heap.size := by have := hb9.size; have := HBO.out.lt; omega
            clear hown10 hrow10 hb9 hb10 hS9 hrowx FX VX
            go_region_with (first
              | (go_at_call 90; (with_reducible refine (C1.out _ (by first | exact H0 | assumption)).mono ?_); rintro e w11 ⟨rfl, hb11⟩; obtain ⟨p0, p1, p2, p3⟩ := hHB.out _ hb11; obtain ⟨s0, s1, s2, s3⟩ := hHF.out _ hb11)
              | (go_at_call 91; (with_reducible refine (C2.out _ (by first | exact H0 | assumption)).mono ?_); rintro e w12 ⟨rfl, hb12⟩; obtain ⟨p0, p1, p2, p3⟩ := hHB.out _ hb12))
            all_goals (
              go_wp2
              go_roundw
              case rel => exact ⟨j + 1, got ++ FX', FX', a', b', by omega, by go_num, hst2, hab2, hid (List.mem_append.2 (.inl hin.out)), hfm2, hid (by rw [HNF2.out]; exact hNFl), OwnP.butT ((HOWN10.out.mono hgs).ext hb12) (but2 _ _ _ _) (fun e => by have := (World.ownsRow.lt (HOWN10.out.mono hgs) _ e.symm).1; omega), Box2.put (hHB.out _ hb12) _ _, below_put (hb.trans ((hB10.trans (hb12.mono hs10)).mono (by omega))) (Nat.le_refl _) _ _⟩
              case measure => simp [intOf]; omega)
      · have hlt' : decide ((j : Int) < K) = false := by have := HKn.out; simp; omega
        have HQ : Hid ((a, b) = (m1, m2)) := hid (by
          rw [← HM2.out, ← hAB.out]
          have := hST.out
          rw [show n - j = 0 by omega] at this
          exact (still_mask this).symm)
        obtain ⟨e1, e2⟩ := Prod.mk.inj HQ.out
        subst e1; subst e2
        have hput := (HBX.out _ hbw).put (.int .u64 a) (.int .u64 b)
        obtain ⟨z0, z1, z2, z3⟩ := hput
        obtain ⟨q0, q1, q2, q3⟩ := HBX.out _ hbw
        have z4 := World.cell?_setCell_same wr _ (.int .u64 a) q0
        have hmin := HMIN.out
        go_wp2
        exact bodyPost_ret (v := .agg #[.int .u64 a, .int .u64 b]) (by simp [results, Try.results64, go_sem, z0, z1, z4]) rfl ⟨rfl, below_put (HB3.out.trans (hbw.mono HB3.out.size)) (by omega) _ _⟩
  · have HP : Hid ((m1, m2) = (0, 0)) := hid (by rw [← hM.out, reachM_out hmem])
    obtain ⟨e1, e2⟩ := Prod.mk.inj HP.out
    subst e1; subst e2
    have hz0 : maskL V.ms (0, 0) [(x, y)] = (0, 0) := mask_none hmem
    rw [hz0] at hab0
    obtain ⟨e1, e2⟩ := Prod.mk.inj hab0
    subst e1; subst e2
    have CM : Hid (∀ cm cl cd, Calls Try.prog 90 #[viewV V am al ad cm cl cd, .slice (some ⟨w3.heap.size, 0, none⟩) 1 1] (w3.alloc (.cells #[.int .u16 x, .int .u32 y] 32)) fun e w' => e = .returned (.agg #[.int .u64 ((0 : Nat) : Int), .int .u64 ((0 : Nat) : Int)]) ∧ Below (w3.alloc (.cells #[.int .u16 x, .int .u32 y] 32)).heap.size (w3.alloc (.cells #[.int .u16 x, .int .u32 y] 32)) w') := hid fun cm cl cd => mask_is (n := 1) HAB0 (hid rfl) (by decide) hV4 hone
    simp only [Int.natCast_zero] at CM ⊢
    have hne := fun W => neq_mask (0 : Int) (0 : Int) 0 0 W
    simp only [decide_true, Bool.not_true] at hne
    clear hab0 hz0 hn
    go_enter Try.func64, Try.ntmps64
    go_wp2_with ((go_at_call 90; refine (CM.out cm cl cd).mono ?_; rintro e w4 ⟨rfl, hb4⟩; have z0 := cell_to c20 (hb34.trans (hb4.mono hb34.size)); have z1 := cell_to c21 (hb34.trans (hb4.mono hb34.size)); have hq4 : Below w4.heap.size w4 (w4.alloc (.cells #[.int .u64 0, .int .u64 0] 83)) := (Below.refl _ _).alloc (Nat.le_refl _) _; have z2 := cell_to z0 hq4; have z3 := cell_to z1 hq4))
    have hb56 : Below w4.heap.size w4 ((w4.alloc (.cells #[.int .u64 0, .int .u64 0] 83)).alloc (.cells #[.int .u16 x, .int .u32 y] 32)) := hq4.alloc (by simp) _
    have hb05 := (hb34.trans (hb4.mono hb34.size)).trans (hb56.mono (hb34.trans (hb4.mono hb34.size)).size)
    have hbm := (Box2.made w4 (v0 := .int .u64 0) (v1 := .int .u64 0) 83).ext ((Below.refl _ _).alloc (Nat.le_refl _) (.cells #[.int .u16 x, .int .u32 y] 32))
    clear a20 a21 a22 a23 c20 c21 z0 z1 z2 z3 hq4 hb4 hb56 hb34 hone hV4 hw3
    generalize ((w4.alloc (.cells #[.int .u64 0, .int .u64 0] 83)).alloc (.cells #[.int .u16 x, .int .u32 y] 32)) = w5 at hb05 hbm ⊢
    generalize w4.heap.size = g9 at hbm ⊢
    go_loopw [10, 11] (fun v i wr => i = .int .i64 0 ∧ Box2 wr g9 (.int .u64 0) (.int .u64 0) ∧ Below w3.heap.size w3 wr) (fun _ i _ => 0)
    case atStart => exact ⟨rfl, hbm, hb05⟩
    case round =>
      obtain ⟨rfl, hbo, hb⟩ := hrel
      obtain ⟨y0, y1, y2, y3⟩ := id hbo
      have hput := (HBX.out _ hb).put (.int .u64 0) (.int .u64 0)
      obtain ⟨z0, z1, z2, z3⟩ := hput
      obtain ⟨q0, q1, q2, q3⟩ := HBX.out _ hb
      have z4 := World.cell?_setCell_same wr _ (.int .u64 0) q0
      have hmin := HMIN.out
      by_cases hK0 : 0 < K
      · have hlt' : decide (0 < K) = true := by simpa using hK0
        go_wp2
        exact bodyPost_ret (v := .agg #[.int .u64 0, .int .u64 0]) (by simp [results, Try.results64, go_sem, z0, z1, z4]) rfl ⟨rfl, below_put (HB3.out.trans (hb.mono HB3.out.size)) (by omega) _ _⟩
      · have hlt' : decide (0 < K) = false := by simpa using hK0
        go_wp2
        exact bodyPost_ret (v := .agg #[.int .u64 0, .int .u64 0]) (by simp [results, Try.results64, go_sem, z0, z1, z4]) rfl ⟨rfl, below_put (HB3.out.trans (hb.mono HB3.out.size)) (by omega) _ _⟩
end Go.Proofs.Ytjjahefedpfnaaa
namespace Go.Proofs.Ytjjahefedpfnaaa
open Go.RowKit
theorem hasR_n {a : Option Addr} {c n : Nat} {xs : List Pid} {id inc : Int} {w : World} {bm : Bool} (h : Hid (decide ((id, inc) ∈ xs) = bm)) (hn : Hid (xs.length = n)) (hl : n ≤ 70368744177664) (hrow : PidRow w a xs) :
   Calls Try.prog 36 #[.slice a n c, .agg #[.int .u16 id, .int .u32 inc]] w fun e w' => e = .returned (.bool bm) ∧ Below w.heap.size w w' := by
  have := hasR_is (a := a) (c := c) (w := w) h (by rw [hn.out]; exact hl) hrow
  rw [hn.out] at this; exact this
theorem refMask_is {V : View} {am al ad : Option Addr} {cm cl cd : Nat} {a : Option Addr} {c n : Nat} {xs : List Pid} {w : World} {m1 m2 : Nat} (h : Hid (maskL V.ms (0, 0) xs = (m1, m2))) (hn : Hid (xs.length = n)) (hl : n ≤ 70368744177664) (hV : ViewR w am al ad V) (hrow : PidRow w a xs) :
    Calls Try.prog 66 #[viewV V am al ad cm cl cd, .slice a n c] w fun e w' => e = .returned (.agg #[.int .u64 m1, .int .u64 m2]) ∧ Below w.heap.size w w' := by
  have := refMask_any V am al ad cm cl cd a c xs w hV (by rw [hn.out]; exact hl) hrow
  rw [h.out, hn.out] at this; exact this
/-- what a round of the middle loop knows -/
structure Nxt (V : View) (next want : List Pid) : Prop where
  like : Like next want
  nd : next.Nodup
  sub : ∀ q ∈ next, q ∈ V.ms
theorem Nxt.nil {V : View} : Nxt V [] [] := ⟨fun q => Iff.rfl, List.nodup_nil, fun q h => by cases h⟩
theorem Nxt.len {V : View} {n w : List Pid} (h : Nxt V n w) (hs : Small V) : n.length ≤ 64 := by
  have := nodup_len h.nd h.sub
  have := hs.ms; omega
theorem Nxt.old {V : View} {n w : List Pid} {p : Pid} (h : Nxt V n w) (hp : p ∈ n) : Nxt V n (w ++ [p]) :=
  ⟨fun q => by rw [List.mem_append, List.mem_singleton, ← h.like q]; exact ⟨.inl, fun h => h.elim id (fun e => by rw [e]; exact hp)⟩, h.nd, h.sub⟩
theorem Nxt.new {V : View} {n w : List Pid} {p : Pid} (h : Nxt V n w) (hp : p ∉ n) (hm : p ∈ V.ms) : Nxt V (n ++ [p]) (w ++ [p]) :=
  ⟨fun q => by rw [List.mem_append, List.mem_append, h.like q], List.nodup_append.2 ⟨h.nd, by simp, fun a ha b hb => by rw [List.mem_singleton.1 hb]; intro e; exact hp (e ▸ ha)⟩, fun q hq => by
    rcases List.mem_append.1 hq with h1 | h1
    · exact h.sub q h1
    · rw [List.mem_singleton.1 h1]; exact hm⟩
theorem take_snocP {l : List Pid} {k : Nat} (h : k < l.length) {p : Pid} (hp : p = l[k]) : l.take (k + 1) = l.take k ++ [p] := by
  rw [List.take_succ_eq_append_getElem h, hp]
end Go.Proofs.Ytjjahefedpfnaaa

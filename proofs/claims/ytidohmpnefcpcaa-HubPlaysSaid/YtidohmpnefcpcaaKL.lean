/- Parts of the proof: KL. -/
import Derived.Lib.Bytes
import Derived.Test.YtidohmpnefcpcaaGHubPlays11
namespace Go.Proofs.Ytidohmpnefcpcaa
open Go.RowKit
/-! ### rows of packets, the same; a hub that is none -/
structure RowK (w : World) (k : Nat) (v : Value) (xs : List (List Value)) : Prop where
  sli : ∃ a c, v = .slice a xs.length c
  atk : ∀ i x, xs[i]? = some x → ∃ g c, v = .slice (some ⟨g, 0, none⟩) xs.length c ∧ g < w.heap.size ∧ ∀ j u, x[j]? = some u → w.cell? ⟨g, i * k + j, none⟩ = some u
theorem OwnK.rowK {w : World} {base k : Nat} {e : TypeId} {v : Value} {xs : List (List Value)} (h : OwnK w base e k v xs) : RowK w k v xs :=
  ⟨by obtain ⟨a, c, e, -⟩ := h.sli; exact ⟨a, c, e⟩, fun i x hi => by
    obtain ⟨g, c, e, -, h1, h2⟩ := h.at hi
    exact ⟨g, c, e, h1, h2⟩⟩
theorem RowK.mut {w w' : World} {G : Nat → Prop} {k : Nat} {v : Value} {xs : List (List Value)} (h : RowK w k v xs) (hm : Mut G w w') (hG : ∀ g, v.ownBlock = some g → ¬ G g) : RowK w' k v xs :=
  ⟨h.sli, fun i x hi => by
    obtain ⟨g, c, e, h1, h2⟩ := h.atk i x hi
    exact ⟨g, c, e, Nat.lt_of_lt_of_le h1 hm.size, fun j u hj => (hm.cell (by exact h1) (hG g (by rw [e]; rfl))).trans (h2 j u hj)⟩⟩
theorem RowK.ext {w w' : World} {k : Nat} {v : Value} {xs : List (List Value)} (h : RowK w k v xs) (hb : Below w.heap.size w w') : RowK w' k v xs :=
  h.mut (Mut.of_below (F := fun _ => False) hb) fun _ _ e => e
def numsK (bs : List Nat) : List Int := bs.map fun b : Nat => Int.ofNat b
theorem run_convK {a : Option Addr} {c n : Nat} {xs : List Nat} {w : World} (hn : xs.length = n) (hx : ByteRow w a xs) :
    (convert 32 9 (.slice a n c)).run Try.prog w = .ok (.string (strOfNums (numsK xs))) w := by
  have hs : Try.prog.underlying 32 = some (.slice 5) := by kernel_rfl
  have he : Try.prog.underlying 5 = some (.int .u8) := by kernel_rfl
  have hd : Try.prog.underlying 9 = some .string := by kernel_rfl
  subst hn
  rcases hx with rfl | ⟨b, off, rfl, hlt, hc⟩
  · rw [show strOfNums (numsK []) = ByteArray.empty from rfl, List.length_nil]
    rw [run_convert_bytes_string w 32 9 5 _ 0 c hs he hd]
    cases a <;> simp [Conv.bytesToString, loadCells]
    all_goals rfl
  · exact run_convert_bytes_arg (P := Try.prog) w 32 5 hs he b off xs.length c (numsK xs) (by simp [numsK]) (fun i hi => by rw [hc i hi]; simp [numsK, List.getD, List.getElem?_eq_getElem hi]) 9 hd
set_option maxRecDepth 100000 in
set_option maxHeartbeats 3200000 in
theorem samePk_true {w : World} {N N' : Nat → Prop} {v v' : Value} {xs xs' : List (List Value)} {pk : List PackD} (h1 : RowK w 7 v xs) (e1 : ElsAt w N xs (pk.map packC)) (h2 : RowK w 7 v' xs') (e2 : ElsAt w N' xs' (pk.map packC)) (hnl : pk.length ≤ 1000000) :
    Calls Try.prog 20 #[v, v'] w fun e w' => e = .returned (.bool true) ∧ Below w.heap.size w w' := by
  obtain ⟨a, c, rfl⟩ := h1.sli
  obtain ⟨a', c', rfl⟩ := h2.sli
  have hl1 := e1.1
  have hl2 := e2.1
  rw [List.length_map] at hl1 hl2
  obtain ⟨n, hn⟩ : ∃ n, pk.length = n := ⟨_, rfl⟩
  rw [hn] at hl1 hl2 hnl
  rw [hl1, hl2]
  rw [hl1] at h1
  rw [hl2] at h2
  have HN := hid hn
  have H1 := hid h1
  have H2 := hid h2
  have E1 := hid e1
  have E2 := hid e2
  have HL1 := hid hl1
  have HL2 := hid hl2
  clear h1 h2 e1 e2 hl1 hl2 hn
  go_enter Try.func20, Try.ntmps20
  go_wp2
  go_loopw [4, 5] (fun rs kv wr => rs = .bool false ∧ ∃ k : Nat, k ≤ n ∧ kv = .int .i64 k ∧ Below w.heap.size w wr) (fun _ kv _ => n - (intOf kv).toNat)
  case atStart => exact ⟨rfl, 0, Nat.zero_le _, rfl, Below.refl _ _⟩
  case round =>
    obtain ⟨rfl, k, hk, rfl, hb⟩ := hrel
    by_cases hkt : k < n
    · have hp : k < (pk.map packC).length := by rw [List.length_map, HN.out]; exact hkt
      have hp' : k < pk.length := by rw [HN.out]; exact hkt
      obtain ⟨u1, q1, i1⟩ := (E1.out.mut (Mut.of_below (F := fun _ => False) hb) (fun _ _ e => e.elim)).2 k hp
      obtain ⟨u2, q2, i2⟩ := (E2.out.mut (Mut.of_below (F := fun _ => False) hb) (fun _ _ e => e.elim)).2 k hp
      rw [List.getElem_map] at q1 i1 q2 i2
      obtain ⟨P0, hP0⟩ : ∃ P0, pk[k] = P0 := ⟨_, rfl⟩
      rw [hP0] at q1 i1 q2 i2
      obtain ⟨kd, ⟨f1, f2⟩, ⟨t1, t2⟩, sq, bs⟩ := P0
      have q1' : xs[k]? = some [.int .i64 kd, .int .u16 f1, .int .u32 f2, .int .u16 t1, .int .u32 t2, .int .u64 sq, u1] := q1
      have q2' : xs'[k]? = some [.int .i64 kd, .int .u16 f1, .int .u32 f2, .int .u16 t1, .int .u32 t2, .int .u64 sq, u2] := q2
      obtain ⟨ua, uc, rfl, b1, -, -⟩ := i1
      obtain ⟨ub, ud, rfl, b2, -, -⟩ := i2
      obtain ⟨m, hm⟩ : ∃ m, bs.length = m := ⟨_, rfl⟩
      have hm' : (packC ⟨kd, (f1, f2), (t1, t2), sq, bs⟩).2.length = m := hm
      rw [hm'] at q1' q2'
      obtain ⟨S, hS⟩ : ∃ S, strOfNums (numsK bs) = S := ⟨_, rfl⟩
      have v1 : ∀ U : ExtW wr, (convert 32 9 (.slice ua m uc)).run Try.prog U.W = .ok (.string S) U.W := fun U => by rw [← hS]; exact run_convK hm (b1.ext U.h)
      have v2 : ∀ U : ExtW wr, (convert 32 9 (.slice ub m ud)).run Try.prog U.W = .ok (.string S) U.W := fun U => by rw [← hS]; exact run_convK hm (b2.ext U.h)
      obtain ⟨g1, d1, ed1, l1, cd1⟩ := (H1.out.ext hb).atk k _ q1'
      obtain ⟨g2, d2, ed2, l2, cd2⟩ := (H2.out.ext hb).atk k _ q2'
      injection ed1 with ed1 ee1 ef1
      injection ed2 with ed2 ee2 ef2
      subst ed1
      subst ed2
      have r0 := cd1 0 _ rfl
      have r1 := cell_extK (cd1 1 _ rfl)
      have r2 := cell_extK (cd1 2 _ rfl)
      have r3 := cell_extK (cd1 3 _ rfl)
      have r4 := cell_extK (cd1 4 _ rfl)
      have r5 := cell_extK (cd1 5 _ rfl)
      have r6 := cell_extK (cd1 6 _ rfl)
      have s0 := cd2 0 _ rfl
      have s1 := cell_extK (cd2 1 _ rfl)
      have s2 := cell_extK (cd2 2 _ rfl)
      have s3 := cell_extK (cd2 3 _ rfl)
      have s4 := cell_extK (cd2 4 _ rfl)
      have s5 := cell_extK (cd2 5 _ rfl)
      have s6 := cell_extK (cd2 6 _ rfl)
      rw [Nat.add_zero] at r0 s0
      have r0' := cell_extK r0
      have s0' := cell_extK s0
      have hn1 : ∀ w, (binOp .neq 30 (.agg #[.int .u16 f1, .int .u32 f2]) (.agg #[.int .u16 f1, .int .u32 f2])).run Try.prog w = .ok (.bool false) w := fun w => by rw [neq_pid]; simp
      have hn2 : ∀ w, (binOp .neq 30 (.agg #[.int .u16 t1, .int .u32 t2]) (.agg #[.int .u16 t1, .int .u32 t2])).run Try.prog w = .ok (.bool false) w := fun w => by rw [neq_pid]; simp
      clear r0 s0 cd1 cd2 q1 q2 q1' q2' b1 b2 hm hm' hS hP0 ee1 ef1 ee2 ef2 l1 l2 hp hp'
      go_wp2_with fail
      refine wp_region_ext (w := wr) (Below.refl _ _) (by kernel_rfl) (by kernel_rfl) ?_
      simp only [List.append_eq, List.cons_append, List.nil_append]
      repeat (go_big_quiet_step (fail))
      refine wpQuiet_nil ?_
      rintro _ ⟨⟨w9, hb9⟩, rfl⟩
      have HB := hid (hb.trans (hb9.mono hb.size))
      clear hb9 hb r0' r1 r2 r3 r4 r5 r6 s0' s1 s2 s3 s4 s5 s6 v1 v2 hn1 hn2
      go_wp2_with fail
      refine ⟨⟨rfl, k + 1, by omega, by go_num, HB.out⟩, ?_⟩
      simp [intOf]; omega
    · go_wp2_with fail
      go_ret
      exact ⟨rfl, hb⟩
set_option maxRecDepth 100000 in
set_option maxHeartbeats 3200000 in
theorem sameGt_true {w : World} {N N' : Nat → Prop} {v v' : Value} {xs xs' : List (List Value)} {pk : List (Pid × List Nat)} (h1 : RowK w 3 v xs) (e1 : ElsAt w N xs (pk.map fun p => gotC p.1 p.2)) (h2 : RowK w 3 v' xs') (e2 : ElsAt w N' xs' (pk.map fun p => gotC p.1 p.2)) (hnl : pk.length ≤ 1000000) :
    Calls Try.prog 24 #[v, v'] w fun e w' => e = .returned (.bool true) ∧ Below w.heap.size w w' := by
  obtain ⟨a, c, rfl⟩ := h1.sli
  obtain ⟨a', c', rfl⟩ := h2.sli
  have hl1 := e1.1
  have hl2 := e2.1
  rw [List.length_map] at hl1 hl2
  obtain ⟨n, hn⟩ : ∃ n, pk.length = n := ⟨_, rfl⟩
  rw [hn] at hl1 hl2 hnl
  rw [hl1, hl2]
  rw [hl1] at h1
  rw [hl2] at h2
  have HN := hid hn
  have H1 := hid h1
  have H2 := hid h2
  have E1 := hid e1
  have E2 := hid e2
  have HL1 := hid hl1
  have HL2 := hid hl2
  clear h1 h2 e1 e2 hl1 hl2 hn
  go_enter Try.func24, Try.ntmps24
  go_wp2
  go_loopw [4, 5] (fun rs kv wr => rs = .bool false ∧ ∃ k : Nat, k ≤ n ∧ kv = .int .i64 k ∧ Below w.heap.size w wr) (fun _ kv _ => n - (intOf kv).toNat)
  case atStart => exact ⟨rfl, 0, Nat.zero_le _, rfl, Below.refl _ _⟩
  case round =>
    obtain ⟨rfl, k, hk, rfl, hb⟩ := hrel
    by_cases hkt : k < n
    · have hp : k < (pk.map fun p => gotC p.1 p.2).length := by rw [List.length_map, HN.out]; exact hkt
      have hp' : k < pk.length := by rw [HN.out]; exact hkt
      obtain ⟨u1, q1, i1⟩ := (E1.out.mut (Mut.of_below (F := fun _ => False) hb) (fun _ _ e => e.elim)).2 k hp
      obtain ⟨u2, q2, i2⟩ := (E2.out.mut (Mut.of_below (F := fun _ => False) hb) (fun _ _ e => e.elim)).2 k hp
      rw [List.getElem_map] at q1 i1 q2 i2
      obtain ⟨P0, hP0⟩ : ∃ P0, pk[k] = P0 := ⟨_, rfl⟩
      rw [hP0] at q1 i1 q2 i2
      obtain ⟨⟨f1, f2⟩, bs⟩ := P0
      have q1' : xs[k]? = some [.int .u16 f1, .int .u32 f2, u1] := q1
      have q2' : xs'[k]? = some [.int .u16 f1, .int .u32 f2, u2] := q2
      obtain ⟨ua, uc, rfl, b1, -, -⟩ := i1
      obtain ⟨ub, ud, rfl, b2, -, -⟩ := i2
      obtain ⟨m, hm⟩ : ∃ m, bs.length = m := ⟨_, rfl⟩
      have hm' : (gotC (f1, f2) bs).2.length = m := hm
      rw [hm'] at q1' q2'
      obtain ⟨S, hS⟩ : ∃ S, strOfNums (numsK bs) = S := ⟨_, rfl⟩
      have v1 : ∀ U : ExtW wr, (convert 32 9 (.slice ua m uc)).run Try.prog U.W = .ok (.string S) U.W := fun U => by rw [← hS]; exact run_convK hm (b1.ext U.h)
      have v2 : ∀ U : ExtW wr, (convert 32 9 (.slice ub m ud)).run Try.prog U.W = .ok (.string S) U.W := fun U => by rw [← hS]; exact run_convK hm (b2.ext U.h)
      obtain ⟨g1, d1, ed1, l1, cd1⟩ := (H1.out.ext hb).atk k _ q1'
      obtain ⟨g2, d2, ed2, l2, cd2⟩ := (H2.out.ext hb).atk k _ q2'
      injection ed1 with ed1 ee1 ef1
      injection ed2 with ed2 ee2 ef2
      subst ed1
      subst ed2
      have r0 := cd1 0 _ rfl
      have r1 := cell_extK (cd1 1 _ rfl)
      have r2 := cell_extK (cd1 2 _ rfl)
      have s0 := cd2 0 _ rfl
      have s1 := cell_extK (cd2 1 _ rfl)
      have s2 := cell_extK (cd2 2 _ rfl)
      rw [Nat.add_zero] at r0 s0
      have r0' := cell_extK r0
      have s0' := cell_extK s0
      have hn1 : ∀ w, (binOp .neq 30 (.agg #[.int .u16 f1, .int .u32 f2]) (.agg #[.int .u16 f1, .int .u32 f2])).run Try.prog w = .ok (.bool false) w := fun w => by rw [neq_pid]; simp
      clear r0 s0 cd1 cd2 q1 q2 q1' q2' b1 b2 hm hm' hS hP0 ee1 ef1 ee2 ef2 l1 l2 hp hp'
      go_wp2_with fail
      refine wp_region_ext (w := wr) (Below.refl _ _) (by kernel_rfl) (by kernel_rfl) ?_
      repeat (go_big_quiet_step (fail))
      refine wpQuiet_nil ?_
      rintro _ ⟨⟨w9, hb9⟩, rfl⟩
      have HB := hid (hb.trans (hb9.mono hb.size))
      clear hb9 hb r0' r1 r2 s0' s1 s2 v1 v2 hn1
      go_wp2_with fail
      refine ⟨⟨rfl, k + 1, by omega, by go_num, HB.out⟩, ?_⟩
      simp [intOf]; omega
    · go_wp2_with fail
      go_ret
      exact ⟨rfl, hb⟩
/-! a hub that is none -/
end Go.Proofs.Ytidohmpnefcpcaa


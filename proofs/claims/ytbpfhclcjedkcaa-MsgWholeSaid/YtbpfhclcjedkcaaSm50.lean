/- Parts of the proof: X81. -/
import Derived.Test.YtbpfhclcjedkcaaSm17
import Derived.Test.YtbpfhclcjedkcaaX80
namespace Go.Proofs.Ytbpfhclcjedkcaa
open Go.RowKit
/-! ### Pick, and the law MsgWhole -/
theorem pick_val {x n : Int} (hn : 0 < n) : (if x.tmod n < 0 then x.tmod n + n else x.tmod n) = x % n := by
  have h1 := Int.tmod_eq_emod (a := x) (b := n)
  have h2 := Int.emod_nonneg x (show n ≠ 0 by omega)
  have h3 := Int.emod_lt_of_pos x hn
  by_cases hc : 0 ≤ x ∨ n ∣ x
  · rw [if_pos hc] at h1
    rw [h1]; split <;> simp at * <;> omega
  · rw [if_neg hc] at h1
    have h5 : x % n ≠ 0 := fun e => hc (.inr (Int.dvd_of_emod_eq_zero e))
    have h4 : (n.natAbs : Int) = n := by omega
    rw [h1, h4]
    split <;> omega
theorem pick_any (x n : Int) (w : World) (hn : 0 < n) (hn2 : n ≤ 4611686018427387904) (_hx : -9223372036854775808 ≤ x) (_hx2 : x ≤ 9223372036854775807) :
   Calls Try.prog 44 #[.int .i64 x, .int .i64 n] w fun e w' => e = .returned (.int .i64 (x % n)) ∧ w = w' := by
  have h1 : decide (n < 1) = false := by simp; omega
  have h0 : (n == 0) = false := by rw [beq_eq_false_iff_ne]; omega
  have hv := pick_val (x := x) hn
  have hlt := Int.tmod_lt_of_pos x hn
  have hgt : -n < x.tmod n := by
    have := Int.tmod_lt_of_pos (-x) hn
    rw [Int.neg_tmod] at this; omega
  have hwr : IntKind.i64.wrap (x.tmod n) = x.tmod n := IntWalk.i64_in _ (by omega)
  have HV := hid hv
  by_cases hneg : x.tmod n < 0
  · have hneg' : decide (x.tmod n < 0) = true := by simpa using hneg
    have hq : x % n = x.tmod n + n := by rw [← hv, if_pos hneg]
    have HQ := hid hq
    clear hv hq
    go_enter Try.func44, Try.ntmps44
    go_wp2
    go_ret
    exact ⟨by rw [HQ.out]; rfl, rfl⟩
  · have hneg' : decide (x.tmod n < 0) = false := by simpa using hneg
    have hq : x % n = x.tmod n := by rw [← hv, if_neg hneg]
    have HQ := hid hq
    clear hv hq
    go_enter Try.func44, Try.ntmps44
    go_wp2
    go_ret
    exact ⟨by rw [HQ.out]; rfl, rfl⟩
/-- a row up to a place, as the slice expression makes it -/
theorem ByteRow.cutUp {w : World} {a : Option Addr} {bs : List Nat} (h : ByteRow w a bs) (k c : Nat) : ByteRow w (if c = 0 then a else a.map (·.add (0 * 1))) (bs.take k) := by
  split
  · exact h.upto k
  · rcases h with rfl | ⟨b, off, rfl, hb, hc⟩
    · exact .inl (by simp)
    · have h2 : ByteRow w (some ⟨b, off, none⟩) bs := .inr ⟨b, off, rfl, hb, hc⟩
      have e : (some (⟨b, off, none⟩ : Addr)).map (·.add (0 * 1)) = some ⟨b, off, none⟩ := by simp [addr_addB]
      rw [e]; exact h2.upto k
theorem msgF_pos (m : MsgD) : 0 < (msgF m).length := by
  unfold msgF
  rw [List.length_append]
  have := short_pos m.kind.toNat
  omega
set_option maxRecDepth 100000 in
set_option maxHeartbeats 12800000 in
theorem msgWhole_law {A : MA} {m : MsgD} {z c : Int} {w : World} (hA : MsgIn w A m) (hz : -9223372036854775808 ≤ z ∧ z ≤ 9223372036854775807) (hcb : 0 ≤ c ∧ c ≤ 255) :
    Calls Try.prog 8 #[.agg (ML A m).toArray, .int .i64 z, .int .u8 c] w fun e w' => e = .returned (.bool true) ∧ Below w.heap.size w w' := by
  obtain ⟨cn, hcn⟩ : ∃ cn : Nat, c = (cn : Int) := ⟨c.toNat, by omega⟩
  subst hcn
  obtain ⟨W1, hW1⟩ : ∃ W1, w.alloc (.cells (ML A m).toArray 46) = W1 := ⟨_, rfl⟩
  have hB1 : Below w.heap.size w W1 := by rw [← hW1]; exact (Below.refl _ _).alloc (Nat.le_refl _) _
  have xA : MsgBox W1 w.heap.size A m := by rw [← hW1]; exact MsgBox.made A m w _ _
  have HX : Hid (∀ W, Below W1.heap.size W1 W → MsgBox W w.heap.size A m) := hid fun W h => xA.ext h xA.lt
  have HA := hid (hA.ext hB1)
  have HB1 := hid hB1
  obtain ⟨g, hg⟩ : ∃ g, greatM m = g := ⟨_, rfl⟩
  have GR := hid (msgGreat_any (hid hg) (hA.ext hB1))
  have AW : Hid (∀ W, Below W1.heap.size W1 W → Calls Try.prog 26 #[] W fun e w' => e = .returned (.bool true) ∧ Below W1.heap.size W1 w') := hid fun W h => relB h (awakeM_any W)
  clear hA hB1
  cases g
  case true =>
    clear hg
    go_enter Try.func8, Try.ntmps8
    go_wp2_with (first
      | (refine wpList_loadM xA rfl rfl rfl ?_)
      | (go_at_call 25; (with_reducible refine GR.out.mono ?_); rintro e w3 ⟨rfl, hb3⟩)
      | (go_at_call 26; (with_reducible refine (AW.out _ hb3).mono ?_); rintro e w9 ⟨rfl, hb9⟩))
    go_ret
    exact ⟨rfl, HB1.out.trans (hb9.mono HB1.out.size)⟩
  have HE := hid (HA.out.e hg)
  clear hg
  cases hc : msgChk m
  case false =>
    have EN : Hid (∀ W, Below W1.heap.size W1 W → Calls Try.prog 27 #[.agg (ML A m).toArray] W fun e w' => (∃ a c, e = .returned (.tuple #[.slice a 0 c, .int .i64 1])) ∧ Below W1.heap.size W1 w') := hid fun W hW => (msgEncode_any (HE.out.ext hW)).mono fun e w' ⟨v, h1, h2, h3⟩ => by
      rw [hc] at h1 h2
      simp only [Bool.false_eq_true, if_false] at h2
      obtain ⟨a, c, rfl, -, -⟩ := h2.row
      exact ⟨⟨a, c, h1⟩, hW.trans (h3.mono hW.size)⟩
    clear hc
    go_enter Try.func8, Try.ntmps8
    go_wp2_with (first
      | (refine wpList_loadM xA rfl rfl rfl ?_)
      | (go_at_call 25; (with_reducible refine GR.out.mono ?_); rintro e w3 ⟨rfl, hb3⟩; have x3 := HX.out _ hb3)
      | (refine wpList_loadM x3 rfl rfl rfl ?_)
      | (go_at_call 27; (with_reducible refine (EN.out _ hb3).mono ?_); rintro e w4 ⟨⟨a4, c4, rfl⟩, hb4⟩)
      | (go_at_call 26; (with_reducible refine (AW.out _ hb4).mono ?_); rintro e w9 ⟨rfl, hb9⟩))
    go_ret
    exact ⟨rfl, HB1.out.trans (hb9.mono HB1.out.size)⟩
  case true =>
    obtain ⟨bk1, bk2, bk3⟩ := HA.out.back hc
    have hCUT : ∀ k, k < (msgF m).length → (rMsg ((msgF m).take k)).2 ≠ 0 := fun k hk => rMsg_cut (msgChk_ok hc) bk1 bk2 bk3 hk
    have hMORE : rMsg (msgF m ++ [cn]) = (zeroM, 5) := rMsg_more (msgChk_ok hc) bk1 bk2 bk3 cn
    obtain ⟨F, hF⟩ : ∃ F, msgF m = F := ⟨_, rfl⟩
    obtain ⟨N, hN⟩ : ∃ N, F.length = N := ⟨_, rfl⟩
    have hNl : N ≤ 890700 := by have := msgF_len HE.out hc; rw [hF, hN] at this; exact this
    have hN0 : 0 < N := by rw [← hN, ← hF]; exact msgF_pos m
    have EN : Hid (∀ W, Below W1.heap.size W1 W → Calls Try.prog 27 #[.agg (ML A m).toArray] W fun e w' => ∃ a c, e = .returned (.tuple #[.slice a N c, .int .i64 0]) ∧ ByteRow w' a F ∧ N ≤ c ∧ Below W1.heap.size W1 w') := hid fun W hW => (msgEncode_any (HE.out.ext hW)).mono fun e w' ⟨v, h1, h2, h3⟩ => by
      rw [hc] at h1 h2
      rw [if_pos rfl, hF] at h2
      have h4 := h2.cap
      obtain ⟨a, c, rfl, hr, -⟩ := h2.row
      have h5 := h4 a _ c rfl
      rw [hN] at h1 h5
      exact ⟨a, c, h1, hr, h5, hW.trans (h3.mono hW.size)⟩
    rw [hF] at hCUT hMORE
    rw [hN] at hCUT
    have BY : Hid (∀ b ∈ F, b < 256) := hid (by rw [← hF]; exact msgF_byte HA.out.c.db HA.out.yb)
    have HN := hid hN
    -- the place of the cut
    obtain ⟨k, hk⟩ : ∃ k : Nat, z % (N : Int) = (k : Int) := ⟨(z % (N : Int)).toNat, by have := Int.emod_nonneg z (show (N : Int) ≠ 0 by omega); omega⟩
    have hkN : k < N := by have := Int.emod_lt_of_pos z (show (0 : Int) < (N : Int) by omega); omega
    have PK : Hid (∀ W, Calls Try.prog 44 #[.int .i64 z, .int .i64 N] W fun e w' => e = .returned (.int .i64 k) ∧ W = w') := hid fun W => by
      have := pick_any z (N : Int) W (by omega) (by omega) hz.1 hz.2
      rw [hk] at this; exact this
    obtain ⟨K, hK⟩ : ∃ K, F.take k = K := ⟨_, rfl⟩
    have HKL : Hid (K.length = k) := hid (by rw [← hK, List.length_take, hN]; omega)
    have BYK : Hid (∀ b ∈ K, b < 256) := hid (by rw [← hK]; intro b hb; exact BY.out b (List.mem_of_mem_take hb))
    obtain ⟨⟨m7, E1⟩, hM7⟩ : ∃ r, rMsg K = r := ⟨_, rfl⟩
    have hE1 : E1 ≠ 0 := by have := hCUT k hkN; rw [hK, hM7] at this; exact this
    have t1 : ((E1 : Int) != 0) = true := by simp only [bne_iff_ne, ne_eq]; omega
    obtain ⟨G, hG⟩ : ∃ G, [] ++ F ++ [cn] = G := ⟨_, rfl⟩
    obtain ⟨N2, hN2⟩ : ∃ N2, G.length = N2 := ⟨_, rfl⟩
    have HN2l : Hid (N2 ≤ 890701) := hid (by rw [← hN2, ← hG]; simp; omega)
    have BYG : Hid (∀ b ∈ G, b < 256) := hid (by
      rw [← hG]; intro b hb
      rcases List.mem_append.1 hb with h | h
      · exact BY.out b (by simpa using h)
      · rw [List.mem_singleton.1 h]; omega)
    have MORE : Hid (rMsg G = (zeroM, 5)) := hid (by rw [← hG]; simpa using hMORE)
    have HG := hid hG
    have HN2 := hid hN2
    have HK := hid hK
    have HM7 := hid hM7
    have HKN := hid hkN
    have HCN : Hid (cn < 256) := hid (by omega)
    have HN0 := hid hN0
    clear hc bk1 bk2 bk3 hCUT hMORE hF hN hk hK hM7 hE1 hG hN2 hkN hN0 hcb hz
    go_enter Try.func8, Try.ntmps8
    go_wp2_with (first
      | (refine wpList_loadM xA rfl rfl rfl ?_)
      | (go_at_call 25; (with_reducible refine GR.out.mono ?_); rintro e w3 ⟨rfl, hb3⟩; have x3 := HX.out _ hb3)
      | (refine wpList_loadM x3 rfl rfl rfl ?_))
    (with_reducible refine (EN.out _ hb3).mono ?_)
    rintro e w4 ⟨a4, c4, rfl, hr4, hc4, hb4⟩
    obtain ⟨a5, ha5⟩ : ∃ a5, (if c4 = 0 then a4 else a4.map (·.add (0 * 1))) = a5 := ⟨_, rfl⟩
    have RS : ∀ W, (Instr.slice 42 (.slice a4 N c4) none (some (.int .i64 k)) none).run Try.prog W = .ok (.slice a5 k c4) W := fun W => by
      rw [run_uptoB (by have := HKN.out; omega) W, ha5]; rfl
    have hr5 : ByteRow w4 a5 K := by rw [← ha5, ← HK.out]; exact hr4.cutUp k c4
    have D0 := msgDecode_any (bc := c4) HKL (by have := HKN.out; omega) BYK.out hr5
    rw [HM7.out] at D0
    have D := hid D0
    have HR4 := hid hr4
    have HB4 := hid hb4
    have HC4 := hid hc4
    clear D0 hr4 hr5 ha5 hb4 hc4 x3 hb3 xA GR EN
    go_wp2_with (first
      | (go_at_call 44; (with_reducible refine (PK.out _).mono ?_); rintro e w6 ⟨rfl, rfl⟩))
    (with_reducible refine D.out.mono ?_)
    rintro e w7 ⟨A7, rfl, -, -, hb7⟩
    have HB7 := hid (HB4.out.trans (hb7.mono HB4.out.size))
    have HR7 := hid (HR4.out.ext hb7)
    clear hb7 D RS PK HR4 HB4
    obtain ⟨g8, hg8⟩ : ∃ q, w7.heap.size = q := ⟨_, rfl⟩
    obtain ⟨WZ, hWZ⟩ : ∃ WZ, w7.alloc (.cells #[.int .i64 0, .int .u16 0, .int .u32 0, .int .u64 0, .int .u64 0, .int .u64 0, .int .i64 0, .int .u32 0, .int .u16 0, .int .u32 0, .int .u32 0, .int .u16 0, .int .u32 0, .bool false, .int .i64 0, .int .u16 0, .int .u32 0, .int .u64 0, .int .u64 0, .slice none 0 0, .int .u64 0, .slice none 0 0, .slice none 0 0, .slice none 0 0, .int .u64 0, .slice none 0 0, .slice none 0 0, .slice none 0 0, .slice none 0 0] 46) = WZ := ⟨_, rfl⟩
    have ht0 : WZ.there g8 0 29 := by rw [← hWZ, ← hg8]; exact putThere w7
    have hb8 := putBelow w7 A7 m7
    rw [hWZ, hg8] at hb8
    obtain ⟨w8, hw8⟩ : ∃ W, WZ.setCells g8 0 (ML A7 m7) = W := ⟨_, rfl⟩
    rw [hw8] at hb8
    have HQ := hid hg8
    have HB := hid hb8
    clear hg8 hb8
    go_upto_region 7 with (refine wpList_storeM (A := A7) (m := m7) ht0 rfl rfl (by rw [← HQ.out]; rfl) rfl ?_; rw [hw8])
    have hg8 := HQ.out
    have hb8 := HB.out
    clear hWZ hw8 ht0 HB
    rw [← hg8] at hb8
    have HB8 := hid (HB7.out.trans (hb8.mono HB7.out.size))
    have hr8 := (HR7.out.ext hb8).alloc (.cells #[] 5)
    have hown8 := OwnB.made0 w8
    have hq8 : Below w8.heap.size w8 (w8.alloc (.cells #[] 5)) := (Below.refl _ _).alloc (Nat.le_refl _) _
    have HR8 := hid hr8
    have HOWN8 := hid hown8
    have HQ8 := hid hq8
    clear hr8 hown8 hq8 hb8 hg8 HQ HB7 HR7
    go_wp2_with (first
      | (at_builtin; refine wpList_appendB HOWN8.out HR8.out HN (by simp; omega) (by simp) rfl rfl rfl rfl ?_; intro v9 w9 hown9 hg9 hat9; have hb9 := below_of_grown HQ8.out hg9 HOWN8.out HQ8.out.size (Nat.le_refl _); have HOWN9 := hid hown9; have HB9 := hid hb9; clear hat9 hg9 hown9 hb9)
      | (at_builtin; refine wpList_appendB (HOWN9.out.alloc _) (ByteRow.one _ cn) (hid rfl) (by rw [List.nil_append, HN.out]; simp; omega) (by have := HB9.out.size; simp; omega) rfl rfl rfl rfl ?_; intro v10 w10 hown10 hg10 hat10; have hb10 := below_of_grown (HB9.out.alloc HB9.out.size _) hg10 (HOWN9.out.alloc _) (by have := HB9.out.size; simp; omega) (Nat.le_refl _); rw [HG.out] at hown10; obtain ⟨a10, k10, he10, hr10, -⟩ := hown10.row; subst he10; rw [HN2.out]; have D2 := msgDecode_any (bc := k10) HN2 (by have := HN2l.out; omega) BYG.out hr10; rw [MORE.out] at D2; have HD2 := hid D2; have HB10 := hid hb10; clear hat10 hg10 hown10 hb10 D2 hr10))
    (with_reducible refine HD2.out.mono ?_)
    rintro e w11 ⟨A11, rfl, -, -, hb11⟩
    have HB11 := hid (HB8.out.trans ((HB10.out.trans (hb11.mono HB10.out.size)).mono HB8.out.size))
    clear hb11 HD2 HB10 HB9 HOWN9 HOWN8 HR8 HQ8 HB8
    obtain ⟨g12, hg12⟩ : ∃ q, w11.heap.size = q := ⟨_, rfl⟩
    obtain ⟨WZ, hWZ⟩ : ∃ WZ, w11.alloc (.cells #[.int .i64 0, .int .u16 0, .int .u32 0, .int .u64 0, .int .u64 0, .int .u64 0, .int .i64 0, .int .u32 0, .int .u16 0, .int .u32 0, .int .u32 0, .int .u16 0, .int .u32 0, .bool false, .int .i64 0, .int .u16 0, .int .u32 0, .int .u64 0, .int .u64 0, .slice none 0 0, .int .u64 0, .slice none 0 0, .slice none 0 0, .slice none 0 0, .int .u64 0, .slice none 0 0, .slice none 0 0, .slice none 0 0, .slice none 0 0] 46) = WZ := ⟨_, rfl⟩
    have ht0 : WZ.there g12 0 29 := by rw [← hWZ, ← hg12]; exact putThere w11
    have hb12 := putBelow w11 A11 zeroM
    rw [hWZ, hg12] at hb12
    obtain ⟨w12, hw12⟩ : ∃ W, WZ.setCells g12 0 (ML A11 zeroM) = W := ⟨_, rfl⟩
    rw [hw12] at hb12
    have HQ := hid hg12
    have HB := hid hb12
    clear hg12 hb12
    go_wp2_with (refine wpList_storeM (A := A11) (m := zeroM) ht0 rfl rfl (by rw [← HQ.out]; rfl) rfl ?_; rw [hw12])
    have hg12 := HQ.out
    have hb12 := HB.out
    clear hWZ hw12 ht0 HB
    rw [← hg12] at hb12
    have HB12 := hid (HB11.out.trans (hb12.mono HB11.out.size))
    clear hb12 hg12 HQ HB11
    go_wp2_with (go_at_call 26; (with_reducible refine (AW.out _ HB12.out).mono ?_); rintro e w13 ⟨rfl, hb13⟩)
    go_ret
    exact ⟨rfl, HB1.out.trans (hb13.mono HB1.out.size)⟩
end Go.Proofs.Ytbpfhclcjedkcaa


/- Parts of the proof: O9 K1 K2 K3 K4 K6 OS NC Shelf T1 T2 M1 N1 ND. -/
import Derived.ArgAppend
import Derived.Lib.ConvBytes
import Derived.Lib.AtoiErrMem
import Derived.Shelf.SlSortCmp.NoneTotal
import Derived.Lib.EndianBits
import Derived.Sort.OwnSortedInts
import Derived.Maps.RangeRun
import Derived.Maps.RangeWalk
import Derived.Test.YtehagnbphamjhaaGreatDoorO8
namespace Go.Proofs.YtehagnbphamjhaaGreatDoor
open Go.RowKit
/-! ### play: bytesOf -/
def BytesRes (w w' : World) (e : Ending) (r : Option (List Nat)) : Prop := match r with
  | none => e = .returned (.tuple #[.slice none 0 0, .bool false])
  | some bs => ∃ v, e = .returned (.tuple #[v, .bool true]) ∧ OwnB w' w.heap.size v bs
theorem bytesOf_odd : ∀ s : Str, s.length % 2 = 1 → bytesOfP s = none
  | [], h => by simp at h
  | [_], _ => rfl
  | c :: d :: r, h => by
    rw [bytesOfP, bytesOf_odd r (by simp at h; omega)]
    split <;> rfl
theorem str_at {s : Str} {k : Nat} {c : UInt8} (h : s[k]? = some c) (W : World) : (Instr.index 9 (.string ⟨s.toArray⟩) (.int .i64 (k : Int))).run Tryz.prog W = .ok (.int .u8 (c.toNat : Int)) W := by
  have hk : k < s.length := (List.getElem?_eq_some_iff.1 h).1
  have hz : (⟨s.toArray⟩ : ByteArray).size = s.length := by show s.toArray.size = _; simp
  rw [run_index_string W 9 _ .i64 _ Tryz.underlying9, dif_pos (by rw [hz]; omega)]
  have : s[k] = c := by rw [List.getElem?_eq_getElem hk] at h; exact Option.some.inj h
  subst this
  congr 2
theorem drop_two {s : Str} {k : Nat} (h : k + 1 < s.length) : ∃ c d, s[k]? = some c ∧ s[k + 1]? = some d ∧ s.drop k = c :: d :: s.drop (k + 2) := by
  refine ⟨s[k], s[k + 1], List.getElem?_eq_getElem _, List.getElem?_eq_getElem _, ?_⟩
  rw [List.drop_eq_getElem_cons (by omega), List.drop_eq_getElem_cons (by omega)]
theorem and_one (n : Nat) : bits .and .i64 (n : Int) 1 = ((n % 2 : Nat) : Int) := by
  have h127 : (BitVec.ofInt 64 1).toNat = 2 ^ 1 - 1 := by decide
  have key : (BitVec.ofInt 64 (n : Int) &&& BitVec.ofInt 64 1).toNat = ((n : Int) % ((2 ^ 64 : Nat) : Int)).toNat % 2 ^ 1 := by
    rw [BitVec.toNat_and, BitVec.toNat_ofInt, h127, Nat.and_two_pow_sub_one_eq_mod]
  show IntKind.i64.wrap ((BitVec.ofInt 64 (n : Int) &&& BitVec.ofInt 64 1).toNat : Nat) = _
  rw [key, IntKind.wrap_i64]
  omega
theorem or_hex : ∀ a : Nat, a < 16 → ∀ b : Nat, b < 16 → bits .or .i64 ((a : Int) * 16) (b : Int) = ((a * 16 + b : Nat) : Int) := by decide +kernel
theorem digX_nn (c : UInt8) : -1 ≤ digX c := by
  have : ∀ n : Fin 256, -1 ≤ digX (UInt8.ofNat n.val) := by decide +kernel
  have h := this ⟨c.toNat, UInt8.toNat_lt c⟩
  simpa using h
set_option maxRecDepth 100000 in
set_option maxHeartbeats 6400000 in
theorem bytesOf_any {s : Str} {w : World} (hs : s.length ≤ 40000000) :
    Calls Tryz.prog 57 #[.string ⟨s.toArray⟩] w fun e w' => BytesRes w w' e (bytesOfP s) ∧ Below w.heap.size w w' := by
  obtain ⟨r, hr⟩ : ∃ r, bytesOfP s = r := ⟨_, rfl⟩
  rw [hr]
  have HR := hid hr
  clear hr
  have hz : (⟨s.toArray⟩ : ByteArray).size = s.length := by show s.toArray.size = _; simp
  obtain ⟨n, hn⟩ : ∃ n, s.length = n := ⟨_, rfl⟩
  have hand := and_one n
  rw [hn] at hs
  by_cases hodd : n % 2 = 1
  · have HRN : Hid (r = none) := hid (by rw [← HR.out]; exact bytesOf_odd s (by rw [hn]; exact hodd))
    rw [hodd] at hand
    have hand : bits .and .i64 (n : Int) 1 = 1 := hand
    clear hodd
    go_enter Tryz.func57, Tryz.ntmps57
    go_wp2_with fail
    refine bodyPost_ret (v := .tuple #[.slice none 0 0, .bool false]) (by simp [results, Tryz.results57, go_sem]) rfl ⟨by rw [HRN.out]; rfl, Below.refl _ _⟩
  · rw [show n % 2 = 0 by omega] at hand
    have hand : bits .and .i64 (n : Int) 1 = 0 := hand
    have HEV : Hid (n % 2 = 0) := hid (by omega)
    have HN := hid hn
    have hz2 : (⟨s.toArray⟩ : ByteArray).size = n := by rw [hz, hn]
    clear hodd hz hn
    go_enter Tryz.func57, Tryz.ntmps57
    go_wp2_with fail
    clear hand
    go_loopw [4, 5] (fun v iv wr => ∃ (k : Nat) (out : List Nat) (m : Nat), iv = .int .i64 m ∧ m ≤ n ∧ Hid (2 * k = m ∧ out.length = k) ∧ Hid (r = (bytesOfP (s.drop m)).map (out ++ ·)) ∧ Hid (OwnB wr w.heap.size v out) ∧ Hid (Below w.heap.size w wr)) (fun _ iv _ => n - (intOf iv).toNat)
    case atStart => exact ⟨0, [], 0, rfl, Nat.zero_le _, hid ⟨rfl, by simp⟩, hid (by rw [← HR.out, List.drop_zero]; cases bytesOfP s <;> rfl), hid (OwnB.nil _ _), hid (Below.refl _ _)⟩
    case round =>
      obtain ⟨k, out, m, rfl, hm, hk, hf, hown, hbw⟩ := hrel
      by_cases hlt : m < n
      · have hm2 : m + 1 < n := by have := hk.out.1; have := HEV.out; omega
        obtain ⟨c, d, hc, hd, hdr⟩ := drop_two (s := s) (k := m) (by rw [HN.out]; exact hm2)
        have hf2 := hf.out
        rw [hdr, bytesOfP] at hf2
        have UI1 := fun W => str_at hc W
        have UI2 := fun W => str_at hd W
        rw [show ((m + 1 : Nat) : Int) = (m : Int) + 1 by omega] at UI2
        have C1 : Hid (∀ V : ExtW wr, Calls Tryz.prog 84 #[.string ⟨#[48, 49, 50, 51, 52, 53, 54, 55, 56, 57, 97, 98, 99, 100, 101, 102]⟩, .int .u8 (c.toNat : Int)] V.W fun e w' => e = .returned (.int .i64 (digX c)) ∧ ∃ V' : ExtW wr, w' = V'.W) := hid fun V => by
          refine (indexByteP_any [48, 49, 50, 51, 52, 53, 54, 55, 56, 57, 97, 98, 99, 100, 101, 102] c V.W).mono ?_
          rintro e w' ⟨rfl, rfl⟩
          exact ⟨rfl, V, rfl⟩
        have C2 : Hid (∀ V : ExtW wr, Calls Tryz.prog 84 #[.string ⟨#[48, 49, 50, 51, 52, 53, 54, 55, 56, 57, 97, 98, 99, 100, 101, 102]⟩, .int .u8 (d.toNat : Int)] V.W fun e w' => e = .returned (.int .i64 (digX d)) ∧ ∃ V' : ExtW wr, w' = V'.W) := hid fun V => by
          refine (indexByteP_any [48, 49, 50, 51, 52, 53, 54, 55, 56, 57, 97, 98, 99, 100, 101, 102] d V.W).mono ?_
          rintro e w' ⟨rfl, rfl⟩
          exact ⟨rfl, V, rfl⟩
        have n1 := digX_nn c
        have n2 := digX_nn d
        have n3 := digX_lt c
        have n4 := digX_lt d
        have HK := hid hk
        obtain ⟨x, hx⟩ : ∃ x, digX c = x := ⟨_, rfl⟩
        obtain ⟨y, hy⟩ : ∃ y, digX d = y := ⟨_, rfl⟩
        rw [hx] at hf2 C1 n1 n3
        rw [hy] at hf2 C2 n2 n4
        obtain ⟨cn, hcn⟩ : ∃ cn, c.toNat = cn := ⟨_, rfl⟩
        obtain ⟨dn, hdn⟩ : ∃ dn, d.toNat = dn := ⟨_, rfl⟩
        rw [hcn] at UI1 C1
        rw [hdn] at UI2 C2
        have HF2 := hid hf2
        have HNB := hid (And.intro (And.intro n1 n3) (And.intro n2 n4))
        clear hc hd hdr hx hy hcn hdn n1 n2 n3 n4 hf2 hf hk hm2
        go_wp2_with fail
        refine wp_region_ext (w := wr) (Below.refl _ _) (by kernel_rfl) (by kernel_rfl) ?_
        repeat (go_big_quiet_step (first | with_reducible exact C1.out _ | with_reducible exact C2.out _))
        refine wpQuiet_nil ?_
        rintro w9 ⟨⟨_, hb9⟩, rfl⟩
        have HB9 := hid (hbw.out.trans (hb9.mono hbw.out.size))
        have HO9 := hid (hown.out.ext hb9)
        clear hb9 C1 C2 UI1 UI2 hown hbw
        by_cases hx0 : x < 0
        · have HRN : Hid (r = none) := hid (by rw [HF2.out, if_pos (.inl hx0)]; rfl)
          go_wp2_with fail
          refine bodyPost_ret (v := .tuple #[.slice none 0 0, .bool false]) (by simp [results, Tryz.results57, go_sem]) rfl ⟨by rw [HRN.out]; rfl, HB9.out⟩
        · by_cases hy0 : y < 0
          · have HRN : Hid (r = none) := hid (by rw [HF2.out, if_pos (.inr hy0)]; rfl)
            go_wp2_with fail
            refine bodyPost_ret (v := .tuple #[.slice none 0 0, .bool false]) (by simp [results, Tryz.results57, go_sem]) rfl ⟨by rw [HRN.out]; rfl, HB9.out⟩
          · obtain ⟨xn, rfl⟩ : ∃ xn : Nat, x = (xn : Int) := ⟨x.toNat, by omega⟩
            obtain ⟨yn, rfl⟩ : ∃ yn : Nat, y = (yn : Int) := ⟨y.toNat, by omega⟩
            have hor := or_hex xn (by have := HNB.out; omega) yn (by have := HNB.out; omega)
            have hw0 : IntKind.i64.wrap ((xn : Int) * 16) = (xn : Int) * 16 := by rw [IntKind.wrap_i64]; have := HNB.out; omega
            have hw1 : ((xn * 16 + yn : Nat) : Int) % 256 = ((xn * 16 + yn : Nat) : Int) := by have := HNB.out; omega
            have HF3 : Hid (r = (bytesOfP (s.drop (m + 2))).map ((out ++ [xn * 16 + yn]) ++ ·)) := hid (by
              rw [HF2.out, if_neg (by omega)]
              have e : ((xn : Int) * 16 + (yn : Int)).toNat = xn * 16 + yn := by omega
              rw [e]
              cases bytesOfP (s.drop (m + 2)) <;> simp)
            have HLO : Hid ((out ++ [xn * 16 + yn]).length ≤ n) := hid (by have := HK.out.out; simp; omega)
            have HLL : Hid (out.length ≤ 40000000) := hid (by have := HK.out.out; omega)
            obtain ⟨z, hzz⟩ : ∃ z, xn * 16 + yn = z := ⟨_, rfl⟩
            rw [hzz] at hor hw1 HF3 HLO
            go_wp2_with (at_builtin; refine wpList_appendB (HO9.out.alloc _) (ByteRow.one _ z) (hid rfl) (by have := HLL.out; simp; omega) (by have := HB9.out.size; simp; omega) rfl rfl rfl rfl ?_; intro v2 w2 hown2 hg2 hat2)
            have hB2 : Below w.heap.size w w2 := below_of_grown (HB9.out.alloc HB9.out.size _) hg2 (HO9.out.alloc _) (by have := HB9.out.size; simp; omega) (Nat.le_refl _)
            have HM : Hid (m + 2 ≤ n ∧ 2 * (k + 1) = m + 2) := hid ⟨by have := HK.out.out; have := HEV.out; omega, by have := HK.out.out; omega⟩
            have HO2 := hid hown2
            clear hown2 hg2 hat2 hor hw0 hw1
            go_wp2_with fail
            go_roundw
            case rel => exact ⟨k + 1, out ++ [z], m + 2, by go_num, HM.out.1, hid ⟨HM.out.2, by have := HK.out.out; simp; omega⟩, HF3, HO2, hid hB2⟩
            case measure => simp [intOf]; have := HM.out; omega
      · have hd : s.drop m = [] := List.drop_eq_nil_of_le (by rw [HN.out]; omega)
        have HRS : Hid (r = some out) := hid (by rw [hf.out, hd]; simp [bytesOfP])
        clear hd hf
        go_wp2_with fail
        refine bodyPost_ret (v := .tuple #[u4, .bool true]) (by simp [results, Tryz.results57, go_sem]) rfl ⟨?_, hbw.out⟩
        rw [HRS.out]
        exact ⟨u4, rfl, hown.out⟩
end Go.Proofs.YtehagnbphamjhaaGreatDoor

namespace Go.Proofs.YtehagnbphamjhaaGreatDoor
open Go.RowKit
/-! ### a row of one-cell elements that may begin behind its block's beginning: append, cut -/
def RowO (w : World) (base : Nat) (v : Value) (xs : List Value) : Prop :=
  (v = .slice none 0 0 ∧ xs = []) ∨ ∃ g off cap, v = .slice (some ⟨g, off, none⟩) xs.length cap ∧ base ≤ g ∧ g < w.heap.size ∧ xs.length ≤ cap ∧ cap ≤ maxLen ∧
    (∀ k u, xs[k]? = some u → w.cell? ⟨g, off + k, none⟩ = some u) ∧ (∀ k, k < cap → (w.cell? ⟨g, off + k, none⟩).isSome = true ∧ w.frozen? ⟨g, off + k, none⟩ = false)
theorem RowO.nil (w : World) (base : Nat) : RowO w base (.slice none 0 0) [] := .inl ⟨rfl, rfl⟩
theorem RowO.blk {w : World} {base : Nat} {v : Value} {xs : List Value} (h : RowO w base v xs) {g : Nat} (hg : v.ownBlock = some g) : base ≤ g ∧ g < w.heap.size := by
  rcases h with ⟨rfl, -⟩ | ⟨g', off, cap, rfl, h1, h2, -⟩
  · cases hg
  · cases hg; exact ⟨h1, h2⟩
theorem RowO.sli {w : World} {base : Nat} {v : Value} {xs : List Value} (h : RowO w base v xs) : ∃ a c, v = .slice a xs.length c ∧ xs.length ≤ c := by
  rcases h with ⟨rfl, rfl⟩ | ⟨g', off, cap, rfl, h1, h2, h3, -⟩
  · exact ⟨_, _, rfl, Nat.le_refl _⟩
  · exact ⟨_, _, rfl, h3⟩
theorem RowO.mutN {G : Nat → Prop} {w w' : World} {base : Nat} {v : Value} {xs : List Value} (h : RowO w base v xs) (hm : Mut G w w') (hG : ∀ g, v.ownBlock = some g → ¬ G g) : RowO w' base v xs := by
  rcases h with h | ⟨g, off, cap, rfl, h1, h2, h3, h4, h5, h6⟩
  · exact .inl h
  · have hn := hG g rfl
    have e : ∀ o, w'.cell? ⟨g, o, none⟩ = w.cell? ⟨g, o, none⟩ := fun o => hm.cell h2 hn
    have f : ∀ o, w'.frozen? ⟨g, o, none⟩ = w.frozen? ⟨g, o, none⟩ := fun o => World.frozen?_of_block (w := w) (a := ⟨g, o, none⟩) (hm.block g h2 hn)
    exact .inr ⟨g, off, cap, rfl, h1, by have := hm.size; omega, h3, h4, fun k u hk => by rw [e]; exact h5 k u hk, fun k hk => by rw [e, f]; exact h6 k hk⟩
theorem RowO.ext {w w' : World} {base : Nat} {v : Value} {xs : List Value} (h : RowO w base v xs) (hb : Below w.heap.size w w') : RowO w' base v xs :=
  h.mutN (Mut.of_below (F := fun _ => False) hb) fun _ _ e => e
theorem RowO.at {w : World} {base : Nat} {v : Value} {xs : List Value} (h : RowO w base v xs) {k : Nat} {u : Value} (hk : xs[k]? = some u) : ∃ g off cap, v = .slice (some ⟨g, off, none⟩) xs.length cap ∧ w.cell? ⟨g, off + k, none⟩ = some u ∧ g < w.heap.size := by
  rcases h with ⟨rfl, rfl⟩ | ⟨g, off, cap, rfl, h1, h2, h3, h4, h5, h6⟩
  · simp at hk
  · exact ⟨g, off, cap, rfl, h5 k u hk, h2⟩
theorem RowO.of_owns {w : World} {base : Nat} {e : TypeId} {v : Value} {xs : List Value} (h : w.ownsRow base e 1 v xs.length xs) : RowO w base v xs := by
  rcases h.2 with ⟨rfl, hn⟩ | ⟨g, cap, cur, rfl, hb, hg, hnc, hcm, hcs, htake⟩
  · exact .inl ⟨rfl, List.length_eq_zero_iff.1 hn⟩
  · have hlt := (Array.getElem?_eq_some_iff.1 hg).1
    have hc : ∀ k, w.cell? ⟨g, k, none⟩ = cur[k]? := fun k => by simp [World.cell?, hg]
    have hf : ∀ k, w.frozen? ⟨g, k, none⟩ = false := fun k => by simp [World.frozen?, hg]
    refine .inr ⟨g, 0, cap, rfl, hb, hlt, hnc, hcm, fun k u hk => ?_, fun k hk => ?_⟩
    · have hkl : k < xs.length := (List.getElem?_eq_some_iff.1 hk).1
      rw [Nat.zero_add, hc, ← hk, ← htake, List.getElem?_take, if_pos (by omega)]
      simp
    · rw [Nat.zero_add, hc, hf]
      refine ⟨?_, rfl⟩
      rw [Array.getElem?_eq_getElem (by omega)]; rfl
/-- one element more -/
theorem RowO.append {w : World} {base : Nat} {v u : Value} {xs : List Value} (h : RowO w base v xs) {P : Program} (t ty e : TypeId) (i : TypeInfo) (z : Value) (bytes : Nat) (ht : P.underlying t = some (.slice e)) (hi : P.info? e = some i) (hz : i.zero = some z) (hsize : i.size = 1) (hby : i.bytes = bytes) (hzs : z.cells.size = 1)
    {b o c : Nat} (hu : w.cell? ⟨b, o, none⟩ = some u) (h1 : u.oneCell' = true) (hl : xs.length + 1 ≤ 1000000) (hbt : bytes ≤ 1000) (hbase : base ≤ w.heap.size) :
    ∃ v' w', (Builtin.append_ #[t, t] ty #[v, .slice (some ⟨b, o, none⟩) 1 c]).run P w = .ok v' w' ∧ RowO w' base v' (xs ++ [u]) ∧ Mut (fun g => v.ownBlock = some g) w w' ∧ (∀ g, v'.ownBlock = some g → v.ownBlock = some g ∨ w.heap.size ≤ g) := by
  have hby2 : (xs.length + 1) * bytes ≤ 140737488355328 := Nat.le_trans (Nat.mul_le_mul hl hbt) (by decide)
  have hnew : ∀ j x, [u][j]? = some x → w.cell? ((⟨b, o, none⟩ : Addr).add j) = some x := fun j x hx => by
    have hj : j = 0 := by have := (List.getElem?_eq_some_iff.1 hx).1; simpa using this
    subst hj
    simp at hx; subst hx
    rw [Addr.add_lit, Nat.add_zero]; exact hu
  have hone : ∀ x ∈ [u], x.oneCell' = true := fun x hx => by rw [List.mem_singleton.1 hx]; exact h1
  rcases h with ⟨rfl, rfl⟩ | ⟨g, off, cap, rfl, hb, hlt, hnc, hcm, hc, hs⟩
  · obtain ⟨v', w', hr, h2, h3, h4, h5⟩ := run_append_own_at (P := P) w base t ty e i z 1 bytes ht hi hz hsize hby hzs (by decide) (.slice none 0 0) 0 [] (World.ownsRow_nil _ _ _ _) ⟨b, o, none⟩ 1 c [u] rfl hnew hone (by unfold maxLen; omega) (by simpa using hby2) hbase
    refine ⟨v', w', hr, RowO.of_owns (e := e) (by simpa using h2), ?_, fun g hg => ?_⟩
    rotate_left
    · rcases h5 with h5 | h5
      · exact .inl (by rw [← h5]; exact hg)
      · rw [h5] at hg; cases hg; exact .inr (Nat.le_refl _)
    exact ⟨h3.os, h3.tape, h3.output, h3.size, fun k hk hf => h3.block k hk (fun e => by cases e)⟩
  · by_cases hr : xs.length + 1 ≤ cap
    · have hsp := hs xs.length (by omega)
      have hrun := run_append_room_cells (P := P) w t ty e i ht hi g off xs.length cap ⟨b, o, none⟩ 1 c [u] (by rw [hsize]; rfl) hnew hone hr (fun j hj => by
        have : j = 0 := by simpa using hj
        subst this; rw [hsize, Nat.mul_one, Nat.add_zero]; exact hsp.1) (fun j hj => by
        have : j = 0 := by simpa using hj
        subst this; rw [hsize, Nat.mul_one, Nat.add_zero]; exact hsp.2)
      rw [hsize, Nat.mul_one] at hrun
      refine ⟨_, _, hrun, .inr ⟨g, off, cap, by rw [List.length_append]; rfl, hb, ?_, by rw [List.length_append]; exact hr, hcm, fun k x hk => ?_, fun k hk => ?_⟩, ?_, fun _ hg => .inl hg⟩
      · show g < (w.setCell ⟨g, off + xs.length, none⟩ u).heap.size
        simp; omega
      · show (w.setCell ⟨g, off + xs.length, none⟩ u).cell? _ = _
        by_cases hkx : k < xs.length
        · rw [List.getElem?_append_left hkx] at hk
          rw [World.cell?_setCell_other _ _ _ _ (by intro e; injection e with _ e2; omega)]
          exact hc k x hk
        · have hk2 : k = xs.length := by
            have := (List.getElem?_eq_some_iff.1 hk).1
            simp at this; omega
          subst hk2
          rw [List.getElem?_append_right (Nat.le_refl _), Nat.sub_self] at hk
          simp at hk; subst hk
          exact World.cell?_setCell_same' _ _ _ hsp.1
      · show ((w.setCell ⟨g, off + xs.length, none⟩ u).cell? ⟨g, off + k, none⟩).isSome = true ∧ (w.setCell ⟨g, off + xs.length, none⟩ u).frozen? ⟨g, off + k, none⟩ = false
        refine ⟨?_, by rw [World.frozen?_setCell]; exact (hs k hk).2⟩
        by_cases hkx : k = xs.length
        · subst hkx
          rw [World.cell?_setCell_same' _ _ _ hsp.1]; rfl
        · rw [World.cell?_setCell_other _ _ _ _ (by intro e; injection e with _ e2; omega)]
          exact (hs k hk).1
      · exact (mut1 (w := w) (s := g) (i := off + xs.length) (v := u)).mono fun k _ e => by have e : k = g := e; rw [e]; rfl
    · obtain ⟨v', w', hrun, r1, r2⟩ := run_append_arg_grows (P := P) w t ty e i z 1 bytes ht hi hz hsize hby hzs (by decide) ⟨g, off, none⟩ xs.length cap xs (by rw [Nat.mul_one]) (fun j x hx => by rw [Addr.add_lit]; exact hc j x hx) ⟨b, o, none⟩ 1 c [u] rfl hnew (by omega) (by unfold maxLen; omega) hby2
      have r1' : w'.ownsRow w.heap.size e 1 v' (xs ++ [u]).length (xs ++ [u]) := by rw [List.length_append]; exact r1
      have hro := RowO.of_owns r1'
      refine ⟨v', w', hrun, ?_, ⟨r2.os, r2.tape, r2.output, r2.size, fun k hk hf => r2.block k hk (fun e => by cases e)⟩, fun q hq => .inr ?_⟩
      · rcases hro with ⟨-, e⟩ | ⟨g', off', cap', e1, e2, e3⟩
        · simp at e
        · exact .inr ⟨g', off', cap', e1, by omega, e3⟩
      · exact (hro.blk hq).1
/-- the head is let go -/
theorem RowO.drop {w : World} {base : Nat} {xs : List Value} {a : Option Addr} {c : Nat} (h : RowO w base (.slice a xs.length c) xs) {k : Nat} (hk : k ≤ xs.length) : RowO w base (.slice (if c = k then a else a.map (·.add (k * 1))) (xs.length - k) (c - k)) (xs.drop k) := by
  rcases h with ⟨e, rfl⟩ | ⟨g, off, cap, e, h1, h2, h3, h4, h5, h6⟩
  · cases e
    have : k = 0 := by simpa using hk
    subst this
    exact .inl ⟨rfl, rfl⟩
  · cases e
    by_cases hck : c = k
    · rw [if_pos hck]
      have hx : xs.drop k = [] := List.drop_eq_nil_of_le (by omega)
      rw [hx]
      refine .inr ⟨g, off, c - k, by simp; omega, h1, h2, Nat.zero_le _, by omega, fun j u hj => by simp at hj, fun j hj => by omega⟩
    · rw [if_neg hck]
      refine .inr ⟨g, off + k, c - k, by rw [List.length_drop]; simp [Addr.add_lit], h1, h2, by rw [List.length_drop]; omega, by omega, fun j u hj => ?_, fun j hj => ?_⟩
      · rw [List.getElem?_drop] at hj
        rw [Nat.add_assoc]; exact h5 _ u hj
      · rw [Nat.add_assoc]; exact h6 _ (by omega)
end Go.Proofs.YtehagnbphamjhaaGreatDoor

namespace Go.Proofs.YtehagnbphamjhaaGreatDoor
open Go.RowKit
/-! ### the sender's side of a link, in the heap -/
/-- a text that stays: it lies in none of the blocks N that are written -/
def ItemAt (w : World) (N : Nat → Prop) (u : Value) (bs : List Nat) : Prop :=
  ∃ a c, u = .slice a bs.length c ∧ ByteRow w a bs ∧ (∀ x ∈ bs, x < 256) ∧ ∀ b off, a = some ⟨b, off, none⟩ → b < w.heap.size ∧ ¬ N b
theorem ItemAt.mut {w w' : World} {N G : Nat → Prop} {u : Value} {bs : List Nat} (h : ItemAt w N u bs) (hm : Mut G w w') (hG : ∀ b, b < w.heap.size → G b → N b) : ItemAt w' N u bs := by
  obtain ⟨a, c, rfl, hr, hx, hb⟩ := h
  refine ⟨a, c, rfl, hr.mutT hm fun b off e _ hg => ?_, hx, fun b off e => ⟨by have := (hb b off e).1; have := hm.size; omega, (hb b off e).2⟩⟩
  exact (hb b off e).2 (hG b (hb b off e).1 hg)
theorem ItemAt.grow {w : World} {N N' : Nat → Prop} {u : Value} {bs : List Nat} (h : ItemAt w N u bs) (hN : ∀ b, N' b → N b ∨ w.heap.size ≤ b) : ItemAt w N' u bs := by
  obtain ⟨a, c, rfl, hr, hx, hb⟩ := h
  refine ⟨a, c, rfl, hr, hx, fun b off e => ⟨(hb b off e).1, fun hn => ?_⟩⟩
  rcases hN b hn with h1 | h1
  · exact (hb b off e).2 h1
  · have := (hb b off e).1; omega
theorem ItemAt.one {w : World} {N : Nat → Prop} {u : Value} {bs : List Nat} (h : ItemAt w N u bs) : u.oneCell' = true := by
  obtain ⟨a, c, rfl, -⟩ := h; rfl
/-- a clone is such a text -/
theorem ItemAt.own {w : World} {N : Nat → Prop} {base : Nat} {v : Value} {bs : List Nat} (h : OwnB w base v bs) (hx : ∀ x ∈ bs, x < 256) (hN : ∀ b, base ≤ b → b < w.heap.size → ¬ N b) : ItemAt w N v bs := by
  obtain ⟨a, c, e, hr, hb⟩ := h.row
  refine ⟨a, c, e, hr, hx, fun b off ea => ?_⟩
  have hlt : b < w.heap.size := by
    have := World.ownsRow.lt h b (by rw [e, ea]; rfl)
    exact this.2
  exact ⟨hlt, hN b (hb b off ea) hlt⟩
def ItemsAt (w : World) (N : Nat → Prop) (us : List Value) (ls : List (List Nat)) : Prop := us.length = ls.length ∧ ∀ k (h : k < ls.length), ∃ u, us[k]? = some u ∧ ItemAt w N u ls[k]
theorem ItemsAt.nil (w : World) (N : Nat → Prop) : ItemsAt w N [] [] := ⟨rfl, fun k h => by simp at h⟩
theorem ItemsAt.mut {w w' : World} {N G : Nat → Prop} {us : List Value} {ls : List (List Nat)} (h : ItemsAt w N us ls) (hm : Mut G w w') (hG : ∀ b, b < w.heap.size → G b → N b) : ItemsAt w' N us ls :=
  ⟨h.1, fun k hk => by obtain ⟨u, h1, h2⟩ := h.2 k hk; exact ⟨u, h1, h2.mut hm hG⟩⟩
theorem ItemsAt.grow {w : World} {N N' : Nat → Prop} {us : List Value} {ls : List (List Nat)} (h : ItemsAt w N us ls) (hN : ∀ b, N' b → N b ∨ w.heap.size ≤ b) : ItemsAt w N' us ls :=
  ⟨h.1, fun k hk => by obtain ⟨u, h1, h2⟩ := h.2 k hk; exact ⟨u, h1, h2.grow hN⟩⟩
theorem ItemsAt.snoc {w : World} {N : Nat → Prop} {us : List Value} {ls : List (List Nat)} {u : Value} {bs : List Nat} (h : ItemsAt w N us ls) (hu : ItemAt w N u bs) : ItemsAt w N (us ++ [u]) (ls ++ [bs]) := by
  refine ⟨by simp [h.1], fun k hk => ?_⟩
  by_cases hlt : k < ls.length
  · obtain ⟨x, h1, h2⟩ := h.2 k hlt
    exact ⟨x, by rw [List.getElem?_append_left (by rw [h.1]; exact hlt)]; exact h1, by rw [List.getElem_append_left hlt]; exact h2⟩
  · have hk2 : k = ls.length := by simp at hk; omega
    subst hk2
    refine ⟨u, by rw [List.getElem?_append_right (by rw [h.1]; exact Nat.le_refl _), h.1]; simp, ?_⟩
    rw [List.getElem_append_right (Nat.le_refl _)]
    simpa using hu
theorem ItemsAt.drop {w : World} {N : Nat → Prop} {us : List Value} {ls : List (List Nat)} (h : ItemsAt w N us ls) (n : Nat) : ItemsAt w N (us.drop n) (ls.drop n) := by
  refine ⟨by rw [List.length_drop, List.length_drop, h.1], fun k hk => ?_⟩
  rw [List.length_drop] at hk
  obtain ⟨u, h1, h2⟩ := h.2 (n + k) (by omega)
  exact ⟨u, by rw [List.getElem?_drop]; exact h1, by rw [List.getElem_drop]; exact h2⟩
/-- what a sender holds -/
structure SndD where
  base : Nat
  wait : List (List Nat)
  told : Nat
  ever : Nat
  once : Nat
  more : Nat
/-- a block of six cells that may be written -/
structure Box6 (w : World) (b : Nat) (v0 v1 v2 v3 v4 v5 : Value) : Prop where
  c0 : w.cell? ⟨b, 0, none⟩ = some v0
  c1 : w.cell? ⟨b, 1, none⟩ = some v1
  c2 : w.cell? ⟨b, 2, none⟩ = some v2
  c3 : w.cell? ⟨b, 3, none⟩ = some v3
  c4 : w.cell? ⟨b, 4, none⟩ = some v4
  c5 : w.cell? ⟨b, 5, none⟩ = some v5
  f : ∀ j, w.frozen? ⟨b, j, none⟩ = false
section
variable {w w' : World} {b : Nat} {v0 v1 v2 v3 v4 v5 : Value}
theorem Box6.lt (h : Box6 w b v0 v1 v2 v3 v4 v5) : b < w.heap.size := World.block_lt_of_cell? w _ h.c0
theorem Box6.mut {G : Nat → Prop} (h : Box6 w b v0 v1 v2 v3 v4 v5) (hm : Mut G w w') (hG : ¬ G b) : Box6 w' b v0 v1 v2 v3 v4 v5 :=
  ⟨(hm.cell h.lt hG).trans h.c0, (hm.cell h.lt hG).trans h.c1, (hm.cell h.lt hG).trans h.c2, (hm.cell h.lt hG).trans h.c3, (hm.cell h.lt hG).trans h.c4, (hm.cell h.lt hG).trans h.c5, fun j => (World.frozen?_of_block (w := w) (a := ⟨b, j, none⟩) (hm.block b h.lt hG)).trans (h.f j)⟩
theorem Box6.made (w : World) (t : TypeId) (v0 v1 v2 v3 v4 v5 : Value) : Box6 (w.alloc (.cells #[v0, v1, v2, v3, v4, v5] t)) w.heap.size v0 v1 v2 v3 v4 v5 := ⟨by simp, by simp, by simp, by simp, by simp, by simp, fun j => by simp⟩
theorem cellOff {w : World} {b q j : Nat} {x : Value} (hc : j ≠ q) : (w.setCell ⟨b, q, none⟩ x).cell? ⟨b, j, none⟩ = w.cell? ⟨b, j, none⟩ :=
  World.cell?_setCell_other _ _ _ _ (by intro e; injection e with e1 e2; exact hc e2.symm)
theorem Box6.set0 (h : Box6 w b v0 v1 v2 v3 v4 v5) (u : Value) : Box6 (w.setCell ⟨b, 0, none⟩ u) b u v1 v2 v3 v4 v5 :=
  ⟨World.cell?_setCell_same _ _ _ h.c0, by rw [cellOff (by omega)]; exact h.c1, by rw [cellOff (by omega)]; exact h.c2, by rw [cellOff (by omega)]; exact h.c3, by rw [cellOff (by omega)]; exact h.c4, by rw [cellOff (by omega)]; exact h.c5, fun j => by simp [h.f j]⟩
theorem Box6.set1 (h : Box6 w b v0 v1 v2 v3 v4 v5) (u : Value) : Box6 (w.setCell ⟨b, 1, none⟩ u) b v0 u v2 v3 v4 v5 :=
  ⟨by rw [cellOff (by omega)]; exact h.c0, World.cell?_setCell_same _ _ _ h.c1, by rw [cellOff (by omega)]; exact h.c2, by rw [cellOff (by omega)]; exact h.c3, by rw [cellOff (by omega)]; exact h.c4, by rw [cellOff (by omega)]; exact h.c5, fun j => by simp [h.f j]⟩
theorem Box6.set2 (h : Box6 w b v0 v1 v2 v3 v4 v5) (u : Value) : Box6 (w.setCell ⟨b, 2, none⟩ u) b v0 v1 u v3 v4 v5 :=
  ⟨by rw [cellOff (by omega)]; exact h.c0, by rw [cellOff (by omega)]; exact h.c1, World.cell?_setCell_same _ _ _ h.c2, by rw [cellOff (by omega)]; exact h.c3, by rw [cellOff (by omega)]; exact h.c4, by rw [cellOff (by omega)]; exact h.c5, fun j => by simp [h.f j]⟩
theorem Box6.set3 (h : Box6 w b v0 v1 v2 v3 v4 v5) (u : Value) : Box6 (w.setCell ⟨b, 3, none⟩ u) b v0 v1 v2 u v4 v5 :=
  ⟨by rw [cellOff (by omega)]; exact h.c0, by rw [cellOff (by omega)]; exact h.c1, by rw [cellOff (by omega)]; exact h.c2, World.cell?_setCell_same _ _ _ h.c3, by rw [cellOff (by omega)]; exact h.c4, by rw [cellOff (by omega)]; exact h.c5, fun j => by simp [h.f j]⟩
end
/-- a sender in the heap: its box s, its row wv of texts; both among the blocks N that are written -/
structure SndIs (w : World) (N : Nat → Prop) (s : Nat) (wv : Value) (us : List Value) (d : SndD) : Prop where
  box : Box6 w s (.int .u64 d.base) wv (.int .u32 d.told) (.int .u32 d.ever) (.int .u64 d.once) (.int .u64 d.more)
  row : RowO w 0 wv us
  it : ItemsAt w N us d.wait
  ns : N s
  nw : ∀ g, wv.ownBlock = some g → N g ∧ g ≠ s
  b0 : d.base < 9223372036854775808
  b2 : d.told < 4294967296
  b3 : d.ever < 4294967296
  b4 : d.once < 18446744073709551616
  b5 : d.more < 18446744073709551616
  bl : d.wait.length ≤ 128
/-- the blocks that a sender's own functions write -/
def fpS (s : Nat) (wv : Value) (b : Nat) : Prop := b = s ∨ wv.ownBlock = some b
theorem SndIs.mut {w w' : World} {N G : Nat → Prop} {s : Nat} {wv : Value} {us : List Value} {d : SndD} (h : SndIs w N s wv us d) (hm : Mut G w w') (hG : ∀ b, b < w.heap.size → G b → N b) (hf : ∀ b, fpS s wv b → ¬ G b) : SndIs w' N s wv us d :=
  ⟨h.box.mut hm (hf s (.inl rfl)), h.row.mutN hm fun g e => hf g (.inr e), h.it.mut hm hG, h.ns, h.nw, h.b0, h.b2, h.b3, h.b4, h.b5, h.bl⟩
theorem SndIs.ext {w w' : World} {N : Nat → Prop} {s : Nat} {wv : Value} {us : List Value} {d : SndD} (h : SndIs w N s wv us d) (hb : Below w.heap.size w w') : SndIs w' N s wv us d :=
  h.mut (Mut.of_below (F := fun _ => False) hb) (fun _ _ e => e.elim) fun _ _ e => e
theorem SndIs.grow {w : World} {N N' : Nat → Prop} {s : Nat} {wv : Value} {us : List Value} {d : SndD} (h : SndIs w N s wv us d) (h1 : ∀ b, N b → N' b) (h2 : ∀ b, N' b → N b ∨ w.heap.size ≤ b) : SndIs w N' s wv us d :=
  ⟨h.box, h.row, h.it.grow h2, h1 _ h.ns, fun g e => ⟨h1 _ (h.nw g e).1, (h.nw g e).2⟩, h.b0, h.b2, h.b3, h.b4, h.b5, h.bl⟩
def sndNew : SndD := ⟨1, [], 0, 0, 0, 0⟩
theorem SndIs.made (w : World) (t : TypeId) (N : Nat → Prop) (hN : N w.heap.size) : SndIs (w.alloc (.cells #[.int .u64 1, .slice none 0 0, .int .u32 0, .int .u32 0, .int .u64 0, .int .u64 0] t)) N w.heap.size (.slice none 0 0) [] sndNew :=
  ⟨Box6.made w t _ _ _ _ _ _, RowO.nil _ _, ItemsAt.nil _ _, hN, fun g e => (by cases e), by decide, by decide, by decide, by decide, by decide, by decide⟩
end Go.Proofs.YtehagnbphamjhaaGreatDoor

namespace Go.Proofs.YtehagnbphamjhaaGreatDoor
open Go.RowKit
/-! ### window: New, Tick, Len, Next -/
theorem SndIs.lit {w : World} {N : Nat → Prop} {s : Nat} {wv : Value} {us : List Value} {d : SndD} (h : SndIs w N s wv us d) : ∃ a c, wv = .slice a d.wait.length c ∧ d.wait.length ≤ c := by
  obtain ⟨a, c, e, hc⟩ := h.row.sli
  rw [h.it.1] at e hc
  exact ⟨a, c, e, hc⟩
end Go.Proofs.YtehagnbphamjhaaGreatDoor

namespace Go.Proofs.YtehagnbphamjhaaGreatDoor
open Go.RowKit
/-! ### window: Put -/
/-- what Put leaves -/
structure PutR (w w' : World) (N : Nat → Prop) (s : Nat) (wv : Value) (d : SndD) (wv' : Value) : Prop where
  is : ∃ us', SndIs w' (fun b => N b ∨ wv'.ownBlock = some b) s wv' us' d
  new : ∀ g, wv'.ownBlock = some g → wv.ownBlock = some g ∨ w.heap.size ≤ g
  mt : Mut (fpS s wv) w w'
theorem PutR.same {w w' : World} {N : Nat → Prop} {s : Nat} {wv : Value} {us : List Value} {d : SndD} (h : SndIs w N s wv us d) (hb : Below w.heap.size w w') : PutR w w' N s wv d wv :=
  ⟨⟨us, (h.ext hb).grow (fun b e => .inl e) fun b e => .inl (e.elim id fun e => (h.nw b e).1)⟩, fun g e => .inl e, Mut.of_below hb⟩
theorem PutR.put {w w2 w3 w4 : World} {N : Nat → Prop} {s : Nat} {wv wv' u : Value} {us : List Value} {d : SndD} {bs : List Nat} (h : SndIs w N s wv us d) (hN : ∀ b, N b → b < w.heap.size) (hb2 : Below w.heap.size w w2) (hu : OwnB w2 w.heap.size u bs) (hx : ∀ x ∈ bs, x < 256) (hb3 : Below w2.heap.size w2 w3) (hrow : RowO w4 0 wv' (us ++ [u])) (hm : Mut (fun g => wv.ownBlock = some g) w3 w4) (hnew : ∀ g, wv'.ownBlock = some g → wv.ownBlock = some g ∨ w3.heap.size ≤ g) (hl : d.wait.length < 128) :
    PutR w (w4.setCell ⟨s, 1, none⟩ wv') N s wv { d with wait := d.wait ++ [bs] } wv' ∧ w4.cell? ⟨s, 1, none⟩ = some wv ∧ w4.frozen? ⟨s, 1, none⟩ = false := by
  have hs23 := hb3.size
  have hs12 := hb2.size
  have hbb : Below w.heap.size w w3 := hb2.trans (hb3.mono hs12)
  have hm4 : Mut (fun g => wv.ownBlock = some g) w w4 := (Mut.of_below hbb).trans ⟨hm.os, hm.tape, hm.output, hm.size, hm.block⟩
  have hsl := h.box.lt
  have hsn : ¬ (wv.ownBlock = some s) := fun e => (h.nw s e).2 rfl
  have hbox := h.box.mut hm4 hsn
  have hms : Mut (fun k => k = s) w4 (w4.setCell ⟨s, 1, none⟩ wv') := mut1
  have hmN : Mut (fpS s wv) w (w4.setCell ⟨s, 1, none⟩ wv') := (hm4.mono fun k _ e => .inr e).trans (hms.mono fun k _ e => .inl e)
  have hNb : ∀ b, fpS s wv b → N b := fun b e => by
    rcases e with e | e
    · rw [e]; exact h.ns
    · exact (h.nw b e).1
  have hnw : ∀ g, wv'.ownBlock = some g → wv.ownBlock = some g ∨ w.heap.size ≤ g := fun g e => (hnew g e).imp id (fun h => by omega)
  have hit : ItemsAt (w4.setCell ⟨s, 1, none⟩ wv') (fun b => N b ∨ wv'.ownBlock = some b) us d.wait := by
    refine ItemsAt.mut (w := w) (G := fpS s wv) (h.it.grow fun b e => ?_) hmN fun b _ e => .inl (hNb b e)
    rcases e with e | e
    · exact .inl e
    · rcases hnw b e with e | e
      · exact .inl (h.nw b e).1
      · exact .inr e
  have hi2 : ItemAt w2 (fun b => N b ∨ wv'.ownBlock = some b) u bs := ItemAt.own hu hx fun b h1 h2 e => by
    rcases e with e | e
    · have := hN b e; omega
    · rcases hnew b e with e | e
      · have := hN b (h.nw b e).1; omega
      · omega
  have hi4 : ItemAt (w4.setCell ⟨s, 1, none⟩ wv') (fun b => N b ∨ wv'.ownBlock = some b) u bs := by
    have h3 := hi2.mut (Mut.of_below (F := fun _ => False) hb3) fun b _ e => e.elim
    have hm34 : Mut (fpS s wv) w3 (w4.setCell ⟨s, 1, none⟩ wv') := (hm.mono fun k _ e => .inr e).trans (hms.mono fun k _ e => .inl e)
    exact h3.mut hm34 fun b _ e => .inl (hNb b e)
  refine ⟨⟨⟨us ++ [u], hbox.set1 _, hrow.mutN hms fun g e => fun e2 => ?_, hit.snoc hi4, .inl h.ns, fun g e => ⟨.inr e, ?_⟩, h.b0, h.b2, h.b3, h.b4, h.b5, by show (d.wait ++ [bs]).length ≤ 128; simp; omega⟩, hnw, hmN⟩, hbox.c1, hbox.f 1⟩
  · have e2 : g = s := e2
    rcases hnw g e with e | e
    · exact (h.nw g e).2 e2
    · omega
  · rcases hnw g e with e | e
    · exact (h.nw g e).2
    · omega
end Go.Proofs.YtehagnbphamjhaaGreatDoor

namespace Go.Proofs.YtehagnbphamjhaaGreatDoor
open Go.RowKit
/-! ### own rows of elements of several cells; what is due -/
/-- a slice value that owns a row of elements of k cells each -/
structure OwnK (w : World) (base : Nat) (e : TypeId) (k : Nat) (v : Value) (xs : List (List Value)) : Prop where
  row : w.ownsRow base e k v xs.length xs.flatten
  el : ∀ x ∈ xs, x.length = k ∧ ∀ u ∈ x, u.oneCell' = true
section
variable {w w' : World} {base k : Nat} {e : TypeId} {v : Value} {xs : List (List Value)}
theorem OwnK.nil (w : World) (base : Nat) (e : TypeId) (k : Nat) : OwnK w base e k (.slice none 0 0) [] := ⟨World.ownsRow_nil _ _ _ _, fun x h => by simp at h⟩
theorem OwnK.blk (h : OwnK w base e k v xs) {g : Nat} (hg : v.ownBlock = some g) : base ≤ g ∧ g < w.heap.size := World.ownsRow.lt h.row g hg
theorem OwnK.sli (h : OwnK w base e k v xs) : ∃ a c, v = .slice a xs.length c ∧ xs.length ≤ c := by
  rcases h.row.2 with ⟨rfl, hn⟩ | ⟨g, cap, cur, rfl, -, -, h1, -⟩
  · exact ⟨_, _, by rw [hn], by omega⟩
  · exact ⟨_, _, rfl, h1⟩
theorem OwnK.mut {G : Nat → Prop} (h : OwnK w base e k v xs) (hm : Mut G w w') (hG : ∀ g, v.ownBlock = some g → ¬ G g) : OwnK w' base e k v xs := by
  refine ⟨⟨h.row.1, ?_⟩, h.el⟩
  rcases h.row.2 with hn | ⟨g, cap, cur, rfl, hbb, hgg, rest⟩
  · exact .inl hn
  · exact .inr ⟨g, cap, cur, rfl, hbb, (hm.block g (Array.getElem?_eq_some_iff.1 hgg).1 (hG g rfl)).trans hgg, rest⟩
theorem OwnK.ext (h : OwnK w base e k v xs) (hb : Below w.heap.size w w') : OwnK w' base e k v xs := h.mut (Mut.of_below (F := fun _ => False) hb) fun _ _ e => e
theorem OwnK.mono {b' : Nat} (h : OwnK w base e k v xs) (hb : b' ≤ base) : OwnK w b' e k v xs := by
  refine ⟨⟨h.row.1, ?_⟩, h.el⟩
  rcases h.row.2 with hn | ⟨g, cap, cur, rfl, hbb, rest⟩
  · exact .inl hn
  · exact .inr ⟨g, cap, cur, rfl, by omega, rest⟩
theorem flatten_get {xs : List (List Value)} {k : Nat} (h : ∀ x ∈ xs, x.length = k) : ∀ {i j : Nat} {x : List Value} {u : Value}, xs[i]? = some x → x[j]? = some u → xs.flatten[i * k + j]? = some u := by
  induction xs with
  | nil => intro i j x u hi; simp at hi
  | cons y l ih =>
    intro i j x u hi hj
    have hy := h y (by simp)
    cases i with
    | zero =>
      simp at hi; subst hi
      have : j < y.length := (List.getElem?_eq_some_iff.1 hj).1
      rw [List.flatten_cons, Nat.zero_mul, Nat.zero_add, List.getElem?_append_left this]; exact hj
    | succ i =>
      rw [List.flatten_cons, List.getElem?_append_right (by rw [hy, Nat.add_mul]; omega), hy, show (i + 1) * k + j - k = i * k + j by rw [Nat.add_mul]; omega]
      exact ih (fun x hx => h x (by simp [hx])) (by simpa using hi) hj
theorem OwnK.at (h : OwnK w base e k v xs) {i : Nat} {x : List Value} (hi : xs[i]? = some x) : ∃ g c, v = .slice (some ⟨g, 0, none⟩) xs.length c ∧ base ≤ g ∧ g < w.heap.size ∧ ∀ j u, x[j]? = some u → w.cell? ⟨g, i * k + j, none⟩ = some u := by
  have hcells := fun g => World.ownsRow.cells (g := g) h.row
  have hlt := (List.getElem?_eq_some_iff.1 hi).1
  rcases h.row.2 with ⟨rfl, hn⟩ | ⟨g, cap, cur, rfl, hb, hg, hnc, -⟩
  · omega
  · refine ⟨g, cap, rfl, hb, (Array.getElem?_eq_some_iff.1 hg).1, fun j u hj => ?_⟩
    have := hcells g rfl _ _ (flatten_get (fun x hx => (h.el x hx).1) hi hj)
    rw [addr_add, Nat.zero_add] at this
    exact this
/-- one element more, out of a box of its own -/
theorem OwnK.append (h : OwnK w base e k v xs) {P : Program} (t ty : TypeId) (i : TypeInfo) (z : Value) (bytes : Nat) (ht : P.underlying t = some (.slice e)) (hi : P.info? e = some i) (hz : i.zero = some z) (hsize : i.size = k) (hby : i.bytes = bytes) (hzs : z.cells.size = k) (hk : 0 < k)
    {b c : Nat} {x : List Value} (hx : x.length = k) (h1 : ∀ u ∈ x, u.oneCell' = true) (hc : ∀ j u, x[j]? = some u → w.cell? ⟨b, j, none⟩ = some u) (hl : xs.length + 1 ≤ 1000000) (hbt : bytes ≤ 1000) (hbase : base ≤ w.heap.size) :
    ∃ v' w', (Builtin.append_ #[t, t] ty #[v, .slice (some ⟨b, 0, none⟩) 1 c]).run P w = .ok v' w' ∧ OwnK w' base e k v' (xs ++ [x]) ∧ Mut (fun g => v.ownBlock = some g) w w' ∧ (∀ g, v'.ownBlock = some g → v.ownBlock = some g ∨ w.heap.size ≤ g) ∧ v' ≠ .slice none 0 0 := by
  have hby2 : (xs.length + 1) * bytes ≤ 140737488355328 := Nat.le_trans (Nat.mul_le_mul hl hbt) (by decide)
  obtain ⟨v', w', hr, h2, h3, h4, h5⟩ := run_append_own_at (P := P) w base t ty e i z k bytes ht hi hz hsize hby hzs hk v xs.length xs.flatten h.row ⟨b, 0, none⟩ 1 c x (by omega) (fun j u hj => by rw [addr_add, Nat.zero_add]; exact hc j u hj) h1 (by unfold maxLen; omega) hby2 hbase
  refine ⟨v', w', hr, ⟨by simpa using h2, fun y hy => ?_⟩, ⟨h3.os, h3.tape, h3.output, h3.size, fun q hq hf => h3.block q hq fun e => hf e.symm⟩, fun g hg => ?_, fun e => ?_⟩
  · rcases List.mem_append.1 hy with hy | hy
    · exact h.el y hy
    · rw [List.mem_singleton.1 hy]; exact ⟨hx, h1⟩
  · rcases h5 with h5 | h5
    · exact .inl (by rw [← h5]; exact hg)
    · rw [h5] at hg; cases hg; exact .inr (Nat.le_refl _)
  · exact absurd (h4.1 e).2 (by decide)
end
/-! the bits -/
/-- elements whose last cell is a text that stays -/
def ElsAt (w : World) (N : Nat → Prop) (xs : List (List Value)) (ps : List (List Value × List Nat)) : Prop :=
  xs.length = ps.length ∧ ∀ k (h : k < ps.length), ∃ u, xs[k]? = some (ps[k].1 ++ [u]) ∧ ItemAt w N u ps[k].2
theorem ElsAt.nil (w : World) (N : Nat → Prop) : ElsAt w N [] [] := ⟨rfl, fun k h => by simp at h⟩
theorem ElsAt.mut {w w' : World} {N G : Nat → Prop} {xs : List (List Value)} {ps : List (List Value × List Nat)} (h : ElsAt w N xs ps) (hm : Mut G w w') (hG : ∀ b, b < w.heap.size → G b → N b) : ElsAt w' N xs ps :=
  ⟨h.1, fun k hk => by obtain ⟨u, h1, h2⟩ := h.2 k hk; exact ⟨u, h1, h2.mut hm hG⟩⟩
theorem ElsAt.grow {w : World} {N N' : Nat → Prop} {xs : List (List Value)} {ps : List (List Value × List Nat)} (h : ElsAt w N xs ps) (hN : ∀ b, N' b → N b ∨ w.heap.size ≤ b) : ElsAt w N' xs ps :=
  ⟨h.1, fun k hk => by obtain ⟨u, h1, h2⟩ := h.2 k hk; exact ⟨u, h1, h2.grow hN⟩⟩
theorem ElsAt.snoc {w : World} {N : Nat → Prop} {xs : List (List Value)} {ps : List (List Value × List Nat)} {u : Value} {q : List Value} {bs : List Nat} (h : ElsAt w N xs ps) (hu : ItemAt w N u bs) : ElsAt w N (xs ++ [q ++ [u]]) (ps ++ [(q, bs)]) := by
  refine ⟨by simp [h.1], fun k hk => ?_⟩
  by_cases hlt : k < ps.length
  · obtain ⟨x, h1, h2⟩ := h.2 k hlt
    exact ⟨x, by rw [List.getElem?_append_left (by rw [h.1]; exact hlt), List.getElem_append_left hlt]; exact h1, by rw [List.getElem_append_left hlt]; exact h2⟩
  · have hk2 : k = ps.length := by simp at hk; omega
    subst hk2
    refine ⟨u, by rw [List.getElem?_append_right (by rw [h.1]; exact Nat.le_refl _), h.1]; simp, ?_⟩
    rw [List.getElem_append_right (Nat.le_refl _)]
    simpa using hu
end Go.Proofs.YtehagnbphamjhaaGreatDoor

namespace Go.Proofs.YtehagnbphamjhaaGreatDoor
open Go.RowKit
/-! ### boxes of four cells; a row of one; several results -/
structure Bx4 (w : World) (b : Nat) (v0 v1 v2 v3 : Value) : Prop where
  c0 : w.cell? ⟨b, 0, none⟩ = some v0
  c1 : w.cell? ⟨b, 1, none⟩ = some v1
  c2 : w.cell? ⟨b, 2, none⟩ = some v2
  c3 : w.cell? ⟨b, 3, none⟩ = some v3
  f : ∀ j, w.frozen? ⟨b, j, none⟩ = false
section
variable {w w' : World} {b : Nat} {v0 v1 v2 v3 : Value}
theorem Bx4.lt (h : Bx4 w b v0 v1 v2 v3) : b < w.heap.size := World.block_lt_of_cell? w _ h.c0
theorem Bx4.mut {G : Nat → Prop} (h : Bx4 w b v0 v1 v2 v3) (hm : Mut G w w') (hG : ¬ G b) : Bx4 w' b v0 v1 v2 v3 :=
  ⟨(hm.cell h.lt hG).trans h.c0, (hm.cell h.lt hG).trans h.c1, (hm.cell h.lt hG).trans h.c2, (hm.cell h.lt hG).trans h.c3, fun j => (World.frozen?_of_block (w := w) (a := ⟨b, j, none⟩) (hm.block b h.lt hG)).trans (h.f j)⟩
theorem Bx4.ext (h : Bx4 w b v0 v1 v2 v3) (hb : Below w.heap.size w w') : Bx4 w' b v0 v1 v2 v3 := h.mut (Mut.of_below (F := fun _ => False) hb) fun e => e
theorem Bx4.made (w : World) (t : TypeId) (v0 v1 v2 v3 : Value) : Bx4 (w.alloc (.cells #[v0, v1, v2, v3] t)) w.heap.size v0 v1 v2 v3 := ⟨by simp, by simp, by simp, by simp, fun j => by simp⟩
theorem offB {w : World} {b q j : Nat} {x : Value} (hc : j ≠ q) : (w.setCell ⟨b, q, none⟩ x).cell? ⟨b, j, none⟩ = w.cell? ⟨b, j, none⟩ :=
  World.cell?_setCell_other _ _ _ _ (by intro e; injection e with e1 e2; exact hc e2.symm)
theorem Bx4.set0 (h : Bx4 w b v0 v1 v2 v3) (u : Value) : Bx4 (w.setCell ⟨b, 0, none⟩ u) b u v1 v2 v3 :=
  ⟨World.cell?_setCell_same _ _ _ h.c0, by rw [offB (by omega)]; exact h.c1, by rw [offB (by omega)]; exact h.c2, by rw [offB (by omega)]; exact h.c3, fun j => by simp [h.f j]⟩
theorem Bx4.set1 (h : Bx4 w b v0 v1 v2 v3) (u : Value) : Bx4 (w.setCell ⟨b, 1, none⟩ u) b v0 u v2 v3 :=
  ⟨by rw [offB (by omega)]; exact h.c0, World.cell?_setCell_same _ _ _ h.c1, by rw [offB (by omega)]; exact h.c2, by rw [offB (by omega)]; exact h.c3, fun j => by simp [h.f j]⟩
theorem Bx4.set2 (h : Bx4 w b v0 v1 v2 v3) (u : Value) : Bx4 (w.setCell ⟨b, 2, none⟩ u) b v0 v1 u v3 :=
  ⟨by rw [offB (by omega)]; exact h.c0, by rw [offB (by omega)]; exact h.c1, World.cell?_setCell_same _ _ _ h.c2, by rw [offB (by omega)]; exact h.c3, fun j => by simp [h.f j]⟩
theorem Bx4.set3 (h : Bx4 w b v0 v1 v2 v3) (u : Value) : Bx4 (w.setCell ⟨b, 3, none⟩ u) b v0 v1 v2 u :=
  ⟨by rw [offB (by omega)]; exact h.c0, by rw [offB (by omega)]; exact h.c1, by rw [offB (by omega)]; exact h.c2, World.cell?_setCell_same _ _ _ h.c3, fun j => by simp [h.f j]⟩
theorem Bx4.all (h : Bx4 w b v0 v1 v2 v3) (u0 u1 u2 u3 : Value) : Bx4 ((((w.setCell ⟨b, 0, none⟩ u0).setCell ⟨b, 1, none⟩ u1).setCell ⟨b, 2, none⟩ u2).setCell ⟨b, 3, none⟩ u3) b u0 u1 u2 u3 := (((h.set0 u0).set1 u1).set2 u2).set3 u3
theorem Bx4.range (h : Bx4 w b v0 v1 v2 v3) : w.rangeAt b 0 [v0, v1, v2, v3] := fun j v hj => by
  rw [Nat.zero_add]
  match j, hj with
  | 0, hj => simp at hj; subst hj; exact h.c0
  | 1, hj => simp at hj; subst hj; exact h.c1
  | 2, hj => simp at hj; subst hj; exact h.c2
  | 3, hj => simp at hj; subst hj; exact h.c3
  | j + 4, hj => simp at hj
theorem mut_set {G : Nat → Prop} {w0 : World} (h : Mut G w0 w) (q : Nat) (j : Nat) (u : Value) (hq : G q) : Mut G w0 (w.setCell ⟨q, j, none⟩ u) :=
  h.trans ((mut1 (w := w) (s := q) (i := j) (v := u)).mono fun k _ e => by rw [e]; exact hq)
theorem mut_all (w : World) (b : Nat) (u0 u1 u2 u3 : Value) : Mut (fun k => k = b) w ((((w.setCell ⟨b, 0, none⟩ u0).setCell ⟨b, 1, none⟩ u1).setCell ⟨b, 2, none⟩ u2).setCell ⟨b, 3, none⟩ u3) :=
  (((mut1 (w := w) (s := b) (i := 0) (v := u0)).trans (mut1 (s := b) (i := 1) (v := u1))).trans (mut1 (s := b) (i := 2) (v := u2))).trans (mut1 (s := b) (i := 3) (v := u3))
theorem below_all {B : Nat} {w0 : World} (h : Below B w0 w) (hb : B ≤ b) (u0 u1 u2 u3 : Value) : Below B w0 ((((w.setCell ⟨b, 0, none⟩ u0).setCell ⟨b, 1, none⟩ u1).setCell ⟨b, 2, none⟩ u2).setCell ⟨b, 3, none⟩ u3) :=
  (((h.setCell (p := ⟨b, 0, none⟩) hb _).setCell (p := ⟨b, 1, none⟩) hb _).setCell (p := ⟨b, 2, none⟩) hb _).setCell (p := ⟨b, 3, none⟩) hb _
end
theorem OwnK.one (w : World) (base : Nat) (e : TypeId) (u : Value) (hb : base ≤ w.heap.size) (hu : u.oneCell' = true) : OwnK (w.alloc (.cells #[u] e)) base e 1 (.slice (some ⟨w.heap.size, 0, none⟩) 1 1) [[u]] :=
  ⟨⟨by simp, .inr ⟨w.heap.size, 1, #[u], rfl, hb, heap_alloc_new w _, by simp, by unfold maxLen; omega, rfl, by simp⟩⟩, fun x hx => by
    rw [List.mem_singleton.1 hx]
    exact ⟨rfl, fun v hv => by rw [List.mem_singleton.1 hv]; exact hu⟩⟩
theorem wpList_appendEP {w : World} {ops : Array Oper} {rest : List Oper} {o : Oper} {a : Go.Act} {Q : Exit → Go.Act → World → Prop} {s x : Operand} {base k bytes : Nat} {T E : TypeId} {i0 : TypeInfo} {z : Value} {v : Value} {xs : List (List Value)} {el : List Value} {b c : Nat}
    (ht : Tryz.prog.underlying T = some (.slice E)) (hi : Tryz.prog.info? E = some i0) (hz0 : i0.zero = some z) (hz1 : i0.size = k) (hz2 : i0.bytes = bytes) (hzs : z.cells.size = k) (hk : 0 < k) (hbt : bytes ≤ 1000)
    (hown : OwnK w base E k v xs) (hel : el.length = k) (h1 : ∀ u ∈ el, u.oneCell' = true) (hc : ∀ j u, el[j]? = some u → w.cell? ⟨b, j, none⟩ = some u) (hl : xs.length + 1 ≤ 1000000) (hbase : base ≤ w.heap.size) (hg : o.guard = none)
    (ho : o.op = .call { callee := .builtin .append, args := #[s, x], argTypes := #[T, T] }) (hs : a.eval s = v) (hx : a.eval x = .slice (some ⟨b, 0, none⟩) 1 c)
    (h : ∀ v' w', OwnK w' base E k v' (xs ++ [el]) → Mut (fun g => v.ownBlock = some g) w w' → (∀ g, v'.ownBlock = some g → v.ownBlock = some g ∨ w.heap.size ≤ g) → wpList Tryz.prog ops Q rest (a.put o.dst v') w') : wpList Tryz.prog ops Q (o :: rest) a w := by
  obtain ⟨v', w', hr, h2, h3, h4, -⟩ := hown.append (c := c) T o.type i0 z bytes ht hi hz0 hz1 hz2 hzs hk hel h1 hc hl hbt hbase
  exact Lib.wpList_append_run w hg s x T T ho _ _ hs hx v' w' hr (h v' w' h2 h3 h4)
theorem results_cell_tmp {P : Program} {fn : Func} {p q : Tmp} {ty : TypeId} (h : fn.results = #[.cell p ty, .tmp q]) (tmps : Array Value) (w : World) (b : Nat) (cs : List Value) (d : TypeDesc)
    (hp : tmps.getD p undef = .pointer (some ⟨b, 0, none⟩)) (hc : w.rangeAt b 0 cs)
    (hu : P.underlying ty = some d) (hd : d.isRow = true) (hi : (P.info? ty).map (·.size) = some cs.length) :
    (results fn tmps).run P w = .ok (.tuple #[.agg cs.toArray, tmps.getD q undef]) w := by
  have hp' : tmps[p]?.getD undef = .pointer (some ⟨b, 0, none⟩) := by simpa using hp
  simp [results, h, hp', asAddr, run_loadVar_mid w b 0 ty cs d hc hu hd hi]
theorem infoStepL (v0 v1 v2 v3 : Value) : (Tryz.prog.info? 62).map (·.size) = some [v0, v1, v2, v3].length := by kernel_rfl
end Go.Proofs.YtehagnbphamjhaaGreatDoor

namespace Go.Proofs.YtehagnbphamjhaaGreatDoor
open Go.RowKit
/-! ### state: may, Board, Load, Pack; inbox, stab: new -/
theorem below_mutN {G : Nat → Prop} {w0 w w' : World} (h : Below w0.heap.size w0 w) (hm : Mut G w w') (hG : ∀ k, G k → w0.heap.size ≤ k) : Below w0.heap.size w0 w' :=
  h.trans ⟨hm.os, hm.tape, hm.output, hm.size, fun k hk => hm.block k (Nat.lt_of_lt_of_le hk h.size) fun e => by have := hG k e; omega⟩
theorem index8 (s0 s1 s2 s3 s4 s5 s6 s7 m : ByteArray) (k : Nat) (h : [s0, s1, s2, s3, s4, s5, s6, s7][k]? = some m) (z : Int) (hz : z = (k : Int)) (W : World) :
    (Instr.index 182 (.agg #[.string s0, .string s1, .string s2, .string s3, .string s4, .string s5, .string s6, .string s7]) (.int .i64 z)).run Tryz.prog W = .ok (.string m) W := by
  have hs : ∀ W, (sizeOf 9).run Tryz.prog W = .ok 1 W := fun W => Tryz.sizeOf9 W
  subst hz
  match k, h with
  | 0, h => cases h; simp [Instr.index, run_underlying Tryz.underlying182, hs, Result.andThen, asIntOf, part]
  | 1, h => cases h; simp [Instr.index, run_underlying Tryz.underlying182, hs, Result.andThen, asIntOf, part]
  | 2, h => cases h; simp [Instr.index, run_underlying Tryz.underlying182, hs, Result.andThen, asIntOf, part]
  | 3, h => cases h; simp [Instr.index, run_underlying Tryz.underlying182, hs, Result.andThen, asIntOf, part]
  | 4, h => cases h; simp [Instr.index, run_underlying Tryz.underlying182, hs, Result.andThen, asIntOf, part]
  | 5, h => cases h; simp [Instr.index, run_underlying Tryz.underlying182, hs, Result.andThen, asIntOf, part]
  | 6, h => cases h; simp [Instr.index, run_underlying Tryz.underlying182, hs, Result.andThen, asIntOf, part]
  | 7, h => cases h; simp [Instr.index, run_underlying Tryz.underlying182, hs, Result.andThen, asIntOf, part]
/-- a board's eight texts -/
abbrev bdA (s0 s1 s2 s3 s4 s5 s6 s7 : ByteArray) : Value := .agg #[.string s0, .string s1, .string s2, .string s3, .string s4, .string s5, .string s6, .string s7]
def BdOk (l : List ByteArray) : Prop := ∀ (k : Nat) (m : ByteArray), l[k]? = some m → m.size ≤ 16
set_option maxRecDepth 100000 in
set_option maxHeartbeats 3200000 in
theorem boardMay_any {s0 s1 s2 s3 s4 s5 s6 s7 : ByteArray} (h : BdOk [s0, s1, s2, s3, s4, s5, s6, s7]) (w : World) :
    Calls Tryz.prog 197 #[bdA s0 s1 s2 s3 s4 s5 s6 s7] w fun e w' => e = .returned (.bool true) ∧ Below w.heap.size w w' := by
  have H := hid h
  clear h
  have hix := fun (m : ByteArray) (k : Nat) (hk : [s0, s1, s2, s3, s4, s5, s6, s7][k]? = some m) (W : World) => index8 s0 s1 s2 s3 s4 s5 s6 s7 m k hk (k : Int) rfl W
  have HI := hid hix
  clear hix
  go_enter Tryz.func197, Tryz.ntmps197
  go_wp2
  go_loopw [6] (fun i wr => ∃ (k : Nat), k ≤ 8 ∧ i = .int .i64 k ∧ Hid (Below w.heap.size w wr)) (fun i _ => 8 - (intOf i).toNat)
  case atStart => exact ⟨0, Nat.zero_le _, rfl, hid ((Below.refl _ _).alloc (Nat.le_refl _) _)⟩
  case round =>
    obtain ⟨k, hk, rfl, hb⟩ := hrel
    by_cases hlt : k < 8
    · have hlt' : decide ((k : Int) < 8) = true := by simp; omega
      obtain ⟨m, hm⟩ : ∃ m, [s0, s1, s2, s3, s4, s5, s6, s7][k]? = some m := ⟨_, List.getElem?_eq_getElem (by simp; omega)⟩
      have hi := HI.out m k hm
      have hz := H.out k m hm
      have hz' : decide ((m.size : Int) > 16) = false := by simp; omega
      clear hm hz
      go_wp2
      go_roundw
      case rel => exact ⟨k + 1, by omega, by go_num, hb⟩
      case measure => simp [intOf]; omega
    · have hlt' : decide ((k : Int) < 8) = false := by simp; omega
      go_wp2
      go_ret
      exact ⟨rfl, hb.out⟩
theorem results_cellQ {P : Program} {fn : Func} {p : Tmp} {ty : TypeId} (h : fn.results = #[.cell p ty]) (tmps : Array Value) (w : World) {b o : Nat} {cs : List Value} {d : TypeDesc}
    (hp : tmps.getD p undef = .pointer (some ⟨b, o, none⟩)) (hc : w.rangeAt b o cs)
    (hu : P.underlying ty = some d) (hd : d.isRow = true) (hi : (P.info? ty).map (·.size) = some cs.length) :
    (results fn tmps).run P w = .ok (.agg cs.toArray) w := by
  have hp' : tmps[p]?.getD undef = .pointer (some ⟨b, o, none⟩) := by simpa using hp
  simp [results, h, hp', asAddr, run_loadVar_mid w b o ty cs d hc hu hd hi]
abbrev bd8 (s0 s1 s2 s3 s4 s5 s6 s7 : ByteArray) : List Value := [.string s0, .string s1, .string s2, .string s3, .string s4, .string s5, .string s6, .string s7]
theorem infoBd (s0 s1 s2 s3 s4 s5 s6 s7 : ByteArray) : (Tryz.prog.info? 182).map (·.size) = some (bd8 s0 s1 s2 s3 s4 s5 s6 s7).length := by kernel_rfl
theorem bd8_range (w : World) (s0 s1 s2 s3 s4 s5 s6 s7 : ByteArray) : (w.alloc (.cells #[.string s0, .string s1, .string s2, .string s3, .string s4, .string s5, .string s6, .string s7] 182)).rangeAt w.heap.size 0 (bd8 s0 s1 s2 s3 s4 s5 s6 s7) := fun j v hj => by
  rw [Nat.zero_add]
  exact (BoxL.made w 182 (bd8 s0 s1 s2 s3 s4 s5 s6 s7)).cell hj
theorem board_any (s0 s1 s2 s3 s4 s5 s6 s7 : ByteArray) {w : World} {b : Nat} {c0 c1 c2 c3 c4 : Value} (hB : BoxL w b 302 [c0, c1, c2, c3, c4, .string s0, .string s1, .string s2, .string s3, .string s4, .string s5, .string s6, .string s7]) :
    Calls Tryz.prog 199 #[.pointer (some ⟨b, 0, none⟩)] w fun e w' => e = .returned (bdA s0 s1 s2 s3 s4 s5 s6 s7) ∧ Below w.heap.size w w' := by
  have q5 := hB.cell (j := 5) rfl
  have q6 := hB.cell (j := 6) rfl
  have q7 := hB.cell (j := 7) rfl
  have q8 := hB.cell (j := 8) rfl
  have q9 := hB.cell (j := 9) rfl
  have q10 := hB.cell (j := 10) rfl
  have q11 := hB.cell (j := 11) rfl
  have q12 := hB.cell (j := 12) rfl
  have hlt := hB.lt
  clear hB
  go_enter Tryz.func199, Tryz.ntmps199
  go_wp2
  exact bodyPost_ret (v := bdA s0 s1 s2 s3 s4 s5 s6 s7) (results_cellQ (b := w.heap.size) (o := 0) (cs := bd8 s0 s1 s2 s3 s4 s5 s6 s7) rfl _ _ rfl (bd8_range w s0 s1 s2 s3 s4 s5 s6 s7) Tryz.underlying182 rfl (infoBd _ _ _ _ _ _ _ _)) rfl ⟨rfl, (Below.refl _ _).alloc (Nat.le_refl _) _⟩
theorem BoxL.set {w : World} {b j : Nat} {t : TypeId} {cs : List Value} {v : Value} (h : BoxL w b t cs) : BoxL (w.setCell ⟨b, j, none⟩ v) b t (cs.set j v) := by
  unfold BoxL at h ⊢
  simp [World.setCell, Array.getElem?_modify, h]
set_option maxRecDepth 100000 in
set_option maxHeartbeats 3200000 in
theorem load_any (s0 s1 s2 s3 s4 s5 s6 s7 : ByteArray) (hs : BdOk [s0, s1, s2, s3, s4, s5, s6, s7]) {w : World} {b : Nat} {c0 c1 c2 c3 c4 c5 c6 c7 c8 c9 c10 c11 c12 : Value} (hB : BoxL w b 302 [c0, c1, c2, c3, c4, c5, c6, c7, c8, c9, c10, c11, c12]) :
    Calls Tryz.prog 145 #[.pointer (some ⟨b, 0, none⟩), bdA s0 s1 s2 s3 s4 s5 s6 s7] w fun e w' => e = .returned (.bool true) ∧ Mut (fun k => k = b) w w' ∧ BoxL w' b 302 [c0, c1, c2, c3, c4, .string s0, .string s1, .string s2, .string s3, .string s4, .string s5, .string s6, .string s7] := by
  have C1 := fun W => boardMay_any hs W
  have HB := hid hB
  have hlt := hB.lt
  clear hB
  go_enter Tryz.func145, Tryz.ntmps145
  go_wp2_with fail
  obtain ⟨w2, hw2⟩ : ∃ w2, w.alloc (.cells #[.string s0, .string s1, .string s2, .string s3, .string s4, .string s5, .string s6, .string s7] 182) = w2 := ⟨_, rfl⟩
  have H2 : Hid (BoxL w2 w.heap.size 182 (bd8 s0 s1 s2 s3 s4 s5 s6 s7)) := by rw [← hw2]; exact BoxL.made w _ _
  have B2 : Hid (Below w.heap.size w w2) := by rw [← hw2]; exact (Below.refl _ _).alloc (Nat.le_refl _) _
  rw [hw2]
  clear hw2
  refine (C1 _).mono ?_
  rintro e w3 ⟨rfl, hb3⟩
  have H3 := hid (H2.out.ext hb3)
  have B3 := hid (B2.out.trans (hb3.mono B2.out.size))
  have HB3 := hid (HB.out.ext B3.out)
  clear C1 hb3 HB H2 B2
  have q0 := H3.out.cell (j := 0) rfl
  have q1 := H3.out.cell (j := 1) rfl
  have q2 := H3.out.cell (j := 2) rfl
  have q3 := H3.out.cell (j := 3) rfl
  have q4 := H3.out.cell (j := 4) rfl
  have q5 := H3.out.cell (j := 5) rfl
  have q6 := H3.out.cell (j := 6) rfl
  have q7 := H3.out.cell (j := 7) rfl
  have r5 := HB3.out.cell (j := 5) rfl
  have r6 := HB3.out.cell (j := 6) rfl
  have r7 := HB3.out.cell (j := 7) rfl
  have r8 := HB3.out.cell (j := 8) rfl
  have r9 := HB3.out.cell (j := 9) rfl
  have r10 := HB3.out.cell (j := 10) rfl
  have r11 := HB3.out.cell (j := 11) rfl
  have r12 := HB3.out.cell (j := 12) rfl
  have fz : ∀ j, w3.frozen? ⟨b, j, none⟩ = false := HB3.out.frozen
  go_wp2_with fail
  go_ret
  refine ⟨rfl, ?_, ?_⟩
  · iterate 8 refine mut_set ?_ b _ _ rfl
    exact Mut.of_below B3.out
  · have h := (((((((HB3.out.set (j := 5) (v := .string s0)).set (j := 6) (v := .string s1)).set (j := 7) (v := .string s2)).set (j := 8) (v := .string s3)).set (j := 9) (v := .string s4)).set (j := 10) (v := .string s5)).set (j := 11) (v := .string s6)).set (j := 12) (v := .string s7)
    exact h
/-- what Pack writes -/
def bdF (l : List ByteArray) : List Nat := l.flatMap fun s => short s.size ++ s.data.toList.map UInt8.toNat
theorem bdF_len {l : List ByteArray} (h : ∀ s ∈ l, s.size ≤ 16) : (bdF l).length ≤ l.length * 26 := by
  induction l with
  | nil => simp [bdF]
  | cons s l ih =>
    have h1 := ih fun t ht => h t (List.mem_cons_of_mem _ ht)
    have h2 := h s (List.mem_cons_self ..)
    have h3 := short_len10 (n := s.size) (by omega)
    have h4 : s.data.toList.length = s.size := by simp
    unfold bdF at h1 ⊢
    simp only [List.flatMap_cons, List.length_append, List.length_map, List.length_cons] at h1 ⊢
    omega
theorem bdF_take {l : List ByteArray} {k : Nat} {m : ByteArray} (h : l[k]? = some m) : bdF (l.take (k + 1)) = bdF (l.take k) ++ (short m.size ++ m.data.toList.map UInt8.toNat) := by
  rw [List.take_add_one, h]
  simp [bdF]
theorem bytesW_row (w : World) (s : ByteArray) : ByteRow (Lib.bytesWorld w 5 s) (some ⟨w.heap.size, 0, none⟩) (s.data.toList.map UInt8.toNat) := by
  refine .inr ⟨w.heap.size, 0, rfl, by rw [Lib.bytesWorld_size]; omega, fun i hi => ?_⟩
  have hi' : i < s.size := by simpa using hi
  rw [Nat.zero_add, Lib.bytesWorld_cell w 5 s i hi']
  simp [List.getD, List.getElem?_eq_getElem (show i < s.data.toList.length by simpa using hi')]
theorem bytesW_below (w : World) (e : TypeId) (s : ByteArray) : Below w.heap.size w (Lib.bytesWorld w e s) := Lib.bytesWorld_below w e s
set_option maxRecDepth 100000 in
set_option maxHeartbeats 3200000 in
theorem pack_any {s0 s1 s2 s3 s4 s5 s6 s7 : ByteArray} (h : BdOk [s0, s1, s2, s3, s4, s5, s6, s7]) (w : World) :
    Calls Tryz.prog 198 #[bdA s0 s1 s2 s3 s4 s5 s6 s7] w fun e w' => ∃ v, e = .returned v ∧ OwnB w' w.heap.size v (bdF [s0, s1, s2, s3, s4, s5, s6, s7]) ∧ Below w.heap.size w w' := by
  have C1 := fun W => boardMay_any h W
  have HI := hid (fun (m : ByteArray) (k : Nat) (hk : [s0, s1, s2, s3, s4, s5, s6, s7][k]? = some m) (W : World) => index8 s0 s1 s2 s3 s4 s5 s6 s7 m k hk (k : Int) rfl W)
  have H := hid h
  obtain ⟨l, hl⟩ : ∃ l, [s0, s1, s2, s3, s4, s5, s6, s7] = l := ⟨_, rfl⟩
  have hll : l.length = 8 := by rw [← hl]; rfl
  have HL := hid hll
  rw [hl] at HI H ⊢
  clear h hl hll
  go_enter Tryz.func198, Tryz.ntmps198
  go_wp2_with fail
  obtain ⟨w2, hw2⟩ : ∃ w2, w.alloc (.cells #[.string s0, .string s1, .string s2, .string s3, .string s4, .string s5, .string s6, .string s7] 182) = w2 := ⟨_, rfl⟩
  have H2 : Hid (BoxL w2 w.heap.size 182 (bd8 s0 s1 s2 s3 s4 s5 s6 s7)) := by rw [← hw2]; exact BoxL.made w _ _
  have B2 : Hid (Below w.heap.size w w2) := by rw [← hw2]; exact (Below.refl _ _).alloc (Nat.le_refl _) _
  rw [hw2]
  clear hw2
  refine (C1 _).mono ?_
  rintro e w3 ⟨rfl, hb3⟩
  have hq : Below w3.heap.size w3 (w3.alloc (.cells #[.slice none 0 0] 382)) := (Below.refl _ _).alloc (Nat.le_refl _) _
  have H3 := (H2.out.ext hb3).ext hq
  have B3 := hid (B2.out.trans (hb3.mono B2.out.size))
  clear C1 hb3 H2 B2 hq
  have q0 := H3.cell (j := 0) rfl
  have q1 := H3.cell (j := 1) rfl
  have q2 := H3.cell (j := 2) rfl
  have q3 := H3.cell (j := 3) rfl
  have q4 := H3.cell (j := 4) rfl
  have q5 := H3.cell (j := 5) rfl
  have q6 := H3.cell (j := 6) rfl
  have q7 := H3.cell (j := 7) rfl
  clear H3
  go_wp2_with fail
  clear q0 q1 q2 q3 q4 q5 q6 q7
  obtain ⟨w4, hw4⟩ : ∃ w4, w3.alloc (.cells #[.slice none 0 0] 382) = w4 := ⟨_, rfl⟩
  have HW4 : Hid (WrIs w4 w3.heap.size (.slice none 0 0) []) := by rw [← hw4]; exact WrIs.made w3 _
  have B4 : Hid (Below w.heap.size w w4) := by rw [← hw4]; exact B3.out.alloc B3.out.size _
  have hs4 : w.heap.size ≤ w3.heap.size := B3.out.size
  have hlt4 : w3.heap.size < w4.heap.size := HW4.out.lt
  rw [hw4]
  clear hw4 B3
  obtain ⟨s, hs⟩ : ∃ s, w3.heap.size = s := ⟨_, rfl⟩
  rw [hs] at HW4 hs4 hlt4 ⊢
  clear hs
  go_loopw [12] (fun i wr => ∃ (k : Nat) (vk : Value), k ≤ 8 ∧ i = .int .i64 k ∧ Hid (Wrote w4 wr s vk (bdF (l.take k)))) (fun i _ => 8 - (intOf i).toNat)
  case atStart => exact ⟨0, .slice none 0 0, Nat.zero_le _, rfl, hid ⟨HW4.out, OwnB.nil _ _, Mut.refl _ _⟩⟩
  case round =>
    obtain ⟨k, vk, hk, rfl, hWk⟩ := hrel
    by_cases hlt : k < 8
    · have hlt' : decide ((k : Int) < 8) = true := by simp; omega
      obtain ⟨m, hm⟩ : ∃ m, l[k]? = some m := ⟨_, List.getElem?_eq_getElem (by rw [HL.out]; omega)⟩
      have hi := HI.out m k hm
      have hz := H.out k m hm
      obtain ⟨z, hzz⟩ : ∃ z, m.size = z := ⟨_, rfl⟩
      have hcv := Lib.run_convert_string_bytes (P := Tryz.prog) wr 9 55 5 m Tryz.underlying9 Tryz.underlying55 Tryz.underlying5
      rw [hzz] at hcv hz
      obtain ⟨W5, hW5⟩ : ∃ W5, Lib.bytesWorld wr 5 m = W5 := ⟨_, rfl⟩
      have hq : Below wr.heap.size wr W5 := by rw [← hW5]; exact bytesW_below wr _ m
      have hrow : ByteRow W5 (some ⟨wr.heap.size, 0, none⟩) (m.data.toList.map UInt8.toNat) := by rw [← hW5]; exact bytesW_row wr m
      rw [hW5] at hcv
      obtain ⟨cap, hcap⟩ : ∃ cap, grownCap wr z 0 5 = cap := ⟨_, rfl⟩
      rw [hcap] at hcv
      have hsz : s < wr.heap.size := hWk.out.wr.lt
      have HT : Hid (bdF (l.take (k + 1)) = bdF (l.take k) ++ (short z ++ m.data.toList.map UInt8.toNat)) := hid (by rw [← hzz]; exact bdF_take hm)
      have hlen : (bdF (l.take k)).length ≤ 68719476736 := by
        have h1 := bdF_len (l := l.take k) fun t ht => by
          obtain ⟨j, hj⟩ := List.mem_iff_getElem?.1 (List.mem_of_mem_take ht)
          exact H.out j t hj
        have h2 : (l.take k).length ≤ 8 := by rw [List.length_take]; omega
        omega
      have C2 : Hid (Calls Tryz.prog 262 #[.pointer (some ⟨s, 0, none⟩), .slice (some ⟨wr.heap.size, 0, none⟩) z cap] W5 fun e w' => e = .returned (.tuple #[]) ∧ ∃ v', Wrote W5 w' s v' (bdF (l.take (k + 1)))) := hid (by
        rw [HT.out]
        exact wBytes_any (hWk.out.wr.ext hq) hlen (hid (by simpa using hzz)) (by omega) hrow (fun b off h1 _ => by injection h1 with h1; injection h1 with h1; omega))
      clear hm hz hlen hrow hW5 hcap hzz HT
      go_wp2_with (go_at_call 262; refine C2.out.mono ?_; rintro e w5 ⟨rfl, v5, hw5⟩; have hw6 := hid (hWk.out.trans hq hw5); clear hw5)
      go_roundw
      case rel => exact ⟨k + 1, v5, by omega, by go_num, hw6⟩
      case measure => simp [intOf]; omega
    · have hlt' : decide ((k : Int) < 8) = false := by simp; omega
      have hend := hWk.out
      rw [List.take_of_length_le (by rw [HL.out]; omega)] at hend
      have HEND := hid hend
      have hlb : (bdF l).length ≤ 137438953472 := by
        have h1 := bdF_len (l := l) fun t ht => by
          obtain ⟨j, hj⟩ := List.mem_iff_getElem?.1 ht
          exact H.out j t hj
        rw [HL.out] at h1; omega
      have C3 := hid (wDone_any hend.wr hlb)
      clear hend hlb
      go_wp2_with fail
      refine C3.out.mono ?_
      rintro e w7 ⟨v7, rfl, ho7, hb7⟩
      go_wp2_with fail
      go_ret
      exact ⟨_, rfl, ho7.mono (by have := hWk.out.mt.size; omega), below_mutN B4.out hWk.out.mt (fun j hj => by rw [hj]; exact hs4) |>.trans (hb7.mono (by have := hWk.out.mt.size; omega))⟩
structure StabNew (w w' : World) (V : View) (i : Nat) (b m1 m2 : Nat) (A : VAd) : Prop where
  lt : w.heap.size ≤ b
  lt1 : w.heap.size ≤ m1
  lt2 : w.heap.size ≤ m2
  below : Below w.heap.size w w'
  box : BoxL w' b 393 (vcl V i A ++ [.map (some m1), .map (some m2)])
  view : ViewR w' A.am A.al A.ad V
  map1 : MapIs w' m1 pidV n64 []
  map2 : MapIs w' m2 eI n64 []
  stab : Stab w.heap.size w' A.am A.al A.ad V
set_option maxRecDepth 100000 in
set_option maxHeartbeats 3200000 in
theorem stabNew_any {V : View} {i : Nat} {A : VAd} {w : World} (hf : FitV V i) (hV : ViewR w A.am A.al A.ad V) :
    Calls Tryz.prog 202 #[.agg (vcl V i A).toArray] w fun e w' => ∃ b m1 m2 A', e = .returned (.pointer (some ⟨b, 0, none⟩)) ∧ StabNew w w' V i b m1 m2 A' := by
  have hmm := @run_makeMap Tryz.prog
  obtain ⟨am, al, ad, cm, cl, cd⟩ := A
  obtain ⟨m1, e1⟩ : ∃ q, V.ms.length = q := ⟨_, rfl⟩
  obtain ⟨m2, e2⟩ : ∃ q, V.ls.length = q := ⟨_, rfl⟩
  obtain ⟨m3, e3⟩ : ∃ q, V.ds.length = q := ⟨_, rfl⟩
  obtain ⟨W1, hW1⟩ : ∃ W1, w.alloc (.cells #[.int .u64 i, .slice am m1 cm, .slice al m2 cl, .slice ad m3 cd] 54) = W1 := ⟨_, rfl⟩
  have hb1 : Below w.heap.size w W1 := by rw [← hW1]; exact (Below.refl _ _).alloc (Nat.le_refl _) _
  have c0 : W1.cell? ⟨w.heap.size, 0, none⟩ = some (.int .u64 i) := by rw [← hW1]; simp
  have c1 : W1.cell? ⟨w.heap.size, 1, none⟩ = some (.slice am m1 cm) := by rw [← hW1]; simp
  have c2 : W1.cell? ⟨w.heap.size, 2, none⟩ = some (.slice al m2 cl) := by rw [← hW1]; simp
  have c3 : W1.cell? ⟨w.heap.size, 3, none⟩ = some (.slice ad m3 cd) := by rw [← hW1]; simp
  have C1 := copyS_any (A := ⟨am, al, ad, cm, cl, cd⟩) hf (hV.ext hb1)
  have hx : (vcl V i ⟨am, al, ad, cm, cl, cd⟩).toArray = #[.int .u64 i, .slice am m1 cm, .slice al m2 cl, .slice ad m3 cd] := by unfold vcl; rw [e1, e2, e3]
  rw [hx] at C1 ⊢
  have C1 := hid C1
  have HB1 := hid hb1
  have HE := hid (And.intro e1 (And.intro e2 e3))
  clear hb1 hx e1 e2 e3 hV
  go_enter Tryz.func202, Tryz.ntmps202
  go_wp2_with fail
  refine C1.out.mono ?_
  rintro e w2 ⟨⟨am', al', ad', cm', cl', cd'⟩, rfl, hst2, hb2⟩
  have hv2 := hst2.r
  have HST2 := hid hst2
  have HV2 := hid hv2
  have HB2 := hid (HB1.out.trans (hb2.mono HB1.out.size))
  have hy : (vcl V i ⟨am', al', ad', cm', cl', cd'⟩).toArray = #[.int .u64 i, .slice am' m1 cm', .slice al' m2 cl', .slice ad' m3 cd'] := by unfold vcl; rw [HE.out.1, HE.out.2.1, HE.out.2.2]
  rw [hy]
  clear hv2 hb2 hst2 C1 c0 c1 c2 c3 hW1 hy
  go_wp2_with fail
  go_ret
  have hbm := HB2.out.alloc HB2.out.size (.map #[] 0)
  have hbm2 := hbm.alloc hbm.size (.map #[] 0)
  refine ⟨w2.heap.size + 2, w2.heap.size, w2.heap.size + 1, ⟨am', al', ad', cm', cl', cd'⟩, rfl, ⟨?_, ?_, ?_, ?_, ?_, ?_, ?_, ?_, ?_⟩⟩
  · have := HB2.out.size; simp; omega
  · have := HB2.out.size; omega
  · have := HB2.out.size; omega
  · exact hbm2.alloc hbm2.size _
  · have h := BoxL.madeN ((w2.alloc (.map #[] 0)).alloc (.map #[] 0)) 393 (vcl V i ⟨am', al', ad', cm', cl', cd'⟩ ++ [.map (some w2.heap.size), .map (some (w2.heap.size + 1))]) (n := w2.heap.size + 2) (by simp)
    have hc : (vcl V i ⟨am', al', ad', cm', cl', cd'⟩ ++ [Value.map (some w2.heap.size), Value.map (some (w2.heap.size + 1))]).toArray = #[.int .u64 i, .slice am' m1 cm', .slice al' m2 cl', .slice ad' m3 cd', .map (some w2.heap.size), .map (some (w2.heap.size + 1))] := by unfold vcl; rw [HE.out.1, HE.out.2.1, HE.out.2.2]; rfl
    rw [hc] at h
    simpa using h
  · exact HV2.out.ext ((((Below.refl _ _).alloc (Nat.le_refl _) _).alloc (by simp) _).alloc (by simp; omega) _)
  · exact ((MapIs.made w2).alloc _).alloc _
  · have h := (MapIs.made (ke := eI) (ve := n64) (w2.alloc (.map #[] 0))).alloc (.cells #[.int .u64 i, .slice am' m1 cm', .slice al' m2 cl', .slice ad' m3 cd', .map (some w2.heap.size), .map (some (w2.heap.size + 1))] 393)
    simpa using h
  · exact fun G hG W' hm => (HST2.out.ext ((((Below.refl _ _).alloc (Nat.le_refl _) _).alloc (by simp) _).alloc (by simp; omega) _)) G (fun k hk => Nat.lt_of_lt_of_le (hG k hk) HB1.out.size) W' hm
end Go.Proofs.YtehagnbphamjhaaGreatDoor

/- The contract of slices.SortFunc at this program: the numbers, and a field a fact. Printed by the kit. -/
namespace Go.Proofs
open Go.Shelf
def Tryz.sortPid_ren : Go.Shelf.Ren := ⟨fun | 6 => 169 | 15 => 66 | 14 => 242 | 28 => 96 | 29 => 97 | 20 => 338 | 21 => 339 | 22 => 340 | 23 => 341 | 24 => 342 | 25 => 343 | 26 => 344 | 27 => 345 | 46 => 421 | 47 => 126 | 48 => 127 | 49 => 422 | 50 => 423 | 57 => 475 | n => n, fun | 22 => 51 | 24 => 46 | 25 => 267 | 3 => 3 | 39 => 130 | 0 => 0 | 53 => 44 | 55 => 27 | 4 => 4 | 46 => 161 | 45 => 160 | 50 => 166 | 5 => 5 | 9 => 9 | 66 => 198 | 70 => 117 | 76 => 276 | 77 => 277 | n => n, fun | n => n⟩
theorem Tryz.sortPid : Go.Proofs.SlLaysF0.n6 Tryz.prog Tryz.sortPid_ren := {
  mixed := by kernel_rfl
  f6 := ⟨Tryz.f169.name, by decide, Tryz.func169.trans (congrArg some (by kernel_rfl))⟩
  f14 := ⟨Tryz.f242.name, by decide, Tryz.func242.trans (congrArg some (by kernel_rfl))⟩
  f15 := Tryz.func66.trans (congrArg some (by kernel_rfl))
  f20 := ⟨Tryz.f338.name, by decide, Tryz.func338.trans (congrArg some (by kernel_rfl))⟩
  f21 := ⟨Tryz.f339.name, by decide, Tryz.func339.trans (congrArg some (by kernel_rfl))⟩
  f22 := ⟨Tryz.f340.name, by decide, Tryz.func340.trans (congrArg some (by kernel_rfl))⟩
  f23 := ⟨Tryz.f341.name, by decide, Tryz.func341.trans (congrArg some (by kernel_rfl))⟩
  f24 := ⟨Tryz.f342.name, by decide, Tryz.func342.trans (congrArg some (by kernel_rfl))⟩
  f25 := ⟨Tryz.f343.name, by decide, Tryz.func343.trans (congrArg some (by kernel_rfl))⟩
  f26 := ⟨Tryz.f344.name, by decide, Tryz.func344.trans (congrArg some (by kernel_rfl))⟩
  f27 := ⟨Tryz.f345.name, by decide, Tryz.func345.trans (congrArg some (by kernel_rfl))⟩
  f28 := Tryz.func96.trans (congrArg some (by kernel_rfl))
  f29 := Tryz.func97.trans (congrArg some (by kernel_rfl))
  f46 := ⟨Tryz.f421.name, by decide, Tryz.func421.trans (congrArg some (by kernel_rfl))⟩
  f47 := Tryz.func126.trans (congrArg some (by kernel_rfl))
  f48 := Tryz.func127.trans (congrArg some (by kernel_rfl))
  f49 := ⟨Tryz.f422.name, by decide, Tryz.func422.trans (congrArg some (by kernel_rfl))⟩
  f50 := ⟨Tryz.f423.name, by decide, Tryz.func423.trans (congrArg some (by kernel_rfl))⟩
  f57 := ⟨Tryz.f475.name, by decide, Tryz.func475.trans (congrArg some (by kernel_rfl))⟩
  t0 := Tryz.underlying0
  a0 := Tryz.isAgg0
  z0 := Tryz.sizeOf0
  v0 := Tryz.zeroValue0
  t3 := Tryz.underlying3
  a3 := Tryz.isAgg3
  z3 := Tryz.sizeOf3
  v3 := Tryz.zeroValue3
  t4 := Tryz.underlying4
  a4 := Tryz.isAgg4
  z4 := Tryz.sizeOf4
  v4 := Tryz.zeroValue4
  t5 := Tryz.underlying5
  a5 := Tryz.isAgg5
  z5 := Tryz.sizeOf5
  v5 := Tryz.zeroValue5
  t9 := Tryz.underlying9
  a9 := Tryz.isAgg9
  z9 := Tryz.sizeOf9
  v9 := Tryz.zeroValue9
  t22 := Tryz.underlying51
  a22 := Tryz.isAgg51
  z22 := Tryz.sizeOf51
  v22 := Tryz.zeroValue51
  t25 := Tryz.underlying267
  a25 := Tryz.isAgg267
  z25 := Tryz.sizeOf267
  v25 := Tryz.zeroValue267
  t39 := Tryz.underlying130
  a39 := Tryz.isAgg130
  z39 := Tryz.sizeOf130
  v39 := Tryz.zeroValue130
  t45 := Tryz.underlying160
  a45 := Tryz.isAgg160
  z45 := Tryz.sizeOf160
  v45 := Tryz.zeroValue160
  t46 := Tryz.underlying161
  a46 := Tryz.isAgg161
  z46 := Tryz.sizeOf161
  v46 := Tryz.zeroValue161
  t50 := Tryz.underlying166
  a50 := Tryz.isAgg166
  z50 := Tryz.sizeOf166
  v50 := Tryz.zeroValue166
  t53 := Tryz.underlying44
  a53 := Tryz.isAgg44
  z53 := Tryz.sizeOf44
  v53 := Tryz.zeroValue44
  t55 := Tryz.underlying27
  a55 := Tryz.isAgg27
  z55 := Tryz.sizeOf27
  v55 := Tryz.zeroValue27
  t66 := Tryz.underlying198
  a66 := Tryz.isAgg198
  z66 := Tryz.sizeOf198
  v66 := Tryz.zeroValue198
  t70 := Tryz.underlying117
  a70 := Tryz.isAgg117
  z70 := Tryz.sizeOf117
  v70 := Tryz.zeroValue117
  t76 := Tryz.underlying276
  a76 := Tryz.isAgg276
  z76 := Tryz.sizeOf276
  v76 := Tryz.zeroValue276
  t77 := Tryz.underlying277
  a77 := Tryz.isAgg277
  z77 := Tryz.sizeOf277
  v77 := Tryz.zeroValue277 }
end Go.Proofs

namespace Go.Proofs.YtehagnbphamjhaaGreatDoor
open Go.RowKit
open Go.Sort (grow grow_grow grow_empty alloc_eq_grow ahead putRow putCells HoldsK Holds flatK SWO)

/-- w', but for draws and new blocks -/
def Grew (w w' : World) : Prop := ∃ q os, w' = grow (w.drewN q) os
theorem Grew.refl (w : World) : Grew w w := ⟨0, #[], by rw [grow_empty]; rfl⟩
theorem Grew.alloc {w w' : World} (h : Grew w w') (o : Obj) : Grew w (w'.alloc o) := by
  obtain ⟨q, os, rfl⟩ := h
  exact ⟨q, os ++ #[o], by rw [alloc_eq_grow, grow_grow]⟩
theorem Grew.trans {a b c : World} (h : Grew a b) (k : Grew b c) : Grew a c := by
  obtain ⟨q, os, rfl⟩ := h
  obtain ⟨q', os', rfl⟩ := k
  refine ⟨q + q', os ++ os', ?_⟩
  rw [← grow_grow]
  unfold grow World.drewN
  simp [Nat.add_assoc]
theorem Grew.drew {w w' : World} (h : Grew w w') : Grew w w'.drew := h.trans ⟨1, #[], by rw [grow_empty]; rfl⟩
theorem Grew.below {w w' : World} (h : Grew w w') : Below w.heap.size w w' := by
  obtain ⟨q, os, rfl⟩ := h
  refine ⟨rfl, rfl, rfl, by simp [grow, World.drewN], fun k hk => ?_⟩
  simp [grow, World.drewN, Array.getElem?_append, hk]
structure GrewW (w : World) where
  W : World
  h : Grew w W
instance grewW_some (w : World) : Nonempty (GrewW w) := ⟨⟨w, Grew.refl _⟩⟩
theorem wp_region_grew {P : Program} {w wr : World} {id : Nat} {Q : Exit → Act → World → Prop} {a : Act} {l : List Oper} (hb : Grew w wr) (hm : P.follows .mixedOrders = true) (hB : Region.lexB .any l.toArray = true)
    (h : wpQuiet P l.toArray (fun w' => ∃ U : GrewW w, w' = U.W) (fun a' => ∀ w', (∃ U : GrewW w, w' = U.W) → Q .normal a' w') l a) : (Code.region id l.toArray true).wp P Q a wr :=
  wp_region_quiet (C := fun w' => ∃ U : GrewW w, w' = U.W) hm hB ⟨⟨wr.drew, hb.drew⟩, rfl⟩ (by simpa using h)
theorem cell_greww {w : World} {a : Addr} {v : Value} (h : w.cell? a = some v) : ∀ U : GrewW w, U.W.cell? a = some v := fun U => (U.h.below.cell (World.block_lt_of_cell? w _ h)).trans h
theorem grew_of {P : Program} {f : FuncId} {args : Array Value} {w0 : World} {U : GrewW w0} {v v' : Value} (h : Calls P f args U.W fun e w' => e = .returned v ∧ Grew U.W w') (hv : v = v') :
    Calls P f args U.W fun e w' => e = .returned v' ∧ ∃ U' : GrewW w0, w' = U'.W := by
  subst hv
  refine h.mono ?_
  rintro e w' ⟨rfl, hb⟩
  exact ⟨rfl, ⟨_, U.h.trans hb⟩, rfl⟩

/-- a process that may stand in a program -/
def ok (p : Pid) : Prop := 0 ≤ p.1 ∧ p.1 < 65536 ∧ 0 ≤ p.2 ∧ p.2 < 4294967296
def numOf (p : Pid) : Int := p.1 * 4294967296 + p.2
def ahead (p q : Pid) : Bool := decide (numOf p < numOf q)
theorem ret_u64 {a b : Int} (h : a = b) : Ending.returned (.int .u64 a) = .returned (.int .u64 b) := by rw [h]
theorem u64_or32 (x y : Int) (hy₀ : 0 ≤ y) (hy : y < 4294967296) (hx₀ : 0 ≤ x) (hx : x % 4294967296 = 0) (hx₁ : x < 18446744073709551616) : bits .or .u64 x y = x + y :=
  bits_join .u64 64 (by decide) wraps_u64 32 x y hx₀ hx hx₁ hy₀ hy (by omega)
set_option maxHeartbeats 400000 in
theorem number_any (x y : Int) (w : World) (h : ok (x, y)) : Calls Tryz.prog 243 #[.agg #[.int .u16 x, .int .u32 y]] w fun e w' => e = .returned (.int .u64 (numOf (x, y))) ∧ Grew w w' := by
  obtain ⟨hx, hx2, hy, hy2⟩ := h
  simp only at hx hx2 hy hy2
  go_enter Tryz.func243, Tryz.ntmps243
  go_wp2
  go_ret
  exact ⟨ret_u64 (u64_or32 _ _ hy hy2 (by omega) (by omega) (by omega)), (Grew.refl _).alloc _⟩
set_option maxHeartbeats 400000 in
theorem ahead_any (a b c d : Int) (w : World) (h1 : ok (a, b)) (h2 : ok (c, d)) : Calls Tryz.prog 171 #[.agg #[.int .u16 a, .int .u32 b], .agg #[.int .u16 c, .int .u32 d]] w fun e w' => e = .returned (.bool (ahead (a, b) (c, d))) ∧ Grew w w' := by
  have hB : Grew w ((w.alloc (.cells #[.int .u16 a, .int .u32 b] 46)).alloc (.cells #[.int .u16 c, .int .u32 d] 46)) := ((Grew.refl _).alloc _).alloc _
  have k0 : ((w.alloc (.cells #[.int .u16 a, .int .u32 b] 46)).alloc (.cells #[.int .u16 c, .int .u32 d] 46)).cell? ⟨w.heap.size, 0, none⟩ = some (.int .u16 a) := by simp
  have k1 : ((w.alloc (.cells #[.int .u16 a, .int .u32 b] 46)).alloc (.cells #[.int .u16 c, .int .u32 d] 46)).cell? ⟨w.heap.size, 1, none⟩ = some (.int .u32 b) := by simp
  have k2 : ((w.alloc (.cells #[.int .u16 a, .int .u32 b] 46)).alloc (.cells #[.int .u16 c, .int .u32 d] 46)).cell? ⟨w.heap.size + 1, 0, none⟩ = some (.int .u16 c) := by simp
  have k3 : ((w.alloc (.cells #[.int .u16 a, .int .u32 b] 46)).alloc (.cells #[.int .u16 c, .int .u32 d] 46)).cell? ⟨w.heap.size + 1, 1, none⟩ = some (.int .u32 d) := by simp
  go_enter Tryz.func171, Tryz.ntmps171
  go_wp2
  revert hB k0 k1 k2 k3
  generalize (w.alloc (.cells #[.int .u16 a, .int .u32 b] 46)).alloc (.cells #[.int .u16 c, .int .u32 d] 46) = wr
  intro hB k0 k1 k2 k3
  have f0 := cell_greww k0
  have f1 := cell_greww k1
  have f2 := cell_greww k2
  have f3 := cell_greww k3
  clear k0 k1 k2 k3
  have n1 : ∀ U : GrewW wr, Calls Tryz.prog 243 #[.agg #[.int .u16 a, .int .u32 b]] U.W fun e w' => e = .returned (.int .u64 (numOf (a, b))) ∧ ∃ U' : GrewW wr, w' = U'.W := fun U => grew_of (number_any a b U.W h1) rfl
  have n2 : ∀ U : GrewW wr, Calls Tryz.prog 243 #[.agg #[.int .u16 c, .int .u32 d]] U.W fun e w' => e = .returned (.int .u64 (numOf (c, d))) ∧ ∃ U' : GrewW wr, w' = U'.W := fun U => grew_of (number_any c d U.W h2) rfl
  have hs : ahead (a, b) (c, d) = decide (numOf (a, b) < numOf (c, d)) := rfl
  have HS := hid hs
  clear hs
  revert n1 n2 HS
  generalize numOf (a, b) = A
  generalize numOf (c, d) = B
  intro n1 n2 HS
  refine wp_region_grew (w := wr) (Grew.refl _) (by kernel_rfl) (by kernel_rfl) ?_
  repeat (go_big_quiet_step (first | (go_at_call_of 243 c; exact n2 _) | exact n1 _))
  refine wpQuiet_nil ?_
  rintro w9 ⟨⟨_, hb9⟩, rfl⟩
  go_wp2
  go_ret
  exact ⟨ret_bool HS.out.symm, hB.trans hb9⟩
theorem ahead_is {a b c d : Int} {w : World} {bm : Bool} (h : Hid (ahead (a, b) (c, d) = bm)) (h1 : ok (a, b)) (h2 : ok (c, d)) : Calls Tryz.prog 171 #[.agg #[.int .u16 a, .int .u32 b], .agg #[.int .u16 c, .int .u32 d]] w fun e w' => e = .returned (.bool bm) ∧ Grew w w' := by
  have := ahead_any a b c d w h1 h2
  rw [h.out] at this
  exact this
/-- the order of Sort -/
def cmpP (p q : Pid) : Int := if ahead p q = true then -1 else 1
set_option maxHeartbeats 400000 in
theorem cmp_any (a b c d : Int) (w : World) (h1 : ok (a, b)) (h2 : ok (c, d)) : Calls Tryz.prog 170 #[.agg #[.int .u16 a, .int .u32 b], .agg #[.int .u16 c, .int .u32 d]] w fun e w' => e = .returned (.int .i64 (cmpP (a, b) (c, d))) ∧ Grew w w' := by
  have hB : Grew w ((w.alloc (.cells #[.int .u16 a, .int .u32 b] 46)).alloc (.cells #[.int .u16 c, .int .u32 d] 46)) := ((Grew.refl _).alloc _).alloc _
  have hC : cmpP (a, b) (c, d) = if ahead (a, b) (c, d) = true then -1 else 1 := rfl
  cases h : ahead (a, b) (c, d)
  · rw [h] at hC
    have HC := hid hC
    have H := hid h
    clear h hC
    go_enter Tryz.func170, Tryz.ntmps170
    go_wp2_with (go_at_call 171; refine (ahead_is H h1 h2).mono ?_; rintro e w3 ⟨rfl, hb3⟩)
    go_ret
    exact ⟨ret_int HC.out.symm, hB.trans hb3⟩
  · rw [h] at hC
    have HC := hid hC
    have H := hid h
    clear h hC
    go_enter Tryz.func170, Tryz.ntmps170
    go_wp2_with (go_at_call 171; refine (ahead_is H h1 h2).mono ?_; rintro e w3 ⟨rfl, hb3⟩)
    go_ret
    exact ⟨ret_int HC.out.symm, hB.trans hb3⟩
end Go.Proofs.YtehagnbphamjhaaGreatDoor

namespace Go.Proofs.YtehagnbphamjhaaGreatDoor
open Go.RowKit
open Go.Sort (grow grow_grow grow_empty alloc_eq_grow putRow putCells HoldsK Holds flatK SWO heap_grow_old mapBlock onCells)

abbrev WP : Type := { p : Pid // ok p }
instance : Inhabited WP := ⟨⟨(0, 0), by unfold ok; simp⟩⟩
def encW (x : WP) : List Value := [.int .u16 x.val.1, .int .u32 x.val.2]
def cmpW (x y : WP) : Int := cmpP x.val y.val
theorem ltW (x y : WP) : ltOf cmpW x y = ahead x.val y.val := by
  unfold ltOf cmpW cmpP
  cases ahead x.val y.val <;> simp
theorem swoW : SWO (ltOf cmpW) where
  irrefl x := by rw [ltW]; simp [ahead]
  trans x y z h1 h2 := by rw [ltW] at *; simp [ahead] at *; omega
  ntrans x y z h1 h2 := by rw [ltW] at *; simp [ahead] at *; omega
theorem numOf_inj {p q : Pid} (hp : ok p) (hq : ok q) (h : numOf p = numOf q) : p = q := by
  obtain ⟨a, b⟩ := p
  obtain ⟨c, d⟩ := q
  unfold numOf at h
  obtain ⟨h1, h2, h3, h4⟩ := hp
  obtain ⟨g1, g2, g3, g4⟩ := hq
  simp only at *
  have e1 : a = c := by omega
  have e2 : b = d := by omega
  rw [e1, e2]
theorem totW (x y : WP) (h1 : ltOf cmpW x y = false) (h2 : ltOf cmpW y x = false) : x = y := by
  rw [ltW] at h1 h2
  simp [ahead] at h1 h2
  exact Subtype.ext (numOf_inj x.2 y.2 (by omega))

theorem flat_cells (d : Array WP) : (flatK encW 2 d).toList = pidCells (d.toList.map (·.val)) := by
  apply List.ext_getElem?
  intro t
  by_cases ht : t < d.size * 2
  · have h1 : t / 2 < d.size := by omega
    have g := Sort.get_flatK encW 2 d t ht
    have hl : (flatK encW 2 d).toList[t]? = some (flatK encW 2 d)[t]! := by
      rw [getElem!_pos (flatK encW 2 d) t (by simpa using ht)]
      simp [ht]
    rw [hl, g]
    obtain ⟨c1, c2⟩ := pidCells_get (d.toList.map (·.val)) (t / 2) (by simpa using h1)
    have hd : d[t / 2]! = d[t / 2] := getElem!_pos d _ h1
    rcases Nat.mod_two_eq_zero_or_one t with hm | hm
    · rw [show t / 2 * 2 = t by omega] at c1
      rw [c1, hm, hd]; simp [encW]
    · rw [show t / 2 * 2 + 1 = t by omega] at c2
      rw [c2, hm, hd]; simp [encW]
  · rw [List.getElem?_eq_none (by simp; omega), List.getElem?_eq_none (by rw [pidCells_length]; simp; omega)]

theorem heap_put {w : World} {g n : Nat} {os : Array Obj} {cur : Array Value} {e : TypeId} {fr : Nat × Nat} (F : Array Value) (hb : w.heap[g]? = some (.cells cur e fr)) :
    (grow (putRow id (Sort.ahead w n) g 0 F) os).heap[g]? = some (.cells (putCells id 0 F cur) e fr) := by
  have hg : g < w.heap.size := (Array.getElem?_eq_some_iff.1 hb).1
  rw [heap_grow_old _ _ (by simpa using hg)]
  simp [putRow, mapBlock, Sort.ahead, Array.getElem?_modify, hb, onCells]
theorem grownBy_put {w : World} {g n : Nat} {os : Array Obj} (F : Array Value) : w.grownBy (grow (putRow id (Sort.ahead w n) g 0 F) os) (some g) := by
  refine ⟨rfl, rfl, rfl, by simp, fun k hk hne => ?_⟩
  rw [heap_grow_old _ _ (by simpa using hk)]
  have : g ≠ k := fun e => hne (by rw [e])
  simp [putRow, mapBlock, Sort.ahead, Array.getElem?_modify, this]
theorem take_put (cur F : Array Value) (h : F.size ≤ cur.size) : (putCells id 0 F cur).toList.take F.size = F.toList := by
  apply List.ext_getElem?
  intro j
  by_cases hj : j < F.size
  · rw [List.getElem?_take_of_lt hj, Array.getElem?_toList]
    simp [putCells, hj, show j < cur.size by omega]
  · rw [List.getElem?_take_eq_none (by omega), List.getElem?_eq_none (by simp; omega)]
theorem holds_put {w : World} {g : Nat} {cur F : Array Value} {e : TypeId} (hb : w.heap[g]? = some (.cells cur e (0, 0))) (ht : cur.toList.take F.size = F.toList) : Holds id w g 0 F := by
  intro j hj
  refine ⟨?_, by simp [World.frozen?, hb]⟩
  have h1 : (cur.toList.take F.size)[j]? = F.toList[j]? := by rw [ht]
  rw [List.getElem?_take_of_lt hj] at h1
  simp only [World.cell?, hb, Nat.zero_add, Option.isSome_none, Bool.false_eq_true, if_false]
  rw [← Array.getElem?_toList, h1]
  simp [hj]

/-- processes, sorted (each once, if they are so) -/
def sortL (ps : List Pid) : List Pid := ps.mergeSort fun x y => !(ahead y x)
theorem sortL_length (ps : List Pid) : (sortL ps).length = ps.length := List.length_mergeSort _
theorem cmpLays (blk off size : Nat) (w : World) : CmpLays Tryz.prog 170 #[] encW 2 cmpW blk off size w :=
  fun _ _ _ _ x y => cmp_any x.val.1 x.val.2 y.val.1 y.val.2 _ x.2 y.2
theorem sortFunc_own {w : World} {base : Nat} {v : Value} {ps : List Pid} (hown : OwnP w base v ps) (hok : ∀ p ∈ ps, ok p) (hn : ps.length < 4611686018427387904) :
    Calls Tryz.prog 169 #[v, .func (.func 170) #[] #[]] w fun e w' => e = .returned (.tuple #[]) ∧ OwnP w' base v (sortL ps) ∧ w.grownBy w' v.ownBlock := by
  have eg : ∀ args w, (callFunc 170 args).run Tryz.prog w = .ok (.enter 170 args) w := enters_of Tryz.func170 (by kernel_rfl) rfl
  rcases hown.2 with ⟨rfl, h0⟩ | ⟨g, cap, cur, rfl, hb, hg, hnc, hcm, hcs, htake⟩
  · have hp : ps = [] := List.length_eq_zero_iff.1 h0
    subst hp
    have hcon := AnyF.slices_SortFunc_none Tryz.sortPid none 0 (.func (.func 170) #[] #[]) w
    change Calls Tryz.prog 169 _ _ _ at hcon
    refine hcon.mono ?_
    rintro e w' ⟨rfl, rfl⟩
    exact ⟨rfl, by rw [show sortL [] = [] by simp [sortL]]; exact OwnP.nil _ _, ⟨rfl, rfl, rfl, Nat.le_refl _, fun _ _ _ => rfl⟩⟩
  · obtain ⟨d, hd, hds⟩ : ∃ d : Array WP, d.toList.map (·.val) = ps ∧ d.size = ps.length := by
      refine ⟨(ps.pmap Subtype.mk hok).toArray, ?_, by simp⟩
      simp [List.map_pmap]
    have hF : (flatK encW 2 d).toList = pidCells ps := by rw [flat_cells, hd]
    have hFs : (flatK encW 2 d).size = ps.length * 2 := by simp [hds]
    have hH : HoldsK encW 2 w g 0 d := holds_put hg (by rw [hFs, hF]; exact htake)
    have hlt : g < w.heap.size := (Array.getElem?_eq_some_iff.1 hg).1
    have hcon := AnyQ.slices_SortFunc_total Tryz.sortPid 2 Tryz.isAgg46 Tryz.sizeOf46 encW (fun _ => rfl) (fun x v hv => by simp [encW] at hv; rcases hv with rfl | rfl <;> rfl) cmpW swoW 170 #[] g 0 cap d w eg (cmpLays g 0 d.size w) hH hlt (by rw [hds]; exact hn) totW
    change Calls Tryz.prog 169 _ _ _ at hcon
    rw [hds] at hcon
    refine hcon.mono ?_
    rintro e w' ⟨rfl, n, os, rfl⟩
    obtain ⟨d', hd'⟩ : ∃ d' : Array WP, d' = (d.toList.mergeSort fun x y => !(ltOf cmpW) y x).toArray := ⟨_, rfl⟩
    rw [← hd']
    have hs' : d'.toList.map (·.val) = sortL ps := by
      rw [hd', ← hd]
      unfold sortL
      rw [List.map_mergeSort]
      intro a _ b _
      rw [ltW]
    have hsz : d'.size = ps.length := by rw [hd']; simp [List.length_mergeSort, hds]
    have hF' : (flatK encW 2 d').toList = pidCells (sortL ps) := by rw [flat_cells, hs']
    have hFs' : (flatK encW 2 d').size = ps.length * 2 := by simp [hsz]
    refine ⟨rfl, ⟨by rw [pidCells_length], .inr ⟨g, cap, putCells id 0 (flatK encW 2 d') cur, by rw [sortL_length], hb, heap_put _ hg, by rw [sortL_length]; exact hnc, hcm, by simp [putCells, hcs], ?_⟩⟩, grownBy_put _⟩
    rw [sortL_length, ← hFs', take_put _ _ (by rw [hFs', hcs]; exact Nat.mul_le_mul_right _ hnc), hF']

theorem OwnP.but {w w' : World} {base r : Nat} {v : Value} {xs : List Pid} (h : OwnP w base v xs) (hb : But r w w') {α β : Type} {ke : α → Value} {ve : β → Value} {L : List (α × β)} (hM : MapIs w r ke ve L) : OwnP w' base v xs := by
  refine ⟨h.1, ?_⟩
  obtain ⟨es, cl, hm, _⟩ := hM
  rcases h.2 with hn | ⟨g, cap, cur, rfl, hbb, hgg, rest⟩
  · exact .inl hn
  · exact .inr ⟨g, cap, cur, rfl, hbb, (hb.block g (fun e => by rw [e, hm] at hgg; cases hgg)).trans hgg, rest⟩
theorem OwnP.alloc {w : World} {base : Nat} {v : Value} {xs : List Pid} (h : OwnP w base v xs) (o : Obj) : OwnP (w.alloc o) base v xs := h.ext ((Below.refl _ _).alloc (Nat.le_refl _) _)
theorem OwnP.ne_map {w : World} {base : Nat} {v : Value} {xs : List Pid} (h : OwnP w base v xs) {r : Nat} {es : Array MapEntry} {cl : Nat} (hm : w.heap[r]? = some (.map es cl)) : some r ≠ v.ownBlock := by
  rcases h.2 with ⟨rfl, _⟩ | ⟨g, cap, cur, rfl, hbb, hgg, rest⟩
  · simp [Value.ownBlock]
  · simp only [Value.ownBlock, ne_eq, Option.some.injEq]
    intro e; subst e; rw [hm] at hgg; cases hgg
theorem MapIs.grown {w w' : World} {r : Nat} {α β : Type} [DecidableEq α] {ke : α → Value} {ve : β → Value} {L : List (α × β)} (hM : MapIs w r ke ve L) {base : Nat} {v : Value} {xs : List Pid} (h : OwnP w base v xs) (hg : w.grownBy w' v.ownBlock) : MapIs w' r ke ve L := by
  refine hM.same (hg.block r hM.lt ?_)
  obtain ⟨es, cl, hm, _⟩ := hM
  exact h.ne_map hm

/-- some processes, each once, in their first places' order -/
def dedup (xs : List Pid) : List Pid := keys (unionL [] xs)
/-- Sort -/
def sortP (xs : List Pid) : List Pid := sortL (dedup xs)
theorem keys_add1_no {p : Pid} {L : List (Pid × Unit)} (h : (look p L).isSome = false) : keys (add1 p L) = keys L ++ [p] := by
  have : p ∉ keys L := by rw [← look_isSome, h]; simp
  rw [add1_of_not this]; simp [keys]

set_option maxRecDepth 100000 in
set_option maxHeartbeats 1600000 in
theorem sort_any (a : Option Addr) (c : Nat) (xs : List Pid) (w : World) (hn : xs.length ≤ 549755813888) (hrow : PidRow w a xs) (hok : ∀ p ∈ xs, ok p) :
   Calls Tryz.prog 112 #[.slice a xs.length c] w fun e w' => ∃ v, e = .returned v ∧ OwnP w' w.heap.size v (sortP xs) ∧ Below w.heap.size w w' := by
  have hmm := @run_makeMap Tryz.prog
  go_enter Tryz.func112, Tryz.ntmps112
  go_wp2
  go_loopw [4, 12] (fun v i wr => ∃ (k : Nat) (Lk : List (Pid × Unit)), k ≤ xs.length ∧ i = .int .i64 k ∧ Hid (unionL [] xs = unionL Lk (xs.drop k)) ∧ (keys Lk).length ≤ k ∧ (∀ p ∈ keys Lk, ok p) ∧ Below w.heap.size w wr ∧ MapIs wr w.heap.size pidV eU Lk ∧ OwnP wr w.heap.size v (keys Lk)) (fun _ i _ => xs.length - (intOf i).toNat)
  case atStart => exact ⟨0, [], Nat.zero_le _, rfl, rfl, Nat.le_refl _, by simp [keys], (Below.refl _ _).alloc (Nat.le_refl _) _, MapIs.made _, OwnP.nil _ _⟩
  case round =>
    obtain ⟨k, Lk, hk, rfl, hL, hlk, hokk, hb, hM, hown⟩ := hrel
    have hs0 := hb.size
    have hs1 := hM.lt
    by_cases hlt : k < xs.length
    · obtain ⟨b, off, x, y, rfl, hx, d1, d2⟩ := hrow.at hb rfl hlt
      have hL1 := unionL_drop (L := Lk) hlt hx
      have hxok : ok (x, y) := by rw [hx]; exact hok _ (List.getElem_mem _)
      have HL1 := hid hL1
      have HOK := hid hxok
      have HOKK := hid hokk
      clear hx hrow hL1 hxok hokk
      have hB1 : Below w.heap.size w (wr.alloc (.cells #[.int .u16 x, .int .u32 y] 46)) := hb.alloc hb.size _
      have hB2 : Below w.heap.size w ((wr.alloc (.cells #[.int .u16 x, .int .u32 y] 46)).alloc (.cells #[] 263)) := hB1.alloc hB1.size _
      have hs2 := hB2.size
      cases hs : (look (x, y) Lk).isSome
      · have HS := hid hs
        clear hs
        go_wp2_with (first
          | (at_lookup; refine wpList_lookup_is keyPid Tryz.underlying262 (.agg #[]) zero106 (hM.alloc _) (x, y) _ (look_unit _ _) HS rfl rfl rfl rfl ?_)
          | (at_mapUpdate; refine wpList_mapUpdate_is keyPid Tryz.underlying262 ((hM.alloc _).alloc _) (x, y) () rfl rfl rfl rfl rfl ?_; intro w2 hM2 hbut; have c0 : w2.cell? ⟨wr.heap.size, 0, none⟩ = some (.int .u16 x) := (hbut.cell (by simp; omega)).trans (by simp); have c1 : w2.cell? ⟨wr.heap.size, 1, none⟩ = some (.int .u32 y) := (hbut.cell (by simp; omega)).trans (by simp))
          | (at_builtin; go_loud (refine wpList_appendP (((hown.alloc _).alloc _).but hbut ((hM.alloc _).alloc _) |>.alloc _) (PidRow.one _ x y) ?cb ?cz rfl rfl rfl rfl ?_); rotate_right; intro v4 w4 hown4 hg4 hnil4))
        case cb => simp; omega
        case cz => have := hbut.size; simp at this; simp; omega
        have hsz2 := hbut.size
        simp at hsz2
        have hown2 : OwnP w2 w.heap.size u4 (keys Lk) := ((hown.alloc _).alloc _).but hbut ((hM.alloc _).alloc _)
        have hB4 : Below w.heap.size w w4 := ((hB2.trans (hbut.below (Nat.le_refl _))).alloc (by omega) _).grown hg4 (by simp; omega) (fun g hg => (World.ownsRow.lt hown g hg).1)
        have hM4 : MapIs w4 w.heap.size pidV eU (ins (x, y) () Lk) := (hM2.alloc _).grown (hown2.alloc _) hg4
        have hA : add1 (x, y) Lk = ins (x, y) () Lk := by unfold add1; rw [HS.out]; rfl
        have hK := keys_add1_no HS.out
        have HA := hid hA
        have HK := hid hK
        clear hA hK
        go_roundw
        case rel =>
          refine ⟨k + 1, ins (x, y) () Lk, by omega, by go_num, hL.out.trans (by rw [HL1.out, HA.out]), ?_, ?_, hB4, hM4, ?_⟩
          · rw [← HA.out, HK.out]; simp; omega
          · rw [← HA.out, HK.out]
            intro p hp
            rcases List.mem_append.1 hp with hp | hp
            · exact HOKK.out p hp
            · rw [List.mem_singleton.1 hp]; exact HOK.out
          · rw [← HA.out, HK.out]; exact hown4
        case measure => simp [intOf]; omega
      · have HS := hid hs
        clear hs
        go_wp2_with (first
          | (at_lookup; refine wpList_lookup_is keyPid Tryz.underlying262 (.agg #[]) zero106 (hM.alloc _) (x, y) _ (look_unit _ _) HS rfl rfl rfl rfl ?_))
        go_roundw
        case rel => exact ⟨k + 1, Lk, by omega, by go_num, hL.out.trans (by rw [HL1.out]; unfold add1; rw [HS.out]; rfl), by omega, HOKK.out, hB2, (hM.alloc _).alloc _, (hown.alloc _).alloc _⟩
        case measure => simp [intOf]; omega
    · have hkk : Hid (keys Lk = dedup xs) := by
        have := hL.out
        rw [List.drop_eq_nil_of_le (by omega)] at this
        unfold dedup
        rw [this]; rfl
      have hS := sortFunc_own hown hokk (by omega)
      have HS := hid hS
      clear hS
      go_wp2_with (go_at_call 169; refine HS.out.mono ?_; rintro e w3 ⟨rfl, hown3, hg3⟩)
      go_ret
      exact ⟨_, rfl, by unfold sortP; rw [← hkk.out]; exact hown3, hb.grown hg3 hb.size (fun g hg => (World.ownsRow.lt hown g hg).1)⟩
end Go.Proofs.YtehagnbphamjhaaGreatDoor

namespace Go.Proofs.YtehagnbphamjhaaGreatDoor
open Go.RowKit
open Go.ChangeMaps (setBlock)

/-- 'range' over the map in block r under way, its iterator in block t: L all, left what is still to come -/
def RangeIs {α β : Type} (w : World) (r t : Nat) (ke : α → Value) (ve : β → Value) (L left : List (α × β)) : Prop :=
  ∃ es clock since seen, w.heap[r]? = some (.map es clock) ∧ es.toList.map (fun e => (e.key, e.val)) = L.map (fun p => (ke p.1, ve p.2)) ∧ bornOk es clock ∧
    w.heap[t]? = some (.mapIter (some r) since seen clock) ∧ (∀ x ∈ es.toList, x.born < since) ∧ since ≤ clock ∧
    (es.toList.filter fun e => !seen.contains e.born).map (fun e => (e.key, e.val)) = left.map (fun p => (ke p.1, ve p.2))

section
set_option linter.unusedSectionVars false
variable {α β : Type} [DecidableEq α] {ke : α → Value} {ve : β → Value} {P : Program} {K : TypeId} {w : World} {r t : Nat} {L left : List (α × β)}

theorem RangeIs.map (h : RangeIs w r t ke ve L left) : MapIs w r ke ve L := by
  obtain ⟨es, clock, since, seen, h1, h2, h3, _⟩ := h
  exact ⟨es, clock, h1, h2, h3⟩
theorem RangeIs.lt (h : RangeIs w r t ke ve L left) : t < w.heap.size := by
  obtain ⟨es, clock, since, seen, _, _, _, h1, _⟩ := h
  exact (Array.getElem?_eq_some_iff.1 h1).1
theorem RangeIs.ne (h : RangeIs w r t ke ve L left) : t ≠ r := by
  obtain ⟨es, clock, since, seen, h0, _, _, h1, _⟩ := h
  intro e; subst e; rw [h0] at h1; cases h1
theorem RangeIs.same {w' : World} (h : RangeIs w r t ke ve L left) (h1 : w'.heap[r]? = w.heap[r]?) (h2 : w'.heap[t]? = w.heap[t]?) : RangeIs w' r t ke ve L left := by
  obtain ⟨es, clock, since, seen, a1, a2, a3, a4, a5⟩ := h
  exact ⟨es, clock, since, seen, h1.trans a1, a2, a3, h2.trans a4, a5⟩
theorem RangeIs.mut {F : Nat → Prop} {w' : World} (h : RangeIs w r t ke ve L left) (hm : Mut F w w') (hr : ¬ F r) (ht : ¬ F t) : RangeIs w' r t ke ve L left :=
  h.same (hm.block r h.map.lt hr) (hm.block t h.lt ht)
theorem RangeIs.ext {w' : World} (h : RangeIs w r t ke ve L left) (hb : Below w.heap.size w w') : RangeIs w' r t ke ve L left :=
  h.same (hb.block _ h.map.lt) (hb.block _ h.lt)

theorem MapIs.range (h : MapIs w r ke ve L) {ty K e : TypeId} (ht : P.underlying ty = some (.map K e)) :
    ∃ w', (Instr.range ty (.map (some r))).run P w = .ok (.pointer (some ⟨w.heap.size, 0, none⟩)) w' ∧ RangeIs w' r w.heap.size ke ve L L ∧ Below w.heap.size w w' := by
  have hlt := h.lt
  obtain ⟨es, clock, hb, he, hbn⟩ := h
  refine ⟨_, run_range_map w ty K e r es clock ht hb, ⟨es, clock, clock, #[], ((MapKept.heap_alloc w _).2 r hlt).trans hb, he, hbn, (MapKept.heap_alloc w _).1, hbn.2, Nat.le_refl _, ?_⟩, (Below.refl _ _).alloc (Nat.le_refl _) _⟩
  rw [List.filter_eq_self.2 (by simp)]; exact he

theorem filter_push (seen : Array Nat) (es : List MapEntry) (b : Nat) : (es.filter fun e => !(seen.push b).contains e.born) = (es.filter fun e => !seen.contains e.born).filter fun e => e.born != b := by
  rw [List.filter_filter]
  congr 1
  funext e
  by_cases hb : e.born = b <;> simp [Array.contains_push, bne, hb]
theorem filter_split {s u : List MapEntry} {e : MapEntry} (hn : ((s ++ e :: u).map (·.born)).Nodup) : (s ++ e :: u).filter (fun x => x.born != e.born) = s ++ u := by
  rw [List.map_append, List.map_cons, List.nodup_append] at hn
  obtain ⟨_, h2, h3⟩ := hn
  rw [List.nodup_cons] at h2
  have hs : s.filter (fun x => x.born != e.born) = s := List.filter_eq_self.2 fun x hx => by
    have := h3 x.born (List.mem_map_of_mem hx) e.born (by simp)
    simpa using this
  have hu : u.filter (fun x => x.born != e.born) = u := List.filter_eq_self.2 fun x hx => by
    have : x.born ≠ e.born := fun hq => h2.1 (hq ▸ List.mem_map_of_mem hx)
    simpa using this
  rw [List.filter_append, List.filter_cons, hs, hu]
  simp

/-- the step -/
theorem RangeIs.next (h : RangeIs w r t ke ve L left) (ty : TypeId) :
    (left = [] ∧ (Instr.next (.pointer (some ⟨t, 0, none⟩)) false ty).run P w = .ok (.tuple #[.bool false]) w) ∨
    ∃ (p : α × β) (s u : List (α × β)) (w' : World), left = s ++ p :: u ∧ (Instr.next (.pointer (some ⟨t, 0, none⟩)) false ty).run P w = .ok (.tuple #[.bool true, ke p.1, ve p.2]) w' ∧
      RangeIs w' r t ke ve L (s ++ u) ∧ But t w w' ∧ (Instr.entry (.pointer (some ⟨t, 0, none⟩))).run P w' = .ok (.tuple #[ke p.1, ve p.2]) w' := by
  have hne := h.ne
  obtain ⟨es, clock, since, seen, h1, h2, h3, h4, h5, h6, h7⟩ := h
  rcases run_next_at (P := P) w ty t r since clock seen es clock h4 h1 h5 h6 with ⟨h0, hrun⟩ | ⟨e, he, w1, hal, hrun⟩
  · refine .inl ⟨?_, hrun⟩
    have : (leftOf es seen).toList = [] := by rw [← Array.length_toList] at h0; exact List.length_eq_zero_iff.1 h0
    unfold leftOf at this
    rw [Array.toList_filter] at this
    rw [this] at h7
    exact List.map_eq_nil_iff.1 h7.symm
  · right
    unfold leftOf at he
    rw [Array.toList_filter] at he
    obtain ⟨s, u, hsu⟩ := List.append_of_mem he
    have hes : e ∈ es.toList := (List.mem_filter.1 he).1
    rw [hsu] at h7
    rw [List.map_append, List.map_cons] at h7
    obtain ⟨s', q', hl, hs', hq'⟩ := List.map_eq_append_iff.1 h7.symm
    obtain ⟨p, u', rfl, hp, hu'⟩ := List.map_eq_cons_iff.1 hq'
    have hk : e.key = ke p.1 := (congrArg Prod.fst hp).symm
    have hv : e.val = ve p.2 := (congrArg Prod.snd hp).symm
    rw [hk, hv] at hrun
    have hw1 : But t w w1 ∧ w1.heap = w.heap := by rcases hal with rfl | rfl <;> exact ⟨⟨rfl, rfl, rfl, rfl, fun _ _ => rfl⟩, rfl⟩
    have htlt : t < w1.heap.size := by rw [hw1.2]; exact (Array.getElem?_eq_some_iff.1 h4).1
    have hset : (setBlock w1 t (.mapIter (some r) since (seen.push e.born) clock)).heap[t]? = some (.mapIter (some r) since (seen.push e.born) clock) := by
      simp [setBlock, htlt]
    have hrr : (setBlock w1 t (.mapIter (some r) since (seen.push e.born) clock)).heap[r]? = some (.map es clock) := by
      rw [show (setBlock w1 t (.mapIter (some r) since (seen.push e.born) clock)).heap[r]? = w1.heap[r]? by simp [setBlock, hne], hw1.2, h1]
    refine ⟨p, s', u', _, hl, hrun, ⟨es, clock, since, seen.push e.born, hrr, h2, h3, hset, h5, h6, ?_⟩, ?_, ?_⟩
    · rw [filter_push, hsu, filter_split, List.map_append, List.map_append, hs', hu']
      have hn := h3.1
      exact List.Nodup.sublist (List.Sublist.map _ (by rw [← hsu]; exact List.filter_sublist)) hn
    · refine ⟨hw1.1.os, hw1.1.tape, hw1.1.output, by simp [setBlock, hw1.2], fun k hk => ?_⟩
      rw [show (setBlock w1 t (.mapIter (some r) since (seen.push e.born) clock)).heap[k]? = w1.heap[k]? by simp [setBlock, Ne.symm hk], hw1.2]
    · rw [← hk, ← hv]
      exact run_entry_at _ t r since seen es clock e hset hrr hes h3.1

theorem filter_modify {p : MapEntry → Bool} {f : MapEntry → MapEntry} : ∀ (l : List MapEntry) (j : Nat), (∀ x, l[j]? = some x → p x = false ∧ p (f x) = false) → (l.modify j f).filter p = l.filter p
  | [], j, _ => by simp
  | x :: l, 0, h => by
    obtain ⟨h1, h2⟩ := h x rfl
    simp [List.modify_zero_cons, List.filter_cons, h1, h2]
  | x :: l, j + 1, h => by
    rw [List.modify_succ_cons, List.filter_cons, List.filter_cons, filter_modify l j (fun y hy => h y (by simpa using hy))]

/-- a store at a key that is there and has been met -/
theorem RangeIs.update (h : RangeIs w r t ke ve L left) (kk : KeyOk P K ke) (hinj : ∀ x y, ke x = ke y → x = y) {ty e : TypeId} (ht : P.underlying ty = some (.map K e)) (x : α) (v : β) (hx : (look x L).isSome = true) (hl : ∀ p ∈ left, p.1 ≠ x) :
    ∃ w', (Instr.mapUpdate ty (.map (some r)) (ke x) (ve v)).run P w = .ok () w' ∧ RangeIs w' r t ke ve (ins x v L) left ∧ But r w w' := by
  have hne := h.ne
  obtain ⟨es, clock, since, seen, h1, h2, h3, h4, h5, h6, h7⟩ := h
  have hf := find_run (w := w) kk h2 x
  have hlk := lookI_look x L 0
  cases hq : lookI x L 0 with
  | none => rw [hq] at hlk; rw [← hlk] at hx; simp at hx
  | some q =>
    obtain ⟨j, u⟩ := q
    have hlt := lookI_lt hq
    obtain ⟨_, _, ⟨u', hu'⟩, hins⟩ := lookI_some hq
    simp only [Nat.sub_zero] at hu' hins hlt
    rw [hq] at hf
    have hj : ∃ e0, es[j]? = some e0 ∧ e0.key = ke x := by
      have : (es.toList.map (fun e => (e.key, e.val)))[j]? = some (ke x, ve u') := by rw [h2, List.getElem?_map, hu']; rfl
      rw [List.getElem?_map] at this
      cases hej : es.toList[j]? with
      | none => rw [hej] at this; simp at this
      | some e0 =>
        rw [hej] at this
        simp at this
        exact ⟨e0, by simpa using hej, this.1⟩
    obtain ⟨e0, hej, hek⟩ := hj
    obtain ⟨w', hrun, hM, hbut⟩ := MapIs.update (L := L) ⟨es, clock, h1, h2, h3⟩ kk ht x v
    have hw' : w' = { w with heap := w.heap.setIfInBounds r (.map (es.modify j fun e => { e with key := ke x, val := ve v }) clock) } := by
      have : (Instr.mapUpdate ty (.map (some r)) (ke x) (ve v)).run P w = .ok () { w with heap := w.heap.setIfInBounds r (.map (es.modify j fun e => { e with key := ke x, val := ve v }) clock) } := by
        simp [Instr.mapUpdate, run_underlying ht, MapKept.run_getObj_map h1, kk.check, hf, hej, hek, Instr.keyThatStays, kk.same, MapKept.run_setObj_map _ h1, Result.andThen]
      rw [this] at hrun
      cases hrun
      rfl
    refine ⟨w', hrun, ?_, hbut⟩
    have hmem : e0 ∈ es.toList := by
      have : es.toList[j]? = some e0 := by simpa using hej
      exact List.mem_of_getElem? this
    have hseen : seen.contains e0.born = true := by
      cases hc : seen.contains e0.born
      · exfalso
        have : (e0.key, e0.val) ∈ left.map (fun p => (ke p.1, ve p.2)) := by
          rw [← h7]
          exact List.mem_map_of_mem (f := fun e : MapEntry => (e.key, e.val)) (List.mem_filter.2 ⟨hmem, by rw [hc]; rfl⟩)
        obtain ⟨p, hp, hpe⟩ := List.mem_map.1 this
        exact hl p hp (hinj _ _ ((congrArg Prod.fst hpe).trans hek))
      · rfl
    have hrlt : r < w.heap.size := (Array.getElem?_eq_some_iff.1 h1).1
    obtain ⟨es', clock', g1, g2, g3⟩ := hM
    have hes : es' = (es.modify j fun e => { e with key := ke x, val := ve v }) ∧ clock' = clock := by
      rw [hw'] at g1
      simp [hrlt] at g1
      exact ⟨g1.1.symm, g1.2.symm⟩
    obtain ⟨rfl, rfl⟩ := hes
    refine ⟨_, _, since, seen, g1, g2, g3, (hbut.block t hne).trans h4, ?_, h6, ?_⟩
    · intro y hy
      simp only [Array.toList_modify] at hy
      obtain ⟨i, hi⟩ := List.mem_iff_getElem?.1 hy
      rw [List.getElem?_modify] at hi
      cases hyi : es.toList[i]? with
      | none => rw [hyi] at hi; simp at hi
      | some z =>
        rw [hyi] at hi
        have hz := h5 z (List.mem_of_getElem? hyi)
        have : y.born = z.born := by
          simp at hi
          rw [← hi]
          split <;> rfl
        rw [this]; exact hz
    · rw [Array.toList_modify, filter_modify, h7]
      intro y hy
      have : y = e0 := by
        have h8 : es.toList[j]? = some e0 := by simpa using hej
        rw [hy] at h8; exact Option.some.inj h8
      subst this
      exact ⟨by simp only [hseen]; rfl, by simp only [hseen]; rfl⟩
end

section
variable {α β : Type} [DecidableEq α] {ke : α → Value} {ve : β → Value} {P : Program} {w : World} {ops : Array Oper} {rest : List Oper} {o : Oper} {a : Act} {Q : Exit → Act → World → Prop} {r t : Nat} {L left : List (α × β)}
theorem wpList_range_is (hM : MapIs w r ke ve L) {ty K e : TypeId} (ht : P.underlying ty = some (.map K e)) {m : Operand} (hg : o.guard = none) (hop : o.op = Op.range ty m) (hm : a.eval m = .map (some r))
    (hK : ∀ w', RangeIs w' r w.heap.size ke ve L L → Below w.heap.size w w' → wpList P ops Q rest (a.put o.dst (.pointer (some ⟨w.heap.size, 0, none⟩))) w') : wpList P ops Q (o :: rest) a w := by
  refine wpList_plain hg fun K' hK' => ?_
  obtain ⟨w', hrun, r1, r2⟩ := hM.range ht
  unfold Oper.wp
  simp [execOp, hop, hm, hrun, Result.andThen]
  exact hK' _ _ (hK w' r1 r2)
theorem wpList_next_is (h : RangeIs w r t ke ve L left) {it : Operand} (hg : o.guard = none) (hop : o.op = Op.next it false) (hit : a.eval it = .pointer (some ⟨t, 0, none⟩))
    (hDone : Hid (left = []) → wpList P ops Q rest (a.put o.dst (.tuple #[.bool false])) w)
    (hMore : ∀ (p : α × β) (s u : List (α × β)) (w' : World), Hid (left = s ++ p :: u) → RangeIs w' r t ke ve L (s ++ u) → But t w w' → (Instr.entry (.pointer (some ⟨t, 0, none⟩))).run P w' = .ok (.tuple #[ke p.1, ve p.2]) w' →
      wpList P ops Q rest (a.put o.dst (.tuple #[.bool true, ke p.1, ve p.2])) w') : wpList P ops Q (o :: rest) a w := by
  refine wpList_plain hg fun K' hK' => ?_
  unfold Oper.wp
  rcases h.next (P := P) o.type with ⟨hl, hrun⟩ | ⟨p, s, u, w', hl, hrun, hR, hB, hE⟩
  · simp [execOp, hop, hit, hrun, Result.andThen]
    exact hK' _ _ (hDone hl)
  · simp [execOp, hop, hit, hrun, Result.andThen]
    exact hK' _ _ (hMore p s u w' hl hR hB hE)
end
end Go.Proofs.YtehagnbphamjhaaGreatDoor

namespace Go.Proofs.YtehagnbphamjhaaGreatDoor
open Go.RowKit

/-! ### plain: sorting -/
theorem keys_union_nodup : ∀ (xs : List Pid) (L : List (Pid × Unit)), (∀ x ∈ xs, x ∉ keys L) → xs.Nodup → keys (unionL L xs) = keys L ++ xs
  | [], L, _, _ => by simp [unionL]
  | p :: l, L, h, hn => by
    obtain ⟨h1, h2⟩ := List.nodup_cons.1 hn
    have e : keys (add1 p L) = keys L ++ [p] := by rw [add1_of_not (h p (List.mem_cons_self ..))]; simp [keys]
    unfold unionL
    rw [keys_union_nodup l (add1 p L) (fun x hx => ?_) h2, e]
    · simp
    · rw [e]
      intro hm
      rcases List.mem_append.1 hm with hm | hm
      · exact h x (List.mem_cons_of_mem _ hx) hm
      · rw [List.mem_singleton.1 hm] at hx; exact h1 hx
theorem dedup_nodup {xs : List Pid} (h : xs.Nodup) : dedup xs = xs := by
  unfold dedup; rw [keys_union_nodup xs [] (by simp [keys]) h]; simp [keys]
theorem union_keys_nodup : ∀ (xs : List Pid) (L : List (Pid × Unit)), (keys L).Nodup → (keys (unionL L xs)).Nodup
  | [], L, h => h
  | p :: l, L, h => by
    unfold unionL
    refine union_keys_nodup l _ ?_
    by_cases hp : p ∈ keys L
    · rw [add1_of_mem hp]; exact h
    · rw [add1_of_not hp]
      simp only [keys, List.map_append, List.map_cons, List.map_nil]
      rw [List.nodup_append]
      refine ⟨h, by simp, ?_⟩
      intro a ha b hb e
      simp at hb
      subst e; subst hb; exact hp ha
theorem sortL_pairwise (xs : List Pid) : (sortL xs).Pairwise fun x y => (!(ahead y x)) = true :=
  List.pairwise_mergeSort (fun a b c h1 h2 => by simp [ahead] at *; omega) (fun a b => by simp [ahead]; omega) xs
theorem sortL_perm_self (xs : List Pid) : (sortL xs).Perm xs := List.mergeSort_perm _ _
theorem mem_sortL {p : Pid} {xs : List Pid} : p ∈ sortL xs ↔ p ∈ xs := (sortL_perm_self xs).mem_iff
theorem sortL_perm {xs ys : List Pid} (h : xs.Perm ys) (hok : ∀ p ∈ xs, ok p) : sortL xs = sortL ys := by
  refine List.Perm.eq_of_pairwise (le := fun x y => (!(ahead y x)) = true) ?_ (sortL_pairwise _) (sortL_pairwise _) ((sortL_perm_self xs).trans (h.trans (sortL_perm_self ys).symm))
  intro a b ha hb h1 h2
  simp [ahead] at h1 h2
  exact numOf_inj (hok a (mem_sortL.1 ha)) (hok b (h.mem_iff.2 (mem_sortL.1 hb))) (by omega)
theorem sortP_nodup {xs : List Pid} (h : xs.Nodup) : sortP xs = sortL xs := by unfold sortP; rw [dedup_nodup h]

theorem OwnP.mono {w : World} {b b' : Nat} {v : Value} {xs : List Pid} (h : OwnP w b v xs) (hb : b' ≤ b) : OwnP w b' v xs := by
  refine ⟨h.1, ?_⟩
  rcases h.2 with hn | ⟨g, cap, cur, rfl, hbb, rest⟩
  · exact .inl hn
  · exact .inr ⟨g, cap, cur, rfl, Nat.le_trans hb hbb, rest⟩
theorem RangeIs.left_eq {w : World} {r t : Nat} {α β : Type} {ke : α → Value} {ve : β → Value} {L left : List (α × β)} (h : RangeIs w r t ke ve L left) : w.rangeLeft r t = left.length := by
  obtain ⟨es, clock, since, seen, h1, _, _, h4, _, _, h7⟩ := h
  have := congrArg List.length h7
  simp only [List.length_map] at this
  unfold World.rangeLeft
  rw [h1, h4]
  unfold leftOf
  rw [← this]
  show (Array.filter (fun e => !seen.contains e.born) es).size = _
  rw [← Array.length_toList, Array.toList_filter]
theorem But.below' {r B : Nat} {w w' w0 : World} (h : Below B w0 w) (hb : But r w w') (hr : B ≤ r) : Below B w0 w' := h.trans (hb.below hr)
theorem OwnP.butT {w w' : World} {base t : Nat} {v : Value} {xs : List Pid} (h : OwnP w base v xs) (hb : But t w w') (ht : some t ≠ v.ownBlock) : OwnP w' base v xs := by
  refine ⟨h.1, ?_⟩
  rcases h.2 with hn | ⟨g, cap, cur, rfl, hbb, hgg, rest⟩
  · exact .inl hn
  · exact .inr ⟨g, cap, cur, rfl, hbb, (hb.block g (fun e => ht (by simp [Value.ownBlock, e]))).trans hgg, rest⟩
theorem OwnP.ne_iter {w : World} {base : Nat} {v : Value} {xs : List Pid} (h : OwnP w base v xs) {r t : Nat} {α β : Type} {ke : α → Value} {ve : β → Value} {L left : List (α × β)} (hr : RangeIs w r t ke ve L left) : some t ≠ v.ownBlock := by
  obtain ⟨es, clock, since, seen, _, _, _, h4, _⟩ := hr
  rcases h.2 with ⟨rfl, _⟩ | ⟨g, cap, cur, rfl, hbb, hgg, rest⟩
  · simp [Value.ownBlock]
  · simp only [Value.ownBlock, ne_eq, Option.some.injEq]
    intro e; subst e; rw [h4] at hgg; cases hgg
theorem RangeIs.grown {w w' : World} {r t : Nat} {α β : Type} [DecidableEq α] {ke : α → Value} {ve : β → Value} {L left : List (α × β)} (hR : RangeIs w r t ke ve L left) {base : Nat} {v : Value} {xs : List Pid} (h : OwnP w base v xs) (hg : w.grownBy w' v.ownBlock) : RangeIs w' r t ke ve L left := by
  refine hR.same (hg.block r hR.map.lt ?_) (hg.block t hR.lt (h.ne_iter hR))
  obtain ⟨es, clock, since, seen, h1, _⟩ := hR
  exact h.ne_map h1
theorem RangeIs.alloc {w : World} {r t : Nat} {α β : Type} [DecidableEq α] {ke : α → Value} {ve : β → Value} {L left : List (α × β)} (hR : RangeIs w r t ke ve L left) (o : Obj) : RangeIs (w.alloc o) r t ke ve L left := hR.ext ((Below.refl _ _).alloc (Nat.le_refl _) _)

/-! ### the set's methods -/
set_option maxRecDepth 100000 in
set_option maxHeartbeats 1600000 in
theorem list_any (s r : Nat) (L : List (Pid × Unit)) (w : World) (hS : SetIs w s r L) (hnd : (keys L).Nodup) (hok : ∀ p ∈ keys L, ok p) (hn : L.length ≤ 549755813888) :
   Calls Tryz.prog 260 #[.pointer (some ⟨s, 0, none⟩)] w fun e w' => ∃ v, e = .returned v ∧ OwnP w' w.heap.size v (sortL (keys L)) ∧ Below w.heap.size w w' := by
  have h0 := hS.box
  have hM := hS.map
  have HND := hid hnd
  have HOK := hid hok
  clear hnd hok
  go_enter Tryz.func260, Tryz.ntmps260
  go_wp2_with (at_range; refine wpList_range_is hM Tryz.underlying262 rfl rfl rfl ?_; intro w0 hR0 hb0)
  go_frame
  have hs0 := hb0.size
  have ht0 := hR0.lt
  go_loopw [3] (fun v wr => ∃ (got : List Pid) (left : List (Pid × Unit)), RangeIs wr r w.heap.size pidV eU L left ∧ OwnP wr w.heap.size v got ∧ Hid ((got ++ keys left).Perm (keys L)) ∧ got.length + left.length = L.length ∧ Below w.heap.size w wr ∧ w.heap.size < wr.heap.size) (fun _ wr => wr.rangeLeft r w.heap.size)
  case atStart => exact ⟨[], L, hR0, OwnP.nil _ _, (show ([] ++ keys L).Perm (keys L) from List.Perm.refl _), by simp, hb0, ht0⟩
  case round =>
    obtain ⟨got, left, hR, hown, hP, hlen, hb, hlt⟩ := hrel
    have HLEN := hid hlen
    have hgl : got.length ≤ L.length := by omega
    have hlm := hR.left_eq
    have HLM := hid hlm
    clear hlen hlm
    go_wp2_with (at_next; refine wpList_next_is hR rfl rfl rfl ?_ ?_)
    · intro hl
      have hgp : got.Perm (keys L) := by have := hP.out; rw [hl.out] at this; simpa [keys] using this
      have hgn : got.Nodup := hgp.symm.nodup HND.out
      have hgo : ∀ p ∈ got, ok p := fun p hp => HOK.out p (hgp.mem_iff.1 hp)
      have hsq : sortP got = sortL (keys L) := by rw [sortP_nodup hgn]; exact sortL_perm hgp hgo
      have HSQ := hid hsq
      have HGO := hid hgo
      obtain ⟨a, c, rfl, hrow, -⟩ := hown.row
      clear hgp hgn hsq hgo
      go_wp2_with (go_at_call 112; refine (sort_any a c got _ (by omega) hrow HGO.out).mono ?_; rintro e w3 ⟨v, rfl, hown3, hb3⟩)
      go_ret
      exact ⟨_, rfl, by rw [← HSQ.out]; exact hown3.mono (by omega), hb.trans (hb3.mono (by omega))⟩
    · intro x y u0 s1 s2 w1 hl hR1 hbut hen
      have hown1 := hown.butT hbut (hown.ne_iter hR)
      have HSZ := hid hbut.size
      have hone : PidRow ((w1.alloc (.cells #[.int .u16 x, .int .u32 y] 46)).alloc (.cells #[.int .u16 x, .int .u32 y] 46)) (some ⟨w1.heap.size + 1, 0, none⟩) [(x, y)] := PidRow.one' _ (by simp) x y
      go_wp2_with (at_builtin; refine wpList_appendP ((hown1.alloc _).alloc _) hone ?cb ?cz rfl rfl rfl rfl ?_; rotate_right; intro v4 w4 hown4 hg4 hnil4)
      case cb => simp; omega
      case cz => have := HSZ.out; simp; omega
      have hsz1 := HSZ.out
      have hB4 : Below w.heap.size w w4 := (((But.below' hb hbut (Nat.le_refl _)).alloc (by omega) _).alloc (by simp; omega) _).grown hg4 (by simp; omega) (fun g hg => (World.ownsRow.lt hown g hg).1)
      have hR4 := ((hR1.alloc (.cells #[.int .u16 x, .int .u32 y] 46)).alloc (.cells #[.int .u16 x, .int .u32 y] 46)).grown ((hown1.alloc _).alloc _) hg4
      have hlt4 := hR4.lt
      have hlm4 := hR4.left_eq
      have HLM4 := hid hlm4
      have hlq : left.length = s1.length + 1 + s2.length := by rw [hl.out]; simp; omega
      clear hlm4
      go_roundw
      case rel =>
        refine ⟨got ++ [(x, y)], s1 ++ s2, hR4, hown4, hid ?_, by have := HLEN.out; simp; omega, hB4, hlt4⟩
        refine List.Perm.trans ?_ hP.out
        rw [hl.out]
        simp only [keys, List.map_append, List.map_cons, List.append_assoc, List.cons_append, List.nil_append]
        refine List.Perm.append_left _ ?_
        exact List.perm_middle.symm
      case measure => rw [HLM4.out, HLM.out]; simp; omega
end Go.Proofs.YtehagnbphamjhaaGreatDoor

namespace Go.Proofs.YtehagnbphamjhaaGreatDoor
open Go.RowKit
/-! ### inbox: new -/
structure InNew (w w' : World) (V : View) (i : Nat) (b m1 m2 : Nat) (am : Option Addr) (cm : Nat) : Prop where
  lt : w.heap.size ≤ b
  lt1 : w.heap.size ≤ m1
  lt2 : w.heap.size ≤ m2
  below : Below w.heap.size w w'
  box : BoxL w' b 390 [.int .u64 i, .slice am V.ms.length cm, .map (some m1), .map (some m2), .int .i64 0]
  row : PidRow w' am V.ms
  map1 : MapIs w' m1 pidV n64 []
  map2 : ∀ {α β : Type} [DecidableEq α] (ke : α → Value) (ve : β → Value), MapIs w' m2 ke ve ([] : List (α × β))
  ne : m1 ≠ m2
theorem below_allocS {a w : World} (h : Below a.heap.size a w) (o : Obj) : Below a.heap.size a (w.alloc o) := h.alloc h.size o
theorem belowS_trans {a x b : World} (h : Below a.heap.size a x) (h2 : Below x.heap.size x b) : Below a.heap.size a b := h.trans (h2.mono h.size)
theorem mapAt {α β : Type} [DecidableEq α] {ke : α → Value} {ve : β → Value} {X w' : World} {r : Nat} (hr : r = X.heap.size) (hb : Below (X.alloc (.map #[] 0)).heap.size (X.alloc (.map #[] 0)) w') : MapIs w' r ke ve ([] : List (α × β)) := (MapIs.made' X hr).ext hb
theorem inNew_of {w w' : World} {V : View} {i b m1 m2 : Nat} {am : Option Addr} {cm : Nat} {e : Ending} (he : e = .returned (.pointer (some ⟨b, 0, none⟩))) (box : BoxL w' b 390 [.int .u64 i, .slice am V.ms.length cm, .map (some m1), .map (some m2), .int .i64 0])
    (lt : w.heap.size ≤ b) (lt1 : w.heap.size ≤ m1) (lt2 : w.heap.size ≤ m2) (below : Below w.heap.size w w') (row : PidRow w' am V.ms) (map1 : MapIs w' m1 pidV n64 []) (map2 : ∀ {α β : Type} [DecidableEq α] (ke : α → Value) (ve : β → Value), MapIs w' m2 ke ve ([] : List (α × β))) (ne : m1 ≠ m2) :
    ∃ b m1 m2 am cm, e = .returned (.pointer (some ⟨b, 0, none⟩)) ∧ InNew w w' V i b m1 m2 am cm := ⟨b, m1, m2, am, cm, he, ⟨lt, lt1, lt2, below, box, row, map1, map2, ne⟩⟩
set_option maxRecDepth 100000 in
set_option maxHeartbeats 3200000 in
theorem inboxNew_any {V : View} {i : Nat} {A : VAd} {w : World} (hf : FitV V i) (hV : ViewR w A.am A.al A.ad V) :
    Calls Tryz.prog 201 #[.agg (vcl V i A).toArray] w fun e w' => ∃ b m1 m2 am cm, e = .returned (.pointer (some ⟨b, 0, none⟩)) ∧ InNew w w' V i b m1 m2 am cm := by
  have hmm := @run_makeMap Tryz.prog
  obtain ⟨am, al, ad, cm, cl, cd⟩ := A
  obtain ⟨m1, e1⟩ : ∃ q, V.ms.length = q := ⟨_, rfl⟩
  obtain ⟨m2, e2⟩ : ∃ q, V.ls.length = q := ⟨_, rfl⟩
  obtain ⟨m3, e3⟩ : ∃ q, V.ds.length = q := ⟨_, rfl⟩
  obtain ⟨W1, hW1⟩ : ∃ W1, w.alloc (.cells #[.int .u64 i, .slice am m1 cm, .slice al m2 cl, .slice ad m3 cd] 54) = W1 := ⟨_, rfl⟩
  have hb1 : Below w.heap.size w W1 := by rw [← hW1]; exact (Below.refl _ _).alloc (Nat.le_refl _) _
  have c0 : W1.cell? ⟨w.heap.size, 0, none⟩ = some (.int .u64 i) := by rw [← hW1]; simp
  have c1 : W1.cell? ⟨w.heap.size, 1, none⟩ = some (.slice am m1 cm) := by rw [← hW1]; simp
  have hM := (hV.ext hb1).ms
  have hms := hf.ms
  have CM : Hid (∀ W, Below W1.heap.size W1 W → Calls Tryz.prog 261 #[.slice am m1 cm] W fun e w' => ∃ v, e = .returned v ∧ OwnP w' W1.heap.size v V.ms ∧ Below W1.heap.size W1 w' ∧ Below W.heap.size W w') := hid fun W h => (clone_is (hid e1) (by omega) (hM.ext h)).mono fun e w' ⟨v, h1, h2, h3⟩ => ⟨v, h1, OwnP.mono h2 h.size, h.trans (h3.mono h.size), h3⟩
  have HS : Hid (∀ W, Below W1.heap.size W1 W → Below W1.heap.size W1 W ∧ W.cell? ⟨w.heap.size, 0, none⟩ = some (.int .u64 i) ∧ W.cell? ⟨w.heap.size, 1, none⟩ = some (.slice am m1 cm)) := hid fun W h => ⟨h, cell_toB c0 h, cell_toB c1 h⟩
  have H0 : Below W1.heap.size W1 W1.drew := (Below.refl _ _).drew
  have hx : (vcl V i ⟨am, al, ad, cm, cl, cd⟩).toArray = #[.int .u64 i, .slice am m1 cm, .slice al m2 cl, .slice ad m3 cd] := by unfold vcl; rw [e1, e2, e3]
  rw [hx]
  have HB1 := hid hb1
  have HE := hid e1
  clear hb1 hx e1 e2 e3 hV hf c0 c1 hM hms
  go_enter Tryz.func201, Tryz.ntmps201
  go_wp2_with fail
  clear hW1
  go_region_held3 (fun W => Below W1.heap.size W1 W ∧ W.cell? ⟨w.heap.size, 0, none⟩ = some (.int .u64 i) ∧ W.cell? ⟨w.heap.size, 1, none⟩ = some (.slice am m1 cm)) (exact HS.out _ (by repeat (first | assumption | exact H0 | refine below_allocS ?_ _ | exact Below.refl _ _ | refine Below.drew ?_))) (first | ((go_at_call 261; refine (CM.out _ (by repeat (first | assumption | exact H0 | refine below_allocS ?_ _ | exact Below.refl _ _ | refine Below.drew ?_))).mono ?_; rintro e w6 ⟨v6, rfl, hown6, hb6, hq6⟩; obtain ⟨a6, k6, rfl, hrow6, -⟩ := OwnP.row hown6)))
  all_goals (
    go_wp2
    go_ret
    have s1 := HB1.out.size
    have s2 := hb6.size
    have s3 := hq6.size
    refine inNew_of (am := a6) (cm := k6) rfl (BoxL.madeN _ _ _ (by first | rfl | simp)) ?_ ?_ ?_ ?_ ?_ ?_ ?_ ?_)
  all_goals (first
    | omega
    | (simp; done)
    | (simp at s3 ⊢; omega)
    | (refine HB1.out.trans (Below.mono ?_ HB1.out.size); repeat (first | assumption | exact H0 | refine below_allocS ?_ _ | exact Below.refl _ _ | refine Below.drew ?_))
    | (refine hrow6.ext ?_; repeat (first | assumption | refine below_allocS ?_ _ | exact Below.refl _ _))
    | (intros; first
      | (refine mapAt (X := w6) ?_ ?_
         · first | rfl | (simp; done)
         · repeat (first | assumption | exact Below.refl _ _ | refine below_allocS ?_ _ | refine belowS_trans ?_ hq6 | refine Below.drew ?_))
      | (refine mapAt (X := w6.alloc (.map #[] 0)) ?_ ?_
         · first | rfl | (simp; done)
         · repeat (first | assumption | exact Below.refl _ _ | refine below_allocS ?_ _ | refine belowS_trans ?_ hq6 | refine Below.drew ?_))
      | (refine mapAt (X := W1) ?_ ?_
         · first | rfl | (simp; done)
         · repeat (first | assumption | exact Below.refl _ _ | refine below_allocS ?_ _ | refine belowS_trans ?_ hq6 | refine Below.drew ?_))
      | (refine mapAt (X := W1.alloc (.map #[] 0)) ?_ ?_
         · first | rfl | (simp; done)
         · repeat (first | assumption | exact Below.refl _ _ | refine below_allocS ?_ _ | refine belowS_trans ?_ hq6 | refine Below.drew ?_))
      | (refine mapAt (X := W1.drew) ?_ ?_
         · first | rfl | (simp; done)
         · repeat (first | assumption | exact Below.refl _ _ | refine below_allocS ?_ _ | refine belowS_trans ?_ hq6 | refine Below.drew ?_))
      | (refine mapAt (X := (W1.alloc (.map #[] 0)).drew) ?_ ?_
         · first | rfl | (simp; done)
         · repeat (first | assumption | exact Below.refl _ _ | refine below_allocS ?_ _ | refine belowS_trans ?_ hq6 | refine Below.drew ?_))))
end Go.Proofs.YtehagnbphamjhaaGreatDoor


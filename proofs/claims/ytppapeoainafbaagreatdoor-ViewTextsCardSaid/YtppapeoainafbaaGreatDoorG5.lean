/- Parts of the proof: G5. -/
import Derived.Deep.DeepCutAuto
import Derived.Test.YtppapeoainafbaaGreatDoorGViewTexts6
namespace Go.Proofs.YtppapeoainafbaaGreatDoor
open Go.RowKit
/-! ### view.member -/
def lenAt (w : World) (a : Addr) : Nat := match w.cell? a with | some (.slice _ n _) => n | _ => 0
theorem lenAt_is {w : World} {a : Addr} {b : Option Addr} {n c : Nat} (h : w.cell? a = some (.slice b n c)) : lenAt w a = n := by unfold lenAt; rw [h]
theorem cut_len (c : UInt8) (s : Str) : (Lib.cut s [c]).1.length ≤ s.length ∧ (Lib.cut s [c]).2.1.length ≤ s.length := by
  rw [cut_one]
  split
  · simp; omega
  · simp
theorem trim_len (s p : Str) : (Lib.trimSuffix s p).length ≤ s.length := by
  unfold Lib.trimSuffix
  split
  · simp
  · omega
theorem parseV_cases {s : Str} {r : Option Pid} (h : parseP s = r) : ∃ x y c : Int, parseV r = .tuple #[.agg #[.int .u16 x, .int .u32 y], .int .i64 c] ∧ ((c = 0 ∧ r = some (x, y)) ∨ (c = 5 ∧ r = none)) := by
  cases r with
  | some p => exact ⟨p.1, p.2, 0, rfl, .inl ⟨rfl, rfl⟩⟩
  | none => exact ⟨0, 0, 5, rfl, .inr ⟨rfl, rfl⟩⟩
def endM (V : View) (b q : Bool) (po : Option Pid) (n : Lib.NumEnd Int) : Option View :=
  match po, n with
  | some p, .ok k => if q = true ∧ 0 ≤ k ∧ k < 24 then some (memD V p k.toNat b) else none
  | _, _ => none
theorem memP_end (V : View) (w : Str) : memP V w = endM V (Lib.hasSuffix w [42]) (Lib.cut (Lib.trimSuffix w [42]) [47]).2.2 (parseP (Lib.cut (Lib.trimSuffix w [42]) [47]).1) (Lib.atoiAll (Lib.cut (Lib.trimSuffix w [42]) [47]).2.1) := rfl
theorem endM_q {V : View} {b : Bool} {po : Option Pid} {n : Lib.NumEnd Int} : endM V b false po n = none := by
  unfold endM
  split
  · rw [if_neg (by simp)]
  · rfl
theorem endM_p {V : View} {b q : Bool} {n : Lib.NumEnd Int} : endM V b q none n = none := rfl
theorem endM_n {V : View} {b q : Bool} {po : Option Pid} {n : Lib.NumEnd Int} (h : isOk n = false) : endM V b q po n = none := by
  unfold endM
  split
  · cases h
  · rfl
theorem endM_k {V : View} {b q : Bool} {po : Option Pid} {k : Int} (h : ¬ (0 ≤ k ∧ k < 24)) : endM V b q po (.ok k) = none := by
  unfold endM
  split
  · rename_i h2
    cases h2
    rw [if_neg (fun e => h e.2)]
  · rfl
theorem endM_y {V : View} {b : Bool} {p : Pid} {k : Nat} (h : k < 24) : endM V b true (some p) (.ok (k : Int)) = some (memD V p k b) := by
  unfold endM
  simp only
  rw [if_pos ⟨trivial, by omega, by omega⟩, Int.toNat_natCast]
section
variable {w w7 w8 : World} {s B : Nat} {x y : Int} {V : View} {vm vl vd v8 : Value} {cs : List Sl} {p : Pid}
theorem VSt.boxL (h : VSt w s V vm vl vd cs) (hb : Below w.heap.size w w7) (hg : w7.grownBy w8 vl.ownBlock) : BoxV w8 s (.int .u64 V.id) vm vl vd :=
  h.box.mutT (mut_grownV hb hg) fun e => by have := (h.ls.inB (.inl e)).1; omega
theorem VSt.boxM (h : VSt w s V vm vl vd cs) (hb : Below w.heap.size w w7) (hg : w7.grownBy w8 vm.ownBlock) : BoxV w8 s (.int .u64 V.id) vm vl vd :=
  h.box.mutT (mut_grownV hb hg) fun e => by have := (h.ms.blk e).1; omega
theorem VSt.boxD (h : VSt w s V vm vl vd cs) (hb : Below w.heap.size w w7) (hg : w7.grownBy w8 vd.ownBlock) : BoxV w8 s (.int .u64 V.id) vm vl vd :=
  h.box.mutT (mut_grownV hb hg) fun e => by have := (h.ds.blk e).1; omega
end
theorem pad_len (n : Nat) (ls : LL) : (pad n ls).length = ls.length + n := by simp [pad]
theorem pad_succ (n : Nat) (ls : LL) : pad n ls ++ [[]] = pad (n + 1) ls := by
  unfold pad
  rw [List.append_assoc, List.replicate_succ']
theorem pad_mem {n : Nat} {ls : LL} {l : List Pid} (h : l ∈ pad n ls) : l ∈ ls ∨ l = [] := by
  rcases List.mem_append.1 h with h | h
  · exact .inl h
  · exact .inr (List.eq_of_mem_replicate h)
theorem LLs.litV {w : World} {base : Nat} {v : Value} {cs : List Sl} {ls : LL} (h : LLs w base v cs ls) {N : Nat} (hN : ls.length = N) (h0 : 0 < N) : ∃ g cap, v = .slice (some ⟨g, 0, none⟩) N cap := by
  subst hN
  rcases h.own.2 with ⟨-, hn⟩ | ⟨g, cap, cur, rfl, hb, hg, hnc, hcm, hcs, htake⟩
  · omega
  · exact ⟨g, cap, rfl⟩
theorem LLs.sli {w : World} {base : Nat} {v : Value} {cs : List Sl} {ls : LL} (h : LLs w base v cs ls) {N : Nat} (hN : ls.length = N) : ∃ a c, v = .slice a N c := by
  subst hN
  obtain ⟨a, c, e, -⟩ := h.row
  exact ⟨a, c, e⟩
set_option maxRecDepth 100000 in
set_option maxHeartbeats 12800000 in
theorem member_any {s : Nat} {V : View} {vm vl vd : Value} {cs : List Sl} {w : World} (word : Str) (hwl : word.length ≤ 100000) (he : EnvOk w) (hs : VSt w s V vm vl vd cs) (hml : V.ms.length ≤ 1000) (hdl : V.ds.length ≤ 1000) (hll : V.ls.length ≤ 1000) (hle : ∀ l ∈ V.ls, l.length ≤ 1000) {r : Option View} (hr : Hid (memP V word = r)) :
    Calls Tryz.prog 50 #[.pointer (some ⟨s, 0, none⟩), .string ⟨word.toArray⟩] w fun e w' => e = .returned (.bool r.isSome) ∧ Below s w w' ∧ ∀ V', r = some V' → ∃ vm' vl' vd' cs', VSt w' s V' vm' vl' vd' cs' := by
  have hre := (memP_end V word).symm.trans hr.out
  have tl := trim_len word [42]
  have hst := hs.lt
  obtain ⟨T, hT⟩ : ∃ T, Lib.trimSuffix word [42] = T := ⟨_, rfl⟩
  obtain ⟨b, hb⟩ : ∃ b, Lib.hasSuffix word [42] = b := ⟨_, rfl⟩
  have C1 := cutsuf_any word hwl w
  rw [hT] at hre tl C1
  rw [hb] at hre C1
  obtain ⟨cl1, cl2⟩ := cut_len 47 T
  have C2 := cut_any T [47] (by omega) w he
  obtain ⟨N, hN⟩ : ∃ N, (Lib.cut T [47]).1 = N := ⟨_, rfl⟩
  obtain ⟨L, hL⟩ : ∃ L, (Lib.cut T [47]).2.1 = L := ⟨_, rfl⟩
  obtain ⟨q, hq⟩ : ∃ q, (Lib.cut T [47]).2.2 = q := ⟨_, rfl⟩
  rw [hN, hL, hq] at C2 hre
  rw [hN] at cl1
  rw [hL] at cl2
  obtain ⟨po, hpo⟩ : ∃ po, parseP N = po := ⟨_, rfl⟩
  rw [hpo] at hre
  obtain ⟨x, y, c, hpv, hpc⟩ := parseV_cases hpo
  have C3 : Hid (∀ W, Below w.heap.size w W → Calls Tryz.prog 98 #[.string ⟨N.toArray⟩] W fun e w' => e = .returned (.tuple #[.agg #[.int .u16 x, .int .u32 y], .int .i64 c]) ∧ Below W.heap.size W w') := hid fun W h => by
    have := parse_any N (by omega) W (he.ext h) (hid hpo)
    rw [hpv] at this
    exact this
  have C4 : Hid (∀ W, Below w.heap.size w W → Calls Tryz.prog 99 #[.string ⟨L.toArray⟩] W fun e w' => ∃ u ev, e = .returned (.tuple #[.int .i64 u, ev]) ∧ AtRes L u ev ∧ Below W.heap.size W w') := hid fun W h => atoi_any L (by omega) W (he.ext h)
  have D1 := hid C1
  have D2 := hid C2
  have HRE := hid hre
  have HPC := hid hpc
  have HS := hid hs
  have HST := hid hst
  have HLE := hid hle
  clear C1 C2 hre tl hT hb cl1 cl2 hN hL hq hpo hpv hpc hs he hst hle hwl
  have hno : r = none → ∀ w', Below w.heap.size w w' → (Ending.returned (.bool false) = .returned (.bool r.isSome) ∧ Below s w w' ∧ ∀ V', r = some V' → ∃ vm' vl' vd' cs', VSt w' s V' vm' vl' vd' cs') := fun e w' h => by
    subst e
    exact ⟨rfl, h.mono (by have := HST.out; omega), fun V' e => by cases e⟩
  have HNO := hid hno
  clear hno
  go_enter Tryz.func50, Tryz.ntmps50
  go_wp2_with fail
  (refine D1.out.mono ?_)
  rintro e w1 ⟨rfl, hw1⟩
  have hw1' := hw1.symm
  subst hw1'
  clear hw1 D1
  go_wp2_with fail
  (refine D2.out.mono ?_)
  rintro e w2 ⟨rfl, hb2⟩
  have HB2 := hid hb2
  clear hb2 D2
  go_wp2_with fail
  (refine (C3.out _ HB2.out).mono ?_)
  rintro e w3 ⟨rfl, hb3⟩
  have hb3' := HB2.out.trans (hb3.mono HB2.out.size)
  obtain ⟨W3, hW3⟩ : ∃ W3, w3.alloc (.cells #[.int .u16 x, .int .u32 y] 25) = W3 := ⟨_, rfl⟩
  have hbW : Below w3.heap.size w3 W3 := by rw [← hW3]; exact (Below.refl _ _).alloc (Nat.le_refl _) _
  have k0 : W3.cell? ⟨w3.heap.size, 0, none⟩ = some (.int .u16 x) := by rw [← hW3]; simp
  have k1 : W3.cell? ⟨w3.heap.size, 1, none⟩ = some (.int .u32 y) := by rw [← hW3]; simp
  obtain ⟨B, hB⟩ : ∃ B, w3.heap.size = B := ⟨_, rfl⟩
  rw [hB] at k0 k1
  have HB3 := hid (hb3'.trans (hbW.mono hb3'.size))
  have HVW := hid (HS.out.ext HB3.out)
  have HHW : Hid (Hold W3 s B x y vm vl vd cs) := hid (HS.out.hold (by rw [← hB]; exact hb3'.size) k0 k1)
  clear hb3 hb3' hbW k0 k1 C3
  go_wp2_with fail
  clear hW3 hB
  (refine (C4.out _ HB3.out).mono ?_)
  rintro e w4 ⟨u, ev, rfl, hat, hb4⟩
  have HB4 := hid (HB3.out.trans (hb4.mono HB3.out.size))
  have HV4 := hid (HVW.out.ext hb4)
  have HH4 := hid (HHW.out.ext hb4)
  have HAT := hid hat
  clear hat hb4 C4 HVW HHW
  cases q
  case false =>
    have HN : Hid (r = none) := hid (HRE.out.symm.trans endM_q)
    go_wp2_with fail
    go_ret
    exact HNO.out HN.out _ HB4.out
  case true =>
  rcases HPC.out with ⟨rfl, hpo⟩ | ⟨rfl, hpo⟩
  rotate_left
  · have HN : Hid (r = none) := hid (HRE.out.symm.trans (by rw [hpo]; exact endM_p))
    clear hpo
    go_wp2_with fail
    go_ret
    exact HNO.out HN.out _ HB4.out
  rcases HAT.out with ⟨hok, rfl⟩ | ⟨hbad, t, NN, rfl⟩
  rotate_left
  · have HN : Hid (r = none) := hid (HRE.out.symm.trans (endM_n hbad))
    clear hpo hbad
    go_wp2_with fail
    go_ret
    exact HNO.out HN.out _ HB4.out
  by_cases hu : u < 0
  · have HN : Hid (r = none) := hid (HRE.out.symm.trans (by rw [hok]; exact endM_k (by omega)))
    have d1 : decide (u < 0) = true := decide_eq_true hu
    clear hpo hok
    go_wp2_with fail
    go_ret
    exact HNO.out HN.out _ HB4.out
  by_cases hu2 : 24 ≤ u
  · have HN : Hid (r = none) := hid (HRE.out.symm.trans (by rw [hok]; exact endM_k (by omega)))
    have d1 : decide (u < 0) = false := decide_eq_false hu
    have d2 : decide (u ≥ 24) = true := decide_eq_true hu2
    have d3 : decide (24 ≤ u) = true := decide_eq_true hu2
    clear hpo hok
    go_wp2_with fail
    go_ret
    exact HNO.out HN.out _ HB4.out
  obtain ⟨k, rfl⟩ : ∃ k : Nat, u = (k : Int) := ⟨u.toNat, by omega⟩
  have hk24 : k < 24 := by omega
  have HY : Hid (r = some (memD V (x, y) k b)) := hid (HRE.out.symm.trans (by rw [hok, hpo]; exact endM_y hk24))
  have d2 : decide ((k : Int) ≥ 24) = false := decide_eq_false hu2
  have d3 : decide (24 ≤ (k : Int)) = false := decide_eq_false hu2
  have d4 : decide (24 ≤ k) = false := decide_eq_false (by omega)
  have HK24 := hid hk24
  clear hpo hok hu hu2 HRE HPC HNO HAT
  go_wp2_with fail
  clear d2 d3 d4
  go_loopw [58] (fun _ wr => ∃ (n : Nat) (vl' : Value) (cs' : List Sl), n ≤ k + 1 - V.ls.length ∧ VSt wr s ⟨V.id, V.ms, pad n V.ls, V.ds⟩ vm vl' vd cs' ∧ Hold wr s B x y vm vl' vd cs' ∧ Below s w wr) (fun _ wr => 25 - lenAt wr ⟨s, 2, none⟩)
  case atStart => exact ⟨0, vl, cs, Nat.zero_le _, by have := HV4.out; unfold pad; simpa using this, HH4.out, HB4.out.mono (by have := HST.out; omega)⟩
  case round =>
    obtain ⟨n, vl', cs', hn, hv, hh, hbw⟩ := hrel
    have hpl := pad_len n V.ls
    obtain ⟨M, hM⟩ : ∃ M, V.ls.length + n = M := ⟨_, rfl⟩
    rw [hM] at hpl
    obtain ⟨a, ca, rfl⟩ := hv.ls.sli hpl
    have c2 := hv.box.c2
    by_cases hlt : M ≤ k
    · have t1 : decide ((M : Int) ≤ (k : Int)) = true := by simpa using hlt
      have t2 : decide (M ≤ k) = true := by simpa using hlt
      obtain ⟨W5, hW5⟩ : ∃ W5, wr.alloc (.cells #[.slice none 0 0] 30) = W5 := ⟨_, rfl⟩
      have hb5 : Below wr.heap.size wr W5 := by rw [← hW5]; exact (Below.refl _ _).alloc (Nat.le_refl _) _
      have HC0 : Hid (W5.cell? ⟨wr.heap.size, 0, none⟩ = some (encS (none, 0, 0))) := hid (by rw [← hW5]; simp [encS])
      have HL5 := hid (hv.ls.ext hb5)
      have HS0 : Hid (OwnP W5 (s + 1) (encS (none, 0, 0)) []) := hid (OwnP.nil _ _)
      have HLEN : Hid ((pad n V.ls).length + 1 ≤ 1099511627776) := hid (by rw [hpl]; have := HK24.out; omega)
      have HZ5 : Hid (s + 1 ≤ W5.heap.size) := hid (by have := hv.lt; have := hb5.size; omega)
      have HV := hid hv
      have HH := hid hh
      have HB5 := hid hb5
      have HBW := hid hbw
      have HM0 := hid (lenAt_is c2)
      have HPL1 : Hid ((pad n V.ls ++ [[]]).length = M + 1) := hid (by rw [List.length_append, hpl]; rfl)
      have HN : Hid (n + 1 ≤ k + 1 - V.ls.length) := hid (by omega)
      have HV0 : Hid (∀ g, blkS ((none, 0, 0) : Sl) = some g → (Value.slice a M ca).ownBlock ≠ some g) := hid fun g e => by simp [blkS] at e
      have HC1 : Hid (∀ u ∈ cs', ∀ g, blkS u = some g → blkS ((none, 0, 0) : Sl) ≠ some g) := hid fun u _ g _ e => by simp [blkS] at e
      have HLT := hid hlt
      clear hv hh hb5 hbw hpl hn hM hlt
      go_wp2_with (refine wpList_appendLs (s := (none, 0, 0)) (l := []) HL5.out HC0.out HS0.out HV0.out HC1.out HLEN.out HZ5.out rfl rfl rfl rfl ?_; intro v8 w8 hown8 hg8 hat8; obtain ⟨a9, c9, e9⟩ := hown8.sli HPL1.out; subst e9; have HO8 := hid hown8; have HG8 := hid hg8; have HA8 := hid hat8; have k2 := (HV.out.boxL HB5.out hg8).c2; have g2 := (HV.out.boxL HB5.out hg8).f2; clear hown8 hg8 hat8)
      have hnew := HV.out.growL HB5.out HO8.out HG8.out HA8.out
      have hnewh := HH.out.growL HB5.out HG8.out HA8.out
      rw [pad_succ] at hnew
      have HNEW := hid hnew
      have HNEWH := hid hnewh
      have HM1 : Hid (lenAt (w8.setCell ⟨s, 2, none⟩ (.slice a9 (M + 1) c9)) ⟨s, 2, none⟩ = M + 1) := hid (lenAt_is hnew.1.box.c2)
      clear hnew hnewh k2 g2 c2
      go_roundw
      case rel => exact ⟨n + 1, _, _, HN.out, HNEW.out.1, HNEWH.out, HBW.out.trans HNEW.out.2⟩
      case measure => rw [HM1.out, HM0.out]; have := HLT.out; have := HK24.out; omega
    · have t1 : decide ((M : Int) ≤ (k : Int)) = false := by simpa using hlt
      have t2 : decide (M ≤ k) = false := by simpa using hlt
      have hn2 : n = k + 1 - V.ls.length := by omega
      have hkM : k < M := by omega
      obtain ⟨g, cap, hlit⟩ := hv.ls.litV hpl (by omega)
      injection hlit with ha' _ hc'
      subst ha'
      have hc2 := hc'.symm
      subst hc2
      obtain ⟨a2, m2, c2', yl, hy, hyl, hcell, hownl, hgw, hap⟩ := app_put (p := (x, y)) hv.ls hpl hkM (Keeps.refl wr _ cs')
      have hb7 : Below wr.heap.size wr (wr.drew.alloc (.cells #[.int .u16 x, .int .u32 y] 25)) := (Below.refl _ _).drew.alloc (by simp) _
      have hcell7 : (wr.drew.alloc (.cells #[.int .u16 x, .int .u32 y] 25)).cell? ⟨g, k, none⟩ = some (.slice a2 m2 c2') := (hb7.cell (by exact hgw)).trans hcell
      have hcella : (wr.alloc (.cells #[.int .u16 x, .int .u32 y] 25)).cell? ⟨g, k, none⟩ = some (.slice a2 m2 c2') := (((Below.refl _ _).alloc (Nat.le_refl _) _ : Below wr.heap.size wr _).cell (by exact hgw)).trans hcell
      have hcelld : wr.drew.cell? ⟨g, k, none⟩ = some (.slice a2 m2 c2') := hcell
      have HO7 := hid (hownl.ext hb7)
      have HR7 : Hid (PidRow (wr.drew.alloc (.cells #[.int .u16 x, .int .u32 y] 25)) (some ⟨wr.heap.size, 0, none⟩) [(x, y)]) := hid (PidRow.one wr.drew x y)
      have HLEN : Hid (yl.length + [(x, y)].length ≤ 1099511627776) := hid (by
        have := List.mem_of_getElem? hy
        rcases pad_mem this with h | h
        · have := HLE.out yl h; simp; omega
        · subst h; simp)
      have HB7 : Hid (s + 1 ≤ (wr.drew.alloc (.cells #[.int .u16 x, .int .u32 y] 25)).heap.size) := hid (by have := hb7.size; have := hv.lt; omega)
      have hSs : s < wr.heap.size ∧ ¬ inLL (.slice (some ⟨g, 0, none⟩) M cap) cs' s := ⟨hv.lt, fun e => by have := (hv.ls.inB e).1; omega⟩
      have HS0 : Hid (wr.drew.cell? ⟨s, 2, none⟩ = some (.slice (some ⟨g, 0, none⟩) M cap) ∧ wr.drew.cell? ⟨B, 0, none⟩ = some (.int .u16 x) ∧ wr.drew.cell? ⟨B, 1, none⟩ = some (.int .u32 y)) := hid ⟨c2, hh.c0, hh.c1⟩
      have HS7 : Hid ((wr.drew.alloc (.cells #[.int .u16 x, .int .u32 y] 25)).cell? ⟨s, 2, none⟩ = some (.slice (some ⟨g, 0, none⟩) M cap) ∧ (wr.drew.alloc (.cells #[.int .u16 x, .int .u32 y] 25)).cell? ⟨B, 0, none⟩ = some (.int .u16 x) ∧ (wr.drew.alloc (.cells #[.int .u16 x, .int .u32 y] 25)).cell? ⟨B, 1, none⟩ = some (.int .u32 y)) := hid ⟨(hb7.cell (by exact hv.lt)).trans c2, (hb7.cell (by exact hh.lt)).trans hh.c0, (hb7.cell (by exact hh.lt)).trans hh.c1⟩
      have HSS := hid hSs
      have HHB : Hid (B < wr.heap.size ∧ ¬ inLL (.slice (some ⟨g, 0, none⟩) M cap) cs' B) := hid ⟨hh.lt, hh.nl⟩
      have HAP := hid hap
      have HBW7 := hid hb7
      have HV := hid hv
      have HH := hid hh
      have HBW := hid hbw
      have HPUT : Hid ((pad n V.ls).set k (yl ++ [(x, y)]) = putK (x, y) k V.ls) := hid (by
        rw [putK_pad, ← hn2, hy]; rfl)
      have HKM := hid hkM
      clear hv hh hbw hn hn2 hpl hM hlt hy hyl hcell hownl hgw hap hb7 hSs
      go_wp2_with fail
      clear t1 t2
      go_cut [11] (fun kv wx => kv = .int .i64 k ∧ ∃ cs2, VSt wx s ⟨V.id, V.ms, putK (x, y) k V.ls, V.ds⟩ vm (.slice (some ⟨g, 0, none⟩) M cap) vd cs2 ∧ Hold wx s B x y vm (.slice (some ⟨g, 0, none⟩) M cap) vd cs2 ∧ Below s w wx)
      case first =>
        refine wp_region_held_drew (S := fun W => W.cell? ⟨s, 2, none⟩ = some (.slice (some ⟨g, 0, none⟩) M cap) ∧ W.cell? ⟨B, 0, none⟩ = some (.int .u16 x) ∧ W.cell? ⟨B, 1, none⟩ = some (.int .u32 y)) (by kernel_rfl) (by exact HS0.out) (fun hHeld => ?_)
        refine wpAnyH_take (i := 0) (oi := _) (v := .pointer (some ⟨s, 0, none⟩)) rfl (by kernel_rfl) (by kernel_rfl) (by kernel_rfl) (fun _ _ _ h => h) (Or.inl ⟨by rfl, ?_⟩) (by assumption) ?_
        · intro W hSw
          try dsimp only at hSw
          go_simp
        try simp only [Act.put, List.getElem_toArray, List.getElem_cons_succ, List.getElem_cons_zero, List.setIfInBounds_toArray, List.set_cons_zero, List.set_cons_succ]
        refine wpAnyH_take (i := 1) (oi := _) (v := .pointer (some ⟨s, 0, none⟩)) rfl (by kernel_rfl) (by kernel_rfl) (by kernel_rfl) (fun _ _ _ h => h) (Or.inl ⟨by rfl, ?_⟩) (by assumption) ?_
        · intro W hSw
          try dsimp only at hSw
          go_simp
        try simp only [Act.put, List.getElem_toArray, List.getElem_cons_succ, List.getElem_cons_zero, List.setIfInBounds_toArray, List.set_cons_zero, List.set_cons_succ]
        refine wpAnyH_take (i := 2) (oi := _) (v := .pointer (some ⟨s, 2, none⟩)) rfl (by kernel_rfl) (by kernel_rfl) (by kernel_rfl) (fun _ _ _ h => h) (Or.inl ⟨by rfl, ?_⟩) (by assumption) ?_
        · intro W hSw
          try dsimp only at hSw
          go_simp
        try simp only [Act.put, List.getElem_toArray, List.getElem_cons_succ, List.getElem_cons_zero, List.setIfInBounds_toArray, List.set_cons_zero, List.set_cons_succ]
        refine wpAnyH_take (i := 3) (oi := _) (v := .slice (some ⟨g, 0, none⟩) M cap) rfl (by kernel_rfl) (by kernel_rfl) (by kernel_rfl) (fun _ _ _ h => h) (Or.inl ⟨by rfl, ?_⟩) (by assumption) ?_
        · intro W hSw
          try dsimp only at hSw
          obtain ⟨hSw1, hSw2, hSw3⟩ := hSw
          go_simp
        try simp only [Act.put, List.getElem_toArray, List.getElem_cons_succ, List.getElem_cons_zero, List.setIfInBounds_toArray, List.set_cons_zero, List.set_cons_succ]
        refine wpAnyH_take (i := 4) (oi := _) (v := .int .i64 (k : Int)) rfl (by kernel_rfl) (by kernel_rfl) (by kernel_rfl) (fun _ _ _ h => h) (Or.inl ⟨by rfl, ?_⟩) (by assumption) ?_
        · intro W hSw
          try dsimp only at hSw
          go_simp
        try simp only [Act.put, List.getElem_toArray, List.getElem_cons_succ, List.getElem_cons_zero, List.setIfInBounds_toArray, List.set_cons_zero, List.set_cons_succ]
        refine wpAnyH_take (i := 5) (oi := _) (v := .pointer (some ⟨s, 0, none⟩)) rfl (by kernel_rfl) (by kernel_rfl) (by kernel_rfl) (fun _ _ _ h => h) (Or.inl ⟨by rfl, ?_⟩) (by assumption) ?_
        · intro W hSw
          try dsimp only at hSw
          go_simp
        try simp only [Act.put, List.getElem_toArray, List.getElem_cons_succ, List.getElem_cons_zero, List.setIfInBounds_toArray, List.set_cons_zero, List.set_cons_succ]
        refine wpAnyH_take (i := 6) (oi := _) (v := .pointer (some ⟨s, 0, none⟩)) rfl (by kernel_rfl) (by kernel_rfl) (by kernel_rfl) (fun _ _ _ h => h) (Or.inl ⟨by rfl, ?_⟩) (by assumption) ?_
        · intro W hSw
          try dsimp only at hSw
          go_simp
        try simp only [Act.put, List.getElem_toArray, List.getElem_cons_succ, List.getElem_cons_zero, List.setIfInBounds_toArray, List.set_cons_zero, List.set_cons_succ]
        refine wpAnyH_take (i := 7) (oi := _) (v := .pointer (some ⟨s, 2, none⟩)) rfl (by kernel_rfl) (by kernel_rfl) (by kernel_rfl) (fun _ _ _ h => h) (Or.inl ⟨by rfl, ?_⟩) (by assumption) ?_
        · intro W hSw
          try dsimp only at hSw
          go_simp
        try simp only [Act.put, List.getElem_toArray, List.getElem_cons_succ, List.getElem_cons_zero, List.setIfInBounds_toArray, List.set_cons_zero, List.set_cons_succ]
        refine wpAnyH_take (i := 8) (oi := _) (v := .slice (some ⟨g, 0, none⟩) M cap) rfl (by kernel_rfl) (by kernel_rfl) (by kernel_rfl) (fun _ _ _ h => h) (Or.inl ⟨by rfl, ?_⟩) (by assumption) ?_
        · intro W hSw
          try dsimp only at hSw
          obtain ⟨hSw1, hSw2, hSw3⟩ := hSw
          go_simp
        try simp only [Act.put, List.getElem_toArray, List.getElem_cons_succ, List.getElem_cons_zero, List.setIfInBounds_toArray, List.set_cons_zero, List.set_cons_succ]
        refine wpAnyH_take (i := 9) (oi := _) (v := .int .i64 (k : Int)) rfl (by kernel_rfl) (by kernel_rfl) (by kernel_rfl) (fun _ _ _ h => h) (Or.inl ⟨by rfl, ?_⟩) (by assumption) ?_
        · intro W hSw
          try dsimp only at hSw
          go_simp
        try simp only [Act.put, List.getElem_toArray, List.getElem_cons_succ, List.getElem_cons_zero, List.setIfInBounds_toArray, List.set_cons_zero, List.set_cons_succ]
        refine wpAnyH_take (i := 10) (oi := _) (v := .pointer (some ⟨g, k, none⟩)) rfl (by kernel_rfl) (by kernel_rfl) (by kernel_rfl) (fun _ _ _ h => h) (Or.inl ⟨by rfl, ?_⟩) (by assumption) ?_
        · intro W hSw
          try dsimp only at hSw
          have hkM := HKM.out
          go_simp
        try simp only [Act.put, List.getElem_toArray, List.getElem_cons_succ, List.getElem_cons_zero, List.setIfInBounds_toArray, List.set_cons_zero, List.set_cons_succ]
        refine wpAnyH_take (i := 12) (oi := _) (v := .agg #[.int .u16 x, .int .u32 y]) rfl (by kernel_rfl) (by kernel_rfl) (by kernel_rfl) (fun _ _ _ h => h) (Or.inl ⟨by rfl, ?_⟩) (by assumption) ?_
        · intro W hSw
          try dsimp only at hSw
          obtain ⟨hSw1, hSw2, hSw3⟩ := hSw
          go_simp
        try simp only [Act.put, List.getElem_toArray, List.getElem_cons_succ, List.getElem_cons_zero, List.setIfInBounds_toArray, List.set_cons_zero, List.set_cons_succ]
        refine wpAnyH_ready (rs := [11, 13]) (by kernel_rfl) (by simp) ?_
        refine AllReadyH.cons (o := _) rfl (fun K hK => ?_) (AllReadyH.cons (o := _) rfl (fun K hK => ?_) AllReadyH.nil)
        · go_simp
          refine hK.out _ _ (HS0.out) (fun hHeld => ?_)
          clear hK K
          try simp only [Act.put, List.getElem_toArray, List.getElem_cons_succ, List.getElem_cons_zero, List.setIfInBounds_toArray, List.set_cons_zero, List.set_cons_succ]
          refine wpAnyH_ready (rs := [13]) (by kernel_rfl) (by simp) ?_
          refine AllReadyH.cons (o := _) rfl (fun K hK => ?_) AllReadyH.nil
          go_simp
          refine hK.out _ _ (HS7.out) (fun hHeld => ?_)
          clear hK K
          try simp only [Act.put, List.getElem_toArray, List.getElem_cons_succ, List.getElem_cons_zero, List.setIfInBounds_toArray, List.set_cons_zero, List.set_cons_succ]
          refine wpAnyH_ready (rs := [14]) (by kernel_rfl) (by simp) ?_
          refine AllReadyH.cons (o := _) rfl (fun K hK => ?_) AllReadyH.nil
          refine step_appendPat (by rfl) HO7.out HR7.out (hid rfl) HLEN.out HB7.out rfl rfl rfl ?_
          intro v8 w8 hown8 hg8 hat8
          obtain ⟨a8, n8, c8, cs8, e8, k8, f8, hL8, hK8, hq8⟩ := HAP.out _ HBW7.out v8 w8 hown8 hg8 hat8
          subst e8
          have HS8 : Hid (w8.cell? ⟨s, 2, none⟩ = some (.slice (some ⟨g, 0, none⟩) M cap) ∧ w8.cell? ⟨B, 0, none⟩ = some (.int .u16 x) ∧ w8.cell? ⟨B, 1, none⟩ = some (.int .u32 y)) := hid ⟨((hq8 ⟨s, 2, none⟩ HSS.out.1 HSS.out.2).1).trans HS0.out.1, ((hq8 ⟨B, 0, none⟩ HHB.out.1 HHB.out.2).1).trans HS0.out.2.1, ((hq8 ⟨B, 1, none⟩ HHB.out.1 HHB.out.2).1).trans HS0.out.2.2⟩
          have HS9 : Hid ((w8.setCell ⟨g, k, none⟩ (.slice a8 n8 c8)).cell? ⟨s, 2, none⟩ = some (.slice (some ⟨g, 0, none⟩) M cap) ∧ (w8.setCell ⟨g, k, none⟩ (.slice a8 n8 c8)).cell? ⟨B, 0, none⟩ = some (.int .u16 x) ∧ (w8.setCell ⟨g, k, none⟩ (.slice a8 n8 c8)).cell? ⟨B, 1, none⟩ = some (.int .u32 y)) := hid ⟨((hq8 ⟨s, 2, none⟩ HSS.out.1 HSS.out.2).2).trans HS0.out.1, ((hq8 ⟨B, 0, none⟩ HHB.out.1 HHB.out.2).2).trans HS0.out.2.1, ((hq8 ⟨B, 1, none⟩ HHB.out.1 HHB.out.2).2).trans HS0.out.2.2⟩
          have hL8' := hL8
          rw [HPUT.out] at hL8'
          have HKP := hid (HV.out.keep hL8' hK8)
          have HKH := hid (HH.out.keep hK8)
          clear hown8 hg8 hat8 hL8 hL8' hK8 hq8
          refine hK.out _ _ (HS8.out) (fun hHeld => ?_)
          clear hK K
          try simp only [Act.put, List.getElem_toArray, List.getElem_cons_succ, List.getElem_cons_zero, List.setIfInBounds_toArray, List.set_cons_zero, List.set_cons_succ]
          refine wpAnyH_ready (rs := [15]) (by kernel_rfl) (by simp) ?_
          refine AllReadyH.cons (o := _) rfl (fun K hK => ?_) AllReadyH.nil
          have hkM := HKM.out
          go_simp
          refine hK.out _ _ (HS8.out) (fun hHeld => ?_)
          clear hK K
          try simp only [Act.put, List.getElem_toArray, List.getElem_cons_succ, List.getElem_cons_zero, List.setIfInBounds_toArray, List.set_cons_zero, List.set_cons_succ]
          refine wpAnyH_ready (rs := [16]) (by kernel_rfl) (by simp) ?_
          refine AllReadyH.cons (o := _) rfl (fun K hK => ?_) AllReadyH.nil
          go_simp
          refine hK.out _ _ (HS9.out) (fun hHeld => ?_)
          clear hK K
          try simp only [Act.put, List.getElem_toArray, List.getElem_cons_succ, List.getElem_cons_zero, List.setIfInBounds_toArray, List.set_cons_zero, List.set_cons_succ]
          refine wpAnyH_done (by kernel_rfl) ?_ _
          go_wp2_with fail
          go_meet
          exact ⟨rfl, _, HKP.out.1, HKH.out, HBW.out.trans HKP.out.2⟩
        · go_simp
          refine hK.out _ _ (HS7.out) (fun hHeld => ?_)
          clear hK K
          try simp only [Act.put, List.getElem_toArray, List.getElem_cons_succ, List.getElem_cons_zero, List.setIfInBounds_toArray, List.set_cons_zero, List.set_cons_succ]
          refine wpAnyH_ready (rs := [11]) (by kernel_rfl) (by simp) ?_
          refine AllReadyH.cons (o := _) rfl (fun K hK => ?_) AllReadyH.nil
          go_simp
          refine hK.out _ _ (HS7.out) (fun hHeld => ?_)
          clear hK K
          try simp only [Act.put, List.getElem_toArray, List.getElem_cons_succ, List.getElem_cons_zero, List.setIfInBounds_toArray, List.set_cons_zero, List.set_cons_succ]
          refine wpAnyH_ready (rs := [14]) (by kernel_rfl) (by simp) ?_
          refine AllReadyH.cons (o := _) rfl (fun K hK => ?_) AllReadyH.nil
          refine step_appendPat (by rfl) HO7.out HR7.out (hid rfl) HLEN.out HB7.out rfl rfl rfl ?_
          intro v8 w8 hown8 hg8 hat8
          obtain ⟨a8, n8, c8, cs8, e8, k8, f8, hL8, hK8, hq8⟩ := HAP.out _ HBW7.out v8 w8 hown8 hg8 hat8
          subst e8
          have HS8 : Hid (w8.cell? ⟨s, 2, none⟩ = some (.slice (some ⟨g, 0, none⟩) M cap) ∧ w8.cell? ⟨B, 0, none⟩ = some (.int .u16 x) ∧ w8.cell? ⟨B, 1, none⟩ = some (.int .u32 y)) := hid ⟨((hq8 ⟨s, 2, none⟩ HSS.out.1 HSS.out.2).1).trans HS0.out.1, ((hq8 ⟨B, 0, none⟩ HHB.out.1 HHB.out.2).1).trans HS0.out.2.1, ((hq8 ⟨B, 1, none⟩ HHB.out.1 HHB.out.2).1).trans HS0.out.2.2⟩
          have HS9 : Hid ((w8.setCell ⟨g, k, none⟩ (.slice a8 n8 c8)).cell? ⟨s, 2, none⟩ = some (.slice (some ⟨g, 0, none⟩) M cap) ∧ (w8.setCell ⟨g, k, none⟩ (.slice a8 n8 c8)).cell? ⟨B, 0, none⟩ = some (.int .u16 x) ∧ (w8.setCell ⟨g, k, none⟩ (.slice a8 n8 c8)).cell? ⟨B, 1, none⟩ = some (.int .u32 y)) := hid ⟨((hq8 ⟨s, 2, none⟩ HSS.out.1 HSS.out.2).2).trans HS0.out.1, ((hq8 ⟨B, 0, none⟩ HHB.out.1 HHB.out.2).2).trans HS0.out.2.1, ((hq8 ⟨B, 1, none⟩ HHB.out.1 HHB.out.2).2).trans HS0.out.2.2⟩
          have hL8' := hL8
          rw [HPUT.out] at hL8'
          have HKP := hid (HV.out.keep hL8' hK8)
          have HKH := hid (HH.out.keep hK8)
          clear hown8 hg8 hat8 hL8 hL8' hK8 hq8
          refine hK.out _ _ (HS8.out) (fun hHeld => ?_)
          clear hK K
          try simp only [Act.put, List.getElem_toArray, List.getElem_cons_succ, List.getElem_cons_zero, List.setIfInBounds_toArray, List.set_cons_zero, List.set_cons_succ]
          refine wpAnyH_ready (rs := [15]) (by kernel_rfl) (by simp) ?_
          refine AllReadyH.cons (o := _) rfl (fun K hK => ?_) AllReadyH.nil
          have hkM := HKM.out
          go_simp
          refine hK.out _ _ (HS8.out) (fun hHeld => ?_)
          clear hK K
          try simp only [Act.put, List.getElem_toArray, List.getElem_cons_succ, List.getElem_cons_zero, List.setIfInBounds_toArray, List.set_cons_zero, List.set_cons_succ]
          refine wpAnyH_ready (rs := [16]) (by kernel_rfl) (by simp) ?_
          refine AllReadyH.cons (o := _) rfl (fun K hK => ?_) AllReadyH.nil
          go_simp
          refine hK.out _ _ (HS9.out) (fun hHeld => ?_)
          clear hK K
          try simp only [Act.put, List.getElem_toArray, List.getElem_cons_succ, List.getElem_cons_zero, List.setIfInBounds_toArray, List.set_cons_zero, List.set_cons_succ]
          refine wpAnyH_done (by kernel_rfl) ?_ _
          go_wp2_with fail
          go_meet
          exact ⟨rfl, _, HKP.out.1, HKH.out, HBW.out.trans HKP.out.2⟩
      case rest =>
      obtain ⟨rfl, cs2, hv, hh, hb⟩ := hcut
      rename World => wm
      clear HS0 HS7 HSS HHB HAP HBW7 HV HH HBW HO7 HR7 HLEN HB7 HPUT hcell7 hcella hcelld c2
      have hb7 : Below wm.heap.size wm (wm.drew.alloc (.cells #[.int .u16 x, .int .u32 y] 25)) := (Below.refl _ _).drew.alloc (by simp) _
      have c1 : wm.drew.cell? ⟨s, 1, none⟩ = some vm := hv.box.c1
      have c1a : (wm.alloc (.cells #[.int .u16 x, .int .u32 y] 25)).cell? ⟨s, 1, none⟩ = some vm := (((Below.refl _ _).alloc (Nat.le_refl _) _ : Below wm.heap.size wm _).cell (by exact hv.lt)).trans hv.box.c1
      have c17 : (wm.drew.alloc (.cells #[.int .u16 x, .int .u32 y] 25)).cell? ⟨s, 1, none⟩ = some vm := (hb7.cell (by exact hv.lt)).trans hv.box.c1
      have HO7 := hid (hv.ms.ext hb7)
      have HR7 : Hid (PidRow (wm.drew.alloc (.cells #[.int .u16 x, .int .u32 y] 25)) (some ⟨wm.heap.size, 0, none⟩) [(x, y)]) := hid (PidRow.one wm.drew x y)
      have HLEN : Hid (V.ms.length + [(x, y)].length ≤ 1099511627776) := hid (by simp; omega)
      have HB7 : Hid (s + 1 ≤ (wm.drew.alloc (.cells #[.int .u16 x, .int .u32 y] 25)).heap.size) := hid (by have := hb7.size; have := hv.lt; omega)
      have HS0 : Hid (wm.drew.cell? ⟨B, 0, none⟩ = some (.int .u16 x) ∧ wm.drew.cell? ⟨B, 1, none⟩ = some (.int .u32 y)) := hid ⟨hh.c0, hh.c1⟩
      have HS7 : Hid ((wm.drew.alloc (.cells #[.int .u16 x, .int .u32 y] 25)).cell? ⟨B, 0, none⟩ = some (.int .u16 x) ∧ (wm.drew.alloc (.cells #[.int .u16 x, .int .u32 y] 25)).cell? ⟨B, 1, none⟩ = some (.int .u32 y)) := hid ⟨(hb7.cell (by exact hh.lt)).trans hh.c0, (hb7.cell (by exact hh.lt)).trans hh.c1⟩
      have HBW7 := hid hb7
      have HV := hid hv
      have HH := hid hh
      have HBW := hid hb
      obtain ⟨n8, hn8⟩ : ∃ n8, (V.ms ++ [(x, y)]).length = n8 := ⟨_, rfl⟩
      have HN8 := hid hn8
      clear hv hh hb hb7 hn8
      go_upto_region 10 with fail
      go_cut [5] (fun kv wx => kv = .bool b ∧ ∃ vm2, VSt wx s ⟨V.id, V.ms ++ [(x, y)], putK (x, y) k V.ls, V.ds⟩ vm2 (.slice (some ⟨g, 0, none⟩) M cap) vd cs2 ∧ Hold wx s B x y vm2 (.slice (some ⟨g, 0, none⟩) M cap) vd cs2 ∧ Below s w wx)
      case first =>
        refine wp_region_held_drew (S := fun W => W.cell? ⟨B, 0, none⟩ = some (.int .u16 x) ∧ W.cell? ⟨B, 1, none⟩ = some (.int .u32 y)) (by kernel_rfl) (by exact HS0.out) (fun hHeld => ?_)
        refine wpAnyH_take (i := 0) (oi := _) (v := .pointer (some ⟨s, 0, none⟩)) rfl (by kernel_rfl) (by kernel_rfl) (by kernel_rfl) (fun _ _ _ h => h) (Or.inl ⟨by rfl, ?_⟩) (by assumption) ?_
        · intro W hSw
          try dsimp only at hSw
          go_simp
        try simp only [Act.put, List.getElem_toArray, List.getElem_cons_succ, List.getElem_cons_zero, List.setIfInBounds_toArray, List.set_cons_zero, List.set_cons_succ]
        refine wpAnyH_take (i := 1) (oi := _) (v := .pointer (some ⟨s, 0, none⟩)) rfl (by kernel_rfl) (by kernel_rfl) (by kernel_rfl) (fun _ _ _ h => h) (Or.inl ⟨by rfl, ?_⟩) (by assumption) ?_
        · intro W hSw
          try dsimp only at hSw
          go_simp
        try simp only [Act.put, List.getElem_toArray, List.getElem_cons_succ, List.getElem_cons_zero, List.setIfInBounds_toArray, List.set_cons_zero, List.set_cons_succ]
        refine wpAnyH_take (i := 2) (oi := _) (v := .pointer (some ⟨s, 0, none⟩)) rfl (by kernel_rfl) (by kernel_rfl) (by kernel_rfl) (fun _ _ _ h => h) (Or.inl ⟨by rfl, ?_⟩) (by assumption) ?_
        · intro W hSw
          try dsimp only at hSw
          go_simp
        try simp only [Act.put, List.getElem_toArray, List.getElem_cons_succ, List.getElem_cons_zero, List.setIfInBounds_toArray, List.set_cons_zero, List.set_cons_succ]
        refine wpAnyH_take (i := 3) (oi := _) (v := .pointer (some ⟨s, 1, none⟩)) rfl (by kernel_rfl) (by kernel_rfl) (by kernel_rfl) (fun _ _ _ h => h) (Or.inl ⟨by rfl, ?_⟩) (by assumption) ?_
        · intro W hSw
          try dsimp only at hSw
          go_simp
        try simp only [Act.put, List.getElem_toArray, List.getElem_cons_succ, List.getElem_cons_zero, List.setIfInBounds_toArray, List.set_cons_zero, List.set_cons_succ]
        refine wpAnyH_take (i := 5) (oi := _) (v := .agg #[.int .u16 x, .int .u32 y]) rfl (by kernel_rfl) (by kernel_rfl) (by kernel_rfl) (fun _ _ _ h => h) (Or.inl ⟨by rfl, ?_⟩) (by assumption) ?_
        · intro W hSw
          try dsimp only at hSw
          obtain ⟨hSw1, hSw2⟩ := hSw
          go_simp
        try simp only [Act.put, List.getElem_toArray, List.getElem_cons_succ, List.getElem_cons_zero, List.setIfInBounds_toArray, List.set_cons_zero, List.set_cons_succ]
        refine wpAnyH_ready (rs := [4, 6]) (by kernel_rfl) (by simp) ?_
        refine AllReadyH.cons (o := _) rfl (fun K hK => ?_) (AllReadyH.cons (o := _) rfl (fun K hK => ?_) AllReadyH.nil)
        · go_simp
          refine hK.out _ _ (HS0.out) (fun hHeld => ?_)
          clear hK K
          try simp only [Act.put, List.getElem_toArray, List.getElem_cons_succ, List.getElem_cons_zero, List.setIfInBounds_toArray, List.set_cons_zero, List.set_cons_succ]
          refine wpAnyH_ready (rs := [6]) (by kernel_rfl) (by simp) ?_
          refine AllReadyH.cons (o := _) rfl (fun K hK => ?_) AllReadyH.nil
          go_simp
          refine hK.out _ _ (HS7.out) (fun hHeld => ?_)
          clear hK K
          try simp only [Act.put, List.getElem_toArray, List.getElem_cons_succ, List.getElem_cons_zero, List.setIfInBounds_toArray, List.set_cons_zero, List.set_cons_succ]
          refine wpAnyH_ready (rs := [7]) (by kernel_rfl) (by simp) ?_
          refine AllReadyH.cons (o := _) rfl (fun K hK => ?_) AllReadyH.nil
          refine step_appendPat (by rfl) HO7.out HR7.out (hid rfl) HLEN.out HB7.out rfl rfl rfl ?_
          intro v8 w8 hown8 hg8 hat8
          obtain ⟨a9, c9, e9, -⟩ := hown8.sl
          rw [HN8.out] at e9
          subst e9
          have hq8 := HH.out.growM (v8 := .slice a9 n8 c9) HBW7.out hg8 hat8
          have k8 := (HV.out.boxM HBW7.out hg8).c1
          have f8 := (HV.out.boxM HBW7.out hg8).f1
          have HKP := hid (HV.out.growM HBW7.out hown8 hg8 hat8)
          have HS8 := hid hq8.1
          have HKH := hid hq8.2
          have HS9 : Hid ((w8.setCell ⟨s, 1, none⟩ (.slice a9 n8 c9)).cell? ⟨B, 0, none⟩ = some (.int .u16 x) ∧ (w8.setCell ⟨s, 1, none⟩ (.slice a9 n8 c9)).cell? ⟨B, 1, none⟩ = some (.int .u32 y)) := hid ⟨hq8.2.c0, hq8.2.c1⟩
          clear hown8 hg8 hat8 hq8
          refine hK.out _ _ (HS8.out) (fun hHeld => ?_)
          clear hK K
          try simp only [Act.put, List.getElem_toArray, List.getElem_cons_succ, List.getElem_cons_zero, List.setIfInBounds_toArray, List.set_cons_zero, List.set_cons_succ]
          refine wpAnyH_ready (rs := [8]) (by kernel_rfl) (by simp) ?_
          refine AllReadyH.cons (o := _) rfl (fun K hK => ?_) AllReadyH.nil
          go_simp
          refine hK.out _ _ (HS8.out) (fun hHeld => ?_)
          clear hK K
          try simp only [Act.put, List.getElem_toArray, List.getElem_cons_succ, List.getElem_cons_zero, List.setIfInBounds_toArray, List.set_cons_zero, List.set_cons_succ]
          refine wpAnyH_ready (rs := [9]) (by kernel_rfl) (by simp) ?_
          refine AllReadyH.cons (o := _) rfl (fun K hK => ?_) AllReadyH.nil
          go_simp
          refine hK.out _ _ (HS8.out) (fun hHeld => ?_)
          clear hK K
          try simp only [Act.put, List.getElem_toArray, List.getElem_cons_succ, List.getElem_cons_zero, List.setIfInBounds_toArray, List.set_cons_zero, List.set_cons_succ]
          refine wpAnyH_ready (rs := [10]) (by kernel_rfl) (by simp) ?_
          refine AllReadyH.cons (o := _) rfl (fun K hK => ?_) AllReadyH.nil
          go_simp
          refine hK.out _ _ (HS9.out) (fun hHeld => ?_)
          clear hK K
          try simp only [Act.put, List.getElem_toArray, List.getElem_cons_succ, List.getElem_cons_zero, List.setIfInBounds_toArray, List.set_cons_zero, List.set_cons_succ]
          refine wpAnyH_done (by kernel_rfl) ?_ _
          go_wp2_with fail
          go_meet
          exact ⟨rfl, _, HKP.out.1, HKH.out, HBW.out.trans HKP.out.2⟩
        · go_simp
          refine hK.out _ _ (HS7.out) (fun hHeld => ?_)
          clear hK K
          try simp only [Act.put, List.getElem_toArray, List.getElem_cons_succ, List.getElem_cons_zero, List.setIfInBounds_toArray, List.set_cons_zero, List.set_cons_succ]
          refine wpAnyH_ready (rs := [4]) (by kernel_rfl) (by simp) ?_
          refine AllReadyH.cons (o := _) rfl (fun K hK => ?_) AllReadyH.nil
          go_simp
          refine hK.out _ _ (HS7.out) (fun hHeld => ?_)
          clear hK K
          try simp only [Act.put, List.getElem_toArray, List.getElem_cons_succ, List.getElem_cons_zero, List.setIfInBounds_toArray, List.set_cons_zero, List.set_cons_succ]
          refine wpAnyH_ready (rs := [7]) (by kernel_rfl) (by simp) ?_
          refine AllReadyH.cons (o := _) rfl (fun K hK => ?_) AllReadyH.nil
          refine step_appendPat (by rfl) HO7.out HR7.out (hid rfl) HLEN.out HB7.out rfl rfl rfl ?_
          intro v8 w8 hown8 hg8 hat8
          obtain ⟨a9, c9, e9, -⟩ := hown8.sl
          rw [HN8.out] at e9
          subst e9
          have hq8 := HH.out.growM (v8 := .slice a9 n8 c9) HBW7.out hg8 hat8
          have k8 := (HV.out.boxM HBW7.out hg8).c1
          have f8 := (HV.out.boxM HBW7.out hg8).f1
          have HKP := hid (HV.out.growM HBW7.out hown8 hg8 hat8)
          have HS8 := hid hq8.1
          have HKH := hid hq8.2
          have HS9 : Hid ((w8.setCell ⟨s, 1, none⟩ (.slice a9 n8 c9)).cell? ⟨B, 0, none⟩ = some (.int .u16 x) ∧ (w8.setCell ⟨s, 1, none⟩ (.slice a9 n8 c9)).cell? ⟨B, 1, none⟩ = some (.int .u32 y)) := hid ⟨hq8.2.c0, hq8.2.c1⟩
          clear hown8 hg8 hat8 hq8
          refine hK.out _ _ (HS8.out) (fun hHeld => ?_)
          clear hK K
          try simp only [Act.put, List.getElem_toArray, List.getElem_cons_succ, List.getElem_cons_zero, List.setIfInBounds_toArray, List.set_cons_zero, List.set_cons_succ]
          refine wpAnyH_ready (rs := [8]) (by kernel_rfl) (by simp) ?_
          refine AllReadyH.cons (o := _) rfl (fun K hK => ?_) AllReadyH.nil
          go_simp
          refine hK.out _ _ (HS8.out) (fun hHeld => ?_)
          clear hK K
          try simp only [Act.put, List.getElem_toArray, List.getElem_cons_succ, List.getElem_cons_zero, List.setIfInBounds_toArray, List.set_cons_zero, List.set_cons_succ]
          refine wpAnyH_ready (rs := [9]) (by kernel_rfl) (by simp) ?_
          refine AllReadyH.cons (o := _) rfl (fun K hK => ?_) AllReadyH.nil
          go_simp
          refine hK.out _ _ (HS8.out) (fun hHeld => ?_)
          clear hK K
          try simp only [Act.put, List.getElem_toArray, List.getElem_cons_succ, List.getElem_cons_zero, List.setIfInBounds_toArray, List.set_cons_zero, List.set_cons_succ]
          refine wpAnyH_ready (rs := [10]) (by kernel_rfl) (by simp) ?_
          refine AllReadyH.cons (o := _) rfl (fun K hK => ?_) AllReadyH.nil
          go_simp
          refine hK.out _ _ (HS9.out) (fun hHeld => ?_)
          clear hK K
          try simp only [Act.put, List.getElem_toArray, List.getElem_cons_succ, List.getElem_cons_zero, List.setIfInBounds_toArray, List.set_cons_zero, List.set_cons_succ]
          refine wpAnyH_done (by kernel_rfl) ?_ _
          go_wp2_with fail
          go_meet
          exact ⟨rfl, _, HKP.out.1, HKH.out, HBW.out.trans HKP.out.2⟩
      case rest =>
      obtain ⟨rfl, vm2, hv, hh, hb⟩ := hcut
      rename World => wd
      clear HS0 HS7 HBW7 HV HH HBW HO7 HR7 HLEN HB7 c1 c17 c1a
      cases b
      case false =>
        have HV := hid hv
        have HBW := hid hb
        clear hv hh hb
        go_wp2_with fail
        go_ret
        refine ⟨by rw [HY.out]; rfl, HBW.out, fun V' e => ?_⟩
        rw [HY.out] at e
        cases e
        exact ⟨_, _, _, _, HV.out⟩
      case true =>
      have hb7 : Below wd.heap.size wd (wd.drew.alloc (.cells #[.int .u16 x, .int .u32 y] 25)) := (Below.refl _ _).drew.alloc (by simp) _
      have c1 : wd.drew.cell? ⟨s, 3, none⟩ = some vd := hv.box.c3
      have c1a : (wd.alloc (.cells #[.int .u16 x, .int .u32 y] 25)).cell? ⟨s, 3, none⟩ = some vd := (((Below.refl _ _).alloc (Nat.le_refl _) _ : Below wd.heap.size wd _).cell (by exact hv.lt)).trans hv.box.c3
      have c17 : (wd.drew.alloc (.cells #[.int .u16 x, .int .u32 y] 25)).cell? ⟨s, 3, none⟩ = some vd := (hb7.cell (by exact hv.lt)).trans hv.box.c3
      have HO7 := hid (hv.ds.ext hb7)
      have HR7 : Hid (PidRow (wd.drew.alloc (.cells #[.int .u16 x, .int .u32 y] 25)) (some ⟨wd.heap.size, 0, none⟩) [(x, y)]) := hid (PidRow.one wd.drew x y)
      have HLEN : Hid (V.ds.length + [(x, y)].length ≤ 1099511627776) := hid (by simp; omega)
      have HB7 : Hid (s + 1 ≤ (wd.drew.alloc (.cells #[.int .u16 x, .int .u32 y] 25)).heap.size) := hid (by have := hb7.size; have := hv.lt; omega)
      have HS0 : Hid (wd.drew.cell? ⟨B, 0, none⟩ = some (.int .u16 x) ∧ wd.drew.cell? ⟨B, 1, none⟩ = some (.int .u32 y)) := hid ⟨hh.c0, hh.c1⟩
      have HS7 : Hid ((wd.drew.alloc (.cells #[.int .u16 x, .int .u32 y] 25)).cell? ⟨B, 0, none⟩ = some (.int .u16 x) ∧ (wd.drew.alloc (.cells #[.int .u16 x, .int .u32 y] 25)).cell? ⟨B, 1, none⟩ = some (.int .u32 y)) := hid ⟨(hb7.cell (by exact hh.lt)).trans hh.c0, (hb7.cell (by exact hh.lt)).trans hh.c1⟩
      have HBW7 := hid hb7
      have HV := hid hv
      have HH := hid hh
      have HBW := hid hb
      obtain ⟨n8, hn8⟩ : ∃ n8, (V.ds ++ [(x, y)]).length = n8 := ⟨_, rfl⟩
      have HN8 := hid hn8
      clear hv hh hb hb7 hn8
      go_wp2_with fail
      refine wp_region_held_drew (S := fun W => W.cell? ⟨B, 0, none⟩ = some (.int .u16 x) ∧ W.cell? ⟨B, 1, none⟩ = some (.int .u32 y)) (by kernel_rfl) (by exact HS0.out) (fun hHeld => ?_)
      refine wpAnyH_take (i := 0) (oi := _) (v := .pointer (some ⟨s, 0, none⟩)) rfl (by kernel_rfl) (by kernel_rfl) (by kernel_rfl) (fun _ _ _ h => h) (Or.inl ⟨by rfl, ?_⟩) (by assumption) ?_
      · intro W hSw
        try dsimp only at hSw
        go_simp
      try simp only [Act.put, List.getElem_toArray, List.getElem_cons_succ, List.getElem_cons_zero, List.setIfInBounds_toArray, List.set_cons_zero, List.set_cons_succ]
      refine wpAnyH_take (i := 1) (oi := _) (v := .pointer (some ⟨s, 0, none⟩)) rfl (by kernel_rfl) (by kernel_rfl) (by kernel_rfl) (fun _ _ _ h => h) (Or.inl ⟨by rfl, ?_⟩) (by assumption) ?_
      · intro W hSw
        try dsimp only at hSw
        go_simp
      try simp only [Act.put, List.getElem_toArray, List.getElem_cons_succ, List.getElem_cons_zero, List.setIfInBounds_toArray, List.set_cons_zero, List.set_cons_succ]
      refine wpAnyH_take (i := 2) (oi := _) (v := .pointer (some ⟨s, 0, none⟩)) rfl (by kernel_rfl) (by kernel_rfl) (by kernel_rfl) (fun _ _ _ h => h) (Or.inl ⟨by rfl, ?_⟩) (by assumption) ?_
      · intro W hSw
        try dsimp only at hSw
        go_simp
      try simp only [Act.put, List.getElem_toArray, List.getElem_cons_succ, List.getElem_cons_zero, List.setIfInBounds_toArray, List.set_cons_zero, List.set_cons_succ]
      refine wpAnyH_take (i := 3) (oi := _) (v := .pointer (some ⟨s, 3, none⟩)) rfl (by kernel_rfl) (by kernel_rfl) (by kernel_rfl) (fun _ _ _ h => h) (Or.inl ⟨by rfl, ?_⟩) (by assumption) ?_
      · intro W hSw
        try dsimp only at hSw
        go_simp
      try simp only [Act.put, List.getElem_toArray, List.getElem_cons_succ, List.getElem_cons_zero, List.setIfInBounds_toArray, List.set_cons_zero, List.set_cons_succ]
      refine wpAnyH_take (i := 5) (oi := _) (v := .agg #[.int .u16 x, .int .u32 y]) rfl (by kernel_rfl) (by kernel_rfl) (by kernel_rfl) (fun _ _ _ h => h) (Or.inl ⟨by rfl, ?_⟩) (by assumption) ?_
      · intro W hSw
        try dsimp only at hSw
        obtain ⟨hSw1, hSw2⟩ := hSw
        go_simp
      try simp only [Act.put, List.getElem_toArray, List.getElem_cons_succ, List.getElem_cons_zero, List.setIfInBounds_toArray, List.set_cons_zero, List.set_cons_succ]
      refine wpAnyH_ready (rs := [4, 6]) (by kernel_rfl) (by simp) ?_
      refine AllReadyH.cons (o := _) rfl (fun K hK => ?_) (AllReadyH.cons (o := _) rfl (fun K hK => ?_) AllReadyH.nil)
      · go_simp
        refine hK.out _ _ (HS0.out) (fun hHeld => ?_)
        clear hK K
        try simp only [Act.put, List.getElem_toArray, List.getElem_cons_succ, List.getElem_cons_zero, List.setIfInBounds_toArray, List.set_cons_zero, List.set_cons_succ]
        refine wpAnyH_ready (rs := [6]) (by kernel_rfl) (by simp) ?_
        refine AllReadyH.cons (o := _) rfl (fun K hK => ?_) AllReadyH.nil
        go_simp
        refine hK.out _ _ (HS7.out) (fun hHeld => ?_)
        clear hK K
        try simp only [Act.put, List.getElem_toArray, List.getElem_cons_succ, List.getElem_cons_zero, List.setIfInBounds_toArray, List.set_cons_zero, List.set_cons_succ]
        refine wpAnyH_ready (rs := [7]) (by kernel_rfl) (by simp) ?_
        refine AllReadyH.cons (o := _) rfl (fun K hK => ?_) AllReadyH.nil
        refine step_appendPat (by rfl) HO7.out HR7.out (hid rfl) HLEN.out HB7.out rfl rfl rfl ?_
        intro v8 w8 hown8 hg8 hat8
        obtain ⟨a9, c9, e9, -⟩ := hown8.sl
        rw [HN8.out] at e9
        subst e9
        have hq8 := HH.out.growD (v8 := .slice a9 n8 c9) HBW7.out hg8 hat8
        have k8 := (HV.out.boxD HBW7.out hg8).c3
        have f8 := (HV.out.boxD HBW7.out hg8).f3
        have HKP := hid (HV.out.growD HBW7.out hown8 hg8 hat8)
        have HS8 := hid hq8.1
        have HKH := hid hq8.2
        have HS9 : Hid ((w8.setCell ⟨s, 3, none⟩ (.slice a9 n8 c9)).cell? ⟨B, 0, none⟩ = some (.int .u16 x) ∧ (w8.setCell ⟨s, 3, none⟩ (.slice a9 n8 c9)).cell? ⟨B, 1, none⟩ = some (.int .u32 y)) := hid ⟨hq8.2.c0, hq8.2.c1⟩
        clear hown8 hg8 hat8 hq8
        refine hK.out _ _ (HS8.out) (fun hHeld => ?_)
        clear hK K
        try simp only [Act.put, List.getElem_toArray, List.getElem_cons_succ, List.getElem_cons_zero, List.setIfInBounds_toArray, List.set_cons_zero, List.set_cons_succ]
        refine wpAnyH_ready (rs := [8]) (by kernel_rfl) (by simp) ?_
        refine AllReadyH.cons (o := _) rfl (fun K hK => ?_) AllReadyH.nil
        go_simp
        refine hK.out _ _ (HS8.out) (fun hHeld => ?_)
        clear hK K
        try simp only [Act.put, List.getElem_toArray, List.getElem_cons_succ, List.getElem_cons_zero, List.setIfInBounds_toArray, List.set_cons_zero, List.set_cons_succ]
        refine wpAnyH_ready (rs := [9]) (by kernel_rfl) (by simp) ?_
        refine AllReadyH.cons (o := _) rfl (fun K hK => ?_) AllReadyH.nil
        go_simp
        refine hK.out _ _ (HS8.out) (fun hHeld => ?_)
        clear hK K
        try simp only [Act.put, List.getElem_toArray, List.getElem_cons_succ, List.getElem_cons_zero, List.setIfInBounds_toArray, List.set_cons_zero, List.set_cons_succ]
        refine wpAnyH_ready (rs := [10]) (by kernel_rfl) (by simp) ?_
        refine AllReadyH.cons (o := _) rfl (fun K hK => ?_) AllReadyH.nil
        go_simp
        refine hK.out _ _ (HS9.out) (fun hHeld => ?_)
        clear hK K
        try simp only [Act.put, List.getElem_toArray, List.getElem_cons_succ, List.getElem_cons_zero, List.setIfInBounds_toArray, List.set_cons_zero, List.set_cons_succ]
        refine wpAnyH_done (by kernel_rfl) ?_ _
        go_wp2_with fail
        go_ret
        refine ⟨by rw [HY.out]; rfl, HBW.out.trans HKP.out.2, fun V' e => ?_⟩
        rw [HY.out] at e
        cases e
        exact ⟨_, _, _, _, HKP.out.1⟩
      · go_simp
        refine hK.out _ _ (HS7.out) (fun hHeld => ?_)
        clear hK K
        try simp only [Act.put, List.getElem_toArray, List.getElem_cons_succ, List.getElem_cons_zero, List.setIfInBounds_toArray, List.set_cons_zero, List.set_cons_succ]
        refine wpAnyH_ready (rs := [4]) (by kernel_rfl) (by simp) ?_
        refine AllReadyH.cons (o := _) rfl (fun K hK => ?_) AllReadyH.nil
        go_simp
        refine hK.out _ _ (HS7.out) (fun hHeld => ?_)
        clear hK K
        try simp only [Act.put, List.getElem_toArray, List.getElem_cons_succ, List.getElem_cons_zero, List.setIfInBounds_toArray, List.set_cons_zero, List.set_cons_succ]
        refine wpAnyH_ready (rs := [7]) (by kernel_rfl) (by simp) ?_
        refine AllReadyH.cons (o := _) rfl (fun K hK => ?_) AllReadyH.nil
        refine step_appendPat (by rfl) HO7.out HR7.out (hid rfl) HLEN.out HB7.out rfl rfl rfl ?_
        intro v8 w8 hown8 hg8 hat8
        obtain ⟨a9, c9, e9, -⟩ := hown8.sl
        rw [HN8.out] at e9
        subst e9
        have hq8 := HH.out.growD (v8 := .slice a9 n8 c9) HBW7.out hg8 hat8
        have k8 := (HV.out.boxD HBW7.out hg8).c3
        have f8 := (HV.out.boxD HBW7.out hg8).f3
        have HKP := hid (HV.out.growD HBW7.out hown8 hg8 hat8)
        have HS8 := hid hq8.1
        have HKH := hid hq8.2
        have HS9 : Hid ((w8.setCell ⟨s, 3, none⟩ (.slice a9 n8 c9)).cell? ⟨B, 0, none⟩ = some (.int .u16 x) ∧ (w8.setCell ⟨s, 3, none⟩ (.slice a9 n8 c9)).cell? ⟨B, 1, none⟩ = some (.int .u32 y)) := hid ⟨hq8.2.c0, hq8.2.c1⟩
        clear hown8 hg8 hat8 hq8
        refine hK.out _ _ (HS8.out) (fun hHeld => ?_)
        clear hK K
        try simp only [Act.put, List.getElem_toArray, List.getElem_cons_succ, List.getElem_cons_zero, List.setIfInBounds_toArray, List.set_cons_zero, List.set_cons_succ]
        refine wpAnyH_ready (rs := [8]) (by kernel_rfl) (by simp) ?_
        refine AllReadyH.cons (o := _) rfl (fun K hK => ?_) AllReadyH.nil
        go_simp
        refine hK.out _ _ (HS8.out) (fun hHeld => ?_)
        clear hK K
        try simp only [Act.put, List.getElem_toArray, List.getElem_cons_succ, List.getElem_cons_zero, List.setIfInBounds_toArray, List.set_cons_zero, List.set_cons_succ]
        refine wpAnyH_ready (rs := [9]) (by kernel_rfl) (by simp) ?_
        refine AllReadyH.cons (o := _) rfl (fun K hK => ?_) AllReadyH.nil
        go_simp
        refine hK.out _ _ (HS8.out) (fun hHeld => ?_)
        clear hK K
        try simp only [Act.put, List.getElem_toArray, List.getElem_cons_succ, List.getElem_cons_zero, List.setIfInBounds_toArray, List.set_cons_zero, List.set_cons_succ]
        refine wpAnyH_ready (rs := [10]) (by kernel_rfl) (by simp) ?_
        refine AllReadyH.cons (o := _) rfl (fun K hK => ?_) AllReadyH.nil
        go_simp
        refine hK.out _ _ (HS9.out) (fun hHeld => ?_)
        clear hK K
        try simp only [Act.put, List.getElem_toArray, List.getElem_cons_succ, List.getElem_cons_zero, List.setIfInBounds_toArray, List.set_cons_zero, List.set_cons_succ]
        refine wpAnyH_done (by kernel_rfl) ?_ _
        go_wp2_with fail
        go_ret
        refine ⟨by rw [HY.out]; rfl, HBW.out.trans HKP.out.2, fun V' e => ?_⟩
        rw [HY.out] at e
        cases e
        exact ⟨_, _, _, _, HKP.out.1⟩
end Go.Proofs.YtppapeoainafbaaGreatDoor


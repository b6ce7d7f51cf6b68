import Derived.Test.YtjjahefedpfnaaaB7
import Derived.Test.YtjjahefedpfnaaaB1
namespace Go.Proofs.Ytjjahefedpfnaaa
open Go.RowKit
theorem wpList_appendN {w : World} {ops : Array Oper} {rest : List Oper} {o : Oper} {a : Act} {Q : Exit → Act → World → Prop} {s x : Operand} {base : Nat} {v : Value} {xs ys : List Pid} (hown : OwnP w base v xs) {ad : Option Addr} {n c : Nat} (hn : Hid (n = ys.length)) (hy : PidRow w ad ys)
    (hlen : xs.length + ys.length ≤ 1099511627776) (hbase : base ≤ w.heap.size)
    (hg : o.guard = none) (ho : o.op = .call { callee := .builtin .append, args := #[s, x], argTypes := #[33, 33] }) (hs : a.eval s = v) (hx : a.eval x = .slice ad n c)
    (h : ∀ v' w', OwnP w' base v' (xs ++ ys) → w.grownBy w' v.ownBlock → wpList Try.prog ops Q rest (a.put o.dst v') w') : wpList Try.prog ops Q (o :: rest) a w :=
  wpList_appendP hown hy hlen hbase hg ho hs (by rw [hx, hn.out]) fun v' w' h1 h2 _ => h v' w' h1 h2
theorem aheadR_ext {a b c d : Int} {w0 : World} {U : ExtW w0} {r : Bool} (h : Hid (aheadR (a, b) (c, d) = r)) : Calls Try.prog 69 #[.agg #[.int .u16 a, .int .u32 b], .agg #[.int .u16 c, .int .u32 d]] U.W fun e w' => e = .returned (.bool r) ∧ ∃ U' : ExtW w0, w' = U'.W :=
  quiet_of (aheadR_any a b c d U.W) (by rw [h.out])
set_option maxRecDepth 100000 in
set_option maxHeartbeats 3200000 in
theorem refSort_any (a : Option Addr) (c : Nat) (xs : List Pid) (w : World) (hn : xs.length ≤ 274877906944) (hx : PidRow w a xs) :
   Calls Try.prog 35 #[.slice a xs.length c] w fun e w' => ∃ a' c', e = .returned (.slice a' (sortR [] xs).length c') ∧ PidRow w' a' (sortR [] xs) ∧ (sortR [] xs).length ≤ c' ∧ Below w.heap.size w w' := by
  go_enter Try.func35, Try.ntmps35
  go_wp2
  go_loopw [3, 4] (fun v i wr => ∃ (k : Nat) (got : List Pid) (ag : Option Addr) (cg : Nat), k ≤ xs.length ∧ i = .int .i64 k ∧ got.length ≤ k ∧ Hid (sortR [] xs = sortR got (xs.drop k)) ∧ v = .slice ag got.length cg ∧ PidRow wr ag got ∧ got.length ≤ cg ∧ Below w.heap.size w wr) (fun _ i _ => xs.length - (intOf i).toNat)
  case atStart => exact ⟨0, [], none, 0, Nat.zero_le _, rfl, Nat.le_refl _, rfl, rfl, .inl rfl, Nat.le_refl _, Below.refl _ _⟩
  case round =>
    obtain ⟨k, got, ag, cg, hk, rfl, hg, hM, rfl, hrow, hcg, hb⟩ := hrel
    have hs0 := hb.size
    by_cases hlt : k < xs.length
    · have hl2 : decide ((k : Int) < (xs.length : Int)) = true := by simp; omega
      obtain ⟨pb, po, x, y, rfl, hpx, d1, d2⟩ := hx.at hb rfl hlt
      have hsd := sortR_drop (acc := got) hlt hpx
      cases hin : decide ((x, y) ∈ got)
      · have HIN := hid hin
        have HS : Hid (sortR [] xs = sortR (insR (x, y) got) (xs.drop (k + 1))) := hid (by rw [hM.out, hsd, if_neg (by simpa using hin)])
        clear hin hsd hpx hM
        have HX := hid (hx.ext hb)
        go_wp2_with (go_at_call 36; refine (hasR_is HIN (by omega) hrow).mono ?_; rintro e w3 ⟨rfl, hb3⟩)
        have p0 := cell_to d1 hb3
        have p1 := cell_to d2 hb3
        have hrow3 := hrow.ext hb3
        have hB3 := hb.trans (hb3.mono hs0)
        clear hrow hb hb3 d1 d2 HX
        go_wp2
        go_loopw [5] (fun i wq => ∃ (j : Nat), j ≤ got.length ∧ i = .int .i64 j ∧ Hid (posR (x, y) got = j + posR (x, y) (got.drop j)) ∧ Below w3.heap.size w3 wq) (fun i _ => got.length - (intOf i).toNat)
        case atStart => exact ⟨0, Nat.zero_le _, rfl, hid (by simp), Below.refl _ _⟩
        case round =>
          obtain ⟨j, hj, rfl, hP, hq⟩ := hrel
          have q0 := cell_to p0 hq
          have q1 := cell_to p1 hq
          have zq := hq.size
          by_cases hjl : j < got.length
          · have hj2 : decide ((j : Int) < (got.length : Int)) = true := by simp; omega
            obtain ⟨gb, go, u, v, rfl, hpu, e1, e2⟩ := hrow3.at hq rfl hjl
            have hpd := posR_drop (x := (x, y)) hjl hpu
            cases hah : aheadR (u, v) (x, y)
            · have HAH := hid hah
              have HPE : Hid (posR (x, y) got = j) := hid (by rw [hP.out, hpd, hah]; simp)
              clear hah hpd hpu hP
              have f0 := cell_extw q0
              have f1 := cell_extw q1
              have f2 := cell_extw e1
              have f3 := cell_extw e2
              clear q0 q1 e1 e2
              go_wp2
              refine wp_region_ext (w := wr) (Below.refl _ _) (by kernel_rfl) (by kernel_rfl) ?_
              repeat (go_big_quiet_step (exact aheadR_ext HAH))
              refine wpQuiet_nil ?_
              rintro w4 ⟨⟨_, hb4⟩, rfl⟩
              have hB4 := hq.trans (hb4.mono zq)
              clear f0 f1 f2 f3
              have hrow4 := hrow3.ext hB4
              have q0 := cell_to p0 hB4
              have q1 := cell_to p1 hB4
              have hBw := hB3.trans (hB4.mono hB3.size)
              have hsl : Hid (∃ (A : Option Addr) (C : Nat), (∀ W, (Instr.slice 33 (.slice (some ⟨gb, go, none⟩) got.length cg) none (some (.int .i64 j)) none).run Try.prog W = .ok (.slice A j C) W) ∧ ∀ W, PidRow W (some ⟨gb, go, none⟩) got → PidRow W A (got.take j)) := hid ⟨_, _, fun W => run_upto (by omega) W, fun W h => h.upto0 j⟩
              obtain ⟨A1, C1, hsl1, hr1⟩ := hsl.out
              have hfr : Hid (∃ (A : Option Addr) (N C : Nat), (∀ W, (Instr.slice 33 (.slice (some ⟨gb, go, none⟩) got.length cg) (some (.int .i64 j)) none none).run Try.prog W = .ok (.slice A N C) W) ∧ N = (got.drop j).length ∧ ∀ W, PidRow W (some ⟨gb, go, none⟩) got → PidRow W A (got.drop j)) := hid ⟨_, _, _, fun W => run_from hj W, by simp, fun W h => h.from hcg⟩
              obtain ⟨A2, N2, C2, hsl2, hn2, hr2⟩ := hfr.out
              have HR1 := hid (hr1 _ hrow4)
              have HR2 := hid hr2
              have HN1 : Hid (j = (got.take j).length) := hid (by simp; omega)
              have HN2 := hid hn2
              have HW4 := hid hrow4
              clear hsl hfr hr1 hr2 hn2 hrow4 hrow3 hB4 p0 p1
              go_wp2_with (first
                | (at_builtin; refine wpList_appendN (OwnP.nil _ w4.heap.size) HN1 HR1.out ?cb1 ?cz1 rfl rfl rfl rfl ?_; rotate_right; intro v5 w5 hown5 hg5; have hb5 : Below w4.heap.size w4 w5 := (Below.refl _ _).grown hg5 (Nat.le_refl _) (fun g hg => by simp [Value.ownBlock] at hg); have r0 := cell_to q0 hb5; have r1 := cell_to q1 hb5; clear q0 q1)
                | (at_builtin; refine wpList_appendP (hown5.alloc _) (PidRow.one _ x y) ?cb2 ?cz2 rfl rfl rfl rfl ?_; rotate_right; intro v6 w6 hown6 hg6 hnil6; have hb6 : Below w4.heap.size w4 w6 := (hb5.alloc hb5.size _).grown hg6 (by simp; have := hb5.size; omega) (fun g hg => (World.ownsRow.lt hown5 g hg).1); have HR6 := hid (HR2.out _ (HW4.out.ext hb6)))
                | (at_builtin; refine wpList_appendN hown6 HN2 HR6.out ?cb3 ?cz3 rfl rfl rfl rfl ?_; rotate_right; intro v7 w7 hown7 hg7; have hb7 : Below w4.heap.size w4 w7 := hb6.grown hg7 hb6.size (fun g hg => (World.ownsRow.lt hown6 g hg).1)))
              case cb1 => simp; omega
              case cz1 => simp
              case cb2 => simp; omega
              case cz2 => have := hb5.size; simp; omega
              case cb3 => simp; omega
              case cz3 => exact hb6.size
              obtain ⟨G, hG⟩ : ∃ G, [] ++ got.take j ++ [(x, y)] ++ got.drop j = G := ⟨_, rfl⟩
              rw [hG] at hown7
              have HI : Hid (insR (x, y) got = G) := hid (by unfold insR; rw [HPE.out, ← hG]; simp)
              have HGL : Hid (G.length = got.length + 1) := hid (by rw [← HI.out]; exact insR_len _ _)
              obtain ⟨a7, c7, rfl, hrow7, hc7⟩ := hown7.rowc
              clear hG hsl1 hsl2 HR1 HR2 HR6 hown5 hown6 hown7 hg5 hg6 hg7 hnil6 HN1 HN2
              go_roundw
              case rel => exact ⟨k + 1, G, a7, c7, by omega, by go_num, by have := HGL.out; omega, by rw [← HI.out]; exact HS, rfl, hrow7, hc7, hBw.trans (hb7.mono (by have := hBw.size; omega))⟩
              case measure => simp [intOf]; omega
            · have HAH := hid hah
              have HPN : Hid (posR (x, y) got = (j + 1 : Nat) + posR (x, y) (got.drop (j + 1))) := hid (by rw [hP.out, hpd, hah]; simp; omega)
              clear hah hpd hpu hP
              have f0 := cell_extw q0
              have f1 := cell_extw q1
              have f2 := cell_extw e1
              have f3 := cell_extw e2
              clear q0 q1 e1 e2
              go_wp2
              refine wp_region_ext (w := wr) (Below.refl _ _) (by kernel_rfl) (by kernel_rfl) ?_
              repeat (go_big_quiet_step (exact aheadR_ext HAH))
              refine wpQuiet_nil ?_
              rintro w4 ⟨⟨_, hb4⟩, rfl⟩
              go_wp2
              go_roundw
              case rel => exact ⟨j + 1, by omega, by go_num, HPN, hq.trans (hb4.mono zq)⟩
              case measure => simp [intOf]; omega
          · have hj2 : decide ((j : Int) < (got.length : Int)) = false := by simp; omega
            go_wp2
            refine wp_region_ext (w := wr) (Below.refl _ _) (by kernel_rfl) (by kernel_rfl) ?_
            repeat (go_big_quiet_step (fail))
            refine wpQuiet_nil ?_
            rintro w4 ⟨⟨_, hb4⟩, rfl⟩
            have hB4 := hq.trans (hb4.mono zq)
            have HPE : Hid (posR (x, y) got = j) := hid (by rw [hP.out, List.drop_eq_nil_of_le (by omega)]; rfl)
            clear q0 q1 hP hq
            have hrow4 := hrow3.ext hB4
            have q0 := cell_to p0 hB4
            have q1 := cell_to p1 hB4
            have hBw := hB3.trans (hB4.mono hB3.size)
            have hsl : Hid (∃ (A : Option Addr) (C : Nat), (∀ W, (Instr.slice 33 (.slice ag got.length cg) none (some (.int .i64 j)) none).run Try.prog W = .ok (.slice A j C) W) ∧ ∀ W, PidRow W ag got → PidRow W A (got.take j)) := hid ⟨_, _, fun W => run_upto (by omega) W, fun W h => h.upto0 j⟩
            obtain ⟨A1, C1, hsl1, hr1⟩ := hsl.out
            have hfr : Hid (∃ (A : Option Addr) (N C : Nat), (∀ W, (Instr.slice 33 (.slice ag got.length cg) (some (.int .i64 j)) none none).run Try.prog W = .ok (.slice A N C) W) ∧ N = (got.drop j).length ∧ ∀ W, PidRow W ag got → PidRow W A (got.drop j)) := hid ⟨_, _, _, fun W => run_from hj W, by simp, fun W h => h.from hcg⟩
            obtain ⟨A2, N2, C2, hsl2, hn2, hr2⟩ := hfr.out
            have HR1 := hid (hr1 _ hrow4)
            have HR2 := hid hr2
            have HN1 : Hid (j = (got.take j).length) := hid (by simp; omega)
            have HN2 := hid hn2
            have HW4 := hid hrow4
            clear hsl hfr hr1 hr2 hn2 hrow4 hrow3 hB4 p0 p1
            go_wp2_with (first
              | (at_builtin; refine wpList_appendN (OwnP.nil _ w4.heap.size) HN1 HR1.out ?cb1 ?cz1 rfl rfl rfl rfl ?_; rotate_right; intro v5 w5 hown5 hg5; have hb5 : Below w4.heap.size w4 w5 := (Below.refl _ _).grown hg5 (Nat.le_refl _) (fun g hg => by simp [Value.ownBlock] at hg); have r0 := cell_to q0 hb5; have r1 := cell_to q1 hb5; clear q0 q1)
              | (at_builtin; refine wpList_appendP (hown5.alloc _) (PidRow.one _ x y) ?cb2 ?cz2 rfl rfl rfl rfl ?_; rotate_right; intro v6 w6 hown6 hg6 hnil6; have hb6 : Below w4.heap.size w4 w6 := (hb5.alloc hb5.size _).grown hg6 (by simp; have := hb5.size; omega) (fun g hg => (World.ownsRow.lt hown5 g hg).1); have HR6 := hid (HR2.out _ (HW4.out.ext hb6)))
              | (at_builtin; refine wpList_appendN hown6 HN2 HR6.out ?cb3 ?cz3 rfl rfl rfl rfl ?_; rotate_right; intro v7 w7 hown7 hg7; have hb7 : Below w4.heap.size w4 w7 := hb6.grown hg7 hb6.size (fun g hg => (World.ownsRow.lt hown6 g hg).1)))
            case cb1 => simp; omega
            case cz1 => simp
            case cb2 => simp; omega
            case cz2 => have := hb5.size; simp; omega
            case cb3 => simp; omega
            case cz3 => exact hb6.size
            obtain ⟨G, hG⟩ : ∃ G, [] ++ got.take j ++ [(x, y)] ++ got.drop j = G := ⟨_, rfl⟩
            rw [hG] at hown7
            have HI : Hid (insR (x, y) got = G) := hid (by unfold insR; rw [HPE.out, ← hG]; simp)
            have HGL : Hid (G.length = got.length + 1) := hid (by rw [← HI.out]; exact insR_len _ _)
            obtain ⟨a7, c7, rfl, hrow7, hc7⟩ := hown7.rowc
            clear hG hsl1 hsl2 HR1 HR2 HR6 hown5 hown6 hown7 hg5 hg6 hg7 hnil6 HN1 HN2
            go_roundw
            case rel => exact ⟨k + 1, G, a7, c7, by omega, by go_num, by have := HGL.out; omega, by rw [← HI.out]; exact HS, rfl, hrow7, hc7, hBw.trans (hb7.mono (by have := hBw.size; omega))⟩
            case measure => simp [intOf]; omega
      · have HIN := hid hin
        have HS : Hid (sortR [] xs = sortR got (xs.drop (k + 1))) := hid (by rw [hM.out, hsd, if_pos (by simpa using hin)])
        clear hin hsd hpx hM
        go_wp2_with (go_at_call 36; refine (hasR_is HIN (by omega) hrow).mono ?_; rintro e w3 ⟨rfl, hb3⟩)
        go_roundw
        case rel => exact ⟨k + 1, got, ag, cg, by omega, by go_num, by omega, HS, rfl, hrow.ext hb3, hcg, hb.trans (hb3.mono hs0)⟩
        case measure => simp [intOf]; omega
    · have hl2 : decide ((k : Int) < (xs.length : Int)) = false := by simp; omega
      have hend : Hid (sortR [] xs = got) := by
        have := hM.out
        rw [List.drop_eq_nil_of_le (by omega)] at this
        rw [Hid, this]; rfl
      go_wp2
      go_ret
      exact ⟨ag, cg, by rw [hend.out]; rfl, by rw [hend.out]; exact hrow, by rw [hend.out]; exact hcg, hb⟩
end Go.Proofs.Ytjjahefedpfnaaa

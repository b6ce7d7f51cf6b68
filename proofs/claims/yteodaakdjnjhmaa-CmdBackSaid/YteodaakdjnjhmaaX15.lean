import Derived.Test.YteodaakdjnjhmaaX14
namespace Go.Proofs.Yteodaakdjnjhmaa
open Go.RowKit
theorem wholeS_pid {S : RS} (he : S.e = 0) : wholeS S (rPid S).2 = (rPid S).2 := by
  unfold wholeS rPid
  simp only [he, ne_eq, not_true_eq_false, if_false]
  by_cases h1 : (getP S.b).2.2 = 0
  · simp [h1]
  · simp [h1]
theorem rPid_skip {S : RS} (he : S.e ≠ 0) : rPid S = ((0, 0), S) := by unfold rPid; rw [if_pos he]
set_option maxRecDepth 100000 in
set_option maxHeartbeats 1600000 in
theorem pidC_any {s c g0 g2 : Nat} {x y : Int} {a : Option Addr} {S S1 : RS} {w : World} {u0 u1 : Value} (hx : Hid (rPid S = ((x, y), S1))) (hR : RdIs w s a c S) (h0 : w.cell? ⟨g0, 0, none⟩ = some (.pointer (some ⟨s, 0, none⟩))) (h2 : BoxP w g2 u0 u1) (hs : s < g2) :
    Calls Try.prog 147 #[.pointer (some ⟨g0, 0, none⟩), .pointer (some ⟨g2, 0, none⟩)] w fun e w' => e = .returned (.tuple #[]) ∧ (∃ a' c', RdIs w' s a' c' S1) ∧ BoxP w' g2 (.int .u16 x) (.int .u32 y) ∧ Mut (fun k => k = s ∨ k = g2) w w' := by
  have CN := hid (rpid_any hx hR)
  have hgs : ¬ (fun k => k = s) g2 := fun e => by have e : g2 = s := e; omega
  have HG := hid hgs
  clear hgs
  go_enter Try.func147, Try.ntmps147
  go_wp2_with (go_at_call 143; refine CN.out.mono ?_; rintro e w1 ⟨rfl, ⟨a1, c1, hR1⟩, hM1⟩; have hz := h2.mutT hM1 HG.out; obtain ⟨z0, z1, z2, z3⟩ := id hz)
  have hM2 : Mut (fun k => k = s ∨ k = g2) w1 ((w1.setCell ⟨g2, 0, none⟩ (.int .u16 x)).setCell ⟨g2, 1, none⟩ (.int .u32 y)) := mut2.mono (fun k _ e => .inr e)
  exact bodyPost_end (results_none rfl _ _ _) rfl ⟨rfl, ⟨a1, c1, hR1.mutT (G := fun k => k = g2) mut2 (fun k e => by rw [e]; exact hs)⟩, hz.put _ _, (hM1.mono (fun k _ e => .inl e)).trans hM2⟩
set_option maxRecDepth 100000 in
set_option maxHeartbeats 1600000 in
theorem rPid_any {s c : Nat} {a : Option Addr} {S S1 : RS} {w : World} {x y : Int} (hX : Hid (rPid S = ((x, y), S1))) (hR : RdIs w s a c S) :
    Calls Try.prog 109 #[.pointer (some ⟨s, 0, none⟩)] w fun e w' => e = .returned (.agg #[.int .u16 x, .int .u32 y]) ∧ (∃ a' c', RdIs w' s a' c' S1) ∧ Mut (fun k => k = s) w w' := by
  have hmf : ∀ (fn : Fn) (first cap : Array Value) (w : World), (Instr.makeFunc fn first cap).run Try.prog w = .ok (.func fn first cap) w := fun _ _ _ _ => rfl
  have hB : Below w.heap.size w ((w.alloc (.cells #[.pointer (some ⟨s, 0, none⟩)] 54)).alloc (.cells #[.int .u16 0, .int .u32 0] 26)) := ((Below.refl _ _).alloc (Nat.le_refl _) _).alloc (by simp) _
  have hR3 := hR.ext hB
  have g0 : ((w.alloc (.cells #[.pointer (some ⟨s, 0, none⟩)] 54)).alloc (.cells #[.int .u16 0, .int .u32 0] 26)).cell? ⟨w.heap.size, 0, none⟩ = some (.pointer (some ⟨s, 0, none⟩)) := by simp
  have g2 : BoxP ((w.alloc (.cells #[.pointer (some ⟨s, 0, none⟩)] 54)).alloc (.cells #[.int .u16 0, .int .u32 0] 26)) (w.heap.size + 1) (.int .u16 0) (.int .u32 0) := by
    have := BoxP.made (w.alloc (.cells #[.pointer (some ⟨s, 0, none⟩)] 54)) 26 (.int .u16 0) (.int .u32 0)
    simpa using this
  obtain ⟨w3, hw3⟩ : ∃ w3, ((w.alloc (.cells #[.pointer (some ⟨s, 0, none⟩)] 54)).alloc (.cells #[.int .u16 0, .int .u32 0] 26)) = w3 := ⟨_, rfl⟩
  rw [hw3] at hB hR3 g0 g2
  have hs := hR.lt
  have hz3 := g2.lt
  by_cases he : S.e = 0
  · have hW1 : wholeS S S1 = S1 := by have := wholeS_pid he; rw [hX.out] at this; exact this
    have H : Hid (∀ W, Below w3.heap.size w3 W → Calls Try.prog 147 #[.pointer (some ⟨w.heap.size, 0, none⟩), .pointer (some ⟨w.heap.size + 1, 0, none⟩)] W fun e W' => e = .returned (.tuple #[]) ∧ (∃ a' c', RdIs W' s a' c' S1) ∧ BoxP W' (w.heap.size + 1) (.int .u16 x) (.int .u32 y) ∧ Mut (fun k => k = s ∨ k = w.heap.size + 1) W W') := hid fun W h => pidC_any hX (hR3.ext h) (cell_toB g0 h) (g2.ext h) (by omega)
    have CW := hid (wholeP_any (G := fun k => k = s ∨ k = w.heap.size + 1) (Q := fun W => BoxP W (w.heap.size + 1) (.int .u16 x) (.int .u32 y)) hR3 he (.inl rfl) (fun k hk => by rcases hk with rfl | rfl <;> omega) H (fun W W' h hm => h.mutT hm (fun e => by have e : w.heap.size + 1 = s := e; omega)))
    have HW1 := hid hW1
    have HB := hid hB
    clear hW1 g2 he hz3
    subst hw3
    go_enter Try.func109, Try.ntmps109
    go_wp2_with (go_at_call 139; refine CW.out.mono ?_; rintro e w4 ⟨rfl, ⟨a4, c4, hR4⟩, hQ4, hM4⟩; obtain ⟨z0, z1, z2, z3⟩ := id hQ4)
    obtain ⟨p0, p1, p2, p3⟩ := hQ4.put (.int .u16 x) (.int .u32 y)
    have p4 := World.cell?_setCell_same w4 _ (.int .u16 x) z0
    have hM5 := hM4.trans ((mut2 (s := w.heap.size + 1) (x := .int .u16 x) (y := .int .u32 y)).mono (fun k _ e => .inr e))
    exact bodyPost_ret (v := .agg #[.int .u16 x, .int .u32 y]) (by simp [results, Try.results109, go_sem, p0, p1, p4]) rfl ⟨rfl, ⟨a4, c4, by rw [HW1.out] at hR4; exact hR4.mutT (G := fun k => k = w.heap.size + 1) mut2 (fun k e => by rw [e]; omega)⟩, hM5.weak HB.out (fun k hk e => by rcases e with e | e; exact e; omega)⟩
  · have HK := hid (rPid_skip he)
    obtain ⟨e1, e2⟩ := Prod.mk.inj (HK.out.symm.trans hX.out)
    obtain ⟨e3, e4⟩ := Prod.mk.inj e1
    subst e3; subst e4; subst e2
    have CW := hid (wholeP_skip (p0 := .pointer (some ⟨w.heap.size, 0, none⟩)) (p1 := .pointer (some ⟨w.heap.size + 1, 0, none⟩)) hR3 he)
    have HG2 := hid g2
    have HB := hid hB
    clear g2 he hz3 e1
    subst hw3
    go_enter Try.func109, Try.ntmps109
    go_wp2_with (go_at_call 139; refine CW.out.mono ?_; rintro e w4 ⟨rfl, hb4⟩; have hQ4 := HG2.out.ext hb4; obtain ⟨z0, z1, z2, z3⟩ := id hQ4)
    obtain ⟨p0, p1, p2, p3⟩ := hQ4.put (.int .u16 0) (.int .u32 0)
    have p4 := World.cell?_setCell_same w4 _ (.int .u16 0) z0
    have hb5 := HB.out.trans (hb4.mono HB.out.size)
    exact bodyPost_ret (v := .agg #[.int .u16 0, .int .u32 0]) (by simp [results, Try.results109, go_sem, p0, p1, p4]) rfl ⟨rfl, ⟨a, c, (hR3.ext hb4).mutT (G := fun k => k = w.heap.size + 1) mut2 (fun k e => by rw [e]; omega)⟩, (mut2 (s := w.heap.size + 1)).weak hb5 (fun k hk e => by have e : k = w.heap.size + 1 := e; omega)⟩
/-- append at an operation of a region that draws -/
theorem step_appendQ {w : World} {o : Oper} {a : Go.Act} {K : Go.Act → World → Prop} {Q : Exit → Go.Act → World → Prop} {y : Nat → Option Bool} {s x : Operand} {base : Nat} {v : Value} {xs : List Pid} {p : Pid} {ad : Option Addr} {c : Nat} (hw : Region.wanted o y = true) (hown : OwnP w base v xs) (hy : PidRow w ad [p])
    (hlen : xs.length + 1 ≤ 1099511627776) (hbase : base ≤ w.heap.size)
    (ho : o.op = .call { callee := .builtin .append, args := #[s, x], argTypes := #[30, 30] }) (hs : a.eval s = v) (hx : a.eval x = .slice ad 1 c)
    (h : ∀ v' w', OwnP w' base v' (xs ++ [p]) → w.grownBy w' v.ownBlock → K (a.put o.dst v') w') : if Region.wanted o y = true then Oper.wp Try.prog o a w K Q else K (a.put o.dst undef) w := by
  rw [if_pos hw]
  obtain ⟨v', w', hr, h2, h3, h4⟩ := run_appendP hown (c := c) hy (by simpa using hlen) hbase o.type
  exact Lib.wp_append_run w s x 30 30 ho _ _ hs hx v' w' hr (h v' w' h2 h3)
theorem rPidsN_stop {n : Nat} {S : RS} (he : S.e ≠ 0) : rPidsN n S = ([], S) := by
  cases n with
  | zero => rfl
  | succ n => unfold rPidsN; rw [if_pos he]
theorem rPidsN_step {n : Nat} {S S2 : RS} {p : Pid} (he : S.e = 0) (hp : rPid S = (p, S2)) : rPidsN (n + 1) S = (p :: (rPidsN n S2).1, (rPidsN n S2).2) := by
  have h2 : rPidsN (n + 1) S = if S.e ≠ 0 then ([], S) else ((rPid S).1 :: (rPidsN n (rPid S).2).1, (rPidsN n (rPid S).2).2) := rfl
  rw [h2, if_neg (by simp [he]), hp]
end Go.Proofs.Yteodaakdjnjhmaa
